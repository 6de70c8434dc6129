/- The kinds of metrics: the map that the program makes of them, and look-ups in it. -/
import Derived.Test.YtnghpjijfdpmkaaDoorTextZ
import Derived.WideMake
namespace Go.Proofs.YtnghpjijfdpmkaaDoor.metric
open Go.RowKit Go.Proofs.YtnghpjijfdpmkaaDoor Go.Proofs.YtnghpjijfdpmkaaDoor.text

theorem alloc_over (w : World) (o o' : Obj) : ({ (w.alloc o) with heap := (w.alloc o).heap.setIfInBounds w.heap.size o' } : World) = w.alloc o' := by
  have h : (w.alloc o).heap.setIfInBounds w.heap.size o' = (w.alloc o').heap := by
    show (w.heap.push o).setIfInBounds w.heap.size o' = w.heap.push o'
    apply Array.ext_getElem?
    intro i
    rw [Array.getElem?_setIfInBounds, Array.getElem?_push, Array.getElem?_push]
    by_cases h : w.heap.size = i
    · subst h; simp
    · rw [if_neg h, if_neg (fun e => h e.symm), if_neg (fun e => h e.symm)]
  rw [h]
  rfl
theorem run_insert_int {P : Program} (mty kt et : TypeId) (w : World) (es : Array MapEntry) (clock : Nat) (k : Int) (val : Value) (hm : P.underlying mty = some (.map kt et)) (hk : P.underlying kt = some (.int .i64))
    (hf : Instr.findNow (.int .i64) (.int .i64 k) es.toList 0 = some none) :
    (Instr.mapUpdate mty (.map (some w.heap.size)) (.int .i64 k) val).run P (w.alloc (.map es clock)) = .ok () (w.alloc (.map (es.push { key := .int .i64 k, val := val, born := clock }) (clock + 1))) := by
  have hb : (w.alloc (.map es clock)).heap[w.heap.size]? = some (.map es clock) := heap_alloc_new w _
  have hc : (Instr.checkKey false 10000 kt (.int .i64 k)).run P (w.alloc (.map es clock)) = .ok () (w.alloc (.map es clock)) := MapKept.run_checkKey (k := .int .i64 k) hk (by simp [MapKept.IsKey]) false 9999
  have hs := MapKept.run_setObj_map (P := P) (.map (es.push { key := .int .i64 k, val := val, born := clock }) (clock + 1)) hb
  rw [alloc_over] at hs
  simp [Instr.mapUpdate, run_underlying hm, MapKept.run_getObj_map hb, hc, MapKept.run_findKey hk hf, hs, Result.andThen]

theorem run_look_hit {P : Program} (mty kt et : TypeId) (w : World) (b : Nat) (es : Array MapEntry) (clock : Nat) (k : Int) (i : Nat) (v : Value) (c : Bool) (hm : P.underlying mty = some (.map kt et)) (hk : P.underlying kt = some (.int .i64))
    (hb : w.heap[b]? = some (.map es clock)) (hf : Instr.findNow (.int .i64) (.int .i64 k) es.toList 0 = some (some (i, v))) :
    (Instr.lookup mty (.map (some b)) (.int .i64 k) c).run P w = .ok (if c then .tuple #[v, .bool true] else v) w := by
  have hc : (Instr.checkKey es.isEmpty 10000 kt (.int .i64 k)).run P w = .ok () w := MapKept.run_checkKey (k := .int .i64 k) hk (by simp [MapKept.IsKey]) es.isEmpty 9999
  simp [Instr.lookup, run_underlying hm, MapKept.run_getObj_map hb, hc, MapKept.run_findKey hk hf, Result.andThen]
theorem run_look_miss {P : Program} (mty kt et : TypeId) (w : World) (b : Nat) (es : Array MapEntry) (clock : Nat) (k : Int) (z : Value) (c : Bool) (hm : P.underlying mty = some (.map kt et)) (hk : P.underlying kt = some (.int .i64))
    (hb : w.heap[b]? = some (.map es clock)) (hf : Instr.findNow (.int .i64) (.int .i64 k) es.toList 0 = some none) (hz : (zeroValue et).run P w = .ok z w) :
    (Instr.lookup mty (.map (some b)) (.int .i64 k) c).run P w = .ok (if c then .tuple #[z, .bool false] else z) w := by
  have hc : (Instr.checkKey es.isEmpty 10000 kt (.int .i64 k)).run P w = .ok () w := MapKept.run_checkKey (k := .int .i64 k) hk (by simp [MapKept.IsKey]) es.isEmpty 9999
  simp [Instr.lookup, run_underlying hm, MapKept.run_getObj_map hb, hc, MapKept.run_findKey hk hf, hz, Result.andThen]

/-- The kinds by their numbers. -/
def kindV : Nat → Value
  | 1 => .agg #[.string ⟨#[115, 117, 109]⟩, .func (Fn.func 64) #[] #[]]
  | 2 => .agg #[.string ⟨#[99, 111, 117, 110, 116]⟩, .func (Fn.func 65) #[] #[]]
  | 3 => .agg #[.string ⟨#[115, 104, 97, 114, 101]⟩, .func (Fn.func 65) #[] #[]]
  | _ => .agg #[.string ⟨#[114, 97, 116, 105, 111]⟩, .func (Fn.func 64) #[] #[]]
def kinds4 : Array MapEntry := #[{ key := .int .i64 1, val := kindV 1, born := 0 }, { key := .int .i64 2, val := kindV 2, born := 1 }, { key := .int .i64 3, val := kindV 3, born := 2 }, { key := .int .i64 4, val := kindV 4, born := 3 }]
def zeroKind : Value := .agg #[.string ⟨#[]⟩, .nilFunc]

set_option maxRecDepth 100000 in
theorem kinds_any (w : World) : Calls Tryd.prog 36 #[] w fun e w' => e = .returned (.map (some w.heap.size)) ∧ w' = w.alloc (.map kinds4 4) := by
  have hmm := @run_makeMap Tryd.prog
  have h1 := run_insert_int (P := Tryd.prog) 72 3 76 w #[] 0 1 (kindV 1) Tryd.underlying72 Tryd.underlying3 rfl
  have h2 := run_insert_int (P := Tryd.prog) 72 3 76 w #[{ key := .int .i64 1, val := kindV 1, born := 0 }] 1 2 (kindV 2) Tryd.underlying72 Tryd.underlying3 rfl
  have h3 := run_insert_int (P := Tryd.prog) 72 3 76 w #[{ key := .int .i64 1, val := kindV 1, born := 0 }, { key := .int .i64 2, val := kindV 2, born := 1 }] 2 3 (kindV 3) Tryd.underlying72 Tryd.underlying3 rfl
  have h4 := run_insert_int (P := Tryd.prog) 72 3 76 w #[{ key := .int .i64 1, val := kindV 1, born := 0 }, { key := .int .i64 2, val := kindV 2, born := 1 }, { key := .int .i64 3, val := kindV 3, born := 2 }] 3 4 (kindV 4) Tryd.underlying72 Tryd.underlying3 rfl
  simp only [List.push_toArray, List.cons_append, List.nil_append] at h1 h2 h3 h4
  unfold kindV at h1 h2 h3 h4
  go_enter Tryd.func36, Tryd.ntmps36
  go_wp2
  go_ret
  exact ⟨rfl, rfl⟩

end Go.Proofs.YtnghpjijfdpmkaaDoor.metric

