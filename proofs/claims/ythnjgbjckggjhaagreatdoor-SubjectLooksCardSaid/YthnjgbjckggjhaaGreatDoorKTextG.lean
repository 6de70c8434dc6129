/- Slices of bytes that a call itself makes; the reference's Quote. -/
import Derived.Test.YthnjgbjckggjhaaGreatDoorKJ3
import Derived.Laws.BytesArg
import Derived.Deep.AppendLies
import Derived.Laws.OwnMore
namespace Go.Proofs.YthnjgbjckggjhaaGreatDoor.text
open Go.RowKit

/-- A slice of bytes of the call's own. -/
def BS (B : Nat) (v : Value) (l : List UInt8) (w : World) : Prop := w.ownsRow B 5 1 v l.length (Lib.byteCells l)
theorem bs_nil (B : Nat) (w : World) : BS B (.slice none 0 0) [] w := World.ownsRow_nil w B _ _
theorem BS.out {B : Nat} {v : Value} {l : List UInt8} {w : World} (h : BS B v l w) : w.ownsRow B 5 1 v l.length (Lib.byteCells l) := h
theorem BS.below {B : Nat} {v : Value} {l : List UInt8} {w w' : World} (h : BS B v l w) (hb : Below w.heap.size w w') : BS B v l w' := by
  have ho := h.out
  refine ho.kept (grown_of_below hb none) ?_
  cases hv : v.ownBlock with
  | none => exact Or.inl rfl
  | some k => exact Or.inr (by simp)
theorem bs_new {B : Nat} {w : World} {u : UInt8} {c : Int} (hc : c = u.toNat) (hB : B ≤ w.heap.size) : BS B (.slice (some ⟨w.heap.size, 0, none⟩) 1 1) [u] (w.alloc (.cells #[.int .u8 c] 5)) := by
  subst hc
  exact World.ownsRow_lit (base := B) (e := 5) (size := 1) w #[.int .u8 u.toNat] 1 hB (by decide) (by rfl)

theorem strOf_bytes (l : List UInt8) : strOfNums (l.map fun x => (x.toNat : Int)) = ⟨l.toArray⟩ := by
  apply ByteArray.ext
  apply Array.toList_inj.1
  rw [strOfNums_data, List.map_map]
  show _ = l
  conv => rhs; rw [← List.map_id l]
  apply List.map_congr_left
  intro x _
  simp
/-- 'string(b)'. -/
theorem convert_bytes {B : Nat} {v : Value} {l : List UInt8} {w : World} (h : BS B v l w) : (convert 25 9 v).run Tryz.prog w = .ok (.string ⟨l.toArray⟩) w := by
  rcases h.out.2 with ⟨rfl, h0⟩ | ⟨g, cap, cur, rfl, hb, hg, hnc, hcm, hcs, htake⟩
  · have : l = [] := List.eq_nil_of_length_eq_zero h0
    subst this
    exact run_convert_bytes_nil w _ _ Tryz.underlying25 Tryz.underlying5 0 0 _ Tryz.underlying9
  · have hr := run_convert_bytes_arg (P := Tryz.prog) w 25 5 Tryz.underlying25 Tryz.underlying5 g 0 l.length cap (l.map fun x => (x.toNat : Int)) (by simp) (fun i hi => by
      have h2 : w.cell? ⟨g, i, none⟩ = cur[i]? := by simp [World.cell?, hg]
      have h3 : (Lib.byteCells l)[i]? = some (.int .u8 l[i].toNat) := by simp [Lib.byteCells, hi]
      rw [← htake, List.getElem?_take_of_lt (by omega)] at h3
      rw [Nat.zero_add, h2, ← Array.getElem?_toList, h3]
      simp [List.getD, hi]) 9 Tryz.underlying9
    rw [hr, strOf_bytes]

/-- 'append(b, c)'. -/
theorem wpList_append_byte {ops : Array Oper} {rest : List Oper} {o : Oper} {a : Act} {Q : Exit → Act → World → Prop} {w : World} {c : Int} (hgd : o.guard = none) (s x : Operand)
    (ho : o.op = .call { callee := .builtin .append, args := #[s, x], argTypes := #[25, 25] })
    (B : Nat) (va : Option Addr) (n vc : Nat) (l : List UInt8) (u : UInt8) (hs : a.eval s = .slice va n vc) (hown : BS B (.slice va n vc) l w) (hn : n = l.length) (hx : a.eval x = .slice (some ⟨w.heap.size, 0, none⟩) 1 1)
    (hc : c = u.toNat) (hl : n + 1 ≤ 140737488355328) (hB : B ≤ w.heap.size)
    (h : ∀ g cap w', BS B (.slice (some ⟨g, 0, none⟩) (n + 1) cap) (l ++ [u]) w' → Below B w w' → w.heap.size < w'.heap.size → wpList Tryz.prog ops Q rest (a.put o.dst (.slice (some ⟨g, 0, none⟩) (n + 1) cap)) w') :
    wpList Tryz.prog ops Q (o :: rest) a (w.alloc (.cells #[.int .u8 c] 5)) := by
  subst hn hc
  obtain ⟨i0, hi, hz0, hz1, hz2⟩ := info_parts infoByte
  refine wpList_append_lies _ hgd s x _ ho B 5 i0 (.int .u8 0) 1 1 Tryz.underlying25 hi hz0 hz1 hz2 rfl (by decide) (.slice va l.length vc) l.length (Lib.byteCells l) hs (hown.out.alloc _) ⟨w.heap.size, 0, none⟩ 1 1 [.int .u8 u.toNat] hx rfl
    (World.news_of_block (cs := #[.int .u8 u.toNat]) (t := 5) (fr := (0, 0)) (Own.new' rfl)) (by simp [Value.oneCell']) (by decide) (by unfold maxLen; omega) (by omega) (by simp; omega) (w.heap.size + 1) (by simp) ?_
  intro g cap w' hown' hgrow hat hlt
  refine h g cap w' ?_ ?_ ?_
  · show w'.ownsRow B _ 1 _ (l ++ [u]).length (Lib.byteCells (l ++ [u]))
    have e1 : Lib.byteCells (l ++ [u]) = Lib.byteCells l ++ [Value.int .u8 u.toNat] := by simp [Lib.byteCells]
    have e2 : (l ++ [u]).length = l.length + 1 := by simp
    rw [e1, e2]
    exact hown'
  · exact ((Below.refl B w).alloc hB _).grown hgrow (by simp; omega) (fun k hk => (hown.out.lt k hk).1)
  · have := hgrow.size
    simp at this
    omega

theorem bs_eq {B : Nat} {v : Value} {l l' : List UInt8} {w : World} (h : BS B v l w) (e : l = l') : BS B v l' w := e ▸ h
theorem len_eq {n : Nat} {l l' : List UInt8} (h : n = l.length) (e : l = l') : n = l'.length := e ▸ h

end Go.Proofs.YthnjgbjckggjhaaGreatDoor.text

