/- Whether a test holds: the program's Test. -/
import Derived.Test.YtlohdmghaeabjaaGreatDoorKClL
import Derived.Test.YtlohdmghaeabjaaGreatDoorKValRC
namespace Go.Proofs.YtlohdmghaeabjaaGreatDoor.clause
open Go.RowKit Go.Proofs.YtlohdmghaeabjaaGreatDoor Go.Proofs.YtlohdmghaeabjaaGreatDoor.schema Go.Proofs.YtlohdmghaeabjaaGreatDoor.value Go.Proofs.YtlohdmghaeabjaaGreatDoor.text Go.Proofs.YtlohdmghaeabjaaGreatDoor.draw

theorem lin_of_rows {w : World} {a : Option Addr} {n c : Nat} {ls : List ByteArray} (h : RowsAt w.cell? 1 (.slice a n c) (ls.map strRow)) : LIn w a ls := by
  obtain ⟨a0, c0, h1, h2, h3, h4⟩ := h
  injection h1 with e1 e2 e3
  subst e1
  rcases h4 with h4 | ⟨blk, off, rfl, hc⟩
  · exact Or.inl (by simpa using h4)
  · refine Or.inr ⟨blk, off, rfl, fun k hk => ?_⟩
    have := hc k (strRow ls[k]) (by simp [hk]) 0 (.string ls[k]) rfl
    rw [Nat.mul_one, Nat.add_zero] at this
    exact this
theorem vd_len {m : Mem} {d : VD} (h : LAt m d) : d.len = d.ls.length := by have := (len_of h.rows).1; simpa using this
theorem vd_ok {w : World} {d : VD} (h : LAt w.cell? d) : VOk w (vv d) d.text d.ptr d.ls := ⟨rfl, lin_of_rows h.rows, rfl⟩
theorem lenI {d : VD} {m : Mem} (h : LAt m d) : d.ls.length ≤ 9223372036854775807 := by have := h.few; omega

/-- Two values are compared for equality. -/
theorem eq_any (a b : VD) (w : World) (ha : LAt w.cell? a) (hb : LAt w.cell? b) :
    Calls Tryz.prog 40 #[.agg #[.int .i64 a.kind, .int .i64 a.num, .string a.text, .slice a.ptr a.len a.cap], .agg #[.int .i64 b.kind, .int .i64 b.num, .string b.text, .slice b.ptr b.len b.cap]] w fun e w' => e = .returned (.bool (eqV a b)) ∧ Below w.heap.size w w' := by
  rw [vd_len ha, vd_len hb]
  exact equal_any a.kind b.kind a.num b.num a.text b.text a.ptr b.ptr a.cap b.cap a.ls b.ls w (lin_of_rows ha.rows) (lin_of_rows hb.rows) (lenI ha)
/-- Two values are compared. -/
theorem cmp_any (a b : VD) (w : World) (ha : LAt w.cell? a) (hb : LAt w.cell? b) (hT : Tabs w) :
    Calls Tryz.prog 45 #[.agg #[.int .i64 a.kind, .int .i64 a.num, .string a.text, .slice a.ptr a.len a.cap], .agg #[.int .i64 b.kind, .int .i64 b.num, .string b.text, .slice b.ptr b.len b.cap]] w fun e w' => e = .returned (.tuple #[.int .i64 (compareS (vv a) (vv b)).1, .int .i64 (compareS (vv a) (vv b)).2]) ∧ Below w.heap.size w w' := by
  rw [vd_len ha, vd_len hb]
  exact compare_any (vv a) (vv b) a.text b.text a.ptr b.ptr a.cap b.cap a.ls b.ls w (vd_ok ha) (vd_ok hb) (lenI ha) (lenI hb) ha.text hb.text hT

set_option maxHeartbeats 400000 in
theorem istest_prog (op : Int) (w : World) :
    Calls Tryz.prog 37 #[.int .i64 op] w fun e w' => e = .returned (.bool (decide (6 ≤ op ∧ op ≤ 15))) ∧ w = w' := by
  go_enter Tryz.func37, Tryz.ntmps37
  go_wp2
  all_goals go_ret
  all_goals exact ⟨schema.ret_bool (by simp <;> omega), rfl⟩

/-- The closure of 'in': is a value the found one. -/
theorem in1_any (a b : VD) (B : Nat) (w : World) (hp0 : w.cell? ⟨B, 0, none⟩ = some (.int .i64 a.kind)) (hp1 : w.cell? ⟨B, 1, none⟩ = some (.int .i64 a.num)) (hp2 : w.cell? ⟨B, 2, none⟩ = some (.string a.text)) (hp3 : w.cell? ⟨B, 3, none⟩ = some (.slice a.ptr a.len a.cap))
    (ha : LAt w.cell? a) (hb : LAt w.cell? b) :
    Calls Tryz.prog 39 #[.agg #[.int .i64 b.kind, .int .i64 b.num, .string b.text, .slice b.ptr b.len b.cap], .pointer (some ⟨B, 0, none⟩)] w fun e w' => e = .returned (.bool (eqV a b)) ∧ Below w.heap.size w w' := by
  have hlt : B < w.heap.size := World.block_lt_of_cell? w _ hp0
  have hb2 : Below w.heap.size w (w.alloc (.cells #[.int .i64 b.kind, .int .i64 b.num, .string b.text, .slice b.ptr b.len b.cap] 43)) := (Below.refl _ _).alloc (Nat.le_refl _) _
  have ha2 := Lib.hid (ha.mono (sub_of_below hb2))
  have hb3 := Lib.hid (hb.mono (sub_of_below hb2))
  replace hb2 := Lib.hid hb2
  clear ha hb
  go_enter Tryz.func39, Tryz.ntmps39
  go_wp2_with fail
  refine (eq_any a b _ ha2.out hb3.out).mono ?_
  rintro e w' ⟨rfl, hb4⟩
  go_wp2
  go_ret
  exact ⟨rfl, hb2.out.trans (hb4.mono hb2.out.size)⟩

/-- The box of the found value. -/
structure VBox (w : World) (B : Nat) (a : VD) : Prop where
  own : Own w B #[.int .i64 a.kind, .int .i64 a.num, .string a.text, .slice a.ptr a.len a.cap] 43
  lat : LAt w.cell? a
theorem VBox.below {w w' : World} {B : Nat} {a : VD} (h : VBox w B a) (hb : Below w.heap.size w w') : VBox w' B a := ⟨h.own.below hb h.own.lt, h.lat.mono (sub_of_below hb)⟩

def AnyR (v : VD) (l : List VD) (k : Nat) : Prop := (l.drop k).any (eqV v) = l.any (eqV v)
theorem any_hit {v : VD} {l : List VD} {k : Nat} (h : k < l.length) (h1 : eqV v l[k] = true) (T : AnyR v l k) : l.any (eqV v) = true := by
  unfold AnyR at T
  rw [← T, List.drop_eq_getElem_cons h, List.any_cons, h1]; rfl
theorem any_miss {v : VD} {l : List VD} {k : Nat} (h : k < l.length) (h1 : eqV v l[k] = false) (T : AnyR v l k) : AnyR v l (k + 1) := by
  unfold AnyR at *
  rw [← T, List.drop_eq_getElem_cons h, List.any_cons, h1]; rfl
theorem any_end {v : VD} {l : List VD} {k : Nat} (h : ¬ k < l.length) (T : AnyR v l k) : l.any (eqV v) = false := by
  unfold AnyR at T
  rw [← T, List.drop_eq_nil_of_le (by omega)]; rfl

set_option maxHeartbeats 1000000 in
theorem inf_any (v : VD) (B : Nat) (vs : Value) (l : List VD) (w : World) (hV : VBox w B v) (h : RowsAt w.cell? 4 vs (l.map VD.row)) (hL : ∀ x ∈ l, LAt w.cell? x) :
    Calls Tryz.prog 66 #[vs, .func (.func 39) #[] #[.pointer (some ⟨B, 0, none⟩)]] w fun e w' => IndexIs (l.any (eqV v)) e ∧ Below w.heap.size w w' := by
  obtain ⟨a, c, rfl, hn, hc, hr⟩ := h
  simp only [List.length_map] at hn
  unfold maxLen at hc
  have hr0 := Lib.hid hr
  have hV0 := Lib.hid hV
  have hL0 := Lib.hid hL
  clear hr hV hL
  rw [List.length_map]
  go_enter Tryz.func66, Tryz.ntmps66
  go_wp2
  go_loopw [5, 8] (fun _ i wr => ∃ k : Nat, k ≤ l.length ∧ i = .int .i64 k ∧ Hid (Below w.heap.size w wr) ∧ Hid (AnyR v l k)) (fun _ i _ => l.length - (intOf i).toNat)
  case atStart => exact ⟨0, Nat.zero_le _, rfl, Lib.hid (Below.refl _ _), Lib.hid rfl⟩
  case round =>
    obtain ⟨k, hk, rfl, hb, hT⟩ := hrel
    by_cases hlt : k < l.length
    · rcases hr0.out with he | ⟨blk, off, rfl, hr⟩
      · simp only [List.map_eq_nil_iff] at he
        rw [he] at hlt
        exact absurd hlt (by simp)
      obtain ⟨c0, c1, c2, c3⟩ := vd_cells (RowsAt.cells_mono (sub_of_below hb.out) hr) hlt
      clear hr
      have hVw := hV0.out.below hb.out
      have hLw := (hL0.out l[k] (List.getElem_mem hlt)).mono (sub_of_below hb.out)
      obtain ⟨p0, p1, p2, p3⟩ := box4 hVw.own
      have hin := Lib.hid (in1_any v l[k] B wr p0 p1 p2 p3 hVw.lat hLw)
      clear hVw hLw p0 p1 p2 p3
      go_wp2_with fail
      refine hin.out.mono ?_
      rintro e w' ⟨rfl, hb2⟩
      have hb3 := Lib.hid (hb.out.trans (hb2.mono hb.out.size))
      cases h1 : eqV v l[k] with
      | true =>
        have hq := Lib.hid (any_hit hlt h1 hT.out)
        go_wp2
        go_ret
        exact ⟨⟨_, rfl, by simp [hq.out], by omega⟩, hb3.out⟩
      | false =>
        have hq := Lib.hid (any_miss hlt h1 hT.out)
        go_wp2
        go_roundw
        case rel => exact ⟨k + 1, by omega, by go_num, hb3, hq⟩
        case measure => simp [intOf]; omega
    · have hE := Lib.hid (any_end hlt hT.out)
      go_wp2
      go_ret
      exact ⟨⟨_, rfl, by simp [hE.out], by omega⟩, hb.out⟩

set_option maxHeartbeats 400000 in
theorem in_any (v : VD) (B : Nat) (vs : Value) (l : List VD) (w : World) (hV : VBox w B v) (h : RowsAt w.cell? 4 vs (l.map VD.row)) (hL : ∀ x ∈ l, LAt w.cell? x) :
    Calls Tryz.prog 38 #[vs, .func (.func 39) #[] #[.pointer (some ⟨B, 0, none⟩)]] w fun e w' => e = .returned (.bool (l.any (eqV v))) ∧ Below w.heap.size w w' := by
  have hI := inf_any v B vs l w hV h hL
  generalize l.any (eqV v) = bb at hI ⊢
  go_enter Tryz.func38, Tryz.ntmps38
  go_wp2_with (go_at_call 66; refine hI.mono ?_; rintro e w' ⟨⟨m, rfl, hm, hm1⟩, hb⟩)
  go_ret
  refine ⟨schema.ret_bool ?_, hb⟩
  rw [Bool.eq_iff_iff, ← hm]

theorem same_eq {a b : VD} (h : SameV a b) (x : VD) : eqV a x = eqV b x := by obtain ⟨h1, h2, h3, h4⟩ := h; unfold eqV; rw [h1, h2, h3, h4]
theorem same_one {a b : VD} (h : SameV a b) (op : Int) (x : VD) : oneS op a x = oneS op b x := by
  unfold oneS
  rw [same_eq h, h.vv]
  obtain ⟨h1, h2, h3, h4⟩ := h
  rw [h1, h3, h4]
theorem same_holds {a b : VD} (h : SameV a b) (op : Int) (l : List VD) : holdsS op a l = holdsS op b l := by
  unfold holdsS
  rw [show eqV a = eqV b from funext (same_eq h)]
  cases l with
  | nil => rfl
  | cons x r => simp only [same_one h]
theorem holds_nil {op : Int} {v : VD} (h6 : op ≠ 6) (h8 : op ≠ 8) : holdsS op v [] = false := by unfold holdsS; rw [if_neg h6, if_neg h8]
theorem holds_cons {op : Int} {v x : VD} {r : List VD} (h6 : op ≠ 6) (h8 : op ≠ 8) : holdsS op v (x :: r) = oneS op v x := by unfold holdsS; rw [if_neg h6, if_neg h8]
theorem holds_in {v : VD} {l : List VD} : holdsS 8 v l = l.any (eqV v) := by unfold holdsS; rw [if_neg (by decide), if_pos rfl]
theorem of_beq {a b : Int} (h : (a == b) = true) : a = b := by simpa using h
theorem ret_to {a b : Bool} (h : a = b) : Ending.returned (.bool b) = .returned (.bool a) := by rw [h]

theorem one7 {v w : VD} : oneS 7 v w = eqV v w := by unfold oneS; rw [if_pos rfl]
theorem one9 {v w : VD} : oneS 9 v w = ((v.kind == 3 && w.kind == 3) && Lib.hasPrefix v.text.data.toList w.text.data.toList) := by unfold oneS; rw [if_neg (by decide), if_pos rfl]; rfl
theorem one10 {v w : VD} : oneS 10 v w = ((v.kind == 3 && w.kind == 3) && Lib.hasSuffix v.text.data.toList w.text.data.toList) := by unfold oneS; rw [if_neg (by decide), if_neg (by decide), if_pos rfl]; rfl
theorem one11 {v w : VD} : oneS 11 v w = ((v.kind == 3 && w.kind == 3 && Lib.contains v.text.data.toList w.text.data.toList) || (w.kind == 3 && v.kind == 5 && hasS w.text.toList v.ls)) := by unfold oneS; rw [if_neg (by decide), if_neg (by decide), if_neg (by decide), if_pos rfl]
theorem one12 {op : Int} {v w : VD} (h : 12 ≤ op) : oneS op v w = cmpB op (compareS (vv v) (vv w)) := by unfold oneS; rw [if_neg (by omega), if_neg (by omega), if_neg (by omega), if_neg (by omega)]
theorem cmp_bad {op : Int} {c : Int × Int} (h : c.2 ≠ 0) : cmpB op c = false := by unfold cmpB; rw [if_pos h]
theorem cmp12 {c : Int × Int} (h : c.2 = 0) : cmpB 12 c = decide (c.1 < 0) := by unfold cmpB; rw [if_neg (by simpa using h), if_pos rfl]
theorem cmp13 {c : Int × Int} (h : c.2 = 0) : cmpB 13 c = decide (c.1 ≤ 0) := by unfold cmpB; rw [if_neg (by simpa using h), if_neg (by decide), if_pos rfl]
theorem cmp14 {c : Int × Int} (h : c.2 = 0) : cmpB 14 c = decide (0 < c.1) := by unfold cmpB; rw [if_neg (by simpa using h), if_neg (by decide), if_neg (by decide), if_pos rfl]
theorem cmp15 {c : Int × Int} (h : c.2 = 0) : cmpB 15 c = decide (0 ≤ c.1) := by unfold cmpB; rw [if_neg (by simpa using h), if_neg (by decide), if_neg (by decide), if_neg (by decide)]

/-- The test's own box. -/
def exA (op : Int) (kind name : ByteArray) (va : Option Addr) (vn vc : Nat) (ks : Value) : Array Value := #[.int .i64 op, .string kind, .string name, .slice va vn vc, ks]
/-- What the walk of a test holds behind the look-up: the box of the test, the box of the found value, the values. -/
structure TX (w : World) (E V : Nat) (op : Int) (kind name : ByteArray) (va : Option Addr) (vn vc : Nat) (ks : Value) (d : VD) (vals : List VD) (W : World) : Prop where
  low : Below W.heap.size W w
  box : Own w E #[.int .i64 op, .string kind, .string name, .slice va vn vc, ks] 29
  val : VBox w V d
  rows : RowsAt w.cell? 4 (.slice va vn vc) (vals.map VD.row)
  each : ∀ v ∈ vals, LAt w.cell? v
  tabs : Tabs w
theorem TX.below {w w' : World} {E V : Nat} {op : Int} {kind name : ByteArray} {va : Option Addr} {vn vc : Nat} {ks : Value} {d : VD} {vals : List VD} {W : World} (h : TX w E V op kind name va vn vc ks d vals W) (hb : Below w.heap.size w w') : TX w' E V op kind name va vn vc ks d vals W :=
  ⟨h.low.trans (hb.mono h.low.size), h.box.below hb h.box.lt, h.val.below hb, h.rows.mono (sub_of_below hb), fun v hv => (h.each v hv).mono (sub_of_below hb), h.tabs.below hb⟩

set_option maxRecDepth 100000 in
set_option maxHeartbeats 4000000 in
/-- The program's Test. -/
theorem clTest_any (l : List CT) (a : Option Addr) (n c : Nat) (op : Int) (kind name : ByteArray) (va : Option Addr) (vn vc : Nat) (ka : Option Addr) (kn kc : Nat) (vals : List VD) (w : World)
    (hS : SAt w.cell? (.slice a n c) l) (hv : RowsAt w.cell? 4 (.slice va vn vc) (vals.map VD.row)) (hL : ∀ v ∈ vals, LAt w.cell? v) (hT : Tabs w) :
    Calls Tryz.prog 17 #[.agg #[.slice a n c], .agg #[.int .i64 op, .string kind, .string name, .slice va vn vc, .slice ka kn kc]] w fun e w' => e = .returned (.bool (testS l op kind name vals)) ∧ Below w.heap.size w w' := by
  have hB : Below w.heap.size w ((w.alloc (.cells #[.slice a n c] 25)).alloc (.cells #[.int .i64 op, .string kind, .string name, .slice va vn vc, .slice ka kn kc] 29)) := ((Below.refl _ _).alloc (Nat.le_refl _) _).alloc (by simp) _
  have hX := Own.new (w.alloc (.cells #[.slice a n c] 25)) #[.int .i64 op, .string kind, .string name, .slice va vn vc, .slice ka kn kc] 29
  rw [World.size_alloc] at hX
  replace hX := Lib.hid hX
  have hS1 := Lib.hid (hS.mono (sub_of_below hB))
  have hv1 := Lib.hid (hv.mono (sub_of_below hB))
  have hL1 := Lib.hid (fun v hm => (hL v hm).mono (sub_of_below hB))
  have hT1 := Lib.hid (hT.below hB)
  replace hB := Lib.hid hB
  clear hS hv hL hT
  go_enter Tryz.func17, Tryz.ntmps17
  go_wp2_with fail
  refine (look_any l a n c kind name _ hS1.out).mono ?_
  rintro e w1 ⟨hI, hb⟩
  cases ho : lookS l kind.toList name.toList with
  | none =>
    have hQ := Lib.hid (show testS l op kind name vals = false by unfold testS; rw [ho])
    rw [ho] at hI
    simp only [LookIs] at hI
    subst hI
    have hB1 := Lib.hid (hB.out.trans (hb.mono hB.out.size))
    clear hb
    go_wp2
    go_ret
    rw [hQ.out]
    exact ⟨rfl, hB1.out.alloc hB1.out.size _⟩
  | some d0 =>
    rw [ho] at hI
    simp only [LookIs] at hI
    obtain ⟨d, rfl, hsv, hLd⟩ := hI
    have hQ0 := Lib.hid (show testS l op kind name vals = (if 6 ≤ op ∧ op ≤ 15 then holdsS op d0 vals else false) by unfold testS; rw [ho])
    replace hsv := Lib.hid hsv
    have hb2 : Below w1.heap.size w1 (w1.alloc (.cells #[.int .i64 d.kind, .int .i64 d.num, .string d.text, .slice d.ptr d.len d.cap] 43)) := (Below.refl _ _).alloc (Nat.le_refl _) _
    have hbb := hb.trans (hb2.mono hb.size)
    have hK := Lib.hid (show TX (w1.alloc (.cells #[.int .i64 d.kind, .int .i64 d.num, .string d.text, .slice d.ptr d.len d.cap] 43)) (w.heap.size + 1) w1.heap.size op kind name va vn vc (.slice ka kn kc) d vals w from
      ⟨hB.out.trans (hbb.mono hB.out.size), hX.out.below hbb (by simp), ⟨Own.new w1 _ _, hLd.mono (sub_of_below hb2)⟩, hv1.out.mono (sub_of_below hbb), fun v hm => (hL1.out v hm).mono (sub_of_below hbb), hT1.out.below hbb⟩)
    have hwl : w.heap.size + 1 < w1.heap.size := (hX.out.below hb (by simp)).lt
    have hX1 := hX.out.below hb (by simp)
    clear hb hb2 hbb hLd hB hS1 hv1 hL1 hT1 ho
    obtain ⟨x0, x1, x2, x3, x4⟩ := own5z hX1
    clear hX1 hX
    rw [show d.row.toArray = #[.int .i64 d.kind, .int .i64 d.num, .string d.text, .slice d.ptr d.len d.cap] from rfl]
    by_cases hop : 6 ≤ op ∧ op ≤ 15
    case neg =>
      have hop2 : decide (6 ≤ op ∧ op ≤ 15) = false := by simpa using hop
      go_wp2_with fail
      refine (istest_prog op _).mono ?_
      rintro e w3 ⟨rfl, rfl⟩
      rw [hop2]
      go_wp2
      go_ret
      refine ⟨?_, hK.out.low⟩
      rw [hQ0.out, if_neg hop]
      rfl
    have hop2 : decide (6 ≤ op ∧ op ≤ 15) = true := by simpa using hop
    go_wp2_with fail
    refine (istest_prog op _).mono ?_
    rintro e w3 ⟨rfl, rfl⟩
    rw [hop2]
    have hQ := Lib.hid (show testS l op kind name vals = holdsS op d vals by rw [hQ0.out, if_pos hop, same_holds hsv.out])
    go_upto_region 4 with fail
    clear hQ0 hsv x0 x1 x2 x3 x4 hop2 hwl
    generalize w1.alloc (.cells #[.int .i64 d.kind, .int .i64 d.num, .string d.text, .slice d.ptr d.len d.cap] 43) = w2 at hK ⊢
    generalize w1.heap.size = V at hK ⊢
    obtain ⟨E, hE⟩ : ∃ E : Nat, E = w.heap.size + 1 := ⟨_, rfl⟩
    rw [← hE] at hK ⊢
    clear hE
    obtain ⟨x0, x1, x2, x3, x4⟩ := own5z hK.out.box
    obtain ⟨y0, y1, y2, y3⟩ := box4 hK.out.val.own
    have hEl : E < w2.heap.size := hK.out.box.lt
    have hVl : V < w2.heap.size := hK.out.val.own.lt
    by_cases h6 : op = 6
    · subst h6
      go_wp2
      go_ret
      exact ⟨ret_to (by rw [hQ.out]; rfl), hK.out.low⟩
    by_cases h8 : op = 8
    · subst h8
      go_wp2_with fail
      refine (in_any d V _ vals _ hK.out.val hK.out.rows hK.out.each).mono ?_
      rintro e w3 ⟨rfl, hb⟩
      rw [holds_in] at hQ
      have hB3 := Lib.hid (hK.out.low.trans (hb.mono hK.out.low.size))
      clear hb
      generalize vals.any (eqV d) = bb at hQ ⊢
      go_wp2
      go_ret
      exact ⟨ret_to hQ.out, hB3.out⟩
    have e6 : (op == 6) = false := by simpa using h6
    have e8 : (op == 8) = false := by simpa using h8
    have hvn := (len_of hK.out.rows).1
    simp only [List.length_map] at hvn
    have hvm := (len_of hK.out.rows).2
    subst hvn
    cases vals with
    | nil =>
      rw [holds_nil h6 h8] at hQ
      go_wp2
      go_ret
      exact ⟨ret_to hQ.out, hK.out.low⟩
    | cons v r =>
      rw [holds_cons h6 h8] at hQ
      obtain ⟨blk, off, rfl, v0, v1, v2, v3⟩ : ∃ blk off, va = some ⟨blk, off, none⟩ ∧ w2.cell? ⟨blk, off, none⟩ = some (.int .i64 v.kind) ∧ w2.cell? ⟨blk, off + 1, none⟩ = some (.int .i64 v.num) ∧ w2.cell? ⟨blk, off + 2, none⟩ = some (.string v.text) ∧ w2.cell? ⟨blk, off + 3, none⟩ = some (.slice v.ptr v.len v.cap) := by
        obtain ⟨a0, c0, q1, q2, q3, q4⟩ := hK.out.rows
        injection q1 with q1 q5 q6
        subst q1
        rcases q4 with q4 | ⟨blk, off, rfl, hc⟩
        · simp at q4
        · have hh := vd_cells hc (k := 0) (by simp)
          refine ⟨blk, off, rfl, ?_⟩
          simpa using hh
      have hLv := Lib.hid (hK.out.each v (by simp))
      have hbl : blk < w2.heap.size := World.block_lt_of_cell? w2 _ v0
      have hp : ((r.length : Int) + 1 == 0) = false := by simp; omega
      cases hk : (d.kind == 3) <;> cases hw : (v.kind == 3)
      all_goals go_upto_region 12 with fail
      all_goals
        have hb3 : Below w2.heap.size w2 (w2.alloc (.cells #[.int .i64 v.kind, .int .i64 v.num, .string v.text, .slice v.ptr v.len v.cap] 43)) := (Below.refl _ _).alloc (Nat.le_refl _) _
        have hK3 := Lib.hid (hK.out.below hb3)
        have hU3 := Own.new w2 #[.int .i64 v.kind, .int .i64 v.num, .string v.text, .slice v.ptr v.len v.cap] 43
        have hLv3 := Lib.hid (hLv.out.mono (sub_of_below hb3))
        clear hb3 hK hLv x0 x1 x2 x3 x4 y0 y1 y2 y3 v0 v1 v2 v3 hEl hVl hbl
        generalize w2.alloc (.cells #[.int .i64 v.kind, .int .i64 v.num, .string v.text, .slice v.ptr v.len v.cap] 43) = w3 at hK3 hU3 hLv3 ⊢
        generalize w2.heap.size = U at hU3 ⊢
        obtain ⟨x0, x1, x2, x3, x4⟩ := own5z hK3.out.box
        obtain ⟨y0, y1, y2, y3⟩ := box4 hK3.out.val.own
        obtain ⟨v0, v1, v2, v3⟩ := box4 hU3
        have hEl : E < w3.heap.size := hK3.out.box.lt
        have hVl : V < w3.heap.size := hK3.out.val.own.lt
        have hUl : U < w3.heap.size := hU3.lt
        clear hU3
      · rcases (show op = 7 ∨ op = 9 ∨ op = 10 ∨ op = 11 ∨ op = 12 ∨ op = 13 ∨ op = 14 ∨ op = 15 by omega) with rfl | rfl | rfl | rfl | rfl | rfl | rfl | rfl
        · rw [one7] at hQ
          go_wp2_with fail
          refine (eq_any d v _ hK3.out.val.lat hLv3.out).mono ?_
          rintro e w4 ⟨rfl, hb⟩
          have hB4 := Lib.hid (hK3.out.low.trans (hb.mono hK3.out.low.size))
          generalize eqV d v = bb at hQ ⊢
          clear hb
          go_wp2
          go_ret
          exact ⟨ret_to hQ.out, hB4.out⟩
        · rw [one9, hk, hw] at hQ
          go_wp2
          go_ret
          exact ⟨ret_to (by rw [hQ.out]; rfl), hK3.out.low⟩
        · rw [one10, hk, hw] at hQ
          go_wp2
          go_ret
          exact ⟨ret_to (by rw [hQ.out]; rfl), hK3.out.low⟩
        · rw [one11, hk, hw] at hQ
          go_wp2
          go_ret
          exact ⟨ret_to (by rw [hQ.out]; rfl), hK3.out.low⟩
        · rw [one12 (by decide)] at hQ
          go_wp2_with fail
          refine (cmp_any d v _ hK3.out.val.lat hLv3.out hK3.out.tabs).mono ?_
          rintro e w4 ⟨rfl, hb⟩
          have hB4 := Lib.hid (hK3.out.low.trans (hb.mono hK3.out.low.size))
          have hx0 := Lib.hid ((hK3.out.box.below hb hEl).cell 0)
          have hx4 : E < w4.heap.size := (hK3.out.box.below hb hEl).lt
          generalize compareS (vv d) (vv v) = cc at hQ ⊢
          clear hb x0 x1 x2 x3 x4 y0 y1 y2 y3 v0 v1 v2 v3 hEl hVl hUl
          have x0 := hx0.out
          simp only [List.getElem?_toArray, List.getElem?_cons_zero] at x0
          clear hx0
          by_cases hc : cc.2 = 0
          · rw [cmp12 hc] at hQ
            have hc1 : (cc.2 != 0) = false := by simp [hc]
            go_wp2
            go_ret
            exact ⟨ret_to hQ.out, hB4.out⟩
          · rw [cmp_bad hc] at hQ
            have hc1 : (cc.2 != 0) = true := by simp [hc]
            go_wp2
            go_ret
            exact ⟨ret_to hQ.out, hB4.out⟩
        · rw [one12 (by decide)] at hQ
          go_wp2_with fail
          refine (cmp_any d v _ hK3.out.val.lat hLv3.out hK3.out.tabs).mono ?_
          rintro e w4 ⟨rfl, hb⟩
          have hB4 := Lib.hid (hK3.out.low.trans (hb.mono hK3.out.low.size))
          have hx0 := Lib.hid ((hK3.out.box.below hb hEl).cell 0)
          have hx4 : E < w4.heap.size := (hK3.out.box.below hb hEl).lt
          generalize compareS (vv d) (vv v) = cc at hQ ⊢
          clear hb x0 x1 x2 x3 x4 y0 y1 y2 y3 v0 v1 v2 v3 hEl hVl hUl
          have x0 := hx0.out
          simp only [List.getElem?_toArray, List.getElem?_cons_zero] at x0
          clear hx0
          by_cases hc : cc.2 = 0
          · rw [cmp13 hc] at hQ
            have hc1 : (cc.2 != 0) = false := by simp [hc]
            go_wp2
            go_ret
            exact ⟨ret_to hQ.out, hB4.out⟩
          · rw [cmp_bad hc] at hQ
            have hc1 : (cc.2 != 0) = true := by simp [hc]
            go_wp2
            go_ret
            exact ⟨ret_to hQ.out, hB4.out⟩
        · rw [one12 (by decide)] at hQ
          go_wp2_with fail
          refine (cmp_any d v _ hK3.out.val.lat hLv3.out hK3.out.tabs).mono ?_
          rintro e w4 ⟨rfl, hb⟩
          have hB4 := Lib.hid (hK3.out.low.trans (hb.mono hK3.out.low.size))
          have hx0 := Lib.hid ((hK3.out.box.below hb hEl).cell 0)
          have hx4 : E < w4.heap.size := (hK3.out.box.below hb hEl).lt
          generalize compareS (vv d) (vv v) = cc at hQ ⊢
          clear hb x0 x1 x2 x3 x4 y0 y1 y2 y3 v0 v1 v2 v3 hEl hVl hUl
          have x0 := hx0.out
          simp only [List.getElem?_toArray, List.getElem?_cons_zero] at x0
          clear hx0
          by_cases hc : cc.2 = 0
          · rw [cmp14 hc] at hQ
            have hc1 : (cc.2 != 0) = false := by simp [hc]
            go_wp2
            go_ret
            exact ⟨ret_to hQ.out, hB4.out⟩
          · rw [cmp_bad hc] at hQ
            have hc1 : (cc.2 != 0) = true := by simp [hc]
            go_wp2
            go_ret
            exact ⟨ret_to hQ.out, hB4.out⟩
        · rw [one12 (by decide)] at hQ
          go_wp2_with fail
          refine (cmp_any d v _ hK3.out.val.lat hLv3.out hK3.out.tabs).mono ?_
          rintro e w4 ⟨rfl, hb⟩
          have hB4 := Lib.hid (hK3.out.low.trans (hb.mono hK3.out.low.size))
          have hx0 := Lib.hid ((hK3.out.box.below hb hEl).cell 0)
          have hx4 : E < w4.heap.size := (hK3.out.box.below hb hEl).lt
          generalize compareS (vv d) (vv v) = cc at hQ ⊢
          clear hb x0 x1 x2 x3 x4 y0 y1 y2 y3 v0 v1 v2 v3 hEl hVl hUl
          have x0 := hx0.out
          simp only [List.getElem?_toArray, List.getElem?_cons_zero] at x0
          clear hx0
          by_cases hc : cc.2 = 0
          · rw [cmp15 hc] at hQ
            have hc1 : (cc.2 != 0) = false := by simp [hc]
            go_wp2
            go_ret
            exact ⟨ret_to hQ.out, hB4.out⟩
          · rw [cmp_bad hc] at hQ
            have hc1 : (cc.2 != 0) = true := by simp [hc]
            go_wp2
            go_ret
            exact ⟨ret_to hQ.out, hB4.out⟩
      · rcases (show op = 7 ∨ op = 9 ∨ op = 10 ∨ op = 11 ∨ op = 12 ∨ op = 13 ∨ op = 14 ∨ op = 15 by omega) with rfl | rfl | rfl | rfl | rfl | rfl | rfl | rfl
        · rw [one7] at hQ
          go_wp2_with fail
          refine (eq_any d v _ hK3.out.val.lat hLv3.out).mono ?_
          rintro e w4 ⟨rfl, hb⟩
          have hB4 := Lib.hid (hK3.out.low.trans (hb.mono hK3.out.low.size))
          generalize eqV d v = bb at hQ ⊢
          clear hb
          go_wp2
          go_ret
          exact ⟨ret_to hQ.out, hB4.out⟩
        · rw [one9, hk, hw] at hQ
          go_wp2
          go_ret
          exact ⟨ret_to (by rw [hQ.out]; rfl), hK3.out.low⟩
        · rw [one10, hk, hw] at hQ
          go_wp2
          go_ret
          exact ⟨ret_to (by rw [hQ.out]; rfl), hK3.out.low⟩
        · rw [one11, hk, hw] at hQ
          cases h5 : (d.kind == 5) with
          | false =>
            rw [h5] at hQ
            go_wp2
            go_ret
            exact ⟨ret_to (by rw [hQ.out]; rfl), hK3.out.low⟩
          | true =>
            rw [h5] at hQ
            go_wp2_with fail
            refine (contains_any _ d.ls v.text _ hK3.out.val.lat.rows).mono ?_
            rintro e w4 ⟨rfl, rfl⟩
            generalize hasS v.text.toList d.ls = bb at hQ ⊢
            go_wp2
            go_ret
            exact ⟨ret_to (by rw [hQ.out]; rfl), hK3.out.low⟩
        · rw [one12 (by decide)] at hQ
          go_wp2_with fail
          refine (cmp_any d v _ hK3.out.val.lat hLv3.out hK3.out.tabs).mono ?_
          rintro e w4 ⟨rfl, hb⟩
          have hB4 := Lib.hid (hK3.out.low.trans (hb.mono hK3.out.low.size))
          have hx0 := Lib.hid ((hK3.out.box.below hb hEl).cell 0)
          have hx4 : E < w4.heap.size := (hK3.out.box.below hb hEl).lt
          generalize compareS (vv d) (vv v) = cc at hQ ⊢
          clear hb x0 x1 x2 x3 x4 y0 y1 y2 y3 v0 v1 v2 v3 hEl hVl hUl
          have x0 := hx0.out
          simp only [List.getElem?_toArray, List.getElem?_cons_zero] at x0
          clear hx0
          by_cases hc : cc.2 = 0
          · rw [cmp12 hc] at hQ
            have hc1 : (cc.2 != 0) = false := by simp [hc]
            go_wp2
            go_ret
            exact ⟨ret_to hQ.out, hB4.out⟩
          · rw [cmp_bad hc] at hQ
            have hc1 : (cc.2 != 0) = true := by simp [hc]
            go_wp2
            go_ret
            exact ⟨ret_to hQ.out, hB4.out⟩
        · rw [one12 (by decide)] at hQ
          go_wp2_with fail
          refine (cmp_any d v _ hK3.out.val.lat hLv3.out hK3.out.tabs).mono ?_
          rintro e w4 ⟨rfl, hb⟩
          have hB4 := Lib.hid (hK3.out.low.trans (hb.mono hK3.out.low.size))
          have hx0 := Lib.hid ((hK3.out.box.below hb hEl).cell 0)
          have hx4 : E < w4.heap.size := (hK3.out.box.below hb hEl).lt
          generalize compareS (vv d) (vv v) = cc at hQ ⊢
          clear hb x0 x1 x2 x3 x4 y0 y1 y2 y3 v0 v1 v2 v3 hEl hVl hUl
          have x0 := hx0.out
          simp only [List.getElem?_toArray, List.getElem?_cons_zero] at x0
          clear hx0
          by_cases hc : cc.2 = 0
          · rw [cmp13 hc] at hQ
            have hc1 : (cc.2 != 0) = false := by simp [hc]
            go_wp2
            go_ret
            exact ⟨ret_to hQ.out, hB4.out⟩
          · rw [cmp_bad hc] at hQ
            have hc1 : (cc.2 != 0) = true := by simp [hc]
            go_wp2
            go_ret
            exact ⟨ret_to hQ.out, hB4.out⟩
        · rw [one12 (by decide)] at hQ
          go_wp2_with fail
          refine (cmp_any d v _ hK3.out.val.lat hLv3.out hK3.out.tabs).mono ?_
          rintro e w4 ⟨rfl, hb⟩
          have hB4 := Lib.hid (hK3.out.low.trans (hb.mono hK3.out.low.size))
          have hx0 := Lib.hid ((hK3.out.box.below hb hEl).cell 0)
          have hx4 : E < w4.heap.size := (hK3.out.box.below hb hEl).lt
          generalize compareS (vv d) (vv v) = cc at hQ ⊢
          clear hb x0 x1 x2 x3 x4 y0 y1 y2 y3 v0 v1 v2 v3 hEl hVl hUl
          have x0 := hx0.out
          simp only [List.getElem?_toArray, List.getElem?_cons_zero] at x0
          clear hx0
          by_cases hc : cc.2 = 0
          · rw [cmp14 hc] at hQ
            have hc1 : (cc.2 != 0) = false := by simp [hc]
            go_wp2
            go_ret
            exact ⟨ret_to hQ.out, hB4.out⟩
          · rw [cmp_bad hc] at hQ
            have hc1 : (cc.2 != 0) = true := by simp [hc]
            go_wp2
            go_ret
            exact ⟨ret_to hQ.out, hB4.out⟩
        · rw [one12 (by decide)] at hQ
          go_wp2_with fail
          refine (cmp_any d v _ hK3.out.val.lat hLv3.out hK3.out.tabs).mono ?_
          rintro e w4 ⟨rfl, hb⟩
          have hB4 := Lib.hid (hK3.out.low.trans (hb.mono hK3.out.low.size))
          have hx0 := Lib.hid ((hK3.out.box.below hb hEl).cell 0)
          have hx4 : E < w4.heap.size := (hK3.out.box.below hb hEl).lt
          generalize compareS (vv d) (vv v) = cc at hQ ⊢
          clear hb x0 x1 x2 x3 x4 y0 y1 y2 y3 v0 v1 v2 v3 hEl hVl hUl
          have x0 := hx0.out
          simp only [List.getElem?_toArray, List.getElem?_cons_zero] at x0
          clear hx0
          by_cases hc : cc.2 = 0
          · rw [cmp15 hc] at hQ
            have hc1 : (cc.2 != 0) = false := by simp [hc]
            go_wp2
            go_ret
            exact ⟨ret_to hQ.out, hB4.out⟩
          · rw [cmp_bad hc] at hQ
            have hc1 : (cc.2 != 0) = true := by simp [hc]
            go_wp2
            go_ret
            exact ⟨ret_to hQ.out, hB4.out⟩
      · rcases (show op = 7 ∨ op = 9 ∨ op = 10 ∨ op = 11 ∨ op = 12 ∨ op = 13 ∨ op = 14 ∨ op = 15 by omega) with rfl | rfl | rfl | rfl | rfl | rfl | rfl | rfl
        · rw [one7] at hQ
          go_wp2_with fail
          refine (eq_any d v _ hK3.out.val.lat hLv3.out).mono ?_
          rintro e w4 ⟨rfl, hb⟩
          have hB4 := Lib.hid (hK3.out.low.trans (hb.mono hK3.out.low.size))
          generalize eqV d v = bb at hQ ⊢
          clear hb
          go_wp2
          go_ret
          exact ⟨ret_to hQ.out, hB4.out⟩
        · rw [one9, hk, hw] at hQ
          go_wp2
          go_ret
          exact ⟨ret_to (by rw [hQ.out]; rfl), hK3.out.low⟩
        · rw [one10, hk, hw] at hQ
          go_wp2
          go_ret
          exact ⟨ret_to (by rw [hQ.out]; rfl), hK3.out.low⟩
        · rw [one11, hk, hw] at hQ
          go_wp2
          go_ret
          exact ⟨ret_to (by rw [hQ.out]; rfl), hK3.out.low⟩
        · rw [one12 (by decide)] at hQ
          go_wp2_with fail
          refine (cmp_any d v _ hK3.out.val.lat hLv3.out hK3.out.tabs).mono ?_
          rintro e w4 ⟨rfl, hb⟩
          have hB4 := Lib.hid (hK3.out.low.trans (hb.mono hK3.out.low.size))
          have hx0 := Lib.hid ((hK3.out.box.below hb hEl).cell 0)
          have hx4 : E < w4.heap.size := (hK3.out.box.below hb hEl).lt
          generalize compareS (vv d) (vv v) = cc at hQ ⊢
          clear hb x0 x1 x2 x3 x4 y0 y1 y2 y3 v0 v1 v2 v3 hEl hVl hUl
          have x0 := hx0.out
          simp only [List.getElem?_toArray, List.getElem?_cons_zero] at x0
          clear hx0
          by_cases hc : cc.2 = 0
          · rw [cmp12 hc] at hQ
            have hc1 : (cc.2 != 0) = false := by simp [hc]
            go_wp2
            go_ret
            exact ⟨ret_to hQ.out, hB4.out⟩
          · rw [cmp_bad hc] at hQ
            have hc1 : (cc.2 != 0) = true := by simp [hc]
            go_wp2
            go_ret
            exact ⟨ret_to hQ.out, hB4.out⟩
        · rw [one12 (by decide)] at hQ
          go_wp2_with fail
          refine (cmp_any d v _ hK3.out.val.lat hLv3.out hK3.out.tabs).mono ?_
          rintro e w4 ⟨rfl, hb⟩
          have hB4 := Lib.hid (hK3.out.low.trans (hb.mono hK3.out.low.size))
          have hx0 := Lib.hid ((hK3.out.box.below hb hEl).cell 0)
          have hx4 : E < w4.heap.size := (hK3.out.box.below hb hEl).lt
          generalize compareS (vv d) (vv v) = cc at hQ ⊢
          clear hb x0 x1 x2 x3 x4 y0 y1 y2 y3 v0 v1 v2 v3 hEl hVl hUl
          have x0 := hx0.out
          simp only [List.getElem?_toArray, List.getElem?_cons_zero] at x0
          clear hx0
          by_cases hc : cc.2 = 0
          · rw [cmp13 hc] at hQ
            have hc1 : (cc.2 != 0) = false := by simp [hc]
            go_wp2
            go_ret
            exact ⟨ret_to hQ.out, hB4.out⟩
          · rw [cmp_bad hc] at hQ
            have hc1 : (cc.2 != 0) = true := by simp [hc]
            go_wp2
            go_ret
            exact ⟨ret_to hQ.out, hB4.out⟩
        · rw [one12 (by decide)] at hQ
          go_wp2_with fail
          refine (cmp_any d v _ hK3.out.val.lat hLv3.out hK3.out.tabs).mono ?_
          rintro e w4 ⟨rfl, hb⟩
          have hB4 := Lib.hid (hK3.out.low.trans (hb.mono hK3.out.low.size))
          have hx0 := Lib.hid ((hK3.out.box.below hb hEl).cell 0)
          have hx4 : E < w4.heap.size := (hK3.out.box.below hb hEl).lt
          generalize compareS (vv d) (vv v) = cc at hQ ⊢
          clear hb x0 x1 x2 x3 x4 y0 y1 y2 y3 v0 v1 v2 v3 hEl hVl hUl
          have x0 := hx0.out
          simp only [List.getElem?_toArray, List.getElem?_cons_zero] at x0
          clear hx0
          by_cases hc : cc.2 = 0
          · rw [cmp14 hc] at hQ
            have hc1 : (cc.2 != 0) = false := by simp [hc]
            go_wp2
            go_ret
            exact ⟨ret_to hQ.out, hB4.out⟩
          · rw [cmp_bad hc] at hQ
            have hc1 : (cc.2 != 0) = true := by simp [hc]
            go_wp2
            go_ret
            exact ⟨ret_to hQ.out, hB4.out⟩
        · rw [one12 (by decide)] at hQ
          go_wp2_with fail
          refine (cmp_any d v _ hK3.out.val.lat hLv3.out hK3.out.tabs).mono ?_
          rintro e w4 ⟨rfl, hb⟩
          have hB4 := Lib.hid (hK3.out.low.trans (hb.mono hK3.out.low.size))
          have hx0 := Lib.hid ((hK3.out.box.below hb hEl).cell 0)
          have hx4 : E < w4.heap.size := (hK3.out.box.below hb hEl).lt
          generalize compareS (vv d) (vv v) = cc at hQ ⊢
          clear hb x0 x1 x2 x3 x4 y0 y1 y2 y3 v0 v1 v2 v3 hEl hVl hUl
          have x0 := hx0.out
          simp only [List.getElem?_toArray, List.getElem?_cons_zero] at x0
          clear hx0
          by_cases hc : cc.2 = 0
          · rw [cmp15 hc] at hQ
            have hc1 : (cc.2 != 0) = false := by simp [hc]
            go_wp2
            go_ret
            exact ⟨ret_to hQ.out, hB4.out⟩
          · rw [cmp_bad hc] at hQ
            have hc1 : (cc.2 != 0) = true := by simp [hc]
            go_wp2
            go_ret
            exact ⟨ret_to hQ.out, hB4.out⟩
      · rcases (show op = 7 ∨ op = 9 ∨ op = 10 ∨ op = 11 ∨ op = 12 ∨ op = 13 ∨ op = 14 ∨ op = 15 by omega) with rfl | rfl | rfl | rfl | rfl | rfl | rfl | rfl
        · rw [one7] at hQ
          go_wp2_with fail
          refine (eq_any d v _ hK3.out.val.lat hLv3.out).mono ?_
          rintro e w4 ⟨rfl, hb⟩
          have hB4 := Lib.hid (hK3.out.low.trans (hb.mono hK3.out.low.size))
          generalize eqV d v = bb at hQ ⊢
          clear hb
          go_wp2
          go_ret
          exact ⟨ret_to hQ.out, hB4.out⟩
        · rw [one9, hk, hw] at hQ
          go_wp2_with fail
          refine (Tryz.strings_HasPrefix d.text v.text _).mono ?_
          rintro e w4 ⟨rfl, rfl⟩
          generalize Lib.hasPrefix d.text.data.toList v.text.data.toList = bb at hQ ⊢
          go_wp2
          go_ret
          exact ⟨ret_to (by rw [hQ.out]; rfl), hK3.out.low⟩
        · rw [one10, hk, hw] at hQ
          go_wp2_with fail
          refine (Tryz.strings_HasSuffix d.text v.text _ (by have := hK3.out.val.lat.text; omega)).mono ?_
          rintro e w4 ⟨rfl, rfl⟩
          generalize Lib.hasSuffix d.text.data.toList v.text.data.toList = bb at hQ ⊢
          go_wp2
          go_ret
          exact ⟨ret_to (by rw [hQ.out]; rfl), hK3.out.low⟩
        · rw [one11, hk, hw] at hQ
          obtain ⟨m, hm⟩ := hK3.out.tabs.lim
          have h5 : (d.kind == 5) = false := by have := of_beq hk; simp; omega
          rw [h5] at hQ
          go_wp2_with fail
          refine (Tryz.strings_Contains d.text v.text m _ hK3.out.val.lat.text hm).mono ?_
          rintro e w4 ⟨rfl, rfl⟩
          generalize Lib.contains d.text.data.toList v.text.data.toList = bb at hQ ⊢
          cases bb
          all_goals
            go_wp2
            go_ret
            exact ⟨ret_to (by rw [hQ.out]; rfl), hK3.out.low⟩
        · rw [one12 (by decide)] at hQ
          go_wp2_with fail
          refine (cmp_any d v _ hK3.out.val.lat hLv3.out hK3.out.tabs).mono ?_
          rintro e w4 ⟨rfl, hb⟩
          have hB4 := Lib.hid (hK3.out.low.trans (hb.mono hK3.out.low.size))
          have hx0 := Lib.hid ((hK3.out.box.below hb hEl).cell 0)
          have hx4 : E < w4.heap.size := (hK3.out.box.below hb hEl).lt
          generalize compareS (vv d) (vv v) = cc at hQ ⊢
          clear hb x0 x1 x2 x3 x4 y0 y1 y2 y3 v0 v1 v2 v3 hEl hVl hUl
          have x0 := hx0.out
          simp only [List.getElem?_toArray, List.getElem?_cons_zero] at x0
          clear hx0
          by_cases hc : cc.2 = 0
          · rw [cmp12 hc] at hQ
            have hc1 : (cc.2 != 0) = false := by simp [hc]
            go_wp2
            go_ret
            exact ⟨ret_to hQ.out, hB4.out⟩
          · rw [cmp_bad hc] at hQ
            have hc1 : (cc.2 != 0) = true := by simp [hc]
            go_wp2
            go_ret
            exact ⟨ret_to hQ.out, hB4.out⟩
        · rw [one12 (by decide)] at hQ
          go_wp2_with fail
          refine (cmp_any d v _ hK3.out.val.lat hLv3.out hK3.out.tabs).mono ?_
          rintro e w4 ⟨rfl, hb⟩
          have hB4 := Lib.hid (hK3.out.low.trans (hb.mono hK3.out.low.size))
          have hx0 := Lib.hid ((hK3.out.box.below hb hEl).cell 0)
          have hx4 : E < w4.heap.size := (hK3.out.box.below hb hEl).lt
          generalize compareS (vv d) (vv v) = cc at hQ ⊢
          clear hb x0 x1 x2 x3 x4 y0 y1 y2 y3 v0 v1 v2 v3 hEl hVl hUl
          have x0 := hx0.out
          simp only [List.getElem?_toArray, List.getElem?_cons_zero] at x0
          clear hx0
          by_cases hc : cc.2 = 0
          · rw [cmp13 hc] at hQ
            have hc1 : (cc.2 != 0) = false := by simp [hc]
            go_wp2
            go_ret
            exact ⟨ret_to hQ.out, hB4.out⟩
          · rw [cmp_bad hc] at hQ
            have hc1 : (cc.2 != 0) = true := by simp [hc]
            go_wp2
            go_ret
            exact ⟨ret_to hQ.out, hB4.out⟩
        · rw [one12 (by decide)] at hQ
          go_wp2_with fail
          refine (cmp_any d v _ hK3.out.val.lat hLv3.out hK3.out.tabs).mono ?_
          rintro e w4 ⟨rfl, hb⟩
          have hB4 := Lib.hid (hK3.out.low.trans (hb.mono hK3.out.low.size))
          have hx0 := Lib.hid ((hK3.out.box.below hb hEl).cell 0)
          have hx4 : E < w4.heap.size := (hK3.out.box.below hb hEl).lt
          generalize compareS (vv d) (vv v) = cc at hQ ⊢
          clear hb x0 x1 x2 x3 x4 y0 y1 y2 y3 v0 v1 v2 v3 hEl hVl hUl
          have x0 := hx0.out
          simp only [List.getElem?_toArray, List.getElem?_cons_zero] at x0
          clear hx0
          by_cases hc : cc.2 = 0
          · rw [cmp14 hc] at hQ
            have hc1 : (cc.2 != 0) = false := by simp [hc]
            go_wp2
            go_ret
            exact ⟨ret_to hQ.out, hB4.out⟩
          · rw [cmp_bad hc] at hQ
            have hc1 : (cc.2 != 0) = true := by simp [hc]
            go_wp2
            go_ret
            exact ⟨ret_to hQ.out, hB4.out⟩
        · rw [one12 (by decide)] at hQ
          go_wp2_with fail
          refine (cmp_any d v _ hK3.out.val.lat hLv3.out hK3.out.tabs).mono ?_
          rintro e w4 ⟨rfl, hb⟩
          have hB4 := Lib.hid (hK3.out.low.trans (hb.mono hK3.out.low.size))
          have hx0 := Lib.hid ((hK3.out.box.below hb hEl).cell 0)
          have hx4 : E < w4.heap.size := (hK3.out.box.below hb hEl).lt
          generalize compareS (vv d) (vv v) = cc at hQ ⊢
          clear hb x0 x1 x2 x3 x4 y0 y1 y2 y3 v0 v1 v2 v3 hEl hVl hUl
          have x0 := hx0.out
          simp only [List.getElem?_toArray, List.getElem?_cons_zero] at x0
          clear hx0
          by_cases hc : cc.2 = 0
          · rw [cmp15 hc] at hQ
            have hc1 : (cc.2 != 0) = false := by simp [hc]
            go_wp2
            go_ret
            exact ⟨ret_to hQ.out, hB4.out⟩
          · rw [cmp_bad hc] at hQ
            have hc1 : (cc.2 != 0) = true := by simp [hc]
            go_wp2
            go_ret
            exact ⟨ret_to hQ.out, hB4.out⟩

end Go.Proofs.YtlohdmghaeabjaaGreatDoor.clause

