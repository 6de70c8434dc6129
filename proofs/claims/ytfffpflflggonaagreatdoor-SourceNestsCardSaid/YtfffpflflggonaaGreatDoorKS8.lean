/- How many bytes a quoted text at the beginning takes: the lexer's quoted and the reference's. What a row's list of variables gives the walks: the tables of utf8 and strconv, strconv's sentinel, and that bytealg's limit holds some number; that they stay where a call makes memory only. -/
import Derived.Test.YtfffpflflggonaaGreatDoorKLexA
import Derived.Test.YtfffpflflggonaaGreatDoorKS2
import Derived.Lib.LaidU8T
import Derived.Lib.LaidTab
import Derived.LaidMore
import Derived.Lib.ItoaNum
namespace Go.Proofs.YtfffpflflggonaaGreatDoor.lex
open Go.RowKit Go.Proofs.YtfffpflflggonaaGreatDoor.text Go.Proofs.YtfffpflflggonaaGreatDoor.value

/-- How far the scan has come: k bytes from place p on have been read. -/
def LqAt (l : List UInt8) (p k : Nat) (e : Bool) : Prop := lqS false (l.drop p) = (lqS e (l.drop (p + k))).map (k + ·)
theorem LqAt.start (l : List UInt8) (p : Nat) : LqAt l p 0 false := by
  unfold LqAt
  rw [Nat.add_zero]
  cases lqS false (l.drop p) <;> simp
theorem LqAt.step {l : List UInt8} {p k : Nat} {e e2 : Bool} (h : LqAt l p k e) (h2 : lqS e (l.drop (p + k)) = (lqS e2 (l.drop (p + (k + 1)))).map (1 + ·)) : LqAt l p (k + 1) e2 := by
  unfold LqAt at *
  rw [h, h2, Option.map_map]
  congr 1
  funext x
  simp
  omega
theorem LqAt.found {l : List UInt8} {p k : Nat} {e : Bool} (h : LqAt l p k e) (h2 : lqS e (l.drop (p + k)) = some 1) : lqS false (l.drop p) = some (k + 1) := by
  unfold LqAt at h
  rw [h, h2]; rfl
theorem LqAt.none {l : List UInt8} {p k : Nat} {e : Bool} (h : LqAt l p k e) (h2 : lqS e (l.drop (p + k)) = none) : lqS false (l.drop p) = none := by
  unfold LqAt at h
  rw [h, h2]; rfl
theorem lq_end {s : ByteArray} {j : Nat} (e : Bool) (h : ¬ j < s.size) : lqS e (s.data.toList.drop j) = none := by
  rw [List.drop_eq_nil_of_le (by simp; omega)]
  cases e <;> rfl
theorem lq_line {s : ByteArray} {j : Nat} (e : Bool) (h : j < s.size) (hc : s[j].toNat = 10) : lqS e (s.data.toList.drop j) = none := by
  rw [drop_byte s j h]
  cases e <;> rw [lqS, if_pos hc]
theorem lq_quote {s : ByteArray} {j : Nat} (h : j < s.size) (hc : s[j].toNat = 34) : lqS false (s.data.toList.drop j) = some 1 := by
  rw [drop_byte s j h, lqS, if_neg (by omega), if_pos hc]
theorem lq_esc {s : ByteArray} {j : Nat} (h : j < s.size) (hc : s[j].toNat = 92) : lqS false (s.data.toList.drop j) = (lqS true (s.data.toList.drop (j + 1))).map (1 + ·) := by
  rw [drop_byte s j h, lqS, if_neg (by omega), if_neg (by omega), if_pos hc]
theorem lq_plain {s : ByteArray} {j : Nat} (h : j < s.size) (h1 : s[j].toNat ≠ 10) (h2 : s[j].toNat ≠ 34) (h3 : s[j].toNat ≠ 92) : lqS false (s.data.toList.drop j) = (lqS false (s.data.toList.drop (j + 1))).map (1 + ·) := by
  rw [drop_byte s j h, lqS, if_neg h1, if_neg h2, if_neg h3]
theorem lq_any {s : ByteArray} {j : Nat} (h : j < s.size) (h1 : s[j].toNat ≠ 10) : lqS true (s.data.toList.drop j) = (lqS false (s.data.toList.drop (j + 1))).map (1 + ·) := by
  rw [drop_byte s j h, lqS, if_neg h1]

/-- What quoted gives. -/
def lqN (l : List UInt8) (p : Nat) : Int := match lqS false (l.drop p) with | none => 0 | some k => (p : Int) + k
def lqM (l : List UInt8) (p : Nat) : Int := match lqS false (l.drop p) with | none => -1 | some k => (p : Int) + k
theorem lqN_none {l : List UInt8} {p : Nat} (h : lqS false (l.drop p) = none) : lqN l p = 0 := by rw [lqN, h]
theorem lqN_some {l : List UInt8} {p k : Nat} (h : lqS false (l.drop p) = some k) : lqN l p = p + k := by rw [lqN, h]
theorem lqM_none {l : List UInt8} {p : Nat} (h : lqS false (l.drop p) = none) : lqM l p = -1 := by rw [lqM, h]
theorem lqM_some {l : List UInt8} {p k : Nat} (h : lqS false (l.drop p) = some k) : lqM l p = p + k := by rw [lqM, h]

set_option maxHeartbeats 2000000 in
theorem quoted_any (s : ByteArray) (w : World) (hs : s.size ≤ 140737488355328) : Calls Tryz.prog 184 #[.string s] w fun e w' => e = .returned (.int .i64 (lqN s.data.toList 1)) ∧ w' = w := by
  go_enter Tryz.func184, Tryz.ntmps184
  go_wp2
  go_loop [3, 4] (fun m i => ∃ (k q : Nat) (e : Bool), i = .int .i64 (k + 1 : Nat) ∧ k ≤ s.size ∧ m = .int .i64 q ∧ q ≤ k ∧ q % 2 = (if e then 1 else 0) ∧ Hid (LqAt s.data.toList 1 k e)) (fun _ i => s.size + 1 - (intOf i).toNat)
  case atStart => exact ⟨0, 0, false, rfl, Nat.zero_le _, rfl, Nat.le_refl _, rfl, LqAt.start _ _⟩
  case round =>
    obtain ⟨k, q, e, rfl, hk, rfl, hq, hpar, hT⟩ := hrel
    rw [Nat.add_comm k 1]
    by_cases hlt : 1 + k < s.size
    · by_cases h10 : s[1 + k].toNat = 10
      · have hE := Lib.hid (lqN_none (hT.out.none (lq_line e hlt h10)))
        have t1 := ne_no (show (s[1 + k].toNat : Int) = 10 by omega)
        clear h10 hT hpar
        go_wp2
        go_ret
        exact ⟨ret_int hE.out.symm, rfl⟩
      · have t1 := ne_yes (show (s[1 + k].toNat : Int) ≠ 10 by omega)
        cases e with
        | true =>
          have hN := Lib.hid (hT.out.step (lq_any hlt h10))
          have t3 : (((q : Int) % 2) == 0) = false := eq_no (by simp at hpar; omega)
          by_cases h92 : s[1 + k].toNat = 92
          · have t2 := eq_no (show (s[1 + k].toNat : Int) ≠ 34 by omega)
            have t4 := eq_yes (show (s[1 + k].toNat : Int) = 92 by omega)
            clear h92 h10 hT
            replace hpar := Lib.hid (show (q + 1) % 2 = 0 by simp at hpar; omega)
            go_wp2
            go_round
            case rel => exact ⟨k + 1, q + 1, false, by go_num, by omega, by go_num, by omega, hpar.out, hN.out⟩
            case measure => simp [intOf]; omega
          · by_cases h34 : s[1 + k].toNat = 34
            · have t2 := eq_yes (show (s[1 + k].toNat : Int) = 34 by omega)
              have t4 := eq_no (show (s[1 + k].toNat : Int) ≠ 92 by omega)
              clear h34 h92 h10 hT hpar
              go_wp2
              go_round
              case rel => exact ⟨k + 1, 0, false, by go_num, by omega, rfl, by omega, rfl, hN.out⟩
              case measure => simp [intOf]; omega
            · have t2 := eq_no (show (s[1 + k].toNat : Int) ≠ 34 by omega)
              have t4 := eq_no (show (s[1 + k].toNat : Int) ≠ 92 by omega)
              clear h34 h92 h10 hT hpar
              go_wp2
              go_round
              case rel => exact ⟨k + 1, 0, false, by go_num, by omega, rfl, by omega, rfl, hN.out⟩
              case measure => simp [intOf]; omega
        | false =>
          have t3 : (((q : Int) % 2) == 0) = true := eq_yes (by simp at hpar; omega)
          by_cases h34 : s[1 + k].toNat = 34
          · have hE := Lib.hid (lqN_some (hT.out.found (lq_quote hlt h34)))
            have t2 := eq_yes (show (s[1 + k].toNat : Int) = 34 by omega)
            clear h34 h10 hT hpar
            go_wp2
            go_ret
            exact ⟨ret_int (by rw [hE.out]; omega), rfl⟩
          · have t2 := eq_no (show (s[1 + k].toNat : Int) ≠ 34 by omega)
            by_cases h92 : s[1 + k].toNat = 92
            · have hN := Lib.hid (hT.out.step (lq_esc hlt h92))
              have t4 := eq_yes (show (s[1 + k].toNat : Int) = 92 by omega)
              clear h34 h92 h10 hT
              replace hpar := Lib.hid (show (q + 1) % 2 = 1 by simp at hpar; omega)
              go_wp2
              go_round
              case rel => exact ⟨k + 1, q + 1, true, by go_num, by omega, by go_num, by omega, hpar.out, hN.out⟩
              case measure => simp [intOf]; omega
            · have hN := Lib.hid (hT.out.step (lq_plain hlt h10 h34 h92))
              have t4 := eq_no (show (s[1 + k].toNat : Int) ≠ 92 by omega)
              clear h34 h92 h10 hT hpar
              go_wp2
              go_round
              case rel => exact ⟨k + 1, 0, false, by go_num, by omega, rfl, by omega, rfl, hN.out⟩
              case measure => simp [intOf]; omega
    · have hE := Lib.hid (lqN_none (hT.out.none (lq_end e hlt)))
      clear hT hpar
      go_wp2
      go_ret
      exact ⟨ret_int hE.out.symm, rfl⟩

set_option maxHeartbeats 2000000 in
theorem quoted_ref (s : ByteArray) (i : Nat) (w : World) (hs : s.size ≤ 140737488355328) (hi : i < s.size) : Calls Tryz.prog 115 #[.string s, .int .i64 i] w fun e w' => e = .returned (.int .i64 (lqM s.data.toList (i + 1))) ∧ w' = w := by
  go_enter Tryz.func115, Tryz.ntmps115
  go_wp2
  go_loop [5] (fun i' => ∃ k : Nat, i' = .int .i64 (i + 1 + k : Nat) ∧ i + 1 + k ≤ s.size + 1 ∧ Hid (LqAt s.data.toList (i + 1) k false)) (fun i' => s.size + 1 - (intOf i').toNat)
  case atStart => exact ⟨0, by go_num, by omega, LqAt.start _ _⟩
  case round =>
    obtain ⟨k, rfl, hk, hT⟩ := hrel
    obtain ⟨j, hj⟩ : ∃ j, j = i + 1 + k := ⟨_, rfl⟩
    rw [← hj]
    by_cases hlt : j < s.size
    · have hT2 : LqAt s.data.toList (i + 1) k false := hT.out
      by_cases h10 : s[j].toNat = 10
      · have hE := Lib.hid (lqM_none (hT2.none (by rw [← hj]; exact lq_line false hlt h10)))
        have t1 := ne_no (show (s[j].toNat : Int) = 10 by omega)
        clear h10 hT hT2 hj
        go_wp2
        go_ret
        exact ⟨ret_int hE.out.symm, rfl⟩
      · have t1 := ne_yes (show (s[j].toNat : Int) ≠ 10 by omega)
        by_cases h92 : s[j].toNat = 92
        · have t4 := eq_yes (show (s[j].toNat : Int) = 92 by omega)
          have hN1 : LqAt s.data.toList (i + 1) (k + 1) true := hT2.step (by rw [← Nat.add_assoc, ← hj]; exact lq_esc hlt h92)
          by_cases hlt2 : j + 1 < s.size
          · by_cases h11 : s[j + 1].toNat = 10
            · have hE := Lib.hid (lqM_none (hN1.none (by rw [← Nat.add_assoc, ← hj]; exact lq_line true hlt2 h11)))
              have t5 := eq_yes (show (s[j + 1].toNat : Int) = 10 by omega)
              clear h92 h10 h11 hT hT2 hN1 hj
              go_wp2
              go_ret
              exact ⟨ret_int hE.out.symm, rfl⟩
            · have hN := Lib.hid (hN1.step (by rw [← Nat.add_assoc, ← Nat.add_assoc, ← Nat.add_assoc, ← hj]; exact lq_any hlt2 h11))
              have t5 := eq_no (show (s[j + 1].toNat : Int) ≠ 10 by omega)
              have hjj := Lib.hid hj
              clear h92 h10 h11 hT hT2 hN1 hj
              go_wp2
              go_round
              case rel => exact ⟨k + 1 + 1, by rw [hjj.out]; go_num, by have := hjj.out; omega, hN.out⟩
              case measure => simp [intOf]; omega
          · have hE := Lib.hid (lqM_none (hN1.none (by rw [← Nat.add_assoc, ← hj]; exact lq_end true hlt2)))
            have hN := Lib.hid (show LqAt s.data.toList (i + 1) (k + 1 + 1) false by
              have h3 := hN1.none (by rw [← Nat.add_assoc, ← hj]; exact lq_end true hlt2)
              unfold LqAt
              rw [h3, lq_end false (by omega)]
              rfl)
            have hjj := Lib.hid hj
            clear h92 h10 hT hT2 hN1 hj
            go_wp2
            go_round
            case rel => exact ⟨k + 1 + 1, by rw [hjj.out]; go_num, by have := hjj.out; omega, hN.out⟩
            case measure => simp [intOf]; omega
        · have t4 := eq_no (show (s[j].toNat : Int) ≠ 92 by omega)
          by_cases h34 : s[j].toNat = 34
          · have hE := Lib.hid (lqM_some (hT2.found (by rw [← hj]; exact lq_quote hlt h34)))
            have t2 := eq_yes (show (s[j].toNat : Int) = 34 by omega)
            have hjj := Lib.hid hj
            clear h34 h92 h10 hT hT2 hj
            go_wp2
            go_ret
            exact ⟨ret_int (by rw [hE.out]; have := hjj.out; omega), rfl⟩
          · have hN := Lib.hid (hT2.step (by rw [← Nat.add_assoc, ← hj]; exact lq_plain hlt h10 h34 h92))
            have t2 := eq_no (show (s[j].toNat : Int) ≠ 34 by omega)
            have hjj := Lib.hid hj
            clear h34 h92 h10 hT hT2 hj
            go_wp2
            go_round
            case rel => exact ⟨k + 1, by rw [hjj.out]; go_num, by have := hjj.out; omega, hN.out⟩
            case measure => simp [intOf]; omega
    · have hE := Lib.hid (lqM_none (hT.out.none (by rw [← hj]; exact lq_end false hlt)))
      clear hT hj
      go_wp2
      go_ret
      exact ⟨ret_int hE.out.symm, rfl⟩

end Go.Proofs.YtfffpflflggonaaGreatDoor.lex

namespace Go.Proofs.YtfffpflflggonaaGreatDoor.text
open Go.RowKit Go.Lib

structure Tabs (w : World) : Prop where
  runes : RuneTabs w
  pow : Lib.TabIs Tryz.prog w "internal/strconv.uint64pow10" .u64 Lib.pow10Tab
  range : ∃ tp p, w.var? Tryz.prog "strconv.ErrRange" = some #[.iface tp p]
  lim : ∃ m, w.cell? ⟨4, 0, none⟩ = some (.int .i64 m)

theorem var_below {n : String} {cs : Array Value} {w w' : World} (h : Below w.heap.size w w') (hv : w.var? Tryz.prog n = some cs) : w'.var? Tryz.prog n = some cs := by
  cases hg : Tryz.prog.globalNamed n with
  | none => unfold World.var? at hv; simp [hg] at hv
  | some g =>
    refine Go.var?_below h hg ?_ hv
    rcases Nat.lt_or_ge g w.heap.size with hl | hl
    · exact hl
    · unfold World.var? at hv
      rw [hg, Option.bind_some, Array.getElem?_eq_none (by omega)] at hv
      cases hv
theorem Tabs.below {w w' : World} (h : Tabs w) (hb : Below w.heap.size w w') : Tabs w' :=
  ⟨Utf8Tabs_below h.runes hb, var_below hb h.pow, let ⟨tp, p, hr⟩ := h.range; ⟨tp, p, var_below hb hr⟩, let ⟨m, hm⟩ := h.lim; ⟨m, sub_of_below hb _ _ hm⟩⟩

theorem tab_of_reads {name : String} {k : IntKind} {zs : List Int} {g : Nat} {t e : TypeId} {n : Nat} {w : World}
    (hg : Tryz.prog.globalNamed name = some g) (hty : (Tryz.prog.globals[g]?).map (·.type) = some t) (ht : Tryz.prog.underlying t = some (.array n e)) (he : Tryz.prog.underlying e = some (.int k)) (hce : Tryz.prog.cellsOf e = 1) (hct : Tryz.prog.cellsOf t = n)
    (h : VarReads Tryz.prog w name (tabData k zs)) : TabIs Tryz.prog w name k zs := by
  obtain ⟨g', t', cs, fuel, p, hg', ht', hvar, hd⟩ := h
  obtain rfl := Option.some.inj (hg.symm.trans hg')
  obtain rfl := Option.some.inj (hty.symm.trans ht')
  unfold TabIs
  rw [hvar, ← cells_of_tab ht he hce hct hd]

end Go.Proofs.YtfffpflflggonaaGreatDoor.text
