/- The program's Number and ParseNumber: they give what the reference's give. -/
import Derived.Test.YthnjgbjckggjhaaGreatDoorKJ2
import Derived.Test.YthnjgbjckggjhaaGreatDoorKJ3
import Derived.Lib.AtoiErrMem
import Derived.Lib.AtoiAllCases
import Derived.Lib.AppendIntMem
import Derived.Lib.Strings
namespace Go.Proofs.YthnjgbjckggjhaaGreatDoor.text
open Go.RowKit

/-! What Atoi gives at a text of digits. -/
theorem pu_digits : ∀ (l : List UInt8) (acc : Nat), acc < 18446744073709551616 → l.all digB = true → Lib.parseUint10 acc l = if valFrom acc l < 18446744073709551616 then .ok (valFrom acc l) else .range
  | [], acc, ha, _ => by
    have e : valFrom acc [] = acc := rfl
    rw [e, if_pos ha]
    rfl
  | c :: r, acc, ha, h => by
    rw [List.all_cons, Bool.and_eq_true] at h
    obtain ⟨hc0, hc1⟩ := digB_bd h.1
    have e : valFrom acc (c :: r) = valFrom (10 * acc + (c.toNat - 48)) r := rfl
    have hg := valFrom_ge r (10 * acc + (c.toNat - 48))
    have hp : 1 ≤ 10 ^ r.length := Nat.one_le_pow _ _ (by decide)
    have hm : 10 * acc + (c.toNat - 48) ≤ (10 * acc + (c.toNat - 48)) * 10 ^ r.length := Nat.le_mul_of_pos_right _ hp
    rw [Lib.parseUint10, if_pos ⟨hc0, hc1⟩, e]
    by_cases h1 : 1844674407370955162 ≤ acc
    · rw [if_pos h1, if_neg (by omega)]
    · rw [if_neg h1]
      have e2 : acc * 10 + (c.toNat - 48) = 10 * acc + (c.toNat - 48) := by omega
      rw [e2]
      by_cases h2 : 18446744073709551616 ≤ 10 * acc + (c.toNat - 48)
      · rw [if_pos h2, if_neg (by omega)]
      · rw [if_neg h2]
        exact pu_digits r _ (by omega) h.2
theorem great_of_long {t : ByteArray} (h : 13 < t.size) (ha : t.data.toList.all digB = true) (h0 : (t[0]'(by omega)).toNat ≠ 48) : 1099511627776 < valFrom 0 t.data.toList := by
  have hp : 0 < t.size := by omega
  have hc := digB_bd (all_at ha hp)
  rw [cons_byte hp]
  have e : valFrom 0 (t[0] :: t.data.toList.drop 1) = valFrom (10 * 0 + (t[0].toNat - 48)) (t.data.toList.drop 1) := rfl
  rw [e]
  have hg := valFrom_ge (t.data.toList.drop 1) (10 * 0 + (t[0].toNat - 48))
  have hl : (t.data.toList.drop 1).length = t.size - 1 := by simp
  have h13 : 10 ^ 13 ≤ 10 ^ (t.data.toList.drop 1).length := Nat.pow_le_pow_right (by decide) (by omega)
  have h10 : (10 : Nat) ^ 13 = 10000000000000 := by decide
  have hm : 1 * 10 ^ (t.data.toList.drop 1).length ≤ (10 * 0 + (t[0].toNat - 48)) * 10 ^ (t.data.toList.drop 1).length := Nat.mul_le_mul_right _ (by omega)
  omega
/-- The three ways. -/
def AtoiWay (l : List UInt8) : Prop :=
  (∃ n, Lib.atoiAll l = .ok n ∧ -1099511627776 ≤ n ∧ n ≤ 1099511627776 ∧ parseS l = (n, 0)) ∨ (∃ n, Lib.atoiAll l = .ok n ∧ n < -1099511627776 ∧ parseS l = (0, 3)) ∨ (∃ n, Lib.atoiAll l = .ok n ∧ 1099511627776 < n ∧ parseS l = (0, 3)) ∨ (Lib.atoiAll l = .range ∧ parseS l = (0, 3))
theorem mag_digits {t : ByteArray} (h : 0 < t.size) (ha : t.data.toList.all digB = true) : Lib.parseMag t.data.toList = if valFrom 0 t.data.toList < 18446744073709551616 then .ok (valFrom 0 t.data.toList) else .range := by
  unfold Lib.parseMag
  rw [if_neg (by rw [cons_byte h]; simp), pu_digits _ 0 (by decide) ha]
theorem atoi_way {s t : ByteArray} (D : Digs s t) (hsz : s.size = t.size ∧ s = t ∧ (∀ h : 0 < s.size, s[0].toNat ≠ 45) ∨ t.size + 1 = s.size ∧ s.data.toList = 45 :: t.data.toList) (h : 0 < t.size) (ha : t.data.toList.all digB = true) (h0 : t[0].toNat = 48 → s.data.toList = [48]) : AtoiWay s.data.toList := by
  have hmag := mag_digits h ha
  have hgreat : 13 < t.size → 1099511627776 < valFrom 0 t.data.toList := fun hl => great_of_long hl ha (fun e => by
    have h1 := h0 e
    have h2 := congrArg List.length h1
    simp at h2
    rcases hsz with ⟨h3, -, -⟩ | ⟨h3, -⟩ <;> omega)
  generalize hV : valFrom 0 t.data.toList = V at hmag hgreat
  have hbad : 1099511627776 < V → parseS s.data.toList = (0, 3) := fun hv => parse_great D h ha h0 (by rw [hV]; exact hv)
  have hgood : V ≤ 1099511627776 → parseS s.data.toList = (if t.size < s.size then -(V : Int) else (V : Int), 0) := fun hv => by
    have := parse_ok D h ha h0 (by rcases Nat.lt_or_ge 13 t.size with h9 | h9; (have := hgreat h9; omega); exact h9) (by rw [hV]; exact hv)
    rw [hV] at this
    exact this
  rcases hsz with ⟨h3, rfl, h5⟩ | ⟨h3, h4⟩
  · have hc := digB_bd (all_at ha h)
    have hat : Lib.atoiAll s.data.toList = Lib.signless (Lib.parseMag s.data.toList) := by
      have hcb := cons_byte h
      rw [hcb]
      exact Lib.atoiAll_plain _ _ (by omega) (by omega)
    rw [hmag] at hat
    have hlt : ¬ s.size < s.size := by omega
    rw [if_neg hlt] at hgood
    by_cases hv : V < 9223372036854775808
    · rw [if_pos (by omega)] at hat
      have hat : Lib.atoiAll s.data.toList = .ok (V : Int) := by rw [hat, Lib.signless]; simp; omega
      by_cases hs : V ≤ 1099511627776
      · exact Or.inl ⟨V, hat, by omega, by omega, hgood hs⟩
      · exact Or.inr (Or.inr (Or.inl ⟨V, hat, by omega, hbad (by omega)⟩))
    · have hat : Lib.atoiAll s.data.toList = .range := by
        rw [hat]
        split
        · rw [Lib.signless]; simp; omega
        · rfl
      exact Or.inr (Or.inr (Or.inr ⟨hat, hbad (by omega)⟩))
  · have hat : Lib.atoiAll s.data.toList = Lib.signed (Lib.parseMag t.data.toList) := by rw [h4]; exact Lib.atoiAll_minus _
    rw [hmag] at hat
    have hlt : t.size < s.size := by omega
    rw [if_pos hlt] at hgood
    by_cases hv : V ≤ 9223372036854775808
    · rw [if_pos (by omega)] at hat
      have hat : Lib.atoiAll s.data.toList = .ok (-(V : Int)) := by rw [hat, Lib.signed]; simp; omega
      by_cases hs : V ≤ 1099511627776
      · exact Or.inl ⟨-(V : Int), hat, by omega, by omega, hgood hs⟩
      · exact Or.inr (Or.inl ⟨-(V : Int), hat, by omega, hbad (by omega)⟩)
    · have hat : Lib.atoiAll s.data.toList = .range := by
        rw [hat]
        split
        · rw [Lib.signed]; simp; omega
        · rfl
      exact Or.inr (Or.inr (Or.inr ⟨hat, hbad (by omega)⟩))

/-- What CutPrefix leaves. -/
def CutRel (s t : ByteArray) (b : Bool) : Prop :=
  Digs s t ∧ ((b = false ∧ s.size = t.size ∧ s = t ∧ (∀ h : 0 < s.size, s[0].toNat ≠ 45)) ∨ (b = true ∧ t.size + 1 = s.size ∧ s.data.toList = 45 :: t.data.toList))
theorem cut_rel (s : ByteArray) : CutRel s ⟨(Lib.trimPrefix s.data.toList [45]).toArray⟩ (Lib.hasPrefix s.data.toList [45]) := by
  rcases Nat.eq_zero_or_pos s.size with h | h
  · have e : s.data.toList = [] := List.eq_nil_of_length_eq_zero (by simpa using h)
    have e2 : s = ⟨#[]⟩ := ByteArray.ext (Array.toList_inj.1 e)
    subst e2
    exact ⟨rfl, Or.inl ⟨rfl, rfl, rfl, fun h => absurd h (by decide)⟩⟩
  · have hcb := cons_byte h
    by_cases hc : s[0].toNat = 45
    · have e0 : s[0] = 45 := UInt8.toNat_inj.1 hc
      have hp : Lib.hasPrefix s.data.toList [45] = true := by rw [hcb, e0]; simp [Lib.hasPrefix]
      have ht : Lib.trimPrefix s.data.toList [45] = s.data.toList.drop 1 := by rw [Lib.trimPrefix, hp]; rfl
      have hsz : (⟨(s.data.toList.drop 1).toArray⟩ : ByteArray).size + 1 = s.size := by
        show (s.data.toList.drop 1).toArray.size + 1 = s.size
        simp; omega
      rw [ht, hp]
      refine ⟨?_, Or.inr ⟨rfl, hsz, by conv => lhs; rw [hcb, e0]⟩⟩
      unfold Digs
      conv => rhs; rw [hcb, digsOf, if_pos hc]
    · have hp : Lib.hasPrefix s.data.toList [45] = false := by
        rw [hcb]
        have : ¬ (45 : UInt8) = s[0] := fun e => hc (by rw [← e]; rfl)
        simp [Lib.hasPrefix, List.isPrefixOf, this]
      have ht : Lib.trimPrefix s.data.toList [45] = s.data.toList := by rw [Lib.trimPrefix, hp]; rfl
      rw [ht, hp]
      exact ⟨digs_plain h hc, Or.inl ⟨rfl, rfl, rfl, fun _ => hc⟩⟩
theorem cut_any (s p : ByteArray) (hp : p = ⟨#[45]⟩) (w : World) : Calls Tryz.prog 63 #[.string s, .string p] w fun e w' => (∃ t b, e = .returned (.tuple #[.string t, .bool b]) ∧ Hid (CutRel s t b)) ∧ w = w' := by
  subst hp
  refine (Tryz.strings_CutPrefix s _ w).mono ?_
  rintro e w' ⟨rfl, rfl⟩
  exact ⟨⟨_, _, rfl, cut_rel s⟩, rfl⟩
theorem atoi_ok (s : ByteArray) (hs : s.size ≤ 140737488355328) (n : Int) (h : Lib.atoiAll s.data.toList = .ok n) (w : World) :
    Calls Tryz.prog 64 #[.string s] w fun e w' => e = .returned (.tuple #[.int .i64 n, .nilIface]) ∧ Below w.heap.size w w' := by
  refine (Tryz.strconv_Atoi_ok s (by omega) n h w).mono ?_
  rintro e w' ⟨rfl, rfl | ⟨t, rfl⟩⟩
  · exact ⟨rfl, Below.refl _ _⟩
  · exact ⟨rfl, Lib.bytesWorld_below _ _ _⟩
theorem atoi_range (s : ByteArray) (hs : s.size ≤ 140737488355328) (h : Lib.atoiAll s.data.toList = .range) (w : World) (hT : Tabs w) :
    Calls Tryz.prog 64 #[.string s] w fun e w' => (∃ N, e = .returned (.tuple #[.int .i64 (Lib.atoiSat s.data.toList), .iface 145 (.pointer (some ⟨N, 0, none⟩))])) ∧ Below w.heap.size w w' := by
  obtain ⟨tp, p, hv⟩ := hT.range
  refine (Tryz.strconv_Atoi_range_var s (by omega) h tp p w hv).mono ?_
  rintro e w' ⟨N, rfl, -, -, hb⟩
  exact ⟨⟨N, rfl⟩, hb⟩

theorem cut_size {s t : ByteArray} {b : Bool} (h : CutRel s t b) : t.size ≤ s.size := by
  rcases h.2 with ⟨-, h2, -⟩ | ⟨-, h2, -⟩ <;> omega
theorem cut_way {s t : ByteArray} {b : Bool} (h : CutRel s t b) (hp : 0 < t.size) (ha : t.data.toList.all digB = true) (h0 : t[0].toNat = 48 → s.data.toList = [48]) : AtoiWay s.data.toList :=
  atoi_way h.1 (h.2.imp (fun x => x.2) (fun x => x.2)) hp ha h0
/-- "0" alone begins with 0. -/
theorem cut_zero {s t : ByteArray} {b : Bool} (h : CutRel s t b) (hp : 0 < t.size) (h0 : t[0].toNat = 48) : s.data.toList = [48] ↔ t.size ≤ 1 ∧ b = false := by
  have e0 : t[0] = 48 := UInt8.toNat_inj.1 h0
  rcases h.2 with ⟨rfl, -, rfl, -⟩ | ⟨rfl, h2, h3⟩
  · constructor
    · intro e
      have := congrArg List.length e
      simp at this
      exact ⟨by omega, rfl⟩
    · rintro ⟨h1, -⟩
      rw [cons_byte hp, e0, List.drop_eq_nil_of_le (by simp; omega)]
  · constructor
    · intro e
      have := congrArg List.length e
      simp at this
      omega
    · rintro ⟨-, h1⟩
      cases h1

theorem iter_below {w w2 : World} {t : ByteArray} {k : Nat} (h : Below (w.iter t k).heap.size (w.iter t k) w2) : Below w.heap.size w w2 := by
  have hb1 : Below w.heap.size w (w.iter t k) := (Below.refl _ _).alloc (Nat.le_refl _) _
  exact hb1.trans (h.mono hb1.size)

set_option maxRecDepth 100000 in
set_option maxHeartbeats 4000000 in
theorem parse_any (s : ByteArray) (w : World) (hs : s.size ≤ 140737488355328) (hT : Tabs w) :
    Calls Tryz.prog 59 #[.string s] w fun e w' => e = .returned (parseV s.data.toList) ∧ Below w.heap.size w w' := by
  go_enter Tryz.func59, Tryz.ntmps59
  replace hT := Lib.hid hT
  go_wp2_with fail
  refine (cut_any s _ rfl _).mono ?_
  rintro e w' ⟨⟨t, b, rfl, hC⟩, rfl⟩
  have hts := cut_size hC.out
  by_cases hz : t.size = 0
  · have hE := Lib.hid (parse_empty hC.out.1 hz)
    have hz1 : t.toList = [] := by rw [ByteArray.toList_eq]; exact List.eq_nil_of_length_eq_zero (by simpa using hz)
    have hz2 : t.toList.isEmpty = true := by rw [hz1]; rfl
    go_wp2
    go_ret2
    exact ⟨ret_two hE.out, Below.refl _ _⟩
  have hpos : 0 < t.size := by omega
  have hz1 : ¬ t.toList = [] := by rw [ByteArray.toList_eq, cons_byte hpos]; simp
  have hz2 : t.toList.isEmpty = false := by rw [ByteArray.toList_eq, cons_byte hpos]; rfl
  by_cases hq : t[0].toNat = 48 ∧ ¬ (t.size ≤ 1 ∧ b = false)
  · have hE := Lib.hid (parse_zero hC.out.1 hpos hq.1 (fun e => hq.2 ((cut_zero hC.out hpos hq.1).1 e)))
    obtain ⟨hq1, hq2⟩ := hq
    have hq3 : 1 < t.size ∨ (t.size = 1 ∧ b = true) := by
      rcases Nat.lt_or_ge 1 t.size with h1 | h1
      · exact Or.inl h1
      · refine Or.inr ⟨by omega, ?_⟩
        cases b with
        | true => rfl
        | false => exact absurd ⟨h1, rfl⟩ hq2
    clear hq2
    rcases hq3 with h1 | ⟨h1, rfl⟩
    all_goals
      go_wp2
      go_ret2
      exact ⟨ret_two hE.out, Below.refl _ _⟩
  have hZ := Lib.hid (show t[0].toNat = 48 → s.data.toList = [48] from fun h1 => (cut_zero hC.out hpos h1).2 (Classical.byContradiction fun h2 => hq ⟨h1, h2⟩))
  have hU : ((t[0].toNat : Int) == 48) = false ∨ (t[0].toNat = 48 ∧ t.size = 1 ∧ b = false) := by
    by_cases h1 : t[0].toNat = 48
    · have h2 : t.size ≤ 1 ∧ b = false := Classical.byContradiction fun h2 => hq ⟨h1, h2⟩
      exact Or.inr ⟨h1, by omega, h2.2⟩
    · exact Or.inl (by simp; omega)
  clear hq
  rcases hU with hU | ⟨hU, hU2, rfl⟩
  all_goals
    go_wp2
    go_loopw [7] (fun _ wr => ∃ k : Nat, k ≤ t.size ∧ wr = w.iter t k ∧ Hid ((t.data.toList.drop k).all digB = t.data.toList.all digB)) (fun _ wr => t.size - wr.iterPos w.heap.size)
    case atStart => exact ⟨0, Nat.zero_le _, rfl, rfl⟩
    case round =>
      obtain ⟨k, hk, rfl, hA⟩ := hrel
      by_cases hlt : k < t.size
      · have hnx : ∀ ty, (Instr.next (.pointer (some ⟨w.heap.size, 0, none⟩)) true ty).run Tryz.prog (w.iter t k) = _ := fun ty => run_next_any w t k ty hlt
        by_cases ha : t[k].toNat < 128
        · simp only [decode_ascii t k hlt ha] at hnx
          rcases Nat.lt_or_ge t[k].toNat 48 with h1 | h1
          · have hE := Lib.hid (parse_bad hC.out.1 hlt (digB_low h1))
            go_wp2
            all_goals first
              | (go_ret2; exact ⟨ret_two hE.out, (Below.refl _ _).alloc (Nat.le_refl _) _⟩)
              | (exfalso; clear hA hE; simp at *; omega)
          · by_cases h2 : 57 < t[k].toNat
            · have hE := Lib.hid (parse_bad hC.out.1 hlt (digB_high h2))
              go_wp2
              all_goals first
                | (go_ret2; exact ⟨ret_two hE.out, (Below.refl _ _).alloc (Nat.le_refl _) _⟩)
                | (exfalso; clear hA hE; simp at *; omega)
            · have hE := Lib.hid (dig_go hlt (digB_yes h1 (by omega)) hA.out)
              go_wp2
              all_goals first
                | (go_roundw
                   case rel => exact ⟨k + 1, by omega, rfl, hE.out⟩
                   case measure => simp; omega)
                | (exfalso; clear hA hE; simp at *; omega)
        · have hd := (decode_high t k hlt (by omega)).1
          have hE := Lib.hid (parse_bad hC.out.1 hlt (digB_high (by omega)))
          generalize (Utf8.decode t k).1 = r at hd hnx
          generalize (Utf8.decode t k).2 = q at hnx
          go_wp2
          all_goals first
            | (go_ret2; exact ⟨ret_two hE.out, (Below.refl _ _).alloc (Nat.le_refl _) _⟩)
            | (exfalso; clear hA hE; simp at *; omega)
      · have hnx : ∀ ty, (Instr.next (.pointer (some ⟨w.heap.size, 0, none⟩)) true ty).run Tryz.prog (w.iter t k) = _ := fun ty => run_next_end w t k ty hlt
        have hall := dig_end hlt hA.out
        rcases cut_way hC.out hpos hall hZ.out with ⟨n, h1, h2, h3, h4⟩ | ⟨n, h1, h2, h4⟩ | ⟨n, h1, h2, h4⟩ | ⟨h1, h4⟩
        · replace h1 := Lib.hid h1
          replace h4 := Lib.hid h4
          clear hall
          go_wp2_with fail
          refine (atoi_ok s hs n h1.out _).mono ?_
          rintro e w2 ⟨rfl, hb2⟩
          have hb2' := Lib.hid (iter_below hb2)
          clear hb2
          go_wp2
          go_ret2
          exact ⟨ret_two h4.out, hb2'.out⟩
        · replace h1 := Lib.hid h1
          replace h4 := Lib.hid h4
          clear hall
          go_wp2_with fail
          refine (atoi_ok s hs n h1.out _).mono ?_
          rintro e w2 ⟨rfl, hb2⟩
          have hb2' := Lib.hid (iter_below hb2)
          clear hb2
          go_wp2
          go_ret2
          exact ⟨ret_two h4.out, hb2'.out⟩
        · replace h1 := Lib.hid h1
          replace h4 := Lib.hid h4
          clear hall
          go_wp2_with fail
          refine (atoi_ok s hs n h1.out _).mono ?_
          rintro e w2 ⟨rfl, hb2⟩
          have hb2' := Lib.hid (iter_below hb2)
          clear hb2
          go_wp2
          go_ret2
          exact ⟨ret_two h4.out, hb2'.out⟩
        · replace h1 := Lib.hid h1
          replace h4 := Lib.hid h4
          clear hall
          have hb1 : Below w.heap.size w (w.iter t k) := (Below.refl _ _).alloc (Nat.le_refl _) _
          have hT1 := Lib.hid (hT.out.below hb1)
          clear hb1
          go_wp2_with fail
          refine (atoi_range s hs h1.out _ hT1.out).mono ?_
          rintro e w2 ⟨⟨N, rfl⟩, hb2⟩
          have hb2' := Lib.hid (iter_below hb2)
          clear hb2
          go_wp2
          go_ret2
          exact ⟨ret_two h4.out, hb2'.out⟩

end Go.Proofs.YthnjgbjckggjhaaGreatDoor.text

