/- The first error of a condition: the reference's shape. The names in a condition that was read are no longer than the tokens' texts. No program in sight. What the reference's next leans on: scans, the token of a number, the signs. -/
import Derived.Test.YtfffpflflggonaaGreatDoorKS31
import Derived.Test.YtfffpflflggonaaGreatDoorKRfO
import Derived.Test.YtfffpflflggonaaGreatDoorKS18
import Derived.Test.YtfffpflflggonaaGreatDoorKS17
import Derived.Test.YtfffpflflggonaaGreatDoorKLexD
import Derived.Test.YtfffpflflggonaaGreatDoorKS4
namespace Go.Proofs.YtfffpflflggonaaGreatDoor.src
open Go.RowKit Go.Proofs.YtfffpflflggonaaGreatDoor Go.Proofs.YtfffpflflggonaaGreatDoor.lex Go.Proofs.YtfffpflflggonaaGreatDoor.value Go.Proofs.YtfffpflflggonaaGreatDoor.text Go.Proofs.YtfffpflflggonaaGreatDoor.schema Go.Proofs.YtfffpflflggonaaGreatDoor.draw Go.Proofs.YtfffpflflggonaaGreatDoor.clause

mutual
/-- Names are of a size that can be counted. -/
def NmD : ED → Prop
  | .mk _ kind name _ kids => kind.size ≤ maxLen ∧ name.size ≤ maxLen ∧ NmDL kids
def NmDL : List ED → Prop
  | [] => True
  | k :: r => NmD k ∧ NmDL r
end
theorem nmD_mem : ∀ {l : List ED} {k : ED}, NmDL l → k ∈ l → NmD k
  | [], k, _, hk => by cases hk
  | a :: r, k, h, hk => by
    rw [NmDL] at h
    rcases List.mem_cons.1 hk with rfl | hk
    · exact h.1
    · exact nmD_mem h.2 hk

set_option maxRecDepth 100000 in
set_option maxHeartbeats 4000000 in
theorem walk_step (m : Mem) (op : Int) (kind name : ByteArray) (vals : List VD) (kids : List ED) (vs ks : Value) (rows : List (List Value)) (hv : RowsAt m 4 vs (vals.map VD.row)) (hk : RowsAt m 5 ks rows) (hl : rows.length = kids.length) (hL : ∀ v ∈ vals, LAt m v)
    (hE : ∀ (i : Nat) (r : List Value) (k : ED), rows[i]? = some r → kids[i]? = some k → EAt m k r)
    (ih : ∀ (j : Nat) (r : List Value) (k : ED), rows[j]? = some r → kids[j]? = some k → WalkOk 53 1 m k r) (hkz : kind.size ≤ maxLen) (hnz : name.size ≤ maxLen) :
    WalkOk 53 1 m (.mk op kind name vals kids) [.int .i64 op, .string kind, .string name, vs, ks] := by
  intro dep b g w hd hs hO hT
  rw [show ((dep + 1 : Nat) : Int) = (dep : Int) + 1 from rfl]
  obtain ⟨va, vn, vc, rfl⟩ : ∃ a n c, vs = .slice a n c := by obtain ⟨a, c, h, -⟩ := hv; exact ⟨_, _, _, h⟩
  obtain ⟨ka, kn, kc, rfl⟩ : ∃ a n c, ks = .slice a n c := by obtain ⟨a, c, h, -⟩ := hk; exact ⟨_, _, _, h⟩
  have hgl := hO.lt
  have hQ := Lib.hid (show walkS (pe (.mk op kind name vals kids)) dep b = if 60 ≤ b then (5, b) else if 10 ≤ dep then (18, b + 1) else if partS op kind.data.toList name.data.toList (vals.map vv) (kids.map opE) ≠ 0 then (partS op kind.data.toList name.data.toList (vals.map vv) (kids.map opE), b + 1) else walkL (peL kids) (dep + 1) (b + 1) by rw [pe, walkS, ops_pe])
  generalize walkS (pe (.mk op kind name vals kids)) dep b = R at hQ ⊢
  have hO1 := hO.alloc (.cells #[.int .i64 op, .string kind, .string name, .slice va vn vc, .slice ka kn kc] 31)
  have hX1 := Own.new w #[.int .i64 op, .string kind, .string name, .slice va vn vc, .slice ka kn kc] 31
  have hg1 := World.grownBy_alloc w (.cells #[.int .i64 op, .string kind, .string name, .slice va vn vc, .slice ka kn kc] 31) (some g)
  go_enter Tryz.func53, Tryz.ntmps53
  go_upto_region 1 with fail
  generalize w.alloc (.cells #[.int .i64 op, .string kind, .string name, .slice va vn vc, .slice ka kn kc] 31) = w1 at hO1 hX1 hg1 ⊢
  obtain ⟨eb, heb⟩ : ∃ z : Nat, Hid (z = w.heap.size) := ⟨_, Lib.hid rfl⟩
  rw [← heb.out] at hX1 ⊢
  have hge : g < eb := by have := heb.out; omega
  have hT1 := Lib.hid (hT.on hg1)
  replace hs := Lib.hid hs
  replace hv := Lib.hid hv
  replace hk := Lib.hid hk
  replace hL := Lib.hid hL
  replace hE := Lib.hid hE
  replace ih := Lib.hid ih
  clear hT hO
  have c0 := hO1.cell 0
  have f0 := hO1.free 0
  have hl1 := hO1.lt
  simp only [List.getElem?_toArray, List.getElem?_cons_zero] at c0
  by_cases h60 : 60 ≤ b
  · have h60i : (60 : Int) ≤ (b : Int) := by omega
    have hR := Lib.hid (show R = (5, b) by rw [hQ.out, if_pos h60])
    replace hg1 := Lib.hid hg1
    replace hO1 := Lib.hid hO1
    clear h60
    go_wp2
    go_ret
    exact ⟨by rw [hR.out]; rfl, hg1.out, by rw [hR.out]; exact hO1.out⟩
  have h60i : ¬ (60 : Int) ≤ (b : Int) := by omega
  have hw : IntKind.i64.wrap ((b : Int) + 1) = ((b : Int) + 1) := by rw [IntKind.wrap_i64]; omega
  have hO2 := Lib.hid (show Own (w1.setCell ⟨g, 0, none⟩ (.int .i64 ((b : Int) + 1))) g #[.int .i64 ((b : Int) + 1)] 3 from hO1.set 0 _)
  have hX2 := Lib.hid (hX1.setOther (p := ⟨g, 0, none⟩) (by simp; omega) (.int .i64 ((b : Int) + 1)))
  have hg2 := Lib.hid (g_call hg1 (grown_setCell w1 g 0 (.int .i64 ((b : Int) + 1))))
  have hT2 := Lib.hid (hT1.out.on (grown_setCell w1 g 0 (.int .i64 ((b : Int) + 1))))
  go_upto_region 4 with fail
  generalize w1.setCell ⟨g, 0, none⟩ (.int .i64 ((b : Int) + 1)) = w2 at hO2 hX2 hg2 hT2 ⊢
  clear hO1 hX1 hg1 hT1 c0 f0 hl1
  replace hO2 := Lib.hid (show Own w2 g #[.int .i64 ((b + 1 : Nat) : Int)] 3 from hO2.out)
  by_cases h10 : 10 ≤ dep
  · have h10i : (10 : Int) < (dep : Int) + 1 := by omega
    have hR := Lib.hid (show R = (18, b + 1) by rw [hQ.out, if_neg h60, if_pos h10])
    clear h10 hQ
    go_wp2
    go_ret
    exact ⟨by rw [hR.out]; rfl, hg2.out, by rw [hR.out]; exact hO2.out⟩
  have h10i : ¬ (10 : Int) < (dep : Int) + 1 := by omega
  obtain ⟨x0, x1, x2, x3, x4, -⟩ := own5z hX2.out
  go_wp2_with fail
  refine (rpart_any op kind name vals kids va ka vn vc kn kc rows m hv.out hk.out hl hL.out hE.out hkz hnz w2 (but_other hg2.out hs.out) hT2.out.now.1 hT2.out.now.2).mono ?_
  rintro e w3 ⟨rfl, hb⟩
  have hO3 := Lib.hid (hO2.out.below hb hO2.out.lt)
  have hX3 := Lib.hid (hX2.out.below hb hX2.out.lt)
  have hg3 := Lib.hid (g_below hg2.out hb)
  have hT3 := Lib.hid (hT2.out.on (grown_of_below hb (some g)))
  clear hb hO2 hX2 hg2 hT2 x0 x1 x2 x3 x4 h10i
  obtain ⟨X, hX⟩ : ∃ X : Int, Hid (X = if 10 ≤ dep then 18 else partS op kind.data.toList name.data.toList (vals.map vv) (kids.map opE)) := ⟨_, Lib.hid rfl⟩
  rw [show partS op kind.data.toList name.data.toList (vals.map vv) (kids.map opE) = X by rw [hX.out, if_neg h10]]
  by_cases hX0 : X = 0
  case neg =>
    have hR := Lib.hid (show R = (X, b + 1) by
      rw [hQ.out, if_neg h60]
      have h1 := hX.out
      by_cases h10 : 10 ≤ dep
      · rw [if_pos h10] at h1 ⊢; rw [h1]
      · rw [if_neg h10] at h1 ⊢; rw [← h1, if_pos hX0])
    have hXb : (X != 0) = true := by simpa using hX0
    clear hX0
    go_wp2
    go_ret
    exact ⟨by rw [hR.out]; rfl, hg3.out, by rw [hR.out]; exact hO3.out⟩
  have hdep : dep < 10 := by
    rcases Nat.lt_or_ge dep 10 with h | h
    · exact h
    · have h1 := hX.out; rw [if_pos h] at h1; omega
  have hR := Lib.hid (show walkL (peL (kids.drop 0)) (dep + 1) (b + 1) = R by
    have h1 := hX.out
    rw [if_neg (by omega)] at h1
    rw [hQ.out, if_neg h60, if_neg (by omega), if_neg (fun h => h (by rw [← h1]; exact hX0))]
    rfl)
  subst hX0
  have hwd : IntKind.i64.wrap ((dep : Int) + 1 + 1) = (dep : Int) + 1 + 1 := by rw [IntKind.wrap_i64]; omega
  clear hX hQ
  obtain ⟨x0, x1, x2, x3, x4, -⟩ := own5z hX3.out
  have hkn := (len_of hk.out).1
  rw [hl] at hkn
  subst hkn
  have hkm := (len_of hk.out).2
  replace hl := Lib.hid hl
  have hsm : eb < w3.heap.size := hX3.out.lt
  go_wp2_with fail
  go_loopw [8] (fun i wr => ∃ k bk : Nat, k ≤ kids.length ∧ i = .int .i64 k ∧ Hid (Own wr eb #[.int .i64 op, .string kind, .string name, .slice va vn vc, .slice ka kids.length kc] 31) ∧ Hid (w.grownBy wr (some g)) ∧ Hid (Own wr g #[.int .i64 bk] 3) ∧ Hid (TabsBut g wr) ∧ Hid (walkL (peL (kids.drop k)) (dep + 1) bk = R)) (fun i _ => kids.length - (intOf i).toNat)
  case atStart => exact ⟨0, b + 1, Nat.zero_le _, rfl, hX3, hg3, hO3, hT3, hR⟩
  case round =>
    clear x0 x1 x2 x3 x4 hg3 hO3 hT3 hR hX3
    obtain ⟨k, bk, hk1, rfl, hXr, hg, hO, hT, hR⟩ := hrel
    obtain ⟨x0, x1, x2, x3, x4, -⟩ := own5z hXr.out
    by_cases hlt : k < kids.length
    case neg =>
      have hR2 := Lib.hid (walk_end hlt hR.out)
      have n1 : ¬ (k : Int) < (kids.length : Int) := by omega
      go_wp2
      go_ret
      exact ⟨by rw [hR2.out]; rfl, hg.out, by rw [hR2.out]; exact hO.out⟩
    obtain ⟨blk, off, op1, kind1, name1, va1, vn1, vc1, ka1, kn1, kc1, rfl, c0, c1, c2, c3, c4, hr⟩ := kid_at (hk.out.mono (but_other hg.out hs.out)) hl.out (fun j r k h1 h2 => hE.out j r k h1 h2) hlt
    have n0 : (0 : Int) ≤ (k : Int) := by omega
    have n1 : (k : Int) < (kids.length : Int) := by omega
    have hstep := Lib.hid (walk_kid hlt hR.out)
    have hcall := Lib.hid (ih.out k _ kids[k] hr (List.getElem?_eq_getElem hlt))
    generalize kids[k] = kd at hstep hcall
    have hbl : blk < wr.heap.size := World.block_lt_of_cell? wr _ c0
    have hsx := Lib.hid (sub_but_grown hs.out hg.out)
    have hcx := hcall.out (dep + 1) bk g _ (by omega) hsx.out hO.out hT.out
    rw [show ((dep + 1 + 1 : Nat) : Int) = (dep : Int) + 1 + 1 from rfl] at hcx
    replace hcx := Lib.hid hcx
    go_wp2_with fail
    refine hcx.out.mono ?_
    rintro e w5 ⟨rfl, hg5, hO5⟩
    have hg6 := Lib.hid (g_call hg.out hg5)
    have hT6 := Lib.hid (hT.out.on hg5)
    have hX6 := Lib.hid (hXr.out.kept hg5 (by simp; omega))
    replace hO5 := Lib.hid hO5
    clear hg5 c0 c1 c2 c3 c4 hr hsx hcall hcx x0 x1 x2 x3 x4 hXr hg hO hT
    generalize walkS (pe kd) (dep + 1) bk = S at hstep hO5 ⊢
    obtain ⟨s1, s2⟩ := S
    simp only at hstep hO5 ⊢
    by_cases hS : s1 = 0
    case pos =>
      have hR6 := Lib.hid (hstep.out.1 hS)
      subst hS
      clear hstep
      go_wp2
      go_roundw
      case rel => exact ⟨k + 1, s2, by omega, by go_num, hX6, hg6, hO5, hT6, hR6⟩
      case measure => simp [intOf]; omega
    case neg =>
      have hR6 := Lib.hid (hstep.out.2 hS)
      have hSb : (s1 != 0) = true := by simpa using hS
      clear hstep hS
      go_wp2
      go_ret
      exact ⟨by rw [← hR6.out]; rfl, hg6.out, by rw [← hR6.out]; exact hO5.out⟩

/-- The program's check of a condition, part by part. -/
theorem walk_any (m : Mem) (d : ED) (r : List Value) (h : EAt m d r) : NmD d → WalkOk 53 1 m d r := by
  induction h with
  | mk rows hv hk hl hL hE ih =>
    intro hN
    rw [NmD] at hN
    exact walk_step m _ _ _ _ _ _ _ rows hv hk hl hL hE (fun j r k h1 h2 => ih j r k h1 h2 (nmD_mem hN.2.2 (List.mem_of_getElem? h2))) hN.1 hN.2.1

set_option maxRecDepth 100000 in
set_option maxHeartbeats 4000000 in
/-- The program's check of a condition. -/
theorem rshape_any (m : Mem) (d : ED) (r : List Value) (h : EAt m d r) (hN : NmD d) (w : World) (hs : Sub m w.cell?) (hT : Tabs w) (hsp : SpaceTab w) :
    Calls Tryz.prog 26 #[.agg r.toArray] w fun e w' => e = .returned (.int .i64 (formS (pe d))) ∧ Below w.heap.size w w' := by
  obtain ⟨op, kind, name, va, vn, vc, ka, kn, kc, rfl⟩ := eat_five h
  have hB1 : Below w.heap.size w (w.alloc (.cells #[.int .i64 op, .string kind, .string name, .slice va vn vc, .slice ka kn kc] 31)) := (Below.refl _ _).alloc (Nat.le_refl _) _
  have hX1 := Own.new w #[.int .i64 op, .string kind, .string name, .slice va vn vc, .slice ka kn kc] 31
  have hT1 := Lib.hid (hT.below hB1)
  have hsp1 := Lib.hid (show SpaceTab _ from var_below hB1 hsp)
  have hs1 := Lib.hid (hs.trans (sub_of_below hB1))
  replace hB1 := Lib.hid hB1
  have hgo := Lib.hid (walk_any m d _ h hN)
  go_enter Tryz.func26, Tryz.ntmps26
  go_upto_region 1 with fail
  generalize w.alloc (.cells #[.int .i64 op, .string kind, .string name, .slice va vn vc, .slice ka kn kc] 31) = w1 at hB1 hX1 hT1 hsp1 hs1 ⊢
  obtain ⟨eb, heb⟩ : ∃ z : Nat, Hid (z = w.heap.size) := ⟨_, Lib.hid rfl⟩
  rw [← heb.out] at hX1 ⊢
  have hO2 := Lib.hid (Own.new w1 #[.int .i64 0] 3)
  have hX2 := Lib.hid (hX1.alloc (.cells #[.int .i64 0] 3))
  have hT2 := Lib.hid (TabsBut.new hT1.out hsp1.out (.cells #[.int .i64 0] 3))
  have hs2 : Sub m (but w1.heap.size (w1.alloc (.cells #[.int .i64 0] 3))) := fun p v h => by
    have h1 := hs1.out _ _ h
    have hl := World.block_lt_of_cell? w1 p h1
    unfold but
    rw [if_neg (by omega)]
    exact (World.cell?_of_block (Below.heap_alloc w1 _ _ hl)).trans h1
  replace hs2 := Lib.hid hs2
  have hg2 := Lib.hid (World.grownBy_alloc w1 (.cells #[.int .i64 0] 3) none)
  go_upto_region 2 with fail
  generalize w1.alloc (.cells #[.int .i64 0] 3) = w2 at hO2 hX2 hT2 hs2 hg2 ⊢
  obtain ⟨g, hg⟩ : ∃ z : Nat, Hid (z = w1.heap.size) := ⟨_, Lib.hid rfl⟩
  rw [← hg.out] at hO2 hT2 hs2 ⊢
  obtain ⟨x0, x1, x2, x3, x4, -⟩ := own5z hX2.out
  go_wp2_with fail
  refine (show Calls Tryz.prog 53 #[_, .int .i64 1, _] _ _ from hgo.out 0 0 g w2 (by decide) hs2.out hO2.out hT2.out).mono ?_
  rintro e w3 ⟨rfl, hg3, -⟩
  have hF := Lib.hid (show Below w.heap.size w w3 from (hB1.out.grown hg2.out hB1.out.size (fun k e => by cases e)).grown hg3 (by have := hg2.out.size; have := hB1.out.size; omega) (fun k e => by cases e; have := hg.out; have := hB1.out.size; omega))
  clear hg3 x0 x1 x2 x3 x4
  go_wp2
  go_ret
  exact ⟨rfl, hF.out⟩

end Go.Proofs.YtfffpflflggonaaGreatDoor.src

namespace Go.Proofs.YtfffpflflggonaaGreatDoor.src
open Go.Proofs.YtfffpflflggonaaGreatDoor.lex Go.Proofs.YtfffpflflggonaaGreatDoor.value Go.Proofs.YtfffpflflggonaaGreatDoor.text

/-- What is left is an end of what there was. -/
def Sfx {α : Type} (f : List Tok → R α) : Prop := ∀ ts a r, f ts = .ok (a, r) → r <:+ ts
theorem sfx_take (k : Int) : Sfx (takeS k) := fun ts a r h => by
  cases ts with
  | nil => cases h
  | cons t q =>
    rw [takeS] at h
    split at h
    · injection h with h; injection h with h1 h2; subst h2; exact List.suffix_cons _ _
    · cases h
theorem sfx_need (s : List UInt8) : Sfx (needS s) := fun ts a r h => by
  cases ts with
  | nil => cases h
  | cons t q =>
    rw [needS] at h
    split at h
    · injection h with h; injection h with h1 h2; subst h2; exact List.suffix_cons _ _
    · cases h
theorem sfx_choice (l : List (List UInt8)) : Sfx (choiceS l) := fun ts a r h => by
  cases ts with
  | nil => cases h
  | cons t q =>
    rw [choiceS] at h
    split at h
    · injection h with h; injection h with h1 h2; subst h2; exact List.suffix_cons _ _
    · cases h
theorem sfx_texts : ∀ n : Nat, ∀ ts a r, ts.length ≤ n → textsS ts = .ok (a, r) → r <:+ ts
  | 0, ts, a, r, hl, h => by
    obtain rfl : ts = [] := List.eq_nil_of_length_eq_zero (by omega)
    rw [textsS] at h
    cases h
  | n + 1, [], a, r, _, h => by rw [textsS] at h; cases h
  | n + 1, [t], a, r, _, h => by
    rw [textsS] at h
    split at h
    · injection h with h; injection h with h1 h2; subst h2; exact List.suffix_cons _ _
    · cases h
  | n + 1, t :: c :: q, a, r, hl, h => by
    rw [textsS] at h
    split at h
    · split at h
      · obtain ⟨l, r1, h1, h2⟩ := bnd_inv h
        injection h2 with h2; injection h2 with h2 h3; subst h3
        exact (sfx_texts n q l r1 (by simp at hl; omega) h1).trans ((List.suffix_cons c q).trans (List.suffix_cons t _))
      · injection h with h; injection h with h1 h2; subst h2; exact List.suffix_cons _ _
    · cases h
theorem sfx_text : Sfx textsS := fun ts a r h => sfx_texts ts.length ts a r (Nat.le_refl _) h
theorem sfx_value : Sfx valueS := fun ts a r h => by
  cases ts with
  | nil => cases h
  | cons t q =>
    have one : ∀ {v : VV}, (.ok (v, q) : R VV) = .ok (a, r) → r <:+ (t :: q) := fun h => by
      injection h with h; injection h with h1 h2; subst h2; exact List.suffix_cons _ _
    rw [valueS.eq_def] at h
    simp only at h
    split at h
    · exact one h
    split at h
    · exact one h
    split at h
    · exact one h
    split at h
    · exact one h
    split at h
    · exact one h
    split at h
    · split at h
      · cases h
      · split at h
        · obtain ⟨l, r1, h1, h2⟩ := bnd_inv h
          obtain ⟨u, r2, h3, h4⟩ := bnd_inv h2
          injection h4 with h4; injection h4 with h5 h6; subst h6
          exact ((sfx_need _ _ _ _ h3).trans (sfx_text _ _ _ h1)).trans (List.suffix_cons _ _)
        · obtain ⟨u, r2, h3, h4⟩ := bnd_inv h
          injection h4 with h4; injection h4 with h5 h6; subst h6
          exact (sfx_need _ _ _ _ h3).trans (List.suffix_cons _ _)
    · cases h
theorem sfx_valuesF : ∀ f : Nat, Sfx (valuesF f)
  | 0 => fun ts a r h => by cases h
  | f + 1 => fun ts a r h => by
    rw [valuesF] at h
    obtain ⟨v, r1, h1, h2⟩ := bnd_inv h
    have h3 := sfx_value _ _ _ h1
    split at h2
    · injection h2 with h2; injection h2 with h4 h5; subst h5
      exact h3
    · split at h2
      · obtain ⟨l, r2, h4, h5⟩ := bnd_inv h2
        injection h5 with h5; injection h5 with h6 h7; subst h7
        exact ((sfx_valuesF f _ _ _ h4).trans (List.suffix_cons _ _)).trans h3
      · injection h2 with h2; injection h2 with h4 h5; subst h5
        exact h3
theorem sfx_arg (i : Nat) : Sfx (argS i) := fun ts a r h => by
  unfold argS at h
  split at h
  · injection h with h; injection h with h1 h2; subst h2; exact List.suffix_refl _
  split at h
  · obtain ⟨u, r1, h1, h2⟩ := bnd_inv h
    obtain ⟨l, r2, h3, h4⟩ := bnd_inv h2
    obtain ⟨u2, r3, h5, h6⟩ := bnd_inv h4
    injection h6 with h6; injection h6 with h7 h8; subst h8
    exact ((sfx_need _ _ _ _ h5).trans (sfx_valuesF _ _ _ _ h3)).trans (sfx_need _ _ _ _ h1)
  split at h
  · obtain ⟨t, r1, h1, h2⟩ := bnd_inv h
    injection h2 with h2; injection h2 with h3 h4; subst h4
    exact sfx_take _ _ _ _ h1
  · obtain ⟨t, r1, h1, h2⟩ := bnd_inv h
    injection h2 with h2; injection h2 with h3 h4; subst h4
    exact sfx_value _ _ _ h1

def FewT (ts : List Tok) : Prop := ∀ t ∈ ts, t.k = 1 → t.t.length ≤ 30000
theorem FewT.on {ts r : List Tok} (h : FewT ts) (hs : r <:+ ts) : FewT r := fun t ht => h t (hs.subset ht)
theorem few_head {ts r : List Tok} {t : Tok} (h : FewT ts) (ht : takeS 1 ts = .ok (t, r)) : t.t.length ≤ 30000 := by
  cases ts with
  | nil => cases ht
  | cons u q =>
    rw [takeS] at ht
    split at ht
    · rename_i hk
      injection ht with ht; injection ht with h1 h2; subst h1; exact h u (by simp) hk
    · cases ht
mutual
def NmE : PE → Prop
  | .mk _ kind name _ kids => kind.length ≤ 30000 ∧ name.length ≤ 30000 ∧ NmEL kids
def NmEL : List PE → Prop
  | [] => True
  | k :: r => NmE k ∧ NmEL r
end
theorem NmEL.app : ∀ {l q : List PE}, NmEL l → NmEL q → NmEL (l ++ q)
  | [], _, _, h => h
  | a :: l, q, h1, h2 => by rw [NmEL] at h1; exact ⟨h1.1, NmEL.app h1.2 h2⟩
theorem nm_kids : ∀ {x : PE}, NmE x → NmEL x.kids
  | .mk _ _ _ _ _, h => by rw [NmE] at h; exact h.2.2
theorem nm_flat {op : Int} {x : PE} (h : NmE x) : NmEL (flatE op x) := by
  unfold flatE
  split
  · exact nm_kids h
  · exact ⟨h, trivial⟩
/-- What is read has names of that length, and what is left is an end. -/
def GoodN (f : List Tok → R PE) : Prop := ∀ ts x r, FewT ts → f ts = .ok (x, r) → NmE x ∧ r <:+ ts
theorem good_test : GoodN testS := fun ts x r hf h => by
  cases ts with
  | nil => cases h
  | cons t q =>
    rw [testS] at h
    split at h
    · injection h with h; injection h with h1 h2; subst h1; subst h2; exact ⟨⟨by simp, by simp, trivial⟩, List.suffix_cons _ _⟩
    split at h
    · obtain ⟨n, r1, h1, h2⟩ := bnd_inv h
      injection h2 with h2; injection h2 with h3 h4; subst h3; subst h4
      exact ⟨⟨by simp, few_head (hf.on (List.suffix_cons _ _)) h1, trivial⟩, (sfx_take _ _ _ _ h1).trans (List.suffix_cons _ _)⟩
    · obtain ⟨k, r1, h1, h⟩ := bnd_inv h
      obtain ⟨u, r2, h2, h⟩ := bnd_inv h
      obtain ⟨n, r3, h3, h⟩ := bnd_inv h
      obtain ⟨i, r4, h4, h⟩ := bnd_inv h
      obtain ⟨l, r5, h5, h⟩ := bnd_inv h
      injection h with h; injection h with h6 h7; subst h6; subst h7
      have s1 := sfx_take _ _ _ _ h1
      have s2 := (sfx_need _ _ _ _ h2).trans s1
      have s3 := (sfx_take _ _ _ _ h3).trans s2
      exact ⟨⟨few_head hf h1, few_head (hf.on s2) h3, trivial⟩, ((sfx_arg _ _ _ _ h5).trans (sfx_choice _ _ _ _ h4)).trans s3⟩
theorem good_loop {part : List Tok → R PE} (hp : GoodN part) (op : Int) (word : List UInt8) : ∀ (f : Nat) (acc : List PE) (x : PE) (ts : List Tok) (a : PE) (r : List Tok), FewT ts → NmEL acc → NmE x → loopF part op word f acc x ts = .ok (a, r) → NmE a ∧ r <:+ ts
  | 0, acc, x, ts, a, r, _, _, _, h => by cases h
  | f + 1, acc, x, ts, a, r, hf, ha, hx, h => by
    rw [loopF] at h
    split at h
    · obtain ⟨y, r1, h1, h2⟩ := bnd_inv h
      have ht : ts.tail <:+ ts := List.tail_suffix ts
      have h3 := hp _ _ _ (hf.on ht) h1
      have h4 := good_loop hp op word f _ _ _ _ _ ((hf.on ht).on h3.2) (ha.app (nm_flat hx)) h3.1 h2
      exact ⟨h4.1, (h4.2.trans h3.2).trans ht⟩
    · injection h with h; injection h with h1 h2; subst h1; subst h2
      exact ⟨⟨by simp, by simp, ha.app (nm_flat hx)⟩, List.suffix_refl _⟩
theorem good_chain {part : List Tok → R PE} (hp : GoodN part) (op : Int) (word : List UInt8) (f : Nat) : GoodN (chainF part op word f) := fun ts a r hf h => by
  unfold chainF at h
  obtain ⟨x, r1, h1, h2⟩ := bnd_inv h
  have h3 := hp _ _ _ hf h1
  split at h2
  · have h4 := good_loop hp op word f _ _ _ _ _ (hf.on h3.2) (show NmEL [] from trivial) h3.1 h2
    exact ⟨h4.1, h4.2.trans h3.2⟩
  · injection h2 with h2; injection h2 with h4 h5; subst h4; subst h5; exact h3
theorem good_not : ∀ (f o : Nat), GoodN (notF f o)
  | 0, o => fun ts a r _ h => by cases h
  | f + 1, o => fun ts a r hf h => by
    cases ts with
    | nil => cases h
    | cons t q =>
      rw [notF] at h
      split at h
      · split at h
        · cases h
        · obtain ⟨x, r1, h1, h2⟩ := bnd_inv h
          injection h2 with h2; injection h2 with h3 h4; subst h3; subst h4
          have h5 := good_not f (o + 1) _ _ _ (hf.on (List.suffix_cons _ _)) h1
          exact ⟨⟨by simp, by simp, h5.1, trivial⟩, h5.2.trans (List.suffix_cons _ _)⟩
      split at h
      · split at h
        · cases h
        · obtain ⟨x, r1, h1, h2⟩ := bnd_inv h
          obtain ⟨u, r2, h3, h4⟩ := bnd_inv h2
          injection h4 with h4; injection h4 with h5 h6; subst h5; subst h6
          have h7 := good_chain (good_chain (good_not f (o + 1)) 2 sAnd f) 3 sOr f _ _ _ (hf.on (List.suffix_cons _ _)) h1
          exact ⟨h7.1, ((sfx_need _ _ _ _ h3).trans h7.2).trans (List.suffix_cons _ _)⟩
      · exact good_test _ _ _ hf h
theorem few_toks {l : List UInt8} {ts : List Tok} (h : toksS l = .ok ts) : FewT ts := fun t ht hk => by
  obtain ⟨i, e, rfl, he, hi⟩ := toks_good h
  rcases List.mem_append.1 ht with h1 | h1
  · exact (hi t h1).few
  · rw [List.mem_singleton.1 h1, he] at hk
    omega
theorem good_or (f o : Nat) : GoodN (orF f o) := good_chain (good_chain (good_not f o) 2 sAnd f) 3 sOr f

end Go.Proofs.YtfffpflflggonaaGreatDoor.src

namespace Go.Proofs.YtfffpflflggonaaGreatDoor.lex
open Go.RowKit Go.Proofs.YtfffpflflggonaaGreatDoor.text Go.Proofs.YtfffpflflggonaaGreatDoor.value

/-- How far a scan from place a on has come: j bytes. -/
def SpanOff (p : UInt8 → Bool) (l : List UInt8) (a k : Nat) : Prop := a ≤ k ∧ spanN p (l.drop a) = (k - a) + spanN p (l.drop k)
theorem SpanOff.start (p : UInt8 → Bool) (l : List UInt8) (a : Nat) : SpanOff p l a a := ⟨Nat.le_refl _, by simp⟩
theorem SpanOff.next {p : UInt8 → Bool} {s : ByteArray} {a k : Nat} (h : SpanOff p s.data.toList a k) (hk : k < s.size) (hp : p s[k] = true) : SpanOff p s.data.toList a (k + 1) := by
  obtain ⟨h1, h2⟩ := h
  rw [drop_byte s k hk, spanN, if_pos hp] at h2
  exact ⟨by omega, by omega⟩
theorem SpanOff.stop {p : UInt8 → Bool} {s : ByteArray} {a k : Nat} (h : SpanOff p s.data.toList a k) (hk : k < s.size) (hp : p s[k] = false) : k = a + spanN p (s.data.toList.drop a) := by
  obtain ⟨h1, h2⟩ := h
  rw [drop_byte s k hk, spanN, if_neg (by simp [hp])] at h2
  omega
theorem SpanOff.done {p : UInt8 → Bool} {s : ByteArray} {a k : Nat} (h : SpanOff p s.data.toList a k) (hk : ¬ k < s.size) : k = a + spanN p (s.data.toList.drop a) := by
  obtain ⟨h1, h2⟩ := h
  rw [show s.data.toList.drop k = [] from List.drop_eq_nil_of_le (by simp; omega), spanN] at h2
  omega
theorem wordB_dig {c : UInt8} (h : digB c = true) : wordB c = true := by unfold wordB; rw [h]; simp
theorem wordB_45 {c : UInt8} (h : c.toNat = 45) : wordB c = true := by unfold wordB; simp [h]
theorem wordB_95 {c : UInt8} (h : c.toNat = 95) : wordB c = true := by unfold wordB; simp [h]
theorem wordB_no {c : UInt8} (h1 : letB c = false) (h2 : digB c = false) (h3 : c.toNat ≠ 45) (h4 : c.toNat ≠ 95) : wordB c = false := by unfold wordB; rw [h1, h2]; simp [h3, h4]
theorem numB_dig {c : UInt8} (h : digB c = true) : numB c = true := by unfold numB; rw [h]; rfl
theorem numB_46 {c : UInt8} (h : c.toNat = 46) : numB c = true := by unfold numB; simp [h]
theorem numB_no {c : UInt8} (h2 : digB c = false) (h3 : c.toNat ≠ 46) : numB c = false := by unfold numB; rw [h2]; simp [h3]

/-- What number gives. -/
def NumIs (l : List UInt8) (k : Int) (t : ByteArray) (x err : Int) : Prop :=
  ((verS l).isSome = true ∧ k = 4 ∧ t.data.toList = l ∧ x = 0 ∧ err = 0) ∨ ((verS l).isSome = false ∧ k = 2 ∧ t.data.toList = [] ∧ x = (parseS l).1 ∧ err = (parseS l).2)
def NumPost (l : List UInt8) (w : World) (e : Ending) (w' : World) : Prop :=
  ∃ k t x err, e = .returned (.tuple #[.agg #[.int .i64 k, .string t, .int .i64 x, .int .i64 0], .int .i64 err]) ∧ NumIs l k t x err ∧ Below w.heap.size w w'

set_option maxRecDepth 100000 in
set_option maxHeartbeats 4000000 in
theorem number_tok (s : ByteArray) (w : World) (hs : s.size ≤ 30000) (hT : Tabs w) :
    Calls Tryz.prog 114 #[.string s] w (NumPost s.data.toList w) := by
  replace hT := Lib.hid hT
  have hO := Lib.hid (Own.new w #[.int .i64 0, .string ⟨#[]⟩, .int .i64 0, .int .i64 0] 61)
  have hB := Lib.hid ((Below.refl w.heap.size w).alloc (Nat.le_refl _) (.cells #[.int .i64 0, .string ⟨#[]⟩, .int .i64 0, .int .i64 0] 61))
  go_enter Tryz.func114, Tryz.ntmps114
  go_wp2_with fail
  generalize w.alloc (.cells #[.int .i64 0, .string ⟨#[]⟩, .int .i64 0, .int .i64 0] 61) = w0 at hO hB ⊢
  refine (check_ref ⟨4, 0, s.data.toList, []⟩ s none 0 [] _ ⟨rfl, Or.inl rfl, rfl⟩ (by omega) (hT.out.below hB.out)).mono ?_
  rintro e w2 ⟨rfl, hb2⟩
  rw [check_ver]
  have hO2 := Lib.hid (hO.out.below hb2 hO.out.lt)
  have hB2 := Lib.hid (hB.out.trans (hb2.mono hB.out.size))
  clear hb2 hO hB
  obtain ⟨c0, c1, c2, c3, f0, f1, f2, f3⟩ := own4 hO2.out
  cases hv : (verS s.data.toList).isSome with
  | true =>
    have hV := Lib.hid hv
    clear hv
    go_wp2
    refine bodyPost_ret (v := .tuple #[.agg #[.int .i64 4, .string s, .int .i64 0, .int .i64 0], .int .i64 0]) (by simp [results, Tryz.results114, go_sem, c0, c1, c2, c3]) rfl ?_
    exact ⟨_, _, _, _, rfl, Or.inl ⟨hV.out, rfl, rfl, rfl, rfl⟩, (((hB2.out.setCell (by simp) _).setCell (by simp) _).setCell (by simp) _).setCell (by simp) _⟩
  | false =>
    have hV := Lib.hid hv
    clear hv
    go_wp2_with fail
    refine (parse_ref s _ (by unfold maxLen; omega)).mono ?_
    rintro e w3 ⟨rfl, rfl⟩
    unfold parseV
    obtain ⟨x, hx⟩ : ∃ x, Hid (x = (parseS s.data.toList).1) := ⟨_, rfl⟩
    obtain ⟨q, hq⟩ : ∃ q, Hid (q = (parseS s.data.toList).2) := ⟨_, rfl⟩
    rw [← hx.out, ← hq.out]
    go_wp2
    refine bodyPost_ret (v := .tuple #[.agg #[.int .i64 2, .string ⟨#[]⟩, .int .i64 x, .int .i64 0], .int .i64 q]) (by simp [results, Tryz.results114, go_sem, c0, c1, c2, c3]) rfl ?_
    exact ⟨_, _, _, _, rfl, Or.inr ⟨hV.out, rfl, rfl, hx.out, hq.out⟩, (((hB2.out.setCell (by simp) _).setCell (by simp) _).setCell (by simp) _).setCell (by simp) _⟩

theorem NextIs.num {c : UInt8} {r : List UInt8} (h : letB c = false) (hn : numStart c r = true) {t : List UInt8} (ht : (c :: r).take (1 + spanN numB r) = t) {k : Int} {T : ByteArray} {x err : Int} (hN : NumIs t k T x err) (off n : Int) (hnn : n = off + ((1 + spanN numB r : Nat) : Int)) : NextIs (c :: r) off k T x n err := by
  rcases num_ways h hn ht with ⟨hv, hx⟩ | ⟨hv, hp, hx⟩ | ⟨hv, hp, hx⟩
  · rcases hN with ⟨_, h1, h2, h3, h4⟩ | ⟨h0, _⟩
    · rw [h4]; exact NextIs.good hx h1 h2 h3 hnn
    · rw [hv] at h0; cases h0
  · rcases hN with ⟨h0, _⟩ | ⟨_, h1, h2, h3, h4⟩
    · rw [hv] at h0; cases h0
    · rw [h4, hp]; exact NextIs.good hx h1 h2 h3 hnn
  · rcases hN with ⟨h0, _⟩ | ⟨_, h1, h2, h3, h4⟩
    · rw [hv] at h0; cases h0
    · rw [h4]; exact NextIs.bad hx hp _ _ _ _ _

def sgn : ByteArray := ⟨#[123, 125, 40, 41, 91, 93, 44, 46, 60, 62]⟩
theorem sgn_hit {c : UInt8} {j : Nat} (hj : j < sgn.size) (h : (sgn[j].toNat : Int) = (c.toNat : Int)) : signB c = true := by
  have e : sgn[j].toNat = c.toNat := by omega
  unfold signB
  rw [← e]
  have : sgn.size = 10 := rfl
  rcases (show j = 0 ∨ j = 1 ∨ j = 2 ∨ j = 3 ∨ j = 4 ∨ j = 5 ∨ j = 6 ∨ j = 7 ∨ j = 8 ∨ j = 9 by omega) with rfl | rfl | rfl | rfl | rfl | rfl | rfl | rfl | rfl | rfl <;> rfl
theorem sgn_miss {c : UInt8} (h : ∀ j (hj : j < sgn.size), j < 10 → sgn[j].toNat ≠ c.toNat) : signB c = false := by
  have h0 := h 0 (by decide) (by omega)
  have h1 := h 1 (by decide) (by omega)
  have h2 := h 2 (by decide) (by omega)
  have h3 := h 3 (by decide) (by omega)
  have h4 := h 4 (by decide) (by omega)
  have h5 := h 5 (by decide) (by omega)
  have h6 := h 6 (by decide) (by omega)
  have h7 := h 7 (by decide) (by omega)
  have h8 := h 8 (by decide) (by omega)
  have h9 := h 9 (by decide) (by omega)
  replace h0 : 123 ≠ c.toNat := h0
  replace h1 : 125 ≠ c.toNat := h1
  replace h2 : 40 ≠ c.toNat := h2
  replace h3 : 41 ≠ c.toNat := h3
  replace h4 : 91 ≠ c.toNat := h4
  replace h5 : 93 ≠ c.toNat := h5
  replace h6 : 44 ≠ c.toNat := h6
  replace h7 : 46 ≠ c.toNat := h7
  replace h8 : 60 ≠ c.toNat := h8
  replace h9 : 62 ≠ c.toNat := h9
  unfold signB
  simp only [List.contains_eq_mem, decide_eq_false_iff_not]
  simp
  omega

end Go.Proofs.YtfffpflflggonaaGreatDoor.lex
