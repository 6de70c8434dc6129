/- The reference's parser: tokens of a kind, a word or sign that must be there. The reference's parser: conjunctions and disjunctions. The reference's parser: texts. -/
import Derived.Test.YtfffpflflggonaaGreatDoorKS35
import Derived.Test.YtfffpflflggonaaGreatDoorKS34
import Derived.Test.YtfffpflflggonaaGreatDoorKS20
namespace Go.Proofs.YtfffpflflggonaaGreatDoor.src
open Go.RowKit Go.Proofs.YtfffpflflggonaaGreatDoor Go.Proofs.YtfffpflflggonaaGreatDoor.lex Go.Proofs.YtfffpflflggonaaGreatDoor.value Go.Proofs.YtfffpflflggonaaGreatDoor.text Go.Proofs.YtfffpflflggonaaGreatDoor.schema Go.Proofs.YtfffpflflggonaaGreatDoor.draw Go.Proofs.YtfffpflflggonaaGreatDoor.clause

section
variable {M : Mem} {T : List Tok} {tb to' tc : Nat}

set_option maxRecDepth 100000 in
set_option maxHeartbeats 4000000 in
theorem rany_any (hK : TokM M T tb to' tc) (g o : Nat) (w : World) (s : PS) (hM : Sub M (but g w)) (h : RfP T tb to' tc g w o s) (k : Int) (k1 : 1 ≤ k) (k5 : k ≤ 5) :
    Calls Tryz.prog 25 #[.pointer (some ⟨g, 0, none⟩), .int .i64 k] w (Rd g (fun w s => RfP T tb to' tc g w o s) w TokIs (runS s (takeS k))) := by
  have hz := Lib.hid (Own.new w #[.int .i64 0, .string ⟨#[]⟩, .int .i64 0, .int .i64 0] 61)
  have h0 := Lib.hid (h.alloc (.cells #[.int .i64 0, .string ⟨#[]⟩, .int .i64 0, .int .i64 0] 61))
  have hg0 := Lib.hid (World.grownBy_alloc w (.cells #[.int .i64 0, .string ⟨#[]⟩, .int .i64 0, .int .i64 0] 61) (some g))
  have hM0 := Lib.hid (sub_but_grown hM hg0.out)
  have hgl := h.lt
  clear h hM
  go_enter Tryz.func25, Tryz.ntmps25
  go_wp2_with fail
  generalize w.alloc (.cells #[.int .i64 0, .string ⟨#[]⟩, .int .i64 0, .int .i64 0] 61) = w0 at hz h0 hg0 hM0 ⊢
  obtain ⟨gz, hgz⟩ : ∃ z : Nat, Hid (z = w.heap.size) := ⟨_, Lib.hid rfl⟩
  rw [← hgz.out] at hz ⊢
  have hwz : w.heap.size ≤ gz := Nat.le_of_eq hgz.out.symm
  obtain ⟨p, q, L, hp, hO, hs⟩ := h0.out
  refine (rpeek_at hK g o _ hM0.out hp hO).mono ?_
  rintro e w1 ⟨rfl, hb⟩
  rw [row_arr]
  obtain ⟨t, ht⟩ : ∃ t, Hid (t = T[p]) := ⟨_, Lib.hid rfl⟩
  rw [← ht.out]
  have hba : Below w0.heap.size w0 (w1.alloc (.cells #[.int .i64 t.k, .string ⟨t.t.toArray⟩, .int .i64 t.n, .int .i64 t.line] 61)) := hb.alloc hb.size _
  have hO2 := Lib.hid (hO.below hba hO.lt)
  have hz2 := Lib.hid (hz.out.below hba hz.out.lt)
  have ht2 := Lib.hid (Own.new w1 #[.int .i64 t.k, .string ⟨t.t.toArray⟩, .int .i64 t.n, .int .i64 t.line] 61)
  have hg2 := Lib.hid (g_below hg0.out hba)
  have hzl : gz < w1.heap.size := Nat.lt_of_lt_of_le hz.out.lt hb.size
  clear hba hb h0 hz hM0 hg0 hO
  go_upto_region 2 with fail
  generalize w1.alloc (.cells #[.int .i64 t.k, .string ⟨t.t.toArray⟩, .int .i64 t.n, .int .i64 t.line] 61) = w2 at hO2 hz2 ht2 hg2 ⊢
  obtain ⟨gt, hgt⟩ : ∃ z : Nat, Hid (z = w1.heap.size) := ⟨_, Lib.hid rfl⟩
  rw [← hgt.out] at ht2 hzl ⊢
  have hgg : g < gt := by omega
  obtain ⟨t0, t1, t2, t3, -⟩ := own4z ht2.out
  have c1 := hO2.out.cell 1
  have c3 := hO2.out.cell 3
  have hl2 := hO2.out.lt
  simp only [List.getElem?_toArray, List.getElem?_cons_succ, List.getElem?_cons_zero] at c1 c3
  cases s with
  | error e =>
    obtain ⟨rfl, hq⟩ := hs
    have hq1 : (q == 0) = false := by simpa using hq
    have hq2 : (q != 0) = true := by simpa using hq
    have hP2 : RfP T tb to' tc g w2 o (.error (q, L)) := ⟨p, q, L, hp, hO2.out, rfl, hq⟩
    obtain ⟨z0, z1, z2, z3, f0, f1, f2, f3⟩ := own4z hz2.out
    have hzl' := hz2.out.lt
    have hRB := RdF.mk' (B := gz) (St := fun w s => RfP T tb to' tc g w o s) hg2.out hP2 hgl hwz
    have hF := Lib.hid (hRB.set4 (q := gz) (Nat.le_refl _) (.int .i64 0) (.string ⟨#[]⟩) (.int .i64 0) (.int .i64 0))
    clear hq hRB hP2
    go_wp2
    refine bodyPost_ret (v := .agg #[.int .i64 0, .string ⟨#[]⟩, .int .i64 0, .int .i64 0]) (by simp [results, Tryz.results25, go_sem, *]) rfl ?_
    exact Rd.err hF.out.grown hF.out.st zeroT ⟨rfl, by decide⟩
  | ok ts =>
    obtain ⟨rfl, rfl, rfl⟩ := hs
    have hP2 := Lib.hid (show RfP T tb to' tc g w2 o (.ok (T.drop p)) from ⟨p, 0, 0, hp, hO2.out, rfl, rfl, rfl⟩)
    by_cases hk : t.k = k
    case neg =>
      have hkn : (t.k != k) = true := by simpa using hk
      have hr := Lib.hid (show runS (.ok (T.drop p)) (takeS k) = .error (1, t.line) by rw [runS_ok, drop_at hp, takeS, ← ht.out, if_neg hk])
      clear hk
      go_wp2_with fail
      rw [← row_arr]
      refine (rfail_any g o _ _ hP2.out t 1 (by decide)).mono ?_
      rintro e w3 ⟨rfl, hg, hP⟩
      have hz3 := hz2.out.kept hg (by simp; omega)
      obtain ⟨p', q', L', hp', hO3, he, hq'⟩ := hP
      have hq1 : q' = 1 := by injection he with h1 h2; exact h1.symm
      subst hq1
      have hP3 : RfP T tb to' tc g w3 o (.error (1, t.line)) := ⟨p', 1, L', hp', hO3, he, hq'⟩
      have d3 := hO3.cell 3
      have hl3 := hO3.lt
      simp only [List.getElem?_toArray, List.getElem?_cons_succ, List.getElem?_cons_zero] at d3
      obtain ⟨z0, z1, z2, z3, f0, f1, f2, f3⟩ := own4z hz3
      have hgz3 := hz3.lt
      have hRB := RdF.mk' (B := gz) (St := fun w s => RfP T tb to' tc g w o s) (g_call hg2.out hg) hP3 hgl hwz
      have hF := Lib.hid (hRB.set4 (q := gz) (Nat.le_refl _) (.int .i64 0) (.string ⟨#[]⟩) (.int .i64 0) (.int .i64 0))
      clear hg hP3 hz3 hRB hO3 he
      go_wp2
      refine bodyPost_ret (v := .agg #[.int .i64 0, .string ⟨#[]⟩, .int .i64 0, .int .i64 0]) (by simp [results, Tryz.results25, go_sem, *]) rfl ?_
      rw [hr.out]
      exact Rd.err hF.out.grown hF.out.st zeroT ⟨rfl, by decide⟩
    case pos =>
      have hp1 : p + 1 < T.length := by
        rcases hK.ok _ hp with h1 | h1
        · exact h1.1
        · exfalso; have := ht.out; rw [this, h1.2] at hk; omega
      have hft : t.t.length ≤ 30000 := by
        rcases hK.ok _ hp with h1 | h1
        · rw [ht.out]; exact h1.2.few
        · exfalso; have := ht.out; rw [this, h1.2] at hk; omega
      have hkf : (t.k != k) = false := by simpa using hk
      have hr := Lib.hid (show runS (.ok (T.drop p)) (takeS k) = .ok (t, T.drop (p + 1)) by rw [runS_ok, drop_at hp, takeS, ← ht.out, if_pos hk])
      have hw : IntKind.i64.wrap ((p : Int) + 1) = (p : Int) + 1 := by have := hK.few; rw [IntKind.wrap_i64]; omega
      have hgz' : g ≠ gz := by omega
      have hP3 : RfP T tb to' tc g (w2.setCell ⟨g, 1, none⟩ (.int .i64 ((p : Int) + 1))) o (.ok (T.drop (p + 1))) := ⟨p + 1, 0, 0, hp1, (by have := hO2.out.set 1 (.int .i64 ((p : Int) + 1)); simpa using this), rfl, rfl, rfl⟩
      have hz3 := Lib.hid (hz2.out.setOther (p := ⟨g, 1, none⟩) (by simpa using hgz'.symm) (.int .i64 ((p : Int) + 1)))
      have ht3 := Lib.hid (ht2.out.setOther (p := ⟨g, 1, none⟩) (by simp; omega) (.int .i64 ((p : Int) + 1)))
      have hRB := Lib.hid (RdF.mk' (B := gz) (St := fun w s => RfP T tb to' tc g w o s) (g_call hg2.out (grown_setCell w2 g 1 (.int .i64 ((p : Int) + 1)))) hP3 hgl hwz)
      have f1 := hO2.out.free 1
      replace hk := Lib.hid hk
      clear hP3 hP2
      go_upto_region 7 with fail
      generalize w2.setCell ⟨g, 1, none⟩ (.int .i64 ((p : Int) + 1)) = w3 at hz3 ht3 hRB ⊢
      clear t0 t1 t2 t3 c1 c3 f1
      obtain ⟨z0, z1, z2, z3, f0, f1, f2, f3⟩ := own4z hz3.out
      obtain ⟨t0, t1, t2, t3, -⟩ := own4z ht3.out
      have hgz3 := hz3.out.lt
      have hF := Lib.hid (hRB.out.set4 (q := gz) (Nat.le_refl _) (.int .i64 t.k) (.string ⟨t.t.toArray⟩) (.int .i64 t.n) (.int .i64 t.line))
      go_wp2
      refine bodyPost_ret (v := .agg #[.int .i64 t.k, .string ⟨t.t.toArray⟩, .int .i64 t.n, .int .i64 t.line]) (by simp [results, Tryz.results25, go_sem, *]) rfl ?_
      rw [hr.out]
      exact Rd.ok hF.out.grown hF.out.st ⟨rfl, hft⟩

set_option maxRecDepth 100000 in
set_option maxHeartbeats 2000000 in
theorem rword_any (hK : TokM M T tb to' tc) (g o : Nat) (w : World) (s : PS) (hM : Sub M (but g w)) (h : RfP T tb to' tc g w o s) :
    Calls Tryz.prog 269 #[.pointer (some ⟨g, 0, none⟩)] w (Rd g (fun w s => RfP T tb to' tc g w o s) w StrIs (runS s (takeS 1))) := by
  go_enter Tryz.func269, Tryz.ntmps269
  go_wp2_with fail
  refine (rany_any hK g o _ s hM h 1 (by decide) (by decide)).mono ?_
  rintro e w1 hr
  obtain ⟨t, rfl, -⟩ := hr.tok
  have hQ := Lib.hid (hr.turn (Q := StrIs) (e' := .returned (.string ⟨t.t.toArray⟩)) fun a ha => by rw [tok_inj ha.1]; exact ⟨rfl, ha.2⟩)
  have hfd := field_tok1 t.k t.n t.line ⟨t.t.toArray⟩
  clear hr
  go_wp2
  go_ret
  exact hQ.out

set_option maxRecDepth 100000 in
set_option maxHeartbeats 2000000 in
theorem rtext_any (hK : TokM M T tb to' tc) (g o : Nat) (w : World) (s : PS) (hM : Sub M (but g w)) (h : RfP T tb to' tc g w o s) :
    Calls Tryz.prog 271 #[.pointer (some ⟨g, 0, none⟩)] w (Rd g (fun w s => RfP T tb to' tc g w o s) w StrIs (runS s (takeS 3))) := by
  go_enter Tryz.func271, Tryz.ntmps271
  go_wp2_with fail
  refine (rany_any hK g o _ s hM h 3 (by decide) (by decide)).mono ?_
  rintro e w1 hr
  obtain ⟨t, rfl, -⟩ := hr.tok
  have hQ := Lib.hid (hr.turn (Q := StrIs) (e' := .returned (.string ⟨t.t.toArray⟩)) fun a ha => by rw [tok_inj ha.1]; exact ⟨rfl, ha.2⟩)
  have hfd := field_tok1 t.k t.n t.line ⟨t.t.toArray⟩
  clear hr
  go_wp2
  go_ret
  exact hQ.out

set_option maxRecDepth 100000 in
set_option maxHeartbeats 2000000 in
theorem rnumber_any (hK : TokM M T tb to' tc) (g o : Nat) (w : World) (s : PS) (hM : Sub M (but g w)) (h : RfP T tb to' tc g w o s) :
    Calls Tryz.prog 301 #[.pointer (some ⟨g, 0, none⟩)] w (Rd g (fun w s => RfP T tb to' tc g w o s) w NumIs (runS s (takeS 2))) := by
  go_enter Tryz.func301, Tryz.ntmps301
  go_wp2_with fail
  refine (rany_any hK g o _ s hM h 2 (by decide) (by decide)).mono ?_
  rintro e w1 hr
  obtain ⟨t, rfl, -⟩ := hr.tok
  have hQ := Lib.hid (hr.turn (Q := NumIs) (e' := .returned (.int .i64 t.n)) fun a ha => by rw [tok_inj ha.1]; rfl)
  have hfd := field_tok2 t.k t.n t.line ⟨t.t.toArray⟩
  clear hr
  go_wp2
  go_ret
  exact hQ.out

/-- One sign that must be there. -/
theorem need_way {s : PS} {x : List UInt8} (hne : ∀ ts, s = .ok ts → ts ≠ []) (hx : isP x s = false) {t : Tok} (ht : HdT s t) : aft (runS s (needS x)) = failP s t 1 ∧ ∀ a q, runS s (needS x) ≠ .ok (a, q) := by
  cases s with
  | error e => exact ⟨rfl, fun a q h => by cases h⟩
  | ok ts =>
    obtain ⟨r, rfl⟩ := ht ts rfl
    have e1 : needS x (t :: r) = .error (1, t.line) := by rw [needS, if_neg (by rw [show isT x t = false from hx]; decide)]
    rw [runS_ok, e1]
    exact ⟨rfl, fun a q h => by cases h⟩
theorem need_yes {s : PS} {x : List UInt8} (hx : isP x s = true) : ∃ ts, s = .ok ts ∧ runS s (needS x) = .ok ((), ts.tail) ∧ pastP x s = .ok ts.tail := by
  cases s with
  | error e => cases hx
  | ok ts =>
    cases ts with
    | nil => cases hx
    | cons t r => exact ⟨_, rfl, by rw [runS_ok, needS]; exact if_pos hx, if_pos hx⟩

set_option maxRecDepth 100000 in
set_option maxHeartbeats 4000000 in
theorem rneed_any (hK : TokM M T tb to' tc) (g o : Nat) (w : World) (s : PS) (hM : Sub M (but g w)) (h : RfP T tb to' tc g w o s) (x : ByteArray) (hsx : signL x.data.toList) (lb c : Nat) (hL : w.cell? ⟨lb, 0, none⟩ = some (.string x)) (hlb : lb ≠ g) :
    Calls Tryz.prog 195 #[.pointer (some ⟨g, 0, none⟩), .slice (some ⟨lb, 0, none⟩) 1 c] w (Rd g (fun w s => RfP T tb to' tc g w o s) w NoneIs (runS s (needS x.data.toList))) := by
  have hkd : KdOf 5 x.data.toList := Or.inr ⟨rfl, hsx⟩
  replace hM := Lib.hid hM
  replace hL := Lib.hid hL
  have h0 := Lib.hid h
  clear h
  go_enter Tryz.func195, Tryz.ntmps195
  go_wp2
  go_loopw [4] (fun s4 wr => (s4 = .int .i64 0 ∧ Hid (w.grownBy wr (some g)) ∧ Hid (RfP T tb to' tc g wr o s)) ∨ (s4 = .int .i64 1 ∧ Hid (Rd g (fun w s => RfP T tb to' tc g w o s) w NoneIs (runS s (needS x.data.toList)) (.returned (.tuple #[])) wr))) (fun s4 _ => 1 - (intOf s4).toNat)
  case atStart => exact Or.inl ⟨rfl, Lib.hid (grown_refl _ _), h0⟩
  case round =>
    rcases hrel with ⟨rfl, hg, hP⟩ | ⟨rfl, hR⟩
    case inr =>
      go_wp2
      first | go_end0 | refine bodyPost_ret (results_none rfl _ _ _) rfl ?_
      exact hR.out
    have hLr : wr.cell? ⟨lb, 0, none⟩ = some (.string x) := hg.out.cell hL.out (by simpa using hlb)
    clear h0
    go_wp2_with fail
    refine (rtake_no hK g o _ s (sub_but_grown hM.out hg.out) hP.out x hsx).mono ?_
    rintro e w2 ⟨rfl, hg2, hP2⟩
    have hL2 : w2.cell? ⟨lb, 0, none⟩ = some (.string x) := hg2.cell hLr (by simpa using hlb)
    have hgw2 := Lib.hid (g_call hg.out hg2)
    replace hP2 := Lib.hid hP2
    clear hg hg2 hP hLr
    go_wp2_with fail
    refine (rtake_any hK g o _ s (sub_but_grown hM.out hgw2.out) hP2.out 5 x hkd).mono ?_
    rintro e w3 ⟨rfl, hg3, hP3⟩
    have hgw3 := Lib.hid (g_call hgw2.out hg3)
    cases hx : isP x.data.toList s with
    | true =>
      have hQ := Lib.hid (show Rd g (fun w s => RfP T tb to' tc g w o s) w NoneIs (runS s (needS x.data.toList)) (.returned (.tuple #[])) w3 by
        obtain ⟨ts, rfl, h1, h2⟩ := need_yes hx
        rw [h1]
        rw [h2] at hP3
        exact Rd.ok hgw3.out hP3 rfl)
      clear hP3 hx hg3 hL2 hgw2 hP2
      go_wp2
      go_roundw
      case rel => exact Or.inr ⟨rfl, hQ⟩
      case measure => simp [intOf]
    | false =>
      rw [pastP_no hx] at hP3
      have hne : ∀ ts, s = .ok ts → ts ≠ [] := fun ts e => by subst e; exact hP3.ne
      replace hP3 := Lib.hid hP3
      replace hne := Lib.hid hne
      replace hx := Lib.hid hx
      clear hg3 hL2 hgw2 hP2
      go_wp2_with fail
      refine (rpeek_any hK g o _ s (sub_but_grown hM.out hgw3.out) hP3.out).mono ?_
      rintro e w4 ⟨⟨t, rfl, ht, -⟩, hb⟩
      have hP4 := Lib.hid (hP3.out.below hb)
      have hgw4 := Lib.hid (g_below hgw3.out hb)
      replace ht := Lib.hid ht
      clear hb hP3 hgw3
      go_wp2_with fail
      rw [← row_arr]
      refine (rfail_any g o _ s hP4.out t 1 (by decide)).mono ?_
      rintro e w5 ⟨rfl, hg5, hP5⟩
      have hQ := Lib.hid (show Rd g (fun w s => RfP T tb to' tc g w o s) w NoneIs (runS s (needS x.data.toList)) (.returned (.tuple #[])) w5 by
        obtain ⟨h1, h2⟩ := need_way hne.out hx.out ht.out
        refine Rd.fin (g_call hgw4.out hg5) (by rw [h1]; exact hP5) (fun c q hc => absurd hc (h2 c q)) ⟨(), rfl⟩)
      clear hP5 hg5
      go_wp2
      go_roundw
      case rel => exact Or.inr ⟨rfl, hQ⟩
      case measure => simp [intOf]

end
end Go.Proofs.YtfffpflflggonaaGreatDoor.src

namespace Go.Proofs.YtfffpflflggonaaGreatDoor.src
open Go.RowKit Go.Proofs.YtfffpflflggonaaGreatDoor Go.Proofs.YtfffpflflggonaaGreatDoor.lex Go.Proofs.YtfffpflflggonaaGreatDoor.value Go.Proofs.YtfffpflflggonaaGreatDoor.text Go.Proofs.YtfffpflflggonaaGreatDoor.schema Go.Proofs.YtfffpflflggonaaGreatDoor.draw Go.Proofs.YtfffpflflggonaaGreatDoor.clause

/-- All parts with a word between them. -/
def loopL (part : List Tok → R PE) (word : List UInt8) : Nat → List PE → List Tok → R (List PE)
  | 0, _, _ => .error (1, 0)
  | f + 1, acc, r => if isN word r then bnd (part r.tail) fun y r' => loopL part word f (acc ++ [y]) r' else .ok (acc, r)
def joinR (part : List Tok → R PE) (op : Int) (word : List UInt8) (f : Nat) (acc : List PE) (r : List Tok) : R PE := bnd (loopL part word f acc r) fun l r' => .ok (joinE op l, r')
theorem flatL_snoc (op : Int) (l : List PE) (x : PE) : flatL op (l ++ [x]) = flatL op l ++ flatE op x := by unfold flatL; rw [List.flatMap_append]; simp
theorem loop_eq (part : List Tok → R PE) (op : Int) (word : List UInt8) : ∀ (f : Nat) (l : List PE) (x : PE) (r : List Tok), loopF part op word f (flatL op l) x r = bnd (loopL part word f (l ++ [x]) r) fun l' r' => .ok (.mk op [] [] [] (flatL op l'), r')
  | 0, l, x, r => rfl
  | f + 1, l, x, r => by
    rw [loopF, loopL]
    split
    · cases hp : part r.tail with
      | error e => rfl
      | ok v =>
        show loopF part op word f (flatL op l ++ flatE op x) v.1 v.2 = bnd (loopL part word f (l ++ [x] ++ [v.1]) v.2) _
        rw [← flatL_snoc, loop_eq part op word f (l ++ [x]) v.1 v.2]
    · rw [bnd_ok, flatL_snoc]
theorem loop_more (part : List Tok → R PE) (word : List UInt8) : ∀ (f : Nat) (acc : List PE) (r : List Tok) (l : List PE) (r' : List Tok), loopL part word f acc r = .ok (l, r') → acc.length ≤ l.length
  | 0, acc, r, l, r', h => by cases h
  | f + 1, acc, r, l, r', h => by
    rw [loopL] at h
    split at h
    · obtain ⟨y, r1, h1, h2⟩ := bnd_inv h
      have := loop_more part word f _ _ _ _ h2
      rw [List.length_append] at this
      omega
    · injection h with h
      injection h with h h3
      rw [h]
      exact Nat.le_refl _
theorem join_two (op : Int) {l : List PE} (h : 2 ≤ l.length) : joinE op l = .mk op [] [] [] (flatL op l) := by
  match l, h with
  | x :: y :: r, _ => rfl
theorem chain_join (part : List Tok → R PE) (op : Int) (word : List UInt8) (f : Nat) (x : PE) (r : List Tok) : (if isN word r then loopF part op word (f + 1) [] x r else .ok (x, r)) = joinR part op word (f + 1) [x] r := by
  unfold joinR
  by_cases hx : isN word r = true
  · rw [if_pos hx]
    show loopF part op word (f + 1) (flatL op []) x r = _
    rw [loop_eq, List.nil_append]
    cases hl : loopL part word (f + 1) [x] r with
    | error e => rfl
    | ok v =>
      show _ = Except.ok (joinE op v.1, v.2)
      have h2 : 2 ≤ v.1.length := by
        rw [loopL, if_pos hx] at hl
        obtain ⟨y, r1, h1, h3⟩ := bnd_inv (show _ = Except.ok (v.1, v.2) from hl)
        have := loop_more part word f _ _ _ _ h3
        simpa using this
      rw [join_two op h2]
      rfl
  · rw [if_neg hx, loopL, if_neg hx, bnd_ok]
    rfl

theorem kd_and : KdOf 1 (⟨#[97, 110, 100]⟩ : ByteArray).data.toList := Or.inl ⟨rfl, 97, [110, 100], rfl, by decide⟩
section
variable {M : Mem} {T : List Tok} {tb to' tc : Nat}

set_option maxRecDepth 100000 in
set_option maxHeartbeats 16000000 in
theorem rand_any (hK : TokM M T tb to' tc) (g o f K : Nat) (hKb : K ≤ 3900000000) (part : List Tok → R PE) (hsh : Shr part) (hkid : Kid part)
    (hpart : ∀ (w : World) (s : PS), Sub M (but g w) → RfP T tb to' tc g w o s → lenP s ≤ f → Calls Tryz.prog 117 #[.pointer (some ⟨g, 0, none⟩)] w (Rd g (fun w s => RfP T tb to' tc g w o s) w (ExIs w.heap.size g K) (runS s part)))
    (w : World) (s : PS) (hM : Sub M (but g w)) (h : RfP T tb to' tc g w o s) (hl : lenP s ≤ f) :
    Calls Tryz.prog 48 #[.pointer (some ⟨g, 0, none⟩)] w (Rd g (fun w s => RfP T tb to' tc g w o s) w (ExIs w.heap.size g (60003 + K)) (runS s (chainF part 2 sAnd f))) := by
  have hgl := h.lt
  have hlen : lenP s ≤ 30001 := by rw [← h.left]; unfold leftR; have := hK.few; split <;> omega
  have hne : ∀ ts, s = .ok ts → ts ≠ [] := fun ts e => by subst e; exact h.ne
  have hz := Lib.hid (Own.new w #[.int .i64 0, .string ⟨#[]⟩, .string ⟨#[]⟩, .slice none 0 0, .slice none 0 0] 31)
  have h0 := Lib.hid (h.alloc (.cells #[.int .i64 0, .string ⟨#[]⟩, .string ⟨#[]⟩, .slice none 0 0, .slice none 0 0] 31))
  have hg0 := Lib.hid (World.grownBy_alloc w (.cells #[.int .i64 0, .string ⟨#[]⟩, .string ⟨#[]⟩, .slice none 0 0, .slice none 0 0] 31) (some g))
  have hMw := Lib.hid hM
  have hpart' := Lib.hid hpart
  clear h hM hpart
  go_enter Tryz.func48, Tryz.ntmps48
  go_wp2_with fail
  generalize w.alloc (.cells #[.int .i64 0, .string ⟨#[]⟩, .string ⟨#[]⟩, .slice none 0 0, .slice none 0 0] 31) = w0 at hz h0 hg0 ⊢
  obtain ⟨gz, hgz⟩ : ∃ z : Nat, Hid (z = w.heap.size) := ⟨_, Lib.hid rfl⟩
  rw [← hgz.out] at hz ⊢
  have hwz : w.heap.size ≤ gz := Nat.le_of_eq hgz.out.symm
  have hzB : gz < w0.heap.size := hz.out.lt
  obtain ⟨B, hB⟩ : ∃ z : Nat, Hid (z = w0.heap.size) := ⟨_, Lib.hid rfl⟩
  refine (hpart'.out _ s (sub_but_grown hMw.out hg0.out) h0.out hl).mono ?_
  rintro e w1 hr
  obtain ⟨x, o1, kd, nm, va, vn, vc, ka, kn, kc, rfl, hX, hxk, hxb⟩ := hr.ex
  obtain ⟨r0, hr0⟩ : ∃ r, Hid (r = runS s (chainF part 2 sAnd f)) := ⟨_, Lib.hid rfl⟩
  have hrr := Lib.hid (show r0 = runS (aft (runS s part)) (joinR part 2 sAnd f [x]) by
    rw [hr0.out]
    cases s with
    | error e => rfl
    | ok ts =>
      have hf : 0 < f := by
        have h1 : ts.length ≤ f := hl
        have h2 := hne ts rfl
        have h3 : ts.length ≠ 0 := fun e => h2 (List.eq_nil_of_length_eq_zero e)
        omega
      obtain ⟨f', rfl⟩ : ∃ f', f = f' + 1 := ⟨f - 1, by omega⟩
      show chainF part 2 sAnd (f' + 1) ts = runS (aft (part ts)) _
      rw [chainF]
      cases hp : part ts with
      | error e => rfl
      | ok v =>
        have e1 : x = v.1 := hxb v.1 v.2 (by rw [runS_ok, hp])
        rw [show (Except.ok v : R PE) = .ok (v.1, v.2) from rfl, bnd_ok, ← e1, chain_join]
        rfl)
  have hbd := Lib.hid (show ([x] : List PE).length ≤ 30001 ∧ (flatL 2 [x]).length ≤ 60003 + K ∧ (joinE 2 [x]).kids.length ≤ 60003 + K ∧ lenP (aft (runS s part)) ≤ f ∧ ∀ ts, aft (runS s part) = .ok ts → ([x] : List PE).length + ts.length ≤ 30001 ∧ (flatL 2 [x]).length + ts.length ≤ 30001 from by
    have hfx : flatL 2 [x] = flatE 2 x := by unfold flatL; simp
    have hfl : (flatE 2 x).length ≤ 1 + x.kids.length := by unfold flatE; split <;> simp
    refine ⟨by simp, by rw [hfx]; omega, (show x.kids.length ≤ _ by omega), ?_, fun ts hts => ?_⟩
    · cases s with
      | error e => exact Nat.zero_le _
      | ok us =>
        show lenP (aft (part us)) ≤ f
        have h4 : us.length ≤ f := hl
        cases hp : part us with
        | error e => exact Nat.zero_le _
        | ok v =>
          have h1 := hsh _ _ _ (show part us = .ok (v.1, v.2) from hp)
          show v.2.length ≤ f
          omega
    · cases s with
      | error e => cases hts
      | ok us =>
        have hts' : aft (part us) = .ok ts := hts
        have h3 : us.length ≤ 30001 := hlen
        cases hp : part us with
        | error e => rw [hp] at hts'; cases hts'
        | ok v =>
          rw [hp] at hts'
          injection hts' with hts'
          have e1 : x = v.1 := hxb v.1 v.2 (by rw [runS_ok, hp])
          have h1 := hsh _ _ _ (show part us = .ok (v.1, v.2) from hp)
          have h2 := flat_len (op := 2) (hkid _ _ _ (show part us = .ok (v.1, v.2) from hp)) h1
          rw [hfx, ← hts', e1]
          simp only [List.length_singleton]
          omega)
  have hP1 : RfP T tb to' tc g w1 o (aft (runS s part)) := hr.2.1
  have hz1' := hz.out.kept hr.1 (by simp; omega)
  have hsz1 : w0.heap.size ≤ w1.heap.size := hr.1.size
  have hg1 := g_call hg0.out hr.1
  have hal := World.grownBy_alloc w1 (.cells #[.int .i64 o1, .string kd, .string nm, .slice va vn vc, .slice ka kn kc] 31) none
  have hg2 := Lib.hid (g_call hg1 (World.grownBy_alloc w1 (.cells #[.int .i64 o1, .string kd, .string nm, .slice va vn vc, .slice ka kn kc] 31) (some g)))
  have hP2 := Lib.hid (hP1.alloc (.cells #[.int .i64 o1, .string kd, .string nm, .slice va vn vc, .slice ka kn kc] 31))
  have hz2 := Lib.hid (hz1'.alloc (.cells #[.int .i64 o1, .string kd, .string nm, .slice va vn vc, .slice ka kn kc] 31))
  have hR2 := Lib.hid (ro_one (e := 31) (sz := 5) (B := B) w1 #[.int .i64 o1, .string kd, .string nm, .slice va vn vc, .slice ka kn kc] (by rw [hB.out]; exact hsz1) rfl)
  have hA2 : Hid (KidsAt (nexK B g g (.slice (some ⟨w1.heap.size, 0, none⟩) 1 1) _) [x] [[Value.int .i64 o1, .string kd, .string nm, .slice va vn vc, .slice ka kn kc]]) := Lib.hid (KidsAt.one (hX.mono (by
    rw [← hB.out]
    exact nex_new hal (fun k e => by cases e) (fun k hk => by
      simp [Value.ownBlock] at hk
      rcases hk with rfl | rfl
      · exact Or.inl (by simp)
      · exact Or.inr (Or.inl (Nat.le_refl _))))))
  have hgB : g < B := by have := hB.out; omega
  have hBz := Lib.hid (show B ≤ (w1.alloc (.cells #[.int .i64 o1, .string kd, .string nm, .slice va vn vc, .slice ka kn kc] 31)).heap.size by rw [World.size_alloc]; have := hB.out; omega)
  have hzB' : gz < B := by have := hB.out; omega
  have hwB : w.heap.size ≤ B := by have := hB.out; omega
  clear hr hX hxk hxb hP1 hz1' hsz1 hg1 hal h0 hz hg0 hzB
  generalize aft (runS s part) = s1 at hrr hbd hP2
  go_wp2
  go_loopw [3] (fun s3 wr => ∃ (s' : PS) (acc : List PE) (rows : List (List Value)) (va : Option Addr) (vc f' : Nat), s3 = .slice va rows.length vc ∧ 1 ≤ acc.length ∧ Hid (RO 31 5 B (.slice va rows.length vc) rows wr) ∧ Hid (KidsAt (nexK B g g (.slice va rows.length vc) wr) acc rows) ∧ Hid (w.grownBy wr (some g)) ∧ Hid (RfP T tb to' tc g wr o s') ∧ Hid (Own wr gz #[.int .i64 0, .string ⟨#[]⟩, .string ⟨#[]⟩, .slice none 0 0, .slice none 0 0] 31) ∧ Hid (B ≤ wr.heap.size) ∧
    Hid (r0 = runS s' (joinR part 2 sAnd f' acc)) ∧ Hid (lenP s' ≤ f') ∧ Hid (acc.length ≤ 30001 ∧ (flatL 2 acc).length ≤ 60003 + K ∧ (joinE 2 acc).kids.length ≤ 60003 + K ∧ lenP s' ≤ f ∧ ∀ ts, s' = .ok ts → acc.length + ts.length ≤ 30001 ∧ (flatL 2 acc).length + ts.length ≤ 30001)) (fun _ wr => leftR T.length g wr)
  case atStart => exact ⟨s1, [x], [[Value.int .i64 o1, .string kd, .string nm, .slice va vn vc, .slice ka kn kc]], _, _, f, rfl, by simp, hR2, hA2, hg2, hP2, hz2, hBz, hrr, Lib.hid hbd.out.2.2.2.1, hbd⟩
  case round =>
    clear hR2 hA2 hg2 hP2 hz2 hrr hbd
    obtain ⟨s', acc, rows, va, vc, f', rfl, hacc1, hR, hA, hg, hP, hz, hBs, hrr, hlf', hbd⟩ := hrel
    have hgl' := hP.out.lt
    go_wp2_with fail
    refine (rtake_any hK g o _ s' (sub_but_grown hMw.out hg.out) hP.out 1 ⟨#[97, 110, 100]⟩ kd_and).mono ?_
    rintro e w2 ⟨rfl, hga, hPa⟩
    have hR2 := Lib.hid (hR.out.kept hga (fun y e => by cases e; omega))
    have hA2 := Lib.hid (hA.out.mono (nexK_g hga (Or.inr (Or.inl rfl))))
    have hg2 := Lib.hid (g_call hg.out hga)
    have hz2 := Lib.hid (hz.out.kept hga (by simp; omega))
    have hBs2 : B ≤ w2.heap.size := Nat.le_trans hBs.out hga.size
    have hal2 := Lib.hid (show acc.length = rows.length from hA.out.1.symm)
    have hP0 := hP
    clear hR hA hg hP hz hga hBs
    cases hx : isP sAnd s' with
    | false =>
      have hP3 := Lib.hid (show RfP T tb to' tc g w2 o s' by rw [← pastP_no (x := (⟨#[97, 110, 100]⟩ : ByteArray).data.toList) hx]; exact hPa)
      rw [show isP (⟨#[97, 110, 100]⟩ : ByteArray).data.toList s' = false from hx]
      have hq : Hid (aft r0 = s' ∧ ∀ c q, r0 = .ok (c, q) → c = joinE 2 acc) := Lib.hid (by
        rw [hrr.out]
        cases s' with
        | error e => exact ⟨rfl, fun c q h => by cases h⟩
        | ok ts =>
          obtain ⟨f2, rfl⟩ : ∃ f2, f' = f2 + 1 := ⟨f' - 1, by
            have h1 : ts.length ≤ f' := hlf'.out
            have h2 : ts ≠ [] := hP3.out.ne
            have h3 : ts.length ≠ 0 := fun e => h2 (List.eq_nil_of_length_eq_zero e)
            omega⟩
          have h4 : joinR part 2 sAnd (f2 + 1) acc ts = .ok (joinE 2 acc, ts) := by unfold joinR; rw [loopL, if_neg (by rw [show isN sAnd ts = false from hx]; decide), bnd_ok]
          rw [runS_ok, h4]
          exact ⟨rfl, fun c q h => by injection h with h; injection h with h1 h2; exact h1.symm⟩)
      have hrow := Lib.hid (hR2.out.new hA2.out.five hgB)
      have hAm := Lib.hid (hA2.out.mono (nexK_out w2))
      have hb1 := hbd.out.1
      have hb2 := hbd.out.2.1
      have hb3 := hbd.out.2.2.1
      rw [← hal2.out] at hrow ⊢
      clear hPa hx hrr hR2 hA2 hlf' hP0 hbd
      go_wp2_with fail
      refine (join_any 2 acc rows va vc (nex B [g] w2) w2 hrow.out hAm.out (nex_in _ _ _) hacc1 (by omega) (by omega)).mono ?_
      rintro e w3 ⟨hb, row, rfl, hN⟩
      have hXn := hN (nex B [g] w3) (nex_grown (grown_of_below hb none) (fun k e => by cases e)) (nex_up w3 hBs2 (fun k hk => by rw [List.mem_singleton] at hk; subst hk; exact Or.inr (by omega)))
      obtain ⟨p1, kd2, nm2, vals, wa, wn, wc, ja, jn, jc, rws, rfl, -⟩ := hXn.parts
      have hz3 := hz2.out.below hb hz2.out.lt
      have hRB := RdF.mk' (B := gz) (St := fun w s => RfP T tb to' tc g w o s) (s := s') (g_below hg2.out hb) (hP3.out.below hb) hgl hwz
      obtain ⟨z0, z1, z2, z3, z4, f0, f1, f2, f3, f4⟩ := own5z hz3
      have hzl' := hz3.lt
      have hF := Lib.hid (hRB.set5 (q := gz) (Nat.le_refl _) (.int .i64 p1) (.string kd2) (.string nm2) (.slice wa wn wc) (.slice ja jn jc))
      have hXF := Lib.hid (hXn.mono ((nex_set5 (q := gz) hzB' (.int .i64 p1) (.string kd2) (.string nm2) (.slice wa wn wc) (.slice ja jn jc)).trans (nex_up _ hwB (fun k hk => Or.inl hk))))
      clear hb hN hXn hz3 hRB
      go_wp2
      refine bodyPost_ret (v := .agg #[.int .i64 p1, .string kd2, .string nm2, .slice wa wn wc, .slice ja jn jc]) (by simp [results, Tryz.results48, go_sem, *]) rfl ?_
      rw [← hr0.out]
      exact Rd.fin hF.out.grown (by rw [hq.out.1]; exact hF.out.st) (fun c q hc => by rw [hq.out.2 c q hc]; exact ⟨_, rfl, hXF.out, hb3⟩) ⟨_, _, rfl, hXF.out, hb3⟩
    | true =>
      rw [show isP (⟨#[97, 110, 100]⟩ : ByteArray).data.toList s' = true from hx]
      cases s' with
      | error e => cases hx
      | ok ts =>
        have hP3 : RfP T tb to' tc g w2 o (.ok ts.tail) := by
          have e1 : pastP (⟨#[97, 110, 100]⟩ : ByteArray).data.toList (.ok ts) = .ok ts.tail := if_pos hx
          rw [← e1]
          exact hPa
        have hlt : ts.tail.length < ts.length := by
          cases ts with
          | nil => cases hx
          | cons t q => simp
        have hst : ∃ f2, (r0 = bnd (part ts.tail) fun y r' => joinR part 2 sAnd f2 (acc ++ [y]) r') ∧ ts.tail.length ≤ f2 := by
          have h1 : ts.length ≤ f' := hlf'.out
          obtain ⟨f2, rfl⟩ : ∃ f2, f' = f2 + 1 := ⟨f' - 1, by omega⟩
          refine ⟨f2, ?_, by omega⟩
          rw [hrr.out, runS_ok]
          unfold joinR
          rw [loopL, if_pos (show isN sAnd ts = true from hx), bnd_bnd]
        have hlf3 : ts.tail.length ≤ f := by have h1 : ts.length ≤ f := hbd.out.2.2.2.1; omega
        have hbd3 := Lib.hid (hbd.out.2.2.2.2 ts rfl)
        have hlw7 := Lib.hid (show leftR T.length g wr = ts.length from hP0.out.left)
        replace hst := Lib.hid hst
        replace hlt := Lib.hid hlt
        have hgl2 := hP3.lt
        clear hPa hx hrr hP0 hlf' hbd
        go_wp2_with fail
        refine (hpart'.out _ (.ok ts.tail) (sub_but_grown hMw.out hg2.out) hP3 hlf3).mono ?_
        rintro e w4 hr
        obtain ⟨y, p1, kd2, nm2, wa, wn, wc, ja, jn, jc, rfl, hX, hyk, hyb⟩ := hr.ex
        have hP4 : RfP T tb to' tc g w4 o (aft (part ts.tail)) := hr.2.1
        have hown2 := hR2.out.out.lt
        have hal := World.grownBy_alloc w4 (.cells #[Value.int .i64 p1, .string kd2, .string nm2, .slice wa wn wc, .slice ja jn jc] 31) none
        have hz5 := Lib.hid ((hz2.out.kept hr.1 (by simp; omega)).alloc (.cells #[Value.int .i64 p1, .string kd2, .string nm2, .slice wa wn wc, .slice ja jn jc] 31))
        have hg5 := Lib.hid (g_call (g_call hg2.out hr.1) (World.grownBy_alloc w4 (.cells #[Value.int .i64 p1, .string kd2, .string nm2, .slice wa wn wc, .slice ja jn jc] 31) (some g)))
        have hR4 := hR2.out.kept hr.1 (fun y e => by cases e; omega)
        have hR5 := Lib.hid (hR4.kept hal (fun k e => by cases e))
        have hA5 := Lib.hid ((hA2.out.mono (nexK_g hr.1 (Or.inr (Or.inl rfl)))).mono (nexK_g hal (Or.inl rfl)))
        have hX5 := Lib.hid ((hX.mono (nexK_part (B := B) (g := g) (ob := g) (v := .slice va rows.length vc) w4 hBs2 hgl2 (fun k hk => (hown2 k hk).2))).mono (nexK_g hal (Or.inl rfl)))
        have hP5 := Lib.hid (hP4.alloc (.cells #[Value.int .i64 p1, .string kd2, .string nm2, .slice wa wn wc, .slice ja jn jc] 31))
        have hrow := Lib.hid (lit_rows (sz := 5) (w := w4.alloc (.cells #[Value.int .i64 p1, .string kd2, .string nm2, .slice wa wn wc, .slice ja jn jc] 31)) (g := w4.heap.size) (cs := [Value.int .i64 p1, .string kd2, .string nm2, .slice wa wn wc, .slice ja jn jc]) (fun j => by rw [(Own.new w4 #[Value.int .i64 p1, .string kd2, .string nm2, .slice wa wn wc, .slice ja jn jc] 31).cell j]; simp))
        have h5 := Lib.hid hA2.out.five
        have h1k := Lib.hid (fun u hu => (KidsAt.one hX).flat1 u hu)
        have hsum : rows.length + 1 ≤ 1099511627776 := by have := hbd3.out.1; have := hal2.out; omega
        have hBs5 : B ≤ (w4.alloc (.cells #[Value.int .i64 p1, .string kd2, .string nm2, .slice wa wn wc, .slice ja jn jc] 31)).heap.size := by have := hr.1.size; rw [World.size_alloc]; omega
        have hrr2 : Hid (∃ f2, r0 = runS (aft (part ts.tail)) (joinR part 2 sAnd f2 (acc ++ [y])) ∧ lenP (aft (part ts.tail)) ≤ f2) := Lib.hid (by
          obtain ⟨f2, h1, h2⟩ := hst.out
          refine ⟨f2, ?_, ?_⟩
          · rw [h1]
            cases hp : part ts.tail with
            | error e => rfl
            | ok v =>
              have : y = v.1 := hyb v.1 v.2 (by rw [runS_ok, hp])
              rw [this]
              rfl
          · cases hp : part ts.tail with
            | error e => exact Nat.zero_le _
            | ok v =>
              have := hsh _ _ _ (show part ts.tail = .ok (v.1, v.2) from hp)
              show v.2.length ≤ f2
              omega)
        have hln : Hid (lenP (aft (part ts.tail)) ≤ f ∧ lenP (aft (part ts.tail)) < ts.length) := Lib.hid (by
          have h3 := hlt.out
          cases hp : part ts.tail with
          | error e => exact ⟨Nat.zero_le _, by show 0 < _; omega⟩
          | ok v =>
            have := hsh _ _ _ (show part ts.tail = .ok (v.1, v.2) from hp)
            show v.2.length ≤ f ∧ v.2.length < ts.length
            omega)
        have hbd10 : Hid ((acc ++ [y]).length ≤ 30001 ∧ (flatL 2 (acc ++ [y])).length ≤ 60003 + K ∧ (joinE 2 (acc ++ [y])).kids.length ≤ 60003 + K ∧ lenP (aft (part ts.tail)) ≤ f ∧ ∀ us, aft (part ts.tail) = .ok us → (acc ++ [y]).length + us.length ≤ 30001 ∧ (flatL 2 (acc ++ [y])).length + us.length ≤ 30001) := Lib.hid (by
          have h3 := hbd3.out
          have h4 := hlt.out
          have hfl : (flatE 2 y).length ≤ 1 + y.kids.length := by unfold flatE; split <;> simp
          have hf2 : (flatL 2 (acc ++ [y])).length = (flatL 2 acc).length + (flatE 2 y).length := by rw [flatL_snoc, List.length_append]
          have hlen2 : (acc ++ [y]).length = acc.length + 1 := by simp
          refine ⟨by omega, by omega, ?_, hln.out.1, fun us hus => ?_⟩
          · rw [join_two 2 (by omega)]
            show (flatL 2 (acc ++ [y])).length ≤ _
            omega
          · cases hp : part ts.tail with
            | error e => rw [hp] at hus; cases hus
            | ok v =>
              rw [hp] at hus
              injection hus with hus
              have e2 : y = v.1 := hyb v.1 v.2 (by rw [runS_ok, hp])
              have h7 := hsh _ _ _ (show part ts.tail = .ok (v.1, v.2) from hp)
              have h5 := flat_len (op := 2) (hkid _ _ _ (show part ts.tail = .ok (v.1, v.2) from hp)) h7
              rw [← e2] at h5
              rw [← hus]
              omega)
        clear hr hX hyb hyk hP4 hR4 hal hst hR2 hA2 hz2 hg2 hP3
        generalize aft (part ts.tail) = s4 at hP5 hrr2 hln hbd10
        replace hown2 := Lib.hid hown2
        go_wp2_with (at_builtin; refine wpList_append_exp rfl _ _ rfl B va rows.length vc rows rfl hR5.out h5.out rfl _ 1 1 [[Value.int .i64 p1, .string kd2, .string nm2, .slice wa wn wc, .slice ja jn jc]] rfl hrow.out (by intro r hr; rw [List.mem_singleton.1 hr]; rfl) h1k.out hsum hBs5 ?_; intro va' vc' w6 hR6 hn6 hg6 hat6; replace hR6 := Lib.hid hR6; replace hg6 := Lib.hid hg6; replace hat6 := Lib.hid hat6; replace hn6 := Lib.hid hn6)
        have hown := Lib.hid hR5.out.out.lt
        have hz7 := Lib.hid (hz5.out.kept hg6.out (fun e => by have := (hown.out gz e).1; omega))
        have hg7 := Lib.hid (g_own hg5.out hg6.out (fun i e => by have := (hown.out i e).1; omega))
        have hP7 := Lib.hid (hP5.out.kept hg6.out (fun e => by have := (hown.out g e).1; omega))
        have hA7 := Lib.hid ((hA5.out.append (KidsAt.one hX5.out)).mono (nexK_new hg6.out hat6.out))
        have hBs7 := Lib.hid (Nat.le_trans hBs5 hg6.out.size)
        obtain ⟨f2, hrr3, hlf2⟩ := hrr2.out
        replace hrr3 := Lib.hid hrr3
        replace hlf2 := Lib.hid hlf2
        clear hR5 hA5 hX5 hg5 hz5 hP5 hrow h5 h1k hg6 hat6 hown hrr2
        generalize hrw : rows ++ [[Value.int .i64 p1, .string kd2, .string nm2, .slice wa wn wc, .slice ja jn jc]] = rows' at hR6 hA7 hn6
        clear hrw
        rw [hn6.out] at hR6 hA7 ⊢
        go_roundw
        case rel => exact ⟨s4, acc ++ [y], rows', va', vc', f2, rfl, by simp, hR6, hA7, hg7, hP7, hz7, hBs7, hrr3, hlf2, hbd10⟩
        case measure => rw [hP7.out.left, hlw7.out]; exact hln.out.2

end

theorem kd_or : KdOf 1 (⟨#[111, 114]⟩ : ByteArray).data.toList := Or.inl ⟨rfl, 111, [114], rfl, by decide⟩
section
variable {M : Mem} {T : List Tok} {tb to' tc : Nat}

set_option maxRecDepth 100000 in
set_option maxHeartbeats 16000000 in
theorem ror_any (hK : TokM M T tb to' tc) (g o f K : Nat) (hKb : K ≤ 3900000000) (part : List Tok → R PE) (hsh : Shr part) (hkid : Kid part)
    (hpart : ∀ (w : World) (s : PS), Sub M (but g w) → RfP T tb to' tc g w o s → lenP s ≤ f → Calls Tryz.prog 48 #[.pointer (some ⟨g, 0, none⟩)] w (Rd g (fun w s => RfP T tb to' tc g w o s) w (ExIs w.heap.size g K) (runS s part)))
    (w : World) (s : PS) (hM : Sub M (but g w)) (h : RfP T tb to' tc g w o s) (hl : lenP s ≤ f) :
    Calls Tryz.prog 24 #[.pointer (some ⟨g, 0, none⟩)] w (Rd g (fun w s => RfP T tb to' tc g w o s) w (ExIs w.heap.size g (60003 + K)) (runS s (chainF part 3 sOr f))) := by
  have hgl := h.lt
  have hlen : lenP s ≤ 30001 := by rw [← h.left]; unfold leftR; have := hK.few; split <;> omega
  have hne : ∀ ts, s = .ok ts → ts ≠ [] := fun ts e => by subst e; exact h.ne
  have hz := Lib.hid (Own.new w #[.int .i64 0, .string ⟨#[]⟩, .string ⟨#[]⟩, .slice none 0 0, .slice none 0 0] 31)
  have h0 := Lib.hid (h.alloc (.cells #[.int .i64 0, .string ⟨#[]⟩, .string ⟨#[]⟩, .slice none 0 0, .slice none 0 0] 31))
  have hg0 := Lib.hid (World.grownBy_alloc w (.cells #[.int .i64 0, .string ⟨#[]⟩, .string ⟨#[]⟩, .slice none 0 0, .slice none 0 0] 31) (some g))
  have hMw := Lib.hid hM
  have hpart' := Lib.hid hpart
  clear h hM hpart
  go_enter Tryz.func24, Tryz.ntmps24
  go_wp2_with fail
  generalize w.alloc (.cells #[.int .i64 0, .string ⟨#[]⟩, .string ⟨#[]⟩, .slice none 0 0, .slice none 0 0] 31) = w0 at hz h0 hg0 ⊢
  obtain ⟨gz, hgz⟩ : ∃ z : Nat, Hid (z = w.heap.size) := ⟨_, Lib.hid rfl⟩
  rw [← hgz.out] at hz ⊢
  have hwz : w.heap.size ≤ gz := Nat.le_of_eq hgz.out.symm
  have hzB : gz < w0.heap.size := hz.out.lt
  obtain ⟨B, hB⟩ : ∃ z : Nat, Hid (z = w0.heap.size) := ⟨_, Lib.hid rfl⟩
  refine (hpart'.out _ s (sub_but_grown hMw.out hg0.out) h0.out hl).mono ?_
  rintro e w1 hr
  obtain ⟨x, o1, kd, nm, va, vn, vc, ka, kn, kc, rfl, hX, hxk, hxb⟩ := hr.ex
  obtain ⟨r0, hr0⟩ : ∃ r, Hid (r = runS s (chainF part 3 sOr f)) := ⟨_, Lib.hid rfl⟩
  have hrr := Lib.hid (show r0 = runS (aft (runS s part)) (joinR part 3 sOr f [x]) by
    rw [hr0.out]
    cases s with
    | error e => rfl
    | ok ts =>
      have hf : 0 < f := by
        have h1 : ts.length ≤ f := hl
        have h2 := hne ts rfl
        have h3 : ts.length ≠ 0 := fun e => h2 (List.eq_nil_of_length_eq_zero e)
        omega
      obtain ⟨f', rfl⟩ : ∃ f', f = f' + 1 := ⟨f - 1, by omega⟩
      show chainF part 3 sOr (f' + 1) ts = runS (aft (part ts)) _
      rw [chainF]
      cases hp : part ts with
      | error e => rfl
      | ok v =>
        have e1 : x = v.1 := hxb v.1 v.2 (by rw [runS_ok, hp])
        rw [show (Except.ok v : R PE) = .ok (v.1, v.2) from rfl, bnd_ok, ← e1, chain_join]
        rfl)
  have hbd := Lib.hid (show ([x] : List PE).length ≤ 30001 ∧ (flatL 3 [x]).length ≤ 60003 + K ∧ (joinE 3 [x]).kids.length ≤ 60003 + K ∧ lenP (aft (runS s part)) ≤ f ∧ ∀ ts, aft (runS s part) = .ok ts → ([x] : List PE).length + ts.length ≤ 30001 ∧ (flatL 3 [x]).length + ts.length ≤ 30001 from by
    have hfx : flatL 3 [x] = flatE 3 x := by unfold flatL; simp
    have hfl : (flatE 3 x).length ≤ 1 + x.kids.length := by unfold flatE; split <;> simp
    refine ⟨by simp, by rw [hfx]; omega, (show x.kids.length ≤ _ by omega), ?_, fun ts hts => ?_⟩
    · cases s with
      | error e => exact Nat.zero_le _
      | ok us =>
        show lenP (aft (part us)) ≤ f
        have h4 : us.length ≤ f := hl
        cases hp : part us with
        | error e => exact Nat.zero_le _
        | ok v =>
          have h1 := hsh _ _ _ (show part us = .ok (v.1, v.2) from hp)
          show v.2.length ≤ f
          omega
    · cases s with
      | error e => cases hts
      | ok us =>
        have hts' : aft (part us) = .ok ts := hts
        have h3 : us.length ≤ 30001 := hlen
        cases hp : part us with
        | error e => rw [hp] at hts'; cases hts'
        | ok v =>
          rw [hp] at hts'
          injection hts' with hts'
          have e1 : x = v.1 := hxb v.1 v.2 (by rw [runS_ok, hp])
          have h1 := hsh _ _ _ (show part us = .ok (v.1, v.2) from hp)
          have h2 := flat_len (op := 3) (hkid _ _ _ (show part us = .ok (v.1, v.2) from hp)) h1
          rw [hfx, ← hts', e1]
          simp only [List.length_singleton]
          omega)
  have hP1 : RfP T tb to' tc g w1 o (aft (runS s part)) := hr.2.1
  have hz1' := hz.out.kept hr.1 (by simp; omega)
  have hsz1 : w0.heap.size ≤ w1.heap.size := hr.1.size
  have hg1 := g_call hg0.out hr.1
  have hal := World.grownBy_alloc w1 (.cells #[.int .i64 o1, .string kd, .string nm, .slice va vn vc, .slice ka kn kc] 31) none
  have hg2 := Lib.hid (g_call hg1 (World.grownBy_alloc w1 (.cells #[.int .i64 o1, .string kd, .string nm, .slice va vn vc, .slice ka kn kc] 31) (some g)))
  have hP2 := Lib.hid (hP1.alloc (.cells #[.int .i64 o1, .string kd, .string nm, .slice va vn vc, .slice ka kn kc] 31))
  have hz2 := Lib.hid (hz1'.alloc (.cells #[.int .i64 o1, .string kd, .string nm, .slice va vn vc, .slice ka kn kc] 31))
  have hR2 := Lib.hid (ro_one (e := 31) (sz := 5) (B := B) w1 #[.int .i64 o1, .string kd, .string nm, .slice va vn vc, .slice ka kn kc] (by rw [hB.out]; exact hsz1) rfl)
  have hA2 : Hid (KidsAt (nexK B g g (.slice (some ⟨w1.heap.size, 0, none⟩) 1 1) _) [x] [[Value.int .i64 o1, .string kd, .string nm, .slice va vn vc, .slice ka kn kc]]) := Lib.hid (KidsAt.one (hX.mono (by
    rw [← hB.out]
    exact nex_new hal (fun k e => by cases e) (fun k hk => by
      simp [Value.ownBlock] at hk
      rcases hk with rfl | rfl
      · exact Or.inl (by simp)
      · exact Or.inr (Or.inl (Nat.le_refl _))))))
  have hgB : g < B := by have := hB.out; omega
  have hBz := Lib.hid (show B ≤ (w1.alloc (.cells #[.int .i64 o1, .string kd, .string nm, .slice va vn vc, .slice ka kn kc] 31)).heap.size by rw [World.size_alloc]; have := hB.out; omega)
  have hzB' : gz < B := by have := hB.out; omega
  have hwB : w.heap.size ≤ B := by have := hB.out; omega
  clear hr hX hxk hxb hP1 hz1' hsz1 hg1 hal h0 hz hg0 hzB
  generalize aft (runS s part) = s1 at hrr hbd hP2
  go_wp2
  go_loopw [3] (fun s3 wr => ∃ (s' : PS) (acc : List PE) (rows : List (List Value)) (va : Option Addr) (vc f' : Nat), s3 = .slice va rows.length vc ∧ 1 ≤ acc.length ∧ Hid (RO 31 5 B (.slice va rows.length vc) rows wr) ∧ Hid (KidsAt (nexK B g g (.slice va rows.length vc) wr) acc rows) ∧ Hid (w.grownBy wr (some g)) ∧ Hid (RfP T tb to' tc g wr o s') ∧ Hid (Own wr gz #[.int .i64 0, .string ⟨#[]⟩, .string ⟨#[]⟩, .slice none 0 0, .slice none 0 0] 31) ∧ Hid (B ≤ wr.heap.size) ∧
    Hid (r0 = runS s' (joinR part 3 sOr f' acc)) ∧ Hid (lenP s' ≤ f') ∧ Hid (acc.length ≤ 30001 ∧ (flatL 3 acc).length ≤ 60003 + K ∧ (joinE 3 acc).kids.length ≤ 60003 + K ∧ lenP s' ≤ f ∧ ∀ ts, s' = .ok ts → acc.length + ts.length ≤ 30001 ∧ (flatL 3 acc).length + ts.length ≤ 30001)) (fun _ wr => leftR T.length g wr)
  case atStart => exact ⟨s1, [x], [[Value.int .i64 o1, .string kd, .string nm, .slice va vn vc, .slice ka kn kc]], _, _, f, rfl, by simp, hR2, hA2, hg2, hP2, hz2, hBz, hrr, Lib.hid hbd.out.2.2.2.1, hbd⟩
  case round =>
    clear hR2 hA2 hg2 hP2 hz2 hrr hbd
    obtain ⟨s', acc, rows, va, vc, f', rfl, hacc1, hR, hA, hg, hP, hz, hBs, hrr, hlf', hbd⟩ := hrel
    have hgl' := hP.out.lt
    go_wp2_with fail
    refine (rtake_any hK g o _ s' (sub_but_grown hMw.out hg.out) hP.out 1 ⟨#[111, 114]⟩ kd_or).mono ?_
    rintro e w2 ⟨rfl, hga, hPa⟩
    have hR2 := Lib.hid (hR.out.kept hga (fun y e => by cases e; omega))
    have hA2 := Lib.hid (hA.out.mono (nexK_g hga (Or.inr (Or.inl rfl))))
    have hg2 := Lib.hid (g_call hg.out hga)
    have hz2 := Lib.hid (hz.out.kept hga (by simp; omega))
    have hBs2 : B ≤ w2.heap.size := Nat.le_trans hBs.out hga.size
    have hal2 := Lib.hid (show acc.length = rows.length from hA.out.1.symm)
    have hP0 := hP
    clear hR hA hg hP hz hga hBs
    cases hx : isP sOr s' with
    | false =>
      have hP3 := Lib.hid (show RfP T tb to' tc g w2 o s' by rw [← pastP_no (x := (⟨#[111, 114]⟩ : ByteArray).data.toList) hx]; exact hPa)
      rw [show isP (⟨#[111, 114]⟩ : ByteArray).data.toList s' = false from hx]
      have hq : Hid (aft r0 = s' ∧ ∀ c q, r0 = .ok (c, q) → c = joinE 3 acc) := Lib.hid (by
        rw [hrr.out]
        cases s' with
        | error e => exact ⟨rfl, fun c q h => by cases h⟩
        | ok ts =>
          obtain ⟨f2, rfl⟩ : ∃ f2, f' = f2 + 1 := ⟨f' - 1, by
            have h1 : ts.length ≤ f' := hlf'.out
            have h2 : ts ≠ [] := hP3.out.ne
            have h3 : ts.length ≠ 0 := fun e => h2 (List.eq_nil_of_length_eq_zero e)
            omega⟩
          have h4 : joinR part 3 sOr (f2 + 1) acc ts = .ok (joinE 3 acc, ts) := by unfold joinR; rw [loopL, if_neg (by rw [show isN sOr ts = false from hx]; decide), bnd_ok]
          rw [runS_ok, h4]
          exact ⟨rfl, fun c q h => by injection h with h; injection h with h1 h2; exact h1.symm⟩)
      have hrow := Lib.hid (hR2.out.new hA2.out.five hgB)
      have hAm := Lib.hid (hA2.out.mono (nexK_out w2))
      have hb1 := hbd.out.1
      have hb2 := hbd.out.2.1
      have hb3 := hbd.out.2.2.1
      rw [← hal2.out] at hrow ⊢
      clear hPa hx hrr hR2 hA2 hlf' hP0 hbd
      go_wp2_with fail
      refine (join_any 3 acc rows va vc (nex B [g] w2) w2 hrow.out hAm.out (nex_in _ _ _) hacc1 (by omega) (by omega)).mono ?_
      rintro e w3 ⟨hb, row, rfl, hN⟩
      have hXn := hN (nex B [g] w3) (nex_grown (grown_of_below hb none) (fun k e => by cases e)) (nex_up w3 hBs2 (fun k hk => by rw [List.mem_singleton] at hk; subst hk; exact Or.inr (by omega)))
      obtain ⟨p1, kd2, nm2, vals, wa, wn, wc, ja, jn, jc, rws, rfl, -⟩ := hXn.parts
      have hz3 := hz2.out.below hb hz2.out.lt
      have hRB := RdF.mk' (B := gz) (St := fun w s => RfP T tb to' tc g w o s) (s := s') (g_below hg2.out hb) (hP3.out.below hb) hgl hwz
      obtain ⟨z0, z1, z2, z3, z4, f0, f1, f2, f3, f4⟩ := own5z hz3
      have hzl' := hz3.lt
      have hF := Lib.hid (hRB.set5 (q := gz) (Nat.le_refl _) (.int .i64 p1) (.string kd2) (.string nm2) (.slice wa wn wc) (.slice ja jn jc))
      have hXF := Lib.hid (hXn.mono ((nex_set5 (q := gz) hzB' (.int .i64 p1) (.string kd2) (.string nm2) (.slice wa wn wc) (.slice ja jn jc)).trans (nex_up _ hwB (fun k hk => Or.inl hk))))
      clear hb hN hXn hz3 hRB
      go_wp2
      refine bodyPost_ret (v := .agg #[.int .i64 p1, .string kd2, .string nm2, .slice wa wn wc, .slice ja jn jc]) (by simp [results, Tryz.results24, go_sem, *]) rfl ?_
      rw [← hr0.out]
      exact Rd.fin hF.out.grown (by rw [hq.out.1]; exact hF.out.st) (fun c q hc => by rw [hq.out.2 c q hc]; exact ⟨_, rfl, hXF.out, hb3⟩) ⟨_, _, rfl, hXF.out, hb3⟩
    | true =>
      rw [show isP (⟨#[111, 114]⟩ : ByteArray).data.toList s' = true from hx]
      cases s' with
      | error e => cases hx
      | ok ts =>
        have hP3 : RfP T tb to' tc g w2 o (.ok ts.tail) := by
          have e1 : pastP (⟨#[111, 114]⟩ : ByteArray).data.toList (.ok ts) = .ok ts.tail := if_pos hx
          rw [← e1]
          exact hPa
        have hlt : ts.tail.length < ts.length := by
          cases ts with
          | nil => cases hx
          | cons t q => simp
        have hst : ∃ f2, (r0 = bnd (part ts.tail) fun y r' => joinR part 3 sOr f2 (acc ++ [y]) r') ∧ ts.tail.length ≤ f2 := by
          have h1 : ts.length ≤ f' := hlf'.out
          obtain ⟨f2, rfl⟩ : ∃ f2, f' = f2 + 1 := ⟨f' - 1, by omega⟩
          refine ⟨f2, ?_, by omega⟩
          rw [hrr.out, runS_ok]
          unfold joinR
          rw [loopL, if_pos (show isN sOr ts = true from hx), bnd_bnd]
        have hlf3 : ts.tail.length ≤ f := by have h1 : ts.length ≤ f := hbd.out.2.2.2.1; omega
        have hbd3 := Lib.hid (hbd.out.2.2.2.2 ts rfl)
        have hlw7 := Lib.hid (show leftR T.length g wr = ts.length from hP0.out.left)
        replace hst := Lib.hid hst
        replace hlt := Lib.hid hlt
        have hgl2 := hP3.lt
        clear hPa hx hrr hP0 hlf' hbd
        go_wp2_with fail
        refine (hpart'.out _ (.ok ts.tail) (sub_but_grown hMw.out hg2.out) hP3 hlf3).mono ?_
        rintro e w4 hr
        obtain ⟨y, p1, kd2, nm2, wa, wn, wc, ja, jn, jc, rfl, hX, hyk, hyb⟩ := hr.ex
        have hP4 : RfP T tb to' tc g w4 o (aft (part ts.tail)) := hr.2.1
        have hown2 := hR2.out.out.lt
        have hal := World.grownBy_alloc w4 (.cells #[Value.int .i64 p1, .string kd2, .string nm2, .slice wa wn wc, .slice ja jn jc] 31) none
        have hz5 := Lib.hid ((hz2.out.kept hr.1 (by simp; omega)).alloc (.cells #[Value.int .i64 p1, .string kd2, .string nm2, .slice wa wn wc, .slice ja jn jc] 31))
        have hg5 := Lib.hid (g_call (g_call hg2.out hr.1) (World.grownBy_alloc w4 (.cells #[Value.int .i64 p1, .string kd2, .string nm2, .slice wa wn wc, .slice ja jn jc] 31) (some g)))
        have hR4 := hR2.out.kept hr.1 (fun y e => by cases e; omega)
        have hR5 := Lib.hid (hR4.kept hal (fun k e => by cases e))
        have hA5 := Lib.hid ((hA2.out.mono (nexK_g hr.1 (Or.inr (Or.inl rfl)))).mono (nexK_g hal (Or.inl rfl)))
        have hX5 := Lib.hid ((hX.mono (nexK_part (B := B) (g := g) (ob := g) (v := .slice va rows.length vc) w4 hBs2 hgl2 (fun k hk => (hown2 k hk).2))).mono (nexK_g hal (Or.inl rfl)))
        have hP5 := Lib.hid (hP4.alloc (.cells #[Value.int .i64 p1, .string kd2, .string nm2, .slice wa wn wc, .slice ja jn jc] 31))
        have hrow := Lib.hid (lit_rows (sz := 5) (w := w4.alloc (.cells #[Value.int .i64 p1, .string kd2, .string nm2, .slice wa wn wc, .slice ja jn jc] 31)) (g := w4.heap.size) (cs := [Value.int .i64 p1, .string kd2, .string nm2, .slice wa wn wc, .slice ja jn jc]) (fun j => by rw [(Own.new w4 #[Value.int .i64 p1, .string kd2, .string nm2, .slice wa wn wc, .slice ja jn jc] 31).cell j]; simp))
        have h5 := Lib.hid hA2.out.five
        have h1k := Lib.hid (fun u hu => (KidsAt.one hX).flat1 u hu)
        have hsum : rows.length + 1 ≤ 1099511627776 := by have := hbd3.out.1; have := hal2.out; omega
        have hBs5 : B ≤ (w4.alloc (.cells #[Value.int .i64 p1, .string kd2, .string nm2, .slice wa wn wc, .slice ja jn jc] 31)).heap.size := by have := hr.1.size; rw [World.size_alloc]; omega
        have hrr2 : Hid (∃ f2, r0 = runS (aft (part ts.tail)) (joinR part 3 sOr f2 (acc ++ [y])) ∧ lenP (aft (part ts.tail)) ≤ f2) := Lib.hid (by
          obtain ⟨f2, h1, h2⟩ := hst.out
          refine ⟨f2, ?_, ?_⟩
          · rw [h1]
            cases hp : part ts.tail with
            | error e => rfl
            | ok v =>
              have : y = v.1 := hyb v.1 v.2 (by rw [runS_ok, hp])
              rw [this]
              rfl
          · cases hp : part ts.tail with
            | error e => exact Nat.zero_le _
            | ok v =>
              have := hsh _ _ _ (show part ts.tail = .ok (v.1, v.2) from hp)
              show v.2.length ≤ f2
              omega)
        have hln : Hid (lenP (aft (part ts.tail)) ≤ f ∧ lenP (aft (part ts.tail)) < ts.length) := Lib.hid (by
          have h3 := hlt.out
          cases hp : part ts.tail with
          | error e => exact ⟨Nat.zero_le _, by show 0 < _; omega⟩
          | ok v =>
            have := hsh _ _ _ (show part ts.tail = .ok (v.1, v.2) from hp)
            show v.2.length ≤ f ∧ v.2.length < ts.length
            omega)
        have hbd10 : Hid ((acc ++ [y]).length ≤ 30001 ∧ (flatL 3 (acc ++ [y])).length ≤ 60003 + K ∧ (joinE 3 (acc ++ [y])).kids.length ≤ 60003 + K ∧ lenP (aft (part ts.tail)) ≤ f ∧ ∀ us, aft (part ts.tail) = .ok us → (acc ++ [y]).length + us.length ≤ 30001 ∧ (flatL 3 (acc ++ [y])).length + us.length ≤ 30001) := Lib.hid (by
          have h3 := hbd3.out
          have h4 := hlt.out
          have hfl : (flatE 3 y).length ≤ 1 + y.kids.length := by unfold flatE; split <;> simp
          have hf2 : (flatL 3 (acc ++ [y])).length = (flatL 3 acc).length + (flatE 3 y).length := by rw [flatL_snoc, List.length_append]
          have hlen2 : (acc ++ [y]).length = acc.length + 1 := by simp
          refine ⟨by omega, by omega, ?_, hln.out.1, fun us hus => ?_⟩
          · rw [join_two 3 (by omega)]
            show (flatL 3 (acc ++ [y])).length ≤ _
            omega
          · cases hp : part ts.tail with
            | error e => rw [hp] at hus; cases hus
            | ok v =>
              rw [hp] at hus
              injection hus with hus
              have e2 : y = v.1 := hyb v.1 v.2 (by rw [runS_ok, hp])
              have h7 := hsh _ _ _ (show part ts.tail = .ok (v.1, v.2) from hp)
              have h5 := flat_len (op := 3) (hkid _ _ _ (show part ts.tail = .ok (v.1, v.2) from hp)) h7
              rw [← e2] at h5
              rw [← hus]
              omega)
        clear hr hX hyb hyk hP4 hR4 hal hst hR2 hA2 hz2 hg2 hP3
        generalize aft (part ts.tail) = s4 at hP5 hrr2 hln hbd10
        replace hown2 := Lib.hid hown2
        go_wp2_with (at_builtin; refine wpList_append_exp rfl _ _ rfl B va rows.length vc rows rfl hR5.out h5.out rfl _ 1 1 [[Value.int .i64 p1, .string kd2, .string nm2, .slice wa wn wc, .slice ja jn jc]] rfl hrow.out (by intro r hr; rw [List.mem_singleton.1 hr]; rfl) h1k.out hsum hBs5 ?_; intro va' vc' w6 hR6 hn6 hg6 hat6; replace hR6 := Lib.hid hR6; replace hg6 := Lib.hid hg6; replace hat6 := Lib.hid hat6; replace hn6 := Lib.hid hn6)
        have hown := Lib.hid hR5.out.out.lt
        have hz7 := Lib.hid (hz5.out.kept hg6.out (fun e => by have := (hown.out gz e).1; omega))
        have hg7 := Lib.hid (g_own hg5.out hg6.out (fun i e => by have := (hown.out i e).1; omega))
        have hP7 := Lib.hid (hP5.out.kept hg6.out (fun e => by have := (hown.out g e).1; omega))
        have hA7 := Lib.hid ((hA5.out.append (KidsAt.one hX5.out)).mono (nexK_new hg6.out hat6.out))
        have hBs7 := Lib.hid (Nat.le_trans hBs5 hg6.out.size)
        obtain ⟨f2, hrr3, hlf2⟩ := hrr2.out
        replace hrr3 := Lib.hid hrr3
        replace hlf2 := Lib.hid hlf2
        clear hR5 hA5 hX5 hg5 hz5 hP5 hrow h5 h1k hg6 hat6 hown hrr2
        generalize hrw : rows ++ [[Value.int .i64 p1, .string kd2, .string nm2, .slice wa wn wc, .slice ja jn jc]] = rows' at hR6 hA7 hn6
        clear hrw
        rw [hn6.out] at hR6 hA7 ⊢
        go_roundw
        case rel => exact ⟨s4, acc ++ [y], rows', va', vc', f2, rfl, by simp, hR6, hA7, hg7, hP7, hz7, hBs7, hrr3, hlf2, hbd10⟩
        case measure => rw [hP7.out.left, hlw7.out]; exact hln.out.2

end

end Go.Proofs.YtfffpflflggonaaGreatDoor.src

namespace Go.Proofs.YtfffpflflggonaaGreatDoor.src
open Go.RowKit Go.Proofs.YtfffpflflggonaaGreatDoor Go.Proofs.YtfffpflflggonaaGreatDoor.lex Go.Proofs.YtfffpflflggonaaGreatDoor.value Go.Proofs.YtfffpflflggonaaGreatDoor.text Go.Proofs.YtfffpflflggonaaGreatDoor.schema Go.Proofs.YtfffpflflggonaaGreatDoor.draw Go.Proofs.YtfffpflflggonaaGreatDoor.clause

theorem kd_comma : KdOf 5 (⟨#[44]⟩ : ByteArray).data.toList := Or.inr ⟨rfl, 44, [], rfl, by decide⟩
section
variable {M : Mem} {T : List Tok} {tb to' tc : Nat}

set_option maxRecDepth 100000 in
set_option maxHeartbeats 8000000 in
theorem rtexts_any (hK : TokM M T tb to' tc) (g o : Nat) (w : World) (s : PS) (hM : Sub M (but g w)) (h : RfP T tb to' tc g w o s) :
    Calls Tryz.prog 302 #[.pointer (some ⟨g, 0, none⟩)] w (Rd g (fun w s => RfP T tb to' tc g w o s) w (TxtsIs w.heap.size g) (runS s textsS)) := by
  have hgl := h.lt
  have hlen : lenP s ≤ 30001 := by rw [← h.left]; unfold leftR; have := hK.few; split <;> omega
  replace hM := Lib.hid hM
  obtain ⟨r0, hr0⟩ : ∃ r, Hid (r = runS s textsS) := ⟨_, Lib.hid rfl⟩
  rw [← hr0.out]
  go_enter Tryz.func302, Tryz.ntmps302
  go_wp2_with fail
  refine (rtext_any hK g o _ s hM.out h).mono ?_
  rintro e w1 hr
  obtain ⟨x, rfl, hx, -⟩ := hr.str
  have hg1 := hr.1
  have hP1 := hr.2.1
  have hz1 : w.heap.size ≤ w1.heap.size := hg1.size
  have hg2 := Lib.hid (g_call hg1 (World.grownBy_alloc w1 (.cells #[.string x] 9) (some g)))
  have hP2 := Lib.hid (hP1.alloc (.cells #[.string x] 9))
  have hR2 := Lib.hid (ro_one (e := 9) w1 #[.string x] (B := w.heap.size) hz1 rfl)
  have hr1 : r0 = runT (lsL [x]) (aft (runS s (takeS 3))) := by
    rw [hr0.out]
    cases s with
    | error e => rfl
    | ok ts =>
      show textsS ts = runT (lsL [x]) (aft (takeS 3 ts))
      rw [texts_cont]
      cases ht : takeS 3 ts with
      | error q => rfl
      | ok v =>
        obtain ⟨t, ts'⟩ := v
        have := hx t ts' ht
        rw [bnd_ok, ← this]
        rfl
  replace hr1 := Lib.hid hr1
  have hn1 : 1 + lenP (aft (runS s (takeS 3))) ≤ 30001 := by
    cases s with
    | error e => show 1 + 0 ≤ _; omega
    | ok ts =>
      show 1 + lenP (aft (takeS 3 ts)) ≤ _
      have hl : ts.length ≤ 30001 := hlen
      cases ht : takeS 3 ts with
      | error q => show 1 + 0 ≤ _; omega
      | ok v =>
        obtain ⟨t, ts'⟩ := v
        have := shr_take 3 _ _ _ ht
        show 1 + ts'.length ≤ _
        omega
  clear hr hx hg1 hP1 h
  generalize aft (runS s (takeS 3)) = s1 at hP2 hr1 hn1
  go_wp2
  go_loopw [3] (fun s3 wr => ∃ (s' : PS) (ds : List ByteArray), 0 < ds.length ∧ Hid (RO 9 1 w.heap.size s3 (ds.map strRow) wr) ∧ Hid (w.grownBy wr (some g)) ∧ Hid (RfP T tb to' tc g wr o s') ∧ Hid (r0 = runT (lsL ds) s') ∧ ds.length + lenP s' ≤ 30001) (fun _ wr => leftR T.length g wr)
  case atStart => exact ⟨s1, [x], by simp, hR2, hg2, hP2, hr1, hn1⟩
  case round =>
    clear hR2 hg2 hP2 hr1 hn1
    obtain ⟨s', ds, hd0, hR, hg, hP, hr, hn⟩ := hrel
    obtain ⟨va, vc, hv⟩ := ro_form hR.out (strRows_len ds)
    rw [List.length_map] at hv
    subst hv
    have hgz : w.heap.size ≤ wr.heap.size := hg.out.size
    go_wp2_with fail
    refine (rtake_any hK g o _ s' (sub_but_grown hM.out hg.out) hP.out 5 ⟨#[44]⟩ kd_comma).mono ?_
    rintro e w2 ⟨rfl, hga, hPa⟩
    have hzz : wr.heap.size ≤ w2.heap.size := hga.size
    have hRa := Lib.hid (hR.out.kept hga (fun y e => by cases e; exact hgl))
    have hgb := Lib.hid (g_call hg.out hga)
    cases hx : isP [44] s' with
    | false =>
      have hx' : isP (⟨#[44]⟩ : ByteArray).data.toList s' = false := hx
      have hQ := Lib.hid (show ∀ v, v = Value.slice va ds.length vc → Rd g (fun w s => RfP T tb to' tc g w o s) w (TxtsIs w.heap.size g) r0 (.returned v) w2 from fun v hv => by
        have hT : TxtsIs w.heap.size g (lsL ds) (.returned v) w2 := ⟨va, _, vc, ds, by rw [hv], hRa.out.new (strRows_len ds) hgl, rfl, by omega⟩
        have hP3 : RfP T tb to' tc g w2 o s' := by rw [← pastP_no hx']; exact hPa
        rw [hr.out]
        cases s' with
        | error e => exact Rd.err hgb.out hP3 _ hT
        | ok ts =>
          rw [show runT (lsL ds) (.ok ts) = .ok (lsL ds, ts) from contT_end _ _ hx]
          exact Rd.ok hgb.out hP3 hT)
      clear hPa hga hRa hgb hx hx' hR hg hP hr
      go_wp2
      go_ret
      exact hQ.out _ rfl
    | true =>
      cases s' with
      | error e => cases hx
      | ok ts =>
        have hP3 : RfP T tb to' tc g w2 o (.ok ts.tail) := by
          have e1 : pastP (⟨#[44]⟩ : ByteArray).data.toList (.ok ts) = .ok ts.tail := if_pos hx
          rw [← e1]
          exact hPa
        have hst : r0 = bnd (takeS 3 ts.tail) fun t r => contT (lsL ds ++ [t.t]) r := by rw [hr.out]; exact contT_step _ _ hx
        have hlt : ts.tail.length < ts.length := by
          cases ts with
          | nil => cases hx
          | cons t q => simp
        have hlw : leftR T.length g wr = ts.length := hP.out.left
        replace hst := Lib.hid hst
        replace hlt := Lib.hid hlt
        replace hlw := Lib.hid hlw
        have hn' := Lib.hid (show ds.length + ts.length ≤ 30001 from hn)
        have hdl : ds.length ≤ 30001 := by omega
        clear hPa hga hR hg hP hr hx hn
        go_wp2_with fail
        refine (rtext_any hK g o _ (.ok ts.tail) (sub_but_grown hM.out hgb.out) hP3).mono ?_
        rintro e w3 hr
        obtain ⟨x', rfl, hx', -⟩ := hr.str
        have hg3 := g_call hgb.out hr.1
        have hP4 : RfP T tb to' tc g w3 o (aft (takeS 3 ts.tail)) := hr.2.1
        have hz3 : w.heap.size ≤ w3.heap.size := hg3.size
        have hR3 := (hRa.out.kept hr.1 (fun y e => by cases e; exact hgl)).below ((Below.refl w3.heap.size w3).alloc (Nat.le_refl _) (.cells #[.string x'] 9))
        have hrow := lit_rows (sz := 1) (w := w3.alloc (.cells #[.string x'] 9)) (g := w3.heap.size) (cs := [.string x']) (fun j => by rw [(Own.new w3 #[.string x'] 9).cell j]; simp)
        have hr4 : r0 = runT (lsL (ds ++ [x'])) (aft (takeS 3 ts.tail)) := by
          rw [hst.out]
          cases ht : takeS 3 ts.tail with
          | error q => rfl
          | ok v =>
            obtain ⟨t, ts'⟩ := v
            have := hx' t ts' ht
            rw [bnd_ok, ← this]
            show contT _ _ = contT _ _
            rw [show lsL (ds ++ [x']) = lsL ds ++ [x'.data.toList] by simp [lsL]]
        have hn4 : (ds ++ [x']).length + lenP (aft (takeS 3 ts.tail)) ≤ 30001 ∧ lenP (aft (takeS 3 ts.tail)) < ts.length := by
          have h1 := hlt.out
          have h2 := hn'.out
          rw [List.length_append, List.length_singleton]
          cases ht : takeS 3 ts.tail with
          | error q => show ds.length + 1 + 0 ≤ _ ∧ 0 < _; omega
          | ok v =>
            obtain ⟨t, ts'⟩ := v
            have := shr_take 3 _ _ _ ht
            show ds.length + 1 + ts'.length ≤ _ ∧ ts'.length < _
            omega
        replace hR3 := Lib.hid hR3
        replace hrow := Lib.hid hrow
        replace hr4 := Lib.hid hr4
        replace hn4 := Lib.hid hn4
        have hg4 := Lib.hid (g_call hg3 (World.grownBy_alloc w3 (.cells #[.string x'] 9) (some g)))
        have hP5 := Lib.hid (hP4.alloc (.cells #[.string x'] 9))
        clear hr hx' hst hg3 hP4 hP3
        generalize aft (takeS 3 ts.tail) = s4 at hr4 hn4 hP5
        go_wp2_with (at_builtin; refine wpList_append_str rfl _ _ rfl w.heap.size va ds.length vc (ds.map strRow) rfl hR3.out (strRows_len ds) (by rw [List.length_map]) _ 1 1 [[.string x']] rfl hrow.out (by simp) (strRow_one x') (by omega) (by simp; omega) ?_; intro va' vc' w5 hR5 hn5 hg5 hat5; replace hR5 := Lib.hid hR5; replace hg5 := Lib.hid hg5; clear hn5 hat5)
        have hown := hR3.out.out.lt
        have hg6 := Lib.hid (g_own hg4.out hg5.out (fun i e => (hown i e).1))
        have hP6 := Lib.hid (hP5.out.kept hg5.out (fun e => by have := (hown g e).1; omega))
        go_roundw
        case rel => exact ⟨s4, ds ++ [x'], by simp, by rw [List.map_append]; exact hR5, hg6, hP6, hr4, hn4.out.1⟩
        case measure => rw [hP6.out.left, hlw.out]; exact hn4.out.2


end
end Go.Proofs.YtfffpflflggonaaGreatDoor.src
