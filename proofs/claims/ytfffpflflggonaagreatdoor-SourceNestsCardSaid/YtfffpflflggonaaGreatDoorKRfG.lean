/- The reference's parser: a test. -/
import Derived.Test.YtfffpflflggonaaGreatDoorKS37
import Derived.Test.YtfffpflflggonaaGreatDoorKSrG
namespace Go.Proofs.YtfffpflflggonaaGreatDoor.src
open Go.RowKit Go.Proofs.YtfffpflflggonaaGreatDoor Go.Proofs.YtfffpflflggonaaGreatDoor.lex Go.Proofs.YtfffpflflggonaaGreatDoor.value Go.Proofs.YtfffpflflggonaaGreatDoor.text Go.Proofs.YtfffpflflggonaaGreatDoor.schema Go.Proofs.YtfffpflflggonaaGreatDoor.draw Go.Proofs.YtfffpflflggonaaGreatDoor.clause

theorem kd_member : KdOf 1 (⟨#[109, 101, 109, 98, 101, 114]⟩ : ByteArray).data.toList := Or.inl ⟨rfl, 109, [101, 109, 98, 101, 114], rfl, by decide⟩
theorem sg_dot : signL (⟨#[46]⟩ : ByteArray).data.toList := ⟨46, [], rfl, by decide⟩
theorem sg_lb : signL (⟨#[91]⟩ : ByteArray).data.toList := ⟨91, [], rfl, by decide⟩
/-- Which of the words and signs has been found. -/
def ChAt (s : PS) (k : Nat) (op : Int) (s' : PS) : Prop :=
  (op = 0 ∧ s' = s ∧ ∀ (j : Nat) (x : List UInt8), j < k → tests10[j]? = some x → isP x s = false) ∨ (∃ i : Nat, i < 10 ∧ op = 6 + (i : Int) ∧ ∃ ts, s = .ok ts ∧ runS s (choiceS tests10) = .ok (i, ts.tail) ∧ s' = .ok ts.tail)
theorem ChAt.start (s : PS) : ChAt s (0 + 0) 0 s := Or.inl ⟨rfl, rfl, fun _ _ h => absurd h (Nat.not_lt_zero _)⟩
theorem ChAt.zero {s s' : PS} {k : Nat} (h : ChAt s k 0 s') : s = s' ∧ ∀ j x, j < k → tests10[j]? = some x → isP x s = false := by
  rcases h with ⟨-, h1, h2⟩ | ⟨i, -, h, -⟩
  · exact ⟨h1.symm, h2⟩
  · omega
theorem ChAt.got {s s' : PS} {k : Nat} {op : Int} (h : ChAt s k op s') (h0 : op ≠ 0) : ∃ i : Nat, i < 10 ∧ op = 6 + (i : Int) ∧ ∃ ts, s = .ok ts ∧ runS s (choiceS tests10) = .ok (i, ts.tail) ∧ s' = .ok ts.tail := by
  rcases h with ⟨h, -⟩ | h
  · exact absurd h h0
  · exact h
theorem ChAt.on {s s' : PS} {k : Nat} {op : Int} (h : ChAt s k op s') (h0 : op ≠ 0) (k' : Nat) : ChAt s k' op s' := Or.inr (h.got h0)
theorem ChAt.miss {s : PS} {k : Nat} (h : ∀ j x, j < k → tests10[j]? = some x → isP x s = false) {x : List UInt8} (hx : tests10[k]? = some x) (hn : isP x s = false) : ChAt s (k + 1) 0 s := Or.inl ⟨rfl, rfl, fun j y hj hy => by
  rcases Nat.lt_or_ge j k with h1 | h1
  · exact h j y h1 hy
  · obtain rfl : j = k := by omega
    rw [hx] at hy
    injection hy with hy
    rw [← hy]; exact hn⟩
theorem place_skip {l : List (List UInt8)} {t : Tok} : ∀ (k : Nat), k ≤ l.length → (∀ j x, j < k → l[j]? = some x → isT x t = false) → placeS l 0 t = placeS (l.drop k) k t
  | 0, _, _ => rfl
  | k + 1, hk, h => by
    rw [place_skip k (by omega) (fun j x hj => h j x (by omega)), placeS_drop (by omega), if_neg (by rw [h k _ (by omega) (List.getElem?_eq_getElem (by omega))]; decide)]
theorem ChAt.hit {s : PS} {k : Nat} (h : ∀ j x, j < k → tests10[j]? = some x → isP x s = false) {x : List UInt8} (hx : tests10[k]? = some x) (hy : isP x s = true) : ∃ ts, s = .ok ts ∧ runS s (choiceS tests10) = .ok (k, ts.tail) := by
  cases s with
  | error e => cases hy
  | ok ts =>
    cases ts with
    | nil => cases hy
    | cons t r =>
      obtain ⟨hk, hx2⟩ := List.getElem?_eq_some_iff.1 hx
      have e : placeS tests10 0 t = some k := by
        rw [place_skip k (by omega) h, placeS_drop hk, hx2, if_pos (show isT x t = true from hy)]
      refine ⟨_, rfl, ?_⟩
      show choiceS tests10 (t :: r) = _
      rw [choiceS, e]
      rfl
theorem ChAt.done {s : PS} (h : ∀ j x, j < 4 + 6 → tests10[j]? = some x → isP x s = false) {t : Tok} (ht : HdT s t) : aft (runS s (choiceS tests10)) = failP s t 1 ∧ ∀ i q, runS s (choiceS tests10) ≠ .ok (i, q) := by
  cases s with
  | error e => exact ⟨rfl, fun i q h => by cases h⟩
  | ok ts =>
    obtain ⟨r, rfl⟩ := ht ts rfl
    have e : placeS tests10 0 t = none := by rw [place_skip 10 (by decide) h]; rfl
    have e1 : choiceS tests10 (t :: r) = .error (1, t.line) := by rw [choiceS, e]
    rw [runS_ok, e1]
    exact ⟨rfl, fun i q h => by cases h⟩
theorem test_bad {kx nx : List UInt8} {s s' : PS} (h1 : aft (runS s (choiceS tests10)) = s') (h2 : ∀ i q, runS s (choiceS tests10) ≠ .ok (i, q)) : aft (runS s (testF3 kx nx)) = s' ∧ ∀ c q, runS s (testF3 kx nx) ≠ .ok (c, q) := by
  cases s with
  | error e => exact ⟨h1, fun c q h => by cases h⟩
  | ok ts =>
    cases hc : choiceS tests10 ts with
    | ok v => exact absurd hc (h2 v.1 v.2)
    | error e =>
      have e1 : testF3 kx nx ts = .error e := by unfold testF3; rw [hc, bnd_err]
      rw [runS_ok] at h1 ⊢
      rw [e1]
      rw [hc] at h1
      exact ⟨h1, fun c q h => by cases h⟩
theorem test_go {kx nx : List UInt8} {ts : List Tok} {i : Nat} (h : runS (.ok ts) (choiceS tests10) = .ok (i, ts.tail)) : runS (.ok ts) (testF3 kx nx) = runS (.ok ts.tail) (testF4 kx nx i) := by
  have h' : choiceS tests10 ts = .ok (i, ts.tail) := h
  rw [runS_ok, runS_ok, testF3, h', bnd_ok]
theorem words_at {w : World} {lb : Nat} (h : Own w lb #[.string ⟨#[101, 120, 105, 115, 116, 115]⟩, .string ⟨#[105, 115]⟩, .string ⟨#[105, 110]⟩, .string ⟨#[115, 116, 97, 114, 116, 115]⟩, .string ⟨#[101, 110, 100, 115]⟩, .string ⟨#[99, 111, 110, 116, 97, 105, 110, 115]⟩] 9) {k : Nat} (hk : k < 6) : ∃ x : ByteArray, w.cell? ⟨lb, k, none⟩ = some (.string x) ∧ KdOf 1 x.data.toList ∧ tests10[k + 0]? = some x.data.toList := by
  match k, hk with
  | 0, _ => exact ⟨⟨#[101, 120, 105, 115, 116, 115]⟩, h.cell 0, Or.inl ⟨rfl, 101, [120, 105, 115, 116, 115], rfl, by decide⟩, rfl⟩
  | 1, _ => exact ⟨⟨#[105, 115]⟩, h.cell 1, Or.inl ⟨rfl, 105, [115], rfl, by decide⟩, rfl⟩
  | 2, _ => exact ⟨⟨#[105, 110]⟩, h.cell 2, Or.inl ⟨rfl, 105, [110], rfl, by decide⟩, rfl⟩
  | 3, _ => exact ⟨⟨#[115, 116, 97, 114, 116, 115]⟩, h.cell 3, Or.inl ⟨rfl, 115, [116, 97, 114, 116, 115], rfl, by decide⟩, rfl⟩
  | 4, _ => exact ⟨⟨#[101, 110, 100, 115]⟩, h.cell 4, Or.inl ⟨rfl, 101, [110, 100, 115], rfl, by decide⟩, rfl⟩
  | 5, _ => exact ⟨⟨#[99, 111, 110, 116, 97, 105, 110, 115]⟩, h.cell 5, Or.inl ⟨rfl, 99, [111, 110, 116, 97, 105, 110, 115], rfl, by decide⟩, rfl⟩
theorem signs_at {w : World} {lb : Nat} (h : Own w lb #[.string ⟨#[60]⟩, .string ⟨#[60, 61]⟩, .string ⟨#[62]⟩, .string ⟨#[62, 61]⟩] 9) {k : Nat} (hk : k < 4) : ∃ x : ByteArray, w.cell? ⟨lb, k, none⟩ = some (.string x) ∧ KdOf 5 x.data.toList ∧ tests10[k + 6]? = some x.data.toList := by
  match k, hk with
  | 0, _ => exact ⟨⟨#[60]⟩, h.cell 0, Or.inr ⟨rfl, 60, [], rfl, by decide⟩, rfl⟩
  | 1, _ => exact ⟨⟨#[60, 61]⟩, h.cell 1, Or.inr ⟨rfl, 60, [61], rfl, by decide⟩, rfl⟩
  | 2, _ => exact ⟨⟨#[62]⟩, h.cell 2, Or.inr ⟨rfl, 62, [], rfl, by decide⟩, rfl⟩
  | 3, _ => exact ⟨⟨#[62, 61]⟩, h.cell 3, Or.inr ⟨rfl, 62, [61], rfl, by decide⟩, rfl⟩

section
variable {M : Mem} {T : List Tok} {tb to' tc : Nat}

set_option maxRecDepth 100000 in
set_option maxHeartbeats 16000000 in
theorem rtest_any (hK : TokM M T tb to' tc) (g o : Nat) (w : World) (s : PS) (hM : Sub M (but g w)) (h : RfP T tb to' tc g w o s) :
    Calls Tryz.prog 194 #[.pointer (some ⟨g, 0, none⟩)] w (Rd g (fun w s => RfP T tb to' tc g w o s) w (ExIs w.heap.size g 0) (runS s testS)) := by
  have hgl := h.lt
  have hne : Hid (∀ ts, s = .ok ts → ts ≠ []) := Lib.hid fun ts e => by subst e; exact h.ne
  have hz := Lib.hid (Own.new w #[.int .i64 0, .string ⟨#[]⟩, .string ⟨#[]⟩, .slice none 0 0, .slice none 0 0] 31)
  have h0 := Lib.hid (h.alloc (.cells #[.int .i64 0, .string ⟨#[]⟩, .string ⟨#[]⟩, .slice none 0 0, .slice none 0 0] 31))
  have hg0 := Lib.hid (World.grownBy_alloc w (.cells #[.int .i64 0, .string ⟨#[]⟩, .string ⟨#[]⟩, .slice none 0 0, .slice none 0 0] 31) (some g))
  have hMw := Lib.hid hM
  clear h hM
  go_enter Tryz.func194, Tryz.ntmps194
  go_wp2_with fail
  generalize w.alloc (.cells #[.int .i64 0, .string ⟨#[]⟩, .string ⟨#[]⟩, .slice none 0 0, .slice none 0 0] 31) = w0 at hz h0 hg0 ⊢
  obtain ⟨gz, hgz⟩ : ∃ z : Nat, Hid (z = w.heap.size) := ⟨_, Lib.hid rfl⟩
  rw [← hgz.out] at hz ⊢
  have hwz : w.heap.size ≤ gz := Nat.le_of_eq hgz.out.symm
  refine (rtake_any hK g o _ s (sub_but_grown hMw.out hg0.out) h0.out 1 ⟨#[116, 114, 117, 101]⟩ kd_true).mono ?_
  rintro e w1 ⟨rfl, hga, hPa⟩
  have hz1 := Lib.hid (hz.out.kept hga (by simp; omega))
  have hg1 := Lib.hid (g_call hg0.out hga)
  have hzl : gz < w1.heap.size := hz1.out.lt
  clear hz h0 hg0
  cases hx : isP sTrue s with
  | true =>
    cases s with
    | error e => cases hx
    | ok ts =>
      cases ts with
      | nil => cases hx
      | cons u q =>
        have e1 : pastP (⟨#[116, 114, 117, 101]⟩ : ByteArray).data.toList (.ok (u :: q)) = .ok q := if_pos hx
        rw [e1] at hPa
        have hRB := RdF.mk' (B := gz) (St := fun w s => RfP T tb to' tc g w o s) hg1.out hPa hgl hwz
        have hv := Lib.hid (testS_true (r := q) (show isT sTrue u = true from hx))
        rw [show isP (⟨#[116, 114, 117, 101]⟩ : ByteArray).data.toList (.ok (u :: q)) = true from hx]
        clear hPa hga hx e1
        obtain ⟨z0, z1, z2, z3, z4, f0, f1, f2, f3, f4⟩ := own5z hz1.out
        have hzl' := (hz1.out).lt
        have hF := Lib.hid (hRB.set5 (q := gz) (Nat.le_refl _) (.int .i64 1) (.string ⟨#[]⟩) (.string ⟨#[]⟩) (.slice none 0 0) (.slice none 0 0))
        go_wp2
        refine bodyPost_ret (v := .agg #[.int .i64 1, .string ⟨#[]⟩, .string ⟨#[]⟩, .slice none 0 0, .slice none 0 0]) (by simp [results, Tryz.results194, go_sem, *]) rfl ?_
        exact (show Rd _ _ _ _ (testS (u :: q)) _ _ from by rw [hv.out]; exact Rd.ok hF.out.grown hF.out.st ⟨_, rfl, ex_flat _ 1 ⟨#[]⟩ ⟨#[]⟩, Nat.le_refl 0⟩)
  | false =>
    have hP1 : RfP T tb to' tc g w1 o s := by rw [← pastP_no (x := (⟨#[116, 114, 117, 101]⟩ : ByteArray).data.toList) hx]; exact hPa
    replace hP1 := Lib.hid hP1
    have hx1 := Lib.hid hx
    clear hPa hga
    rw [show isP (⟨#[116, 114, 117, 101]⟩ : ByteArray).data.toList s = false from hx]
    clear hx
    go_wp2_with fail
    refine (rtake_any hK g o _ s (sub_but_grown hMw.out hg1.out) hP1.out 1 ⟨#[109, 101, 109, 98, 101, 114]⟩ kd_member).mono ?_
    rintro e w2 ⟨rfl, hga, hPa⟩
    have hz2 := Lib.hid (hz1.out.kept hga (by simp; omega))
    have hg2 := Lib.hid (g_call hg1.out hga)
    have hzl2 : gz < w2.heap.size := hz2.out.lt
    clear hz1 hg1 hP1 hzl
    cases hx : isP sMember s with
    | true =>
      cases s with
      | error e => cases hx
      | ok ts =>
        cases ts with
        | nil => cases hx
        | cons u q =>
          have e1 : pastP (⟨#[109, 101, 109, 98, 101, 114]⟩ : ByteArray).data.toList (.ok (u :: q)) = .ok q := if_pos hx
          rw [e1] at hPa
          have hv := Lib.hid (testS_member (r := q) (show isT sTrue u = false from hx1.out) (show isT sMember u = true from hx))
          rw [show isP (⟨#[109, 101, 109, 98, 101, 114]⟩ : ByteArray).data.toList (.ok (u :: q)) = true from hx]
          clear hga hx e1 hx1
          go_wp2_with fail
          refine (rword_any hK g o _ (.ok q) (sub_but_grown hMw.out hg2.out) hPa).mono ?_
          rintro e w3 hr
          obtain ⟨x, rfl, hn, -⟩ := hr.str
          replace hn := Lib.hid hn
          have hz3 := hz2.out.kept hr.1 (by simp; omega)
          have hRB := RdF.mk' (B := gz) (St := fun w s => RfP T tb to' tc g w o s) (g_call hg2.out hr.1) hr.2.1 hgl hwz
          clear hr hPa
          obtain ⟨z0, z1, z2, z3, z4, f0, f1, f2, f3, f4⟩ := own5z hz3
          have hzl' := (hz3).lt
          have hF := Lib.hid (hRB.set5 (q := gz) (Nat.le_refl _) (.int .i64 5) (.string ⟨#[]⟩) (.string x) (.slice none 0 0) (.slice none 0 0))
          go_wp2
          refine bodyPost_ret (v := .agg #[.int .i64 5, .string ⟨#[]⟩, .string x, .slice none 0 0, .slice none 0 0]) (by simp [results, Tryz.results194, go_sem, *]) rfl ?_
          exact (show Rd _ _ _ _ (testS (u :: q)) _ _ from by
            have hv4 := fun (M : Mem) => ex_flat M 5 ⟨#[]⟩ x
            rw [hv.out]
            refine Rd.fin hF.out.grown (by rw [aft_map]; exact hF.out.st) (fun c q' hc => ?_) ⟨_, _, rfl, hv4 _, Nat.le_refl 0⟩
            obtain ⟨a, r1, h1, h2⟩ := bnd_inv hc
            injection h2 with h2
            injection h2 with h2 h3
            rw [← h2, ← hn.out a r1 h1]
            exact ⟨_, rfl, hv4 _, Nat.le_refl 0⟩)
    | false =>
      have hP2 : RfP T tb to' tc g w2 o s := by rw [← pastP_no (x := (⟨#[109, 101, 109, 98, 101, 114]⟩ : ByteArray).data.toList) hx]; exact hPa
      replace hP2 := Lib.hid hP2
      have hr0 := Lib.hid (testS_else hne.out hx1.out hx)
      clear hPa hga
      rw [show isP (⟨#[109, 101, 109, 98, 101, 114]⟩ : ByteArray).data.toList s = false from hx]
      clear hx hx1
      go_wp2_with fail
      refine (rword_any hK g o _ s (sub_but_grown hMw.out hg2.out) hP2.out).mono ?_
      rintro e w3 hr
      obtain ⟨kx, rfl, hkx, -⟩ := hr.str
      have hr1 := Lib.hid (hr0.out.trans (run_step (f := takeS 1) (K := fun k r1 => testF1 k.t r1) (s := s) ⟨0, kx.data.toList, 0, 0⟩ (fun b q h => by rw [← hkx b q h])))
      have hP3 := hr.2.1
      have hg3' := g_call hg2.out hr.1
      have hz3' := hz2.out.kept hr.1 (by simp; omega)
      have hg3 := Lib.hid (g_call hg3' (World.grownBy_alloc w3 (.cells #[.int .i64 0, .string kx, .string ⟨#[]⟩, .slice none 0 0, .slice none 0 0] 31) (some g)))
      have hz3 := Lib.hid (hz3'.alloc (.cells #[.int .i64 0, .string kx, .string ⟨#[]⟩, .slice none 0 0, .slice none 0 0] 31))
      have he3 := Lib.hid (Own.new w3 #[.int .i64 0, .string kx, .string ⟨#[]⟩, .slice none 0 0, .slice none 0 0] 31)
      have hP4 := Lib.hid (hP3.alloc (.cells #[.int .i64 0, .string kx, .string ⟨#[]⟩, .slice none 0 0, .slice none 0 0] 31))
      have hzl3 : gz < w3.heap.size := hz3'.lt
      have hB1 : (w3.alloc (.cells #[.int .i64 0, .string kx, .string ⟨#[]⟩, .slice none 0 0, .slice none 0 0] 31)).heap.size = w3.heap.size + 1 := by simp
      clear hr hkx hr0 hP3 hP2 hg2 hz2 hg3' hz3' hzl2
      generalize aft (runS s (takeS 1)) = s1 at hr1 hP4
      go_upto_region 6 with fail
      generalize w3.alloc (.cells #[.int .i64 0, .string kx, .string ⟨#[]⟩, .slice none 0 0, .slice none 0 0] 31) = w4 at hg3 hz3 he3 hP4 hB1 ⊢
      obtain ⟨ge, hge⟩ : ∃ z : Nat, Hid (z = w3.heap.size) := ⟨_, Lib.hid rfl⟩
      rw [← hge.out] at he3 hzl3 hB1 ⊢
      replace hB1 := Lib.hid hB1
      have hgge : g < ge := by omega
      have hbn := Lib.hid (show Below w4.heap.size w4 (w4.alloc (.cells #[.string ⟨#[46]⟩] 9)) from (Below.refl _ _).alloc (Nat.le_refl _) _)
      have hn9 := (Own.new w4 #[.string ⟨#[46]⟩] 9).cell 0
      simp only [List.getElem?_toArray, List.getElem?_cons_zero] at hn9
      have hgn : w4.heap.size ≠ g := by have := hP4.out.lt; omega
      replace hg3 := Lib.hid (g_below hg3.out hbn.out)
      replace hz3 := Lib.hid (hz3.out.below hbn.out hz3.out.lt)
      replace he3 := Lib.hid (he3.out.below hbn.out he3.out.lt)
      replace hP4 := Lib.hid (hP4.out.below hbn.out)
      go_wp2_with fail
      refine (rneed_any hK g o _ s1 (sub_but_grown hMw.out hg3.out) hP4.out ⟨#[46]⟩ sg_dot w4.heap.size 1 hn9 hgn).mono ?_
      rintro e w5 hr
      obtain rfl := hr.none
      have hr2 := Lib.hid (hr1.out.trans (run_step (f := needS sDot) (K := fun _ r2 => testF2 kx.data.toList r2) (s := s1) () (fun b q h => rfl)))
      have hg5 := Lib.hid (g_call hg3.out hr.1)
      have hz5 := Lib.hid (hz3.out.kept hr.1 (by simp; omega))
      have he5 := Lib.hid (he3.out.kept hr.1 (by simp; omega))
      have hP5 := Lib.hid (show RfP T tb to' tc g w5 o (aft (runS s1 (needS sDot))) from hr.2.1)
      have hB5 : ge < w5.heap.size := he5.out.lt
      clear hr hr1 hg3 hz3 he3 hP4
      generalize aft (runS s1 (needS sDot)) = s2 at hr2 hP5
      obtain ⟨-, -, e2, -, -, -, -, ef2, -⟩ := own5z he5.out
      go_wp2_with fail
      refine (rword_any hK g o _ s2 (sub_but_grown hMw.out hg5.out) hP5.out).mono ?_
      rintro e w6 hr
      obtain ⟨nx, rfl, hnx, -⟩ := hr.str
      have hr3 := Lib.hid (hr2.out.trans (run_step (f := takeS 1) (K := fun n r3 => testF3 kx.data.toList n.t r3) (s := s2) ⟨0, nx.data.toList, 0, 0⟩ (fun b q h => by rw [← hnx b q h])))
      have he6 := he5.out.kept hr.1 (by simp; omega)
      have hg6' := g_call hg5.out hr.1
      have hz6' := hz5.out.kept hr.1 (by simp; omega)
      obtain ⟨-, -, d2, -, -, -, -, df2, -⟩ := own5z he6
      have he6l := he6.lt
      have hg6 := Lib.hid (g_setCell hg6' (p := ⟨ge, 2, none⟩) (by simp; omega) (.string nx))
      have hz6 := Lib.hid (hz6'.setOther (p := ⟨ge, 2, none⟩) (by simp; omega) (.string nx))
      have he7 := Lib.hid (show Own (w6.setCell ⟨ge, 2, none⟩ (.string nx)) ge #[.int .i64 0, .string kx, .string nx, .slice none 0 0, .slice none 0 0] 31 from he6.set 2 _)
      have hP6 := Lib.hid ((show RfP T tb to' tc g w6 o (aft (runS s2 (takeS 1))) from hr.2.1).set (q := ge) (i := 2) (by omega) (.string nx))
      clear hr hnx hr2 hg5 hz5 he5 hP5 e2 ef2 hg6' hz6' he6
      generalize aft (runS s2 (takeS 1)) = s3 at hr3 hP6
      go_upto_region 8 with fail
      clear d2 df2
      generalize w6.setCell ⟨ge, 2, none⟩ (.string nx) = w7 at hg6 hz6 he7 hP6 ⊢
      have hal := Lib.hid (show Below w7.heap.size w7 ((w7.alloc (.cells #[.string ⟨#[101, 120, 105, 115, 116, 115]⟩, .string ⟨#[105, 115]⟩, .string ⟨#[105, 110]⟩, .string ⟨#[115, 116, 97, 114, 116, 115]⟩, .string ⟨#[101, 110, 100, 115]⟩, .string ⟨#[99, 111, 110, 116, 97, 105, 110, 115]⟩] 9)).alloc (.cells #[.string ⟨#[60]⟩, .string ⟨#[60, 61]⟩, .string ⟨#[62]⟩, .string ⟨#[62, 61]⟩] 9)) from ((Below.refl _ _).alloc (Nat.le_refl _) _).alloc (by simp) _)
      have hg8 := Lib.hid (g_below hg6.out hal.out)
      have hz8 := Lib.hid (hz6.out.below hal.out hz6.out.lt)
      have he8 := Lib.hid (he7.out.below hal.out he7.out.lt)
      have hP8 := Lib.hid (hP6.out.below hal.out)
      have hw8 := Lib.hid ((Own.new w7 #[.string ⟨#[101, 120, 105, 115, 116, 115]⟩, .string ⟨#[105, 115]⟩, .string ⟨#[105, 110]⟩, .string ⟨#[115, 116, 97, 114, 116, 115]⟩, .string ⟨#[101, 110, 100, 115]⟩, .string ⟨#[99, 111, 110, 116, 97, 105, 110, 115]⟩] 9).alloc (.cells #[.string ⟨#[60]⟩, .string ⟨#[60, 61]⟩, .string ⟨#[62]⟩, .string ⟨#[62, 61]⟩] 9))
      have hs8 := Lib.hid (show Own ((w7.alloc (.cells #[.string ⟨#[101, 120, 105, 115, 116, 115]⟩, .string ⟨#[105, 115]⟩, .string ⟨#[105, 110]⟩, .string ⟨#[115, 116, 97, 114, 116, 115]⟩, .string ⟨#[101, 110, 100, 115]⟩, .string ⟨#[99, 111, 110, 116, 97, 105, 110, 115]⟩] 9)).alloc (.cells #[.string ⟨#[60]⟩, .string ⟨#[60, 61]⟩, .string ⟨#[62]⟩, .string ⟨#[62, 61]⟩] 9)) (w7.heap.size + 1) #[.string ⟨#[60]⟩, .string ⟨#[60, 61]⟩, .string ⟨#[62]⟩, .string ⟨#[62, 61]⟩] 9 from Own.new' (by simp))
      have hgl7 : ge < w7.heap.size := he7.out.lt
      clear hal hg6 hz6 he7 hP6
      go_wp2_with fail
      generalize (w7.alloc (.cells #[.string ⟨#[101, 120, 105, 115, 116, 115]⟩, .string ⟨#[105, 115]⟩, .string ⟨#[105, 110]⟩, .string ⟨#[115, 116, 97, 114, 116, 115]⟩, .string ⟨#[101, 110, 100, 115]⟩, .string ⟨#[99, 111, 110, 116, 97, 105, 110, 115]⟩] 9)).alloc (.cells #[.string ⟨#[60]⟩, .string ⟨#[60, 61]⟩, .string ⟨#[62]⟩, .string ⟨#[62, 61]⟩] 9) = w8 at hg8 hz8 he8 hP8 hw8 hs8 ⊢
      obtain ⟨lw, hlw0⟩ : ∃ z : Nat, Hid (z = w7.heap.size) := ⟨_, Lib.hid rfl⟩
      have hgw : ge < lw := by have := hlw0.out; omega
      rw [← hlw0.out] at hw8 hs8 ⊢
      obtain ⟨ls, hls0⟩ : ∃ z : Nat, Hid (z = lw + 1) := ⟨_, Lib.hid rfl⟩
      have hgs : ge < ls := by have := hls0.out; omega
      rw [← hls0.out] at hs8 ⊢

      go_loopw [6] (fun s6 wr => ∃ (k : Nat) (op : Int) (s' : PS), k ≤ 6 ∧ s6 = .int .i64 k ∧ Hid (Own wr ge #[.int .i64 op, .string kx, .string nx, .slice none 0 0, .slice none 0 0] 31) ∧ Hid (w.grownBy wr (some g)) ∧ Hid (RfP T tb to' tc g wr o s') ∧ Hid (Own wr gz #[.int .i64 0, .string ⟨#[]⟩, .string ⟨#[]⟩, .slice none 0 0, .slice none 0 0] 31) ∧ Hid (Own wr lw #[.string ⟨#[101, 120, 105, 115, 116, 115]⟩, .string ⟨#[105, 115]⟩, .string ⟨#[105, 110]⟩, .string ⟨#[115, 116, 97, 114, 116, 115]⟩, .string ⟨#[101, 110, 100, 115]⟩, .string ⟨#[99, 111, 110, 116, 97, 105, 110, 115]⟩] 9) ∧ Hid (Own wr ls #[.string ⟨#[60]⟩, .string ⟨#[60, 61]⟩, .string ⟨#[62]⟩, .string ⟨#[62, 61]⟩] 9) ∧ Hid (ChAt s3 (k + 0) op s')) (fun s6 _ => 6 - (intOf s6).toNat)
      case atStart => exact ⟨0, 0, s3, Nat.zero_le _, rfl, he8, hg8, hP8, hz8, hw8, hs8, Lib.hid (ChAt.start s3)⟩
      case round =>
        clear he8 hg8 hP8 hz8 hw8 hs8
        obtain ⟨k, op, s', hk6, rfl, he, hg, hP, hz, hw, hs, hC⟩ := hrel
        have e0 := he.out.cell 0
        have hel := he.out.lt
        have hgz := hg.out.size
        simp only [List.getElem?_toArray, List.getElem?_cons_zero] at e0
        by_cases hk : k < 6
        case neg =>
          obtain rfl : k = 6 := by omega
          clear e0
          try rw [show ((6 : Nat) : Int) = 6 from rfl]
          go_wp2_with fail

          go_loopw [7] (fun s6 wr => ∃ (k : Nat) (op : Int) (s' : PS), k ≤ 4 ∧ s6 = .int .i64 k ∧ Hid (Own wr ge #[.int .i64 op, .string kx, .string nx, .slice none 0 0, .slice none 0 0] 31) ∧ Hid (w.grownBy wr (some g)) ∧ Hid (RfP T tb to' tc g wr o s') ∧ Hid (Own wr gz #[.int .i64 0, .string ⟨#[]⟩, .string ⟨#[]⟩, .slice none 0 0, .slice none 0 0] 31) ∧ Hid (Own wr lw #[.string ⟨#[101, 120, 105, 115, 116, 115]⟩, .string ⟨#[105, 115]⟩, .string ⟨#[105, 110]⟩, .string ⟨#[115, 116, 97, 114, 116, 115]⟩, .string ⟨#[101, 110, 100, 115]⟩, .string ⟨#[99, 111, 110, 116, 97, 105, 110, 115]⟩] 9) ∧ Hid (Own wr ls #[.string ⟨#[60]⟩, .string ⟨#[60, 61]⟩, .string ⟨#[62]⟩, .string ⟨#[62, 61]⟩] 9) ∧ Hid (ChAt s3 (k + 6) op s')) (fun s6 _ => 4 - (intOf s6).toNat)
          case atStart => exact ⟨0, op, s', Nat.zero_le _, rfl, he, hg, hP, hz, hw, hs, hC⟩
          case round =>
            clear he hg hP hz hw hs hC
            obtain ⟨k, op, s', hk6, rfl, he, hg, hP, hz, hw, hs, hC⟩ := hrel
            have e0 := he.out.cell 0
            have hel := he.out.lt
            have hgz := hg.out.size
            simp only [List.getElem?_toArray, List.getElem?_cons_zero] at e0
            by_cases hk : k < 4
            case neg =>
              obtain rfl : k = 4 := by omega
              clear e0
              try rw [show ((4 : Nat) : Int) = 4 from rfl]
              by_cases hop : op = 0
              case pos =>
                subst hop
                obtain ⟨rfl, hno⟩ := hC.out.zero
                have hno2 := Lib.hid hno
                clear hno
                have e0 := he.out.cell 0
                simp only [List.getElem?_toArray, List.getElem?_cons_zero] at e0
                go_wp2_with fail
                refine (rpeek_any hK g o _ s3 (sub_but_grown hMw.out hg.out) hP.out).mono ?_
                rintro e w2 ⟨⟨t, rfl, ht, -⟩, hb⟩
                have hP2 := Lib.hid (hP.out.below hb)
                have hg2 := Lib.hid (g_below hg.out hb)
                have hz2 := Lib.hid (hz.out.below hb hz.out.lt)
                have he2 := Lib.hid (he.out.below hb he.out.lt)
                have hbad := Lib.hid (ChAt.done hno2.out ht)
                clear hb hP hg hz he e0 ht
                go_wp2_with fail
                rw [← row_arr]
                refine (rfail_any g o _ s3 hP2.out t 1 (by decide)).mono ?_
                rintro e w3 ⟨rfl, hga, hP3⟩
                have hz3' := hz2.out.kept hga (by simp; omega)
                have he3' := he2.out.kept hga (by simp; omega)
                have hRB := RdF.mk' (B := gz) (St := fun w s => RfP T tb to' tc g w o s) (s := aft (runS s testS)) (g_call hg2.out hga) (by rw [hr3.out, test_bad hbad.out.1 hbad.out.2 |>.1]; exact hP3) hgl hwz
                obtain ⟨z0, z1, z2, z3, z4, f0, f1, f2, f3, f4⟩ := own5z hz3'
                obtain ⟨y0, y1, y2, y3, y4, -⟩ := own5z he3'
                have hzl' := hz3'.lt
                have hF := Lib.hid (hRB.set5 (q := gz) (Nat.le_refl _) (.int .i64 0) (.string kx) (.string nx) (.slice none 0 0) (.slice none 0 0))
                have hnv := Lib.hid (test_bad (kx := kx.data.toList) (nx := nx.data.toList) hbad.out.1 hbad.out.2 |>.2)
                clear hga hP3 hRB hz3' he3'
                go_wp2
                refine bodyPost_ret (v := .agg #[.int .i64 0, .string kx, .string nx, .slice none 0 0, .slice none 0 0]) (by simp [results, Tryz.results194, go_sem, *]) rfl ?_
                exact Rd.fin hF.out.grown hF.out.st (fun c q hc => absurd (by rw [← hr3.out]; exact hc) (hnv.out c q)) ⟨_, _, rfl, ex_flat _ 0 kx nx, Nat.le_refl 0⟩
              obtain ⟨i, hi, rfl, ts, rfl, hch, rfl⟩ := hC.out.got hop
              have hr4 := Lib.hid (hr3.out.trans (test_go (kx := kx.data.toList) (nx := nx.data.toList) hch))
              have b0 : (6 + (i : Int) == 0) = false := beq_eq_false_iff_ne.2 (by omega)
              clear hop hC hch hr3 hw hs
              have hg9 := hg
              have hz9 := hz
              have he10 := he
              have hP9 := hP
              clear hg hz he hP
              obtain ⟨s4, hs4⟩ : ∃ s4 : PS, Hid (s4 = .ok ts.tail) := ⟨_, Lib.hid rfl⟩
              rw [← hs4.out] at hP9 hr4
              generalize wr = w10 at hg9 hz9 he10 hP9 ⊢
              have hB10 : ge < w10.heap.size := he10.out.lt
              have hwz10 : w.heap.size ≤ w10.heap.size := hg9.out.size
              obtain ⟨e0, e1, e2, e3, e4, -⟩ := own5z he10.out
              have hd := Lib.hid (show (aft (runS s testS) = aft (runS s4 (argS i))) ∧ ∀ l : List VV, (∀ a q, runS s4 (argS i) = .ok (a, q) → a = l) → ∀ c q, runS s testS = .ok (c, q) → c = .mk (6 + i) kx.data.toList nx.data.toList l [] from
                ⟨by rw [hr4.out]; exact aft_arg, fun l hl => by rw [hr4.out]; exact arg_end hl⟩)
              clear hr4
              by_cases h0 : i = 0
              case pos =>
                subst h0
                have hRB := RdF.mk' (B := gz) (St := fun w s => RfP T tb to' tc g w o s) (s := aft (runS s testS)) hg9.out (by rw [hd.out.1]; cases s4 with | error e => exact hP9.out | ok ts => exact hP9.out) hgl hwz
                obtain ⟨z0, z1, z2, z3, z4, f0, f1, f2, f3, f4⟩ := own5z hz9.out
                have hzl' := (hz9.out).lt
                have hF := Lib.hid (hRB.set5 (q := gz) (Nat.le_refl _) (.int .i64 6) (.string kx) (.string nx) (.slice none 0 0) (.slice none 0 0))
                go_wp2
                refine bodyPost_ret (v := .agg #[.int .i64 6, .string kx, .string nx, .slice none 0 0, .slice none 0 0]) (by simp [results, Tryz.results194, go_sem, *]) rfl ?_
                have hv4 := fun (M : Mem) => ex_flat M 6 kx nx
                exact Rd.fin hF.out.grown hF.out.st (fun c q hc => by rw [hd.out.2 [] (fun a q h => by cases s4 with | error e => cases h | ok ts => (injection h with h; injection h with h1 h2; exact h1.symm)) c q hc]; exact ⟨_, rfl, hv4 _, Nat.le_refl 0⟩) ⟨_, _, rfl, hv4 _, Nat.le_refl 0⟩
              by_cases h2 : i = 2
              case pos =>
                subst h2
                have hA0 := Lib.hid (run_step (f := needS sLb) (K := fun _ r => argG r) (s := s4) () (fun b q h => rfl))
                have hA : Hid (runS s4 (argS 2) = runS (aft (runS s4 (needS sLb))) argG) := Lib.hid (by rw [← hA0.out]; rfl)
                clear hA0
                have hbn := Lib.hid (show Below w10.heap.size w10 (w10.alloc (.cells #[.string ⟨#[91]⟩] 9)) from (Below.refl _ _).alloc (Nat.le_refl _) _)
                have hn9 := (Own.new w10 #[.string ⟨#[91]⟩] 9).cell 0
                simp only [List.getElem?_toArray, List.getElem?_cons_zero] at hn9
                have hgn : w10.heap.size ≠ g := by have := hP9.out.lt; omega
                replace hg9 := Lib.hid (g_below hg9.out hbn.out)
                replace hz9 := Lib.hid (hz9.out.below hbn.out hz9.out.lt)
                replace he10 := Lib.hid (he10.out.below hbn.out he10.out.lt)
                replace hP9 := Lib.hid (hP9.out.below hbn.out)
                go_wp2_with fail
                refine (rneed_any hK g o _ s4 (sub_but_grown hMw.out hg9.out) hP9.out ⟨#[91]⟩ sg_lb w10.heap.size 1 hn9 hgn).mono ?_
                rintro e w11 hr
                obtain rfl := hr.none
                have hg11 := Lib.hid (g_call hg9.out hr.1)
                have hz11 := Lib.hid (hz9.out.kept hr.1 (by simp; omega))
                have he11 := Lib.hid (he10.out.kept hr.1 (by simp; omega))
                have hP11 := Lib.hid (show RfP T tb to' tc g w11 o (aft (runS s4 (needS sLb))) from hr.2.1)
                have hB11 : ge < w11.heap.size := he11.out.lt
                clear hr hg9 hz9 he10 hP9 e0 e1 e2 e3 e4
                generalize aft (runS s4 (needS sLb)) = s5 at hA hP11
                go_wp2_with fail
                refine (rvalues_any hK g o _ s5 (sub_but_grown hMw.out hg11.out) hP11.out).mono ?_
                rintro e w12 hr
                obtain ⟨va, vn, vc, ds, rfl, hrow, hlat, hds⟩ := hr.vals
                have hA1 : Hid (runS s4 (argS 2) = runS (aft (runS s5 valuesS)) (argH (ds.map vv))) := Lib.hid (hA.out.trans (run_step (f := valuesS) (K := fun l r' => argH l r') (s := s5) (ds.map vv) (fun b q h => by rw [hds b q h])))
                have he12 := he11.out.kept hr.1 (by simp; omega)
                have hz12 := hz11.out.kept hr.1 (by simp; omega)
                have hg12 := g_call hg11.out hr.1
                obtain ⟨-, -, -, d3, -, -, -, -, df3, -⟩ := own5z he12
                have he12l := he12.lt
                have hg13 := Lib.hid (g_setCell hg12 (p := ⟨ge, 3, none⟩) (by simp; omega) (.slice va vn vc))
                have hz13 := Lib.hid (hz12.setOther (p := ⟨ge, 3, none⟩) (by simp; omega) (.slice va vn vc))
                have he13 := Lib.hid (show Own (w12.setCell ⟨ge, 3, none⟩ (.slice va vn vc)) ge #[.int .i64 (6 + ((2 : Nat) : Int)), .string kx, .string nx, .slice va vn vc, .slice none 0 0] 31 from he12.set 3 _)
                have hP13 := Lib.hid ((show RfP T tb to' tc g w12 o (aft (runS s5 valuesS)) from hr.2.1).set (q := ge) (i := 3) (by omega) (.slice va vn vc))
                have hrow13 := Lib.hid (hrow.mono (nex_set (q := ge) (o := 3) (Or.inr hB11) (.slice va vn vc)))
                have hlat13 := Lib.hid (fun d hd => (hlat d hd).mono (nex_set (q := ge) (o := 3) (Or.inr hB11) (.slice va vn vc)))
                clear hr hA hg11 hz11 he11 hP11 hrow hlat hds he12 hz12 hg12
                generalize aft (runS s5 valuesS) = s6 at hA1 hP13
                go_upto_region 28 with fail
                clear d3 df3
                generalize w12.setCell ⟨ge, 3, none⟩ (.slice va vn vc) = w13 at hg13 hz13 he13 hP13 hrow13 hlat13 ⊢
                have hbn := Lib.hid (show Below w13.heap.size w13 (w13.alloc (.cells #[.string ⟨#[93]⟩] 9)) from (Below.refl _ _).alloc (Nat.le_refl _) _)
                have hn9 := (Own.new w13 #[.string ⟨#[93]⟩] 9).cell 0
                simp only [List.getElem?_toArray, List.getElem?_cons_zero] at hn9
                have hgn : w13.heap.size ≠ g := by have := hP13.out.lt; omega
                replace hg13 := Lib.hid (g_below hg13.out hbn.out)
                replace hz13 := Lib.hid (hz13.out.below hbn.out hz13.out.lt)
                replace he13 := Lib.hid (he13.out.below hbn.out he13.out.lt)
                replace hP13 := Lib.hid (hP13.out.below hbn.out)
                replace hrow13 := Lib.hid (hrow13.out.mono (nex_grown (grown_of_below hbn.out none) (fun k e => by cases e)))
                replace hlat13 := Lib.hid (fun d hd => (hlat13.out d hd).mono (nex_grown (grown_of_below hbn.out none) (fun k e => by cases e)))
                go_wp2_with fail
                refine (rneed_any hK g o _ s6 (sub_but_grown hMw.out hg13.out) hP13.out ⟨#[93]⟩ sg_rb w13.heap.size 1 hn9 hgn).mono ?_
                rintro e w14 hr
                obtain rfl := hr.none
                have he14 := he13.out.kept hr.1 (by simp; omega)
                have hz14 := hz13.out.kept hr.1 (by simp; omega)
                obtain ⟨y0, y1, y2, y3, y4, -⟩ := own5z he14
                have hq := aft_one (s := s6) (f := needS sRb) (k := fun _ => ds.map vv) (a := argH (ds.map vv)) (fun ts => rfl)
                have hRB := RdF.mk' (B := gz) (St := fun w s => RfP T tb to' tc g w o s) (s := aft (runS s testS)) (g_call hg13.out hr.1) (by rw [hd.out.1, hA1.out, hq.1]; exact hr.2.1) hgl hwz
                obtain ⟨z0, z1, z2, z3, z4, f0, f1, f2, f3, f4⟩ := own5z (hz14)
                have hzl' := (hz14).lt
                have hF := Lib.hid (hRB.set5 (q := gz) (Nat.le_refl _) (.int .i64 (6 + ((2 : Nat) : Int))) (.string kx) (.string nx) (.slice va vn vc) (.slice none 0 0))
                have hX := Lib.hid (ex_vals (6 + ((2 : Nat) : Int)) kx nx ((hrow13.out.mono (nex_grown hr.1 (fun k e => by cases e; exact Or.inl (by simp)))).mono ((nex_set5 (q := gz) (by omega) (.int .i64 (6 + ((2 : Nat) : Int))) (.string kx) (.string nx) (.slice va vn vc) (.slice none 0 0)).trans (nex_up _ (show w.heap.size ≤ w11.heap.size by omega) (fun k hk => Or.inl hk)))) (fun d hd => LAt.mono ((nex_set5 (q := gz) (by omega) (.int .i64 (6 + ((2 : Nat) : Int))) (.string kx) (.string nx) (.slice va vn vc) (.slice none 0 0)).trans (nex_up _ (show w.heap.size ≤ w11.heap.size by omega) (fun k hk => Or.inl hk))) ((fun d hd => (hlat13.out d hd).mono (nex_grown hr.1 (fun k e => by cases e; exact Or.inl (by simp)))) d hd)))
                have hall := Lib.hid (hd.out.2 (ds.map vv) (fun a q h => by rw [hA1.out] at h; obtain ⟨x, q2, -, e⟩ := hq.2 a q h; exact e))
                clear hr hRB hz14 he14 hq
                go_wp2
                refine bodyPost_ret (v := .agg #[.int .i64 (6 + ((2 : Nat) : Int)), .string kx, .string nx, .slice va vn vc, .slice none 0 0]) (by simp [results, Tryz.results194, go_sem, *]) rfl ?_
                exact Rd.fin hF.out.grown hF.out.st (fun c q hc => by rw [hall.out c q hc]; exact ⟨_, rfl, hX.out, Nat.le_refl 0⟩) ⟨_, _, rfl, hX.out, Nat.le_refl 0⟩
              by_cases h35 : 3 ≤ i ∧ i ≤ 5
              case pos =>
                have hq := aft_one (s := s4) (f := takeS 3) (k := fun t => [(⟨3, 0, t.t, []⟩ : VV)]) (a := argS i) (argS_text h35)
                replace hq := Lib.hid hq
                have hi3 : i = 3 ∨ i = 4 ∨ i = 5 := by omega
                clear h0 h2 h35
                rcases hi3 with rfl | rfl | rfl
                · go_wp2_with fail
                  refine (rtext_any hK g o _ s4 (sub_but_grown hMw.out hg9.out) hP9.out).mono ?_
                  rintro e w11 hr
                  obtain ⟨x, rfl, hx, hxz⟩ := hr.str
                  have hz11 := hz9.out.kept hr.1 (by simp; omega)
                  have he11 := he10.out.kept hr.1 (by simp; omega)
                  have hg11 := g_call hg9.out hr.1
                  have hP11 := hr.2.1
                  have hB11 : w10.heap.size ≤ w11.heap.size := hr.1.size
                  obtain ⟨-, -, -, d3, -, -, -, -, df3, -⟩ := own5z he11
                  have he11l := he11.lt
                  have hg12 := g_setCell hg11 (p := ⟨ge, 3, none⟩) (by simp; omega) (.slice (some ⟨w11.heap.size, 0, none⟩) 1 1)
                  have hz12 := hz11.setOther (p := ⟨ge, 3, none⟩) (by simp; omega) (.slice (some ⟨w11.heap.size, 0, none⟩) 1 1)
                  have he12 : Own (w11.setCell ⟨ge, 3, none⟩ (.slice (some ⟨w11.heap.size, 0, none⟩) 1 1)) ge #[.int .i64 (6 + ((3 : Nat) : Int)), .string kx, .string nx, .slice (some ⟨w11.heap.size, 0, none⟩) 1 1, .slice none 0 0] 31 := he11.set 3 _
                  have hP12 := hP11.set (q := ge) (i := 3) (by omega) (.slice (some ⟨w11.heap.size, 0, none⟩) 1 1)
                  have hs12 : (w11.setCell ⟨ge, 3, none⟩ (.slice (some ⟨w11.heap.size, 0, none⟩) 1 1)).heap.size = w11.heap.size := by simp
                  have hro := ro_one (e := 76) (sz := 4) (B := w10.heap.size) (w11.setCell ⟨ge, 3, none⟩ (.slice (some ⟨w11.heap.size, 0, none⟩) 1 1)) #[.int .i64 3, .int .i64 0, .string x, .slice none 0 0] (by rw [hs12]; omega) rfl
                  rw [hs12] at hro
                  have hrow := hro.new (g := g) (by intro r hr; rw [List.mem_singleton.1 hr]; rfl) (by omega)
                  have hlat : ∀ d ∈ [(⟨3, 0, x, none, 0, 0, []⟩ : VD)], LAt (nex w10.heap.size [g] ((w11.setCell ⟨ge, 3, none⟩ (.slice (some ⟨w11.heap.size, 0, none⟩) 1 1)).alloc (.cells #[.int .i64 3, .int .i64 0, .string x, .slice none 0 0] 76))) d := fun d hd => by
                    obtain rfl := List.mem_singleton.1 hd
                    exact LAt.flat _ 3 0 x (by omega)
                  have hg13 := Lib.hid (g_call hg12 (World.grownBy_alloc _ (.cells #[.int .i64 3, .int .i64 0, .string x, .slice none 0 0] 76) (some g)))
                  have hz13 := Lib.hid (hz12.alloc (.cells #[.int .i64 3, .int .i64 0, .string x, .slice none 0 0] 76))
                  have he13 := Lib.hid (he12.alloc (.cells #[.int .i64 3, .int .i64 0, .string x, .slice none 0 0] 76))
                  have hP13 := Lib.hid (hP12.alloc (.cells #[.int .i64 3, .int .i64 0, .string x, .slice none 0 0] 76))
                  have hrow13 : Hid (RowsAt (nex w10.heap.size [g] ((w11.setCell ⟨ge, 3, none⟩ (.slice (some ⟨w11.heap.size, 0, none⟩) 1 1)).alloc (.cells #[.int .i64 3, .int .i64 0, .string x, .slice none 0 0] 76))) 4 (.slice (some ⟨w11.heap.size, 0, none⟩) 1 1) ([(⟨3, 0, x, none, 0, 0, []⟩ : VD)].map VD.row)) := Lib.hid hrow
                  replace hlat := Lib.hid hlat
                  have hall := Lib.hid (hd.out.2 ([(⟨3, 0, x, none, 0, 0, []⟩ : VD)].map vv) (fun a q h => by obtain ⟨t, q2, e1, e2⟩ := hq.out.2 a q h; rw [e2, ← hx t q2 e1]; rfl))
                  have hq1 := Lib.hid ((hq.out).1)
                  clear hr hg12 hz12 he12 hP12 hro hrow hg11 hz11 hP11 hx hg9 hz9 he10 hP9 e0 e1 e2 e3 e4
                  go_upto_region 33 with fail
                  clear d3 df3 he11
                  generalize (w11.setCell ⟨ge, 3, none⟩ (.slice (some ⟨w11.heap.size, 0, none⟩) 1 1)).alloc (.cells #[.int .i64 3, .int .i64 0, .string x, .slice none 0 0] 76) = w13 at hg13 hz13 he13 hP13 hrow13 hlat ⊢
                  obtain ⟨y0, y1, y2, y3, y4, -⟩ := own5z he13.out
                  have he13l := he13.out.lt
                  have hRB := RdF.mk' (B := gz) (St := fun w s => RfP T tb to' tc g w o s) (s := aft (runS s testS)) (hg13.out) (by rw [hd.out.1, hq1.out]; exact hP13.out) hgl hwz
                  obtain ⟨z0, z1, z2, z3, z4, f0, f1, f2, f3, f4⟩ := own5z (hz13.out)
                  have hzl' := (hz13.out).lt
                  have hF := Lib.hid (hRB.set5 (q := gz) (Nat.le_refl _) (.int .i64 (6 + ((3 : Nat) : Int))) (.string kx) (.string nx) (.slice (some ⟨w11.heap.size, 0, none⟩) 1 1) (.slice none 0 0))
                  have hX := Lib.hid (ex_vals (6 + ((3 : Nat) : Int)) kx nx ((hrow13.out).mono ((nex_set5 (q := gz) (by omega) (.int .i64 (6 + ((3 : Nat) : Int))) (.string kx) (.string nx) (.slice (some ⟨w11.heap.size, 0, none⟩) 1 1) (.slice none 0 0)).trans (nex_up _ (show w.heap.size ≤ w10.heap.size by omega) (fun k hk => Or.inl hk)))) (fun d hd => LAt.mono ((nex_set5 (q := gz) (by omega) (.int .i64 (6 + ((3 : Nat) : Int))) (.string kx) (.string nx) (.slice (some ⟨w11.heap.size, 0, none⟩) 1 1) (.slice none 0 0)).trans (nex_up _ (show w.heap.size ≤ w10.heap.size by omega) (fun k hk => Or.inl hk))) ((hlat.out) d hd)))
                  clear hRB
                  go_wp2
                  refine bodyPost_ret (v := .agg #[.int .i64 (6 + ((3 : Nat) : Int)), .string kx, .string nx, .slice (some ⟨w11.heap.size, 0, none⟩) 1 1, .slice none 0 0]) (by simp [results, Tryz.results194, go_sem, *]) rfl ?_
                  exact Rd.fin hF.out.grown hF.out.st (fun c q hc => by rw [hall.out c q hc]; exact ⟨_, rfl, hX.out, Nat.le_refl 0⟩) ⟨_, _, rfl, hX.out, Nat.le_refl 0⟩
                · go_wp2_with fail
                  refine (rtext_any hK g o _ s4 (sub_but_grown hMw.out hg9.out) hP9.out).mono ?_
                  rintro e w11 hr
                  obtain ⟨x, rfl, hx, hxz⟩ := hr.str
                  have hz11 := hz9.out.kept hr.1 (by simp; omega)
                  have he11 := he10.out.kept hr.1 (by simp; omega)
                  have hg11 := g_call hg9.out hr.1
                  have hP11 := hr.2.1
                  have hB11 : w10.heap.size ≤ w11.heap.size := hr.1.size
                  obtain ⟨-, -, -, d3, -, -, -, -, df3, -⟩ := own5z he11
                  have he11l := he11.lt
                  have hg12 := g_setCell hg11 (p := ⟨ge, 3, none⟩) (by simp; omega) (.slice (some ⟨w11.heap.size, 0, none⟩) 1 1)
                  have hz12 := hz11.setOther (p := ⟨ge, 3, none⟩) (by simp; omega) (.slice (some ⟨w11.heap.size, 0, none⟩) 1 1)
                  have he12 : Own (w11.setCell ⟨ge, 3, none⟩ (.slice (some ⟨w11.heap.size, 0, none⟩) 1 1)) ge #[.int .i64 (6 + ((4 : Nat) : Int)), .string kx, .string nx, .slice (some ⟨w11.heap.size, 0, none⟩) 1 1, .slice none 0 0] 31 := he11.set 3 _
                  have hP12 := hP11.set (q := ge) (i := 3) (by omega) (.slice (some ⟨w11.heap.size, 0, none⟩) 1 1)
                  have hs12 : (w11.setCell ⟨ge, 3, none⟩ (.slice (some ⟨w11.heap.size, 0, none⟩) 1 1)).heap.size = w11.heap.size := by simp
                  have hro := ro_one (e := 76) (sz := 4) (B := w10.heap.size) (w11.setCell ⟨ge, 3, none⟩ (.slice (some ⟨w11.heap.size, 0, none⟩) 1 1)) #[.int .i64 3, .int .i64 0, .string x, .slice none 0 0] (by rw [hs12]; omega) rfl
                  rw [hs12] at hro
                  have hrow := hro.new (g := g) (by intro r hr; rw [List.mem_singleton.1 hr]; rfl) (by omega)
                  have hlat : ∀ d ∈ [(⟨3, 0, x, none, 0, 0, []⟩ : VD)], LAt (nex w10.heap.size [g] ((w11.setCell ⟨ge, 3, none⟩ (.slice (some ⟨w11.heap.size, 0, none⟩) 1 1)).alloc (.cells #[.int .i64 3, .int .i64 0, .string x, .slice none 0 0] 76))) d := fun d hd => by
                    obtain rfl := List.mem_singleton.1 hd
                    exact LAt.flat _ 3 0 x (by omega)
                  have hg13 := Lib.hid (g_call hg12 (World.grownBy_alloc _ (.cells #[.int .i64 3, .int .i64 0, .string x, .slice none 0 0] 76) (some g)))
                  have hz13 := Lib.hid (hz12.alloc (.cells #[.int .i64 3, .int .i64 0, .string x, .slice none 0 0] 76))
                  have he13 := Lib.hid (he12.alloc (.cells #[.int .i64 3, .int .i64 0, .string x, .slice none 0 0] 76))
                  have hP13 := Lib.hid (hP12.alloc (.cells #[.int .i64 3, .int .i64 0, .string x, .slice none 0 0] 76))
                  have hrow13 : Hid (RowsAt (nex w10.heap.size [g] ((w11.setCell ⟨ge, 3, none⟩ (.slice (some ⟨w11.heap.size, 0, none⟩) 1 1)).alloc (.cells #[.int .i64 3, .int .i64 0, .string x, .slice none 0 0] 76))) 4 (.slice (some ⟨w11.heap.size, 0, none⟩) 1 1) ([(⟨3, 0, x, none, 0, 0, []⟩ : VD)].map VD.row)) := Lib.hid hrow
                  replace hlat := Lib.hid hlat
                  have hall := Lib.hid (hd.out.2 ([(⟨3, 0, x, none, 0, 0, []⟩ : VD)].map vv) (fun a q h => by obtain ⟨t, q2, e1, e2⟩ := hq.out.2 a q h; rw [e2, ← hx t q2 e1]; rfl))
                  have hq1 := Lib.hid ((hq.out).1)
                  clear hr hg12 hz12 he12 hP12 hro hrow hg11 hz11 hP11 hx hg9 hz9 he10 hP9 e0 e1 e2 e3 e4
                  go_upto_region 33 with fail
                  clear d3 df3 he11
                  generalize (w11.setCell ⟨ge, 3, none⟩ (.slice (some ⟨w11.heap.size, 0, none⟩) 1 1)).alloc (.cells #[.int .i64 3, .int .i64 0, .string x, .slice none 0 0] 76) = w13 at hg13 hz13 he13 hP13 hrow13 hlat ⊢
                  obtain ⟨y0, y1, y2, y3, y4, -⟩ := own5z he13.out
                  have he13l := he13.out.lt
                  have hRB := RdF.mk' (B := gz) (St := fun w s => RfP T tb to' tc g w o s) (s := aft (runS s testS)) (hg13.out) (by rw [hd.out.1, hq1.out]; exact hP13.out) hgl hwz
                  obtain ⟨z0, z1, z2, z3, z4, f0, f1, f2, f3, f4⟩ := own5z (hz13.out)
                  have hzl' := (hz13.out).lt
                  have hF := Lib.hid (hRB.set5 (q := gz) (Nat.le_refl _) (.int .i64 (6 + ((4 : Nat) : Int))) (.string kx) (.string nx) (.slice (some ⟨w11.heap.size, 0, none⟩) 1 1) (.slice none 0 0))
                  have hX := Lib.hid (ex_vals (6 + ((4 : Nat) : Int)) kx nx ((hrow13.out).mono ((nex_set5 (q := gz) (by omega) (.int .i64 (6 + ((4 : Nat) : Int))) (.string kx) (.string nx) (.slice (some ⟨w11.heap.size, 0, none⟩) 1 1) (.slice none 0 0)).trans (nex_up _ (show w.heap.size ≤ w10.heap.size by omega) (fun k hk => Or.inl hk)))) (fun d hd => LAt.mono ((nex_set5 (q := gz) (by omega) (.int .i64 (6 + ((4 : Nat) : Int))) (.string kx) (.string nx) (.slice (some ⟨w11.heap.size, 0, none⟩) 1 1) (.slice none 0 0)).trans (nex_up _ (show w.heap.size ≤ w10.heap.size by omega) (fun k hk => Or.inl hk))) ((hlat.out) d hd)))
                  clear hRB
                  go_wp2
                  refine bodyPost_ret (v := .agg #[.int .i64 (6 + ((4 : Nat) : Int)), .string kx, .string nx, .slice (some ⟨w11.heap.size, 0, none⟩) 1 1, .slice none 0 0]) (by simp [results, Tryz.results194, go_sem, *]) rfl ?_
                  exact Rd.fin hF.out.grown hF.out.st (fun c q hc => by rw [hall.out c q hc]; exact ⟨_, rfl, hX.out, Nat.le_refl 0⟩) ⟨_, _, rfl, hX.out, Nat.le_refl 0⟩
                · go_wp2_with fail
                  refine (rtext_any hK g o _ s4 (sub_but_grown hMw.out hg9.out) hP9.out).mono ?_
                  rintro e w11 hr
                  obtain ⟨x, rfl, hx, hxz⟩ := hr.str
                  have hz11 := hz9.out.kept hr.1 (by simp; omega)
                  have he11 := he10.out.kept hr.1 (by simp; omega)
                  have hg11 := g_call hg9.out hr.1
                  have hP11 := hr.2.1
                  have hB11 : w10.heap.size ≤ w11.heap.size := hr.1.size
                  obtain ⟨-, -, -, d3, -, -, -, -, df3, -⟩ := own5z he11
                  have he11l := he11.lt
                  have hg12 := g_setCell hg11 (p := ⟨ge, 3, none⟩) (by simp; omega) (.slice (some ⟨w11.heap.size, 0, none⟩) 1 1)
                  have hz12 := hz11.setOther (p := ⟨ge, 3, none⟩) (by simp; omega) (.slice (some ⟨w11.heap.size, 0, none⟩) 1 1)
                  have he12 : Own (w11.setCell ⟨ge, 3, none⟩ (.slice (some ⟨w11.heap.size, 0, none⟩) 1 1)) ge #[.int .i64 (6 + ((5 : Nat) : Int)), .string kx, .string nx, .slice (some ⟨w11.heap.size, 0, none⟩) 1 1, .slice none 0 0] 31 := he11.set 3 _
                  have hP12 := hP11.set (q := ge) (i := 3) (by omega) (.slice (some ⟨w11.heap.size, 0, none⟩) 1 1)
                  have hs12 : (w11.setCell ⟨ge, 3, none⟩ (.slice (some ⟨w11.heap.size, 0, none⟩) 1 1)).heap.size = w11.heap.size := by simp
                  have hro := ro_one (e := 76) (sz := 4) (B := w10.heap.size) (w11.setCell ⟨ge, 3, none⟩ (.slice (some ⟨w11.heap.size, 0, none⟩) 1 1)) #[.int .i64 3, .int .i64 0, .string x, .slice none 0 0] (by rw [hs12]; omega) rfl
                  rw [hs12] at hro
                  have hrow := hro.new (g := g) (by intro r hr; rw [List.mem_singleton.1 hr]; rfl) (by omega)
                  have hlat : ∀ d ∈ [(⟨3, 0, x, none, 0, 0, []⟩ : VD)], LAt (nex w10.heap.size [g] ((w11.setCell ⟨ge, 3, none⟩ (.slice (some ⟨w11.heap.size, 0, none⟩) 1 1)).alloc (.cells #[.int .i64 3, .int .i64 0, .string x, .slice none 0 0] 76))) d := fun d hd => by
                    obtain rfl := List.mem_singleton.1 hd
                    exact LAt.flat _ 3 0 x (by omega)
                  have hg13 := Lib.hid (g_call hg12 (World.grownBy_alloc _ (.cells #[.int .i64 3, .int .i64 0, .string x, .slice none 0 0] 76) (some g)))
                  have hz13 := Lib.hid (hz12.alloc (.cells #[.int .i64 3, .int .i64 0, .string x, .slice none 0 0] 76))
                  have he13 := Lib.hid (he12.alloc (.cells #[.int .i64 3, .int .i64 0, .string x, .slice none 0 0] 76))
                  have hP13 := Lib.hid (hP12.alloc (.cells #[.int .i64 3, .int .i64 0, .string x, .slice none 0 0] 76))
                  have hrow13 : Hid (RowsAt (nex w10.heap.size [g] ((w11.setCell ⟨ge, 3, none⟩ (.slice (some ⟨w11.heap.size, 0, none⟩) 1 1)).alloc (.cells #[.int .i64 3, .int .i64 0, .string x, .slice none 0 0] 76))) 4 (.slice (some ⟨w11.heap.size, 0, none⟩) 1 1) ([(⟨3, 0, x, none, 0, 0, []⟩ : VD)].map VD.row)) := Lib.hid hrow
                  replace hlat := Lib.hid hlat
                  have hall := Lib.hid (hd.out.2 ([(⟨3, 0, x, none, 0, 0, []⟩ : VD)].map vv) (fun a q h => by obtain ⟨t, q2, e1, e2⟩ := hq.out.2 a q h; rw [e2, ← hx t q2 e1]; rfl))
                  have hq1 := Lib.hid ((hq.out).1)
                  clear hr hg12 hz12 he12 hP12 hro hrow hg11 hz11 hP11 hx hg9 hz9 he10 hP9 e0 e1 e2 e3 e4
                  go_upto_region 33 with fail
                  clear d3 df3 he11
                  generalize (w11.setCell ⟨ge, 3, none⟩ (.slice (some ⟨w11.heap.size, 0, none⟩) 1 1)).alloc (.cells #[.int .i64 3, .int .i64 0, .string x, .slice none 0 0] 76) = w13 at hg13 hz13 he13 hP13 hrow13 hlat ⊢
                  obtain ⟨y0, y1, y2, y3, y4, -⟩ := own5z he13.out
                  have he13l := he13.out.lt
                  have hRB := RdF.mk' (B := gz) (St := fun w s => RfP T tb to' tc g w o s) (s := aft (runS s testS)) (hg13.out) (by rw [hd.out.1, hq1.out]; exact hP13.out) hgl hwz
                  obtain ⟨z0, z1, z2, z3, z4, f0, f1, f2, f3, f4⟩ := own5z (hz13.out)
                  have hzl' := (hz13.out).lt
                  have hF := Lib.hid (hRB.set5 (q := gz) (Nat.le_refl _) (.int .i64 (6 + ((5 : Nat) : Int))) (.string kx) (.string nx) (.slice (some ⟨w11.heap.size, 0, none⟩) 1 1) (.slice none 0 0))
                  have hX := Lib.hid (ex_vals (6 + ((5 : Nat) : Int)) kx nx ((hrow13.out).mono ((nex_set5 (q := gz) (by omega) (.int .i64 (6 + ((5 : Nat) : Int))) (.string kx) (.string nx) (.slice (some ⟨w11.heap.size, 0, none⟩) 1 1) (.slice none 0 0)).trans (nex_up _ (show w.heap.size ≤ w10.heap.size by omega) (fun k hk => Or.inl hk)))) (fun d hd => LAt.mono ((nex_set5 (q := gz) (by omega) (.int .i64 (6 + ((5 : Nat) : Int))) (.string kx) (.string nx) (.slice (some ⟨w11.heap.size, 0, none⟩) 1 1) (.slice none 0 0)).trans (nex_up _ (show w.heap.size ≤ w10.heap.size by omega) (fun k hk => Or.inl hk))) ((hlat.out) d hd)))
                  clear hRB
                  go_wp2
                  refine bodyPost_ret (v := .agg #[.int .i64 (6 + ((5 : Nat) : Int)), .string kx, .string nx, .slice (some ⟨w11.heap.size, 0, none⟩) 1 1, .slice none 0 0]) (by simp [results, Tryz.results194, go_sem, *]) rfl ?_
                  exact Rd.fin hF.out.grown hF.out.st (fun c q hc => by rw [hall.out c q hc]; exact ⟨_, rfl, hX.out, Nat.le_refl 0⟩) ⟨_, _, rfl, hX.out, Nat.le_refl 0⟩
              have hq := aft_one (s := s4) (f := valueS) (k := fun v => [v]) (a := argS i) (argS_one h0 h2 h35)
              replace hq := Lib.hid hq
              have b6 : (6 + (i : Int) == 6) = false := beq_eq_false_iff_ne.2 (by omega)
              have b8 : (6 + (i : Int) == 8) = false := beq_eq_false_iff_ne.2 (by omega)
              have b9 : (6 + (i : Int) == 9) = false := beq_eq_false_iff_ne.2 (by omega)
              have b10 : (6 + (i : Int) == 10) = false := beq_eq_false_iff_ne.2 (by omega)
              have b11 : (6 + (i : Int) == 11) = false := beq_eq_false_iff_ne.2 (by omega)
              replace h0 := Lib.hid h0
              replace h2 := Lib.hid h2
              replace h35 := Lib.hid h35
              go_wp2_with fail
              refine (rvalue_any hK g o _ s4 (sub_but_grown hMw.out hg9.out) hP9.out).mono ?_
              rintro e w11 hr
              obtain ⟨x, rfl, hL, hx⟩ := hr.val
              have hz11 := hz9.out.kept hr.1 (by simp; omega)
              have he11 := he10.out.kept hr.1 (by simp; omega)
              have hg11 := g_call hg9.out hr.1
              have hP11 := hr.2.1
              have hB11 : w10.heap.size ≤ w11.heap.size := hr.1.size
              obtain ⟨-, -, -, d3, -, -, -, -, df3, -⟩ := own5z he11
              have he11l := he11.lt
              have hg12 := g_setCell hg11 (p := ⟨ge, 3, none⟩) (by simp; omega) (.slice (some ⟨w11.heap.size, 0, none⟩) 1 1)
              have hz12 := hz11.setOther (p := ⟨ge, 3, none⟩) (by simp; omega) (.slice (some ⟨w11.heap.size, 0, none⟩) 1 1)
              have he12 : Own (w11.setCell ⟨ge, 3, none⟩ (.slice (some ⟨w11.heap.size, 0, none⟩) 1 1)) ge #[.int .i64 (6 + (i : Int)), .string kx, .string nx, .slice (some ⟨w11.heap.size, 0, none⟩) 1 1, .slice none 0 0] 31 := he11.set 3 _
              have hP12 := hP11.set (q := ge) (i := 3) (by omega) (.slice (some ⟨w11.heap.size, 0, none⟩) 1 1)
              have hs12 : (w11.setCell ⟨ge, 3, none⟩ (.slice (some ⟨w11.heap.size, 0, none⟩) 1 1)).heap.size = w11.heap.size := by simp
              have hro := ro_one (e := 76) (sz := 4) (B := w10.heap.size) (w11.setCell ⟨ge, 3, none⟩ (.slice (some ⟨w11.heap.size, 0, none⟩) 1 1)) #[.int .i64 x.kind, .int .i64 x.num, .string x.text, .slice x.ptr x.len x.cap] (by rw [hs12]; omega) rfl
              rw [hs12] at hro
              have hrow := hro.new (g := g) (by intro r hr; rw [List.mem_singleton.1 hr]; rfl) (by omega)
              have hlat : ∀ d ∈ [x], LAt (nex w10.heap.size [g] ((w11.setCell ⟨ge, 3, none⟩ (.slice (some ⟨w11.heap.size, 0, none⟩) 1 1)).alloc (.cells #[.int .i64 x.kind, .int .i64 x.num, .string x.text, .slice x.ptr x.len x.cap] 76))) d := fun d hd => by
                obtain rfl := List.mem_singleton.1 hd
                exact hL.mono ((nex_set (q := ge) (o := 3) (Or.inr hB10) _).trans (nex_grown (World.grownBy_alloc _ _ none) (fun k e => by cases e)))
              have hg13 := Lib.hid (g_call hg12 (World.grownBy_alloc _ (.cells #[.int .i64 x.kind, .int .i64 x.num, .string x.text, .slice x.ptr x.len x.cap] 76) (some g)))
              have hz13 := Lib.hid (hz12.alloc (.cells #[.int .i64 x.kind, .int .i64 x.num, .string x.text, .slice x.ptr x.len x.cap] 76))
              have he13 := Lib.hid (he12.alloc (.cells #[.int .i64 x.kind, .int .i64 x.num, .string x.text, .slice x.ptr x.len x.cap] 76))
              have hP13 := Lib.hid (hP12.alloc (.cells #[.int .i64 x.kind, .int .i64 x.num, .string x.text, .slice x.ptr x.len x.cap] 76))
              have hrow13 : Hid (RowsAt (nex w10.heap.size [g] ((w11.setCell ⟨ge, 3, none⟩ (.slice (some ⟨w11.heap.size, 0, none⟩) 1 1)).alloc (.cells #[.int .i64 x.kind, .int .i64 x.num, .string x.text, .slice x.ptr x.len x.cap] 76))) 4 (.slice (some ⟨w11.heap.size, 0, none⟩) 1 1) ([x].map VD.row)) := Lib.hid hrow
              replace hlat := Lib.hid hlat
              have hall := Lib.hid (hd.out.2 ([x].map vv) (fun a q h => by obtain ⟨t, q2, e1, e2⟩ := hq.out.2 a q h; rw [e2, ← hx t q2 e1]; rfl))
              have hq1 := Lib.hid ((hq.out).1)
              clear hr hg12 hz12 he12 hP12 hro hrow hg11 hz11 hP11 hx hL hg9 hz9 he10 hP9 e0 e1 e2 e3 e4
              go_upto_region 33 with fail
              clear d3 df3 he11
              generalize (w11.setCell ⟨ge, 3, none⟩ (.slice (some ⟨w11.heap.size, 0, none⟩) 1 1)).alloc (.cells #[.int .i64 x.kind, .int .i64 x.num, .string x.text, .slice x.ptr x.len x.cap] 76) = w13 at hg13 hz13 he13 hP13 hrow13 hlat ⊢
              obtain ⟨y0, y1, y2, y3, y4, -⟩ := own5z he13.out
              have he13l := he13.out.lt
              have hRB := RdF.mk' (B := gz) (St := fun w s => RfP T tb to' tc g w o s) (s := aft (runS s testS)) (hg13.out) (by rw [hd.out.1, hq1.out]; exact hP13.out) hgl hwz
              obtain ⟨z0, z1, z2, z3, z4, f0, f1, f2, f3, f4⟩ := own5z (hz13.out)
              have hzl' := (hz13.out).lt
              have hF := Lib.hid (hRB.set5 (q := gz) (Nat.le_refl _) (.int .i64 (6 + (i : Int))) (.string kx) (.string nx) (.slice (some ⟨w11.heap.size, 0, none⟩) 1 1) (.slice none 0 0))
              have hX := Lib.hid (ex_vals (6 + (i : Int)) kx nx ((hrow13.out).mono ((nex_set5 (q := gz) (by omega) (.int .i64 (6 + (i : Int))) (.string kx) (.string nx) (.slice (some ⟨w11.heap.size, 0, none⟩) 1 1) (.slice none 0 0)).trans (nex_up _ (show w.heap.size ≤ w10.heap.size by omega) (fun k hk => Or.inl hk)))) (fun d hd => LAt.mono ((nex_set5 (q := gz) (by omega) (.int .i64 (6 + (i : Int))) (.string kx) (.string nx) (.slice (some ⟨w11.heap.size, 0, none⟩) 1 1) (.slice none 0 0)).trans (nex_up _ (show w.heap.size ≤ w10.heap.size by omega) (fun k hk => Or.inl hk))) ((hlat.out) d hd)))
              clear hRB
              go_wp2
              refine bodyPost_ret (v := .agg #[.int .i64 (6 + (i : Int)), .string kx, .string nx, .slice (some ⟨w11.heap.size, 0, none⟩) 1 1, .slice none 0 0]) (by simp [results, Tryz.results194, go_sem, *]) rfl ?_
              exact Rd.fin hF.out.grown hF.out.st (fun c q hc => by rw [hall.out c q hc]; exact ⟨_, rfl, hX.out, Nat.le_refl 0⟩) ⟨_, _, rfl, hX.out, Nat.le_refl 0⟩
            have n0 : (0 : Int) ≤ (k : Int) := by omega
            have n1 : (k : Int) < 4 := by omega
            have hlw : ls < wr.heap.size := hs.out.lt
            have hlg : ls ≠ g := by omega
            obtain ⟨x, hxc, hkd, hxt⟩ : ∃ x : ByteArray, wr.cell? ⟨ls, k, none⟩ = some (.string x) ∧ KdOf 5 x.data.toList ∧ tests10[k + 6]? = some x.data.toList := signs_at (hs.out) hk
            by_cases hop : op = 0
            case neg =>
              have hob : (op == 0) = false := by simpa using hop
              have hC2 := Lib.hid (show ChAt s3 (k + 1 + 6) op s' from hC.out.on hop (k + 1 + 6))
              clear hop
              go_wp2
              go_roundw
              case rel => exact ⟨k + 1, op, s', by omega, by go_num, he, hg, hP, hz, hw, hs, hC2⟩
              case measure => simp [intOf]; omega
            subst hop
            obtain ⟨rfl, hno⟩ := hC.out.zero
            replace hno := Lib.hid hno
            go_wp2_with fail
            refine (rtake_any hK g o _ s3 (sub_but_grown hMw.out hg.out) hP.out 5 x hkd).mono ?_
            rintro e w2 ⟨rfl, hga, hPa⟩
            have he2 := he.out.kept hga (by simp; omega)
            have hg2 := g_call hg.out hga
            have hz2 := hz.out.kept hga (by simp; omega)
            have hw2 := hw.out.kept hga (by simp; omega)
            have hs2 := hs.out.kept hga (by simp; omega)
            cases hx : isP x.data.toList s3 with
            | false =>
              have hP2 := Lib.hid (show RfP T tb to' tc g w2 o s3 by rw [← pastP_no hx]; exact hPa)
              have hC2 := Lib.hid (show ChAt s3 (k + 1 + 6) 0 s3 by
                have := ChAt.miss hno.out hxt hx
                rw [show k + 6 + 1 = k + 1 + 6 by omega] at this
                exact this)
              replace he2 := Lib.hid he2
              replace hg2 := Lib.hid hg2
              replace hz2 := Lib.hid hz2
              replace hw2 := Lib.hid hw2
              replace hs2 := Lib.hid hs2
              clear hga hPa he hg hP hz hw hs hC hx hxc hxt
              go_wp2
              go_roundw
              case rel => exact ⟨k + 1, 0, s3, by omega, by go_num, he2, hg2, hP2, hz2, hw2, hs2, hC2⟩
              case measure => simp [intOf]; omega
            | true =>
              obtain ⟨ts, rfl, hch⟩ := ChAt.hit hno.out hxt hx
              have hP2 : RfP T tb to' tc g w2 o (.ok ts.tail) := by
                have e1 : pastP x.data.toList (.ok ts) = .ok ts.tail := if_pos hx
                rw [← e1]
                exact hPa
              have hC2 := Lib.hid (show ChAt (.ok ts) (k + 1 + 6) (12 + (k : Int)) (.ok ts.tail) from Or.inr ⟨k + 6, by omega, by omega, ts, rfl, hch, rfl⟩)
              have hw6 : IntKind.i64.wrap (12 + (k : Int)) = 12 + (k : Int) := by rw [IntKind.wrap_i64]; omega
              have d0 := he2.cell 0
              have df := he2.free 0
              have hel2 := he2.lt
              simp only [List.getElem?_toArray, List.getElem?_cons_zero] at d0
              have he3 := Lib.hid (show Own (w2.setCell ⟨ge, 0, none⟩ (.int .i64 (12 + (k : Int)))) ge #[.int .i64 (12 + (k : Int)), .string kx, .string nx, .slice none 0 0, .slice none 0 0] 31 from he2.set 0 _)
              have hg3 := Lib.hid (g_setCell hg2 (p := ⟨ge, 0, none⟩) (by simp; omega) (.int .i64 (12 + (k : Int))))
              have hz3 := Lib.hid (hz2.setOther (p := ⟨ge, 0, none⟩) (by simp; omega) (.int .i64 (12 + (k : Int))))
              have hw3 := Lib.hid (hw2.setOther (p := ⟨ge, 0, none⟩) (by simp; omega) (.int .i64 (12 + (k : Int))))
              have hs3 := Lib.hid (hs2.setOther (p := ⟨ge, 0, none⟩) (by simp; omega) (.int .i64 (12 + (k : Int))))
              have hP3 := Lib.hid (hP2.set (q := ge) (i := 0) (by omega) (.int .i64 (12 + (k : Int))))
              clear hga hPa he hg hP hz hw hs hC hx hxc hxt hP2 he2 hg2 hz2 hw2 hs2 hch hno
              go_wp2
              go_roundw
              case rel => exact ⟨k + 1, 12 + (k : Int), .ok ts.tail, by omega, by go_num, he3, hg3, hP3, hz3, hw3, hs3, hC2⟩
              case measure => simp [intOf]; omega
        have n0 : (0 : Int) ≤ (k : Int) := by omega
        have n1 : (k : Int) < 6 := by omega
        have hlw : lw < wr.heap.size := hw.out.lt
        have hlg : lw ≠ g := by omega
        obtain ⟨x, hxc, hkd, hxt⟩ : ∃ x : ByteArray, wr.cell? ⟨lw, k, none⟩ = some (.string x) ∧ KdOf 1 x.data.toList ∧ tests10[k + 0]? = some x.data.toList := words_at (hw.out) hk
        by_cases hop : op = 0
        case neg =>
          have hob : (op == 0) = false := by simpa using hop
          have hC2 := Lib.hid (show ChAt s3 (k + 1 + 0) op s' from hC.out.on hop (k + 1 + 0))
          clear hop
          go_wp2
          go_roundw
          case rel => exact ⟨k + 1, op, s', by omega, by go_num, he, hg, hP, hz, hw, hs, hC2⟩
          case measure => simp [intOf]; omega
        subst hop
        obtain ⟨rfl, hno⟩ := hC.out.zero
        replace hno := Lib.hid hno
        go_wp2_with fail
        refine (rtake_any hK g o _ s3 (sub_but_grown hMw.out hg.out) hP.out 1 x hkd).mono ?_
        rintro e w2 ⟨rfl, hga, hPa⟩
        have he2 := he.out.kept hga (by simp; omega)
        have hg2 := g_call hg.out hga
        have hz2 := hz.out.kept hga (by simp; omega)
        have hw2 := hw.out.kept hga (by simp; omega)
        have hs2 := hs.out.kept hga (by simp; omega)
        cases hx : isP x.data.toList s3 with
        | false =>
          have hP2 := Lib.hid (show RfP T tb to' tc g w2 o s3 by rw [← pastP_no hx]; exact hPa)
          have hC2 := Lib.hid (show ChAt s3 (k + 1 + 0) 0 s3 by
            have := ChAt.miss hno.out hxt hx
            rw [show k + 0 + 1 = k + 1 + 0 by omega] at this
            exact this)
          replace he2 := Lib.hid he2
          replace hg2 := Lib.hid hg2
          replace hz2 := Lib.hid hz2
          replace hw2 := Lib.hid hw2
          replace hs2 := Lib.hid hs2
          clear hga hPa he hg hP hz hw hs hC hx hxc hxt
          go_wp2
          go_roundw
          case rel => exact ⟨k + 1, 0, s3, by omega, by go_num, he2, hg2, hP2, hz2, hw2, hs2, hC2⟩
          case measure => simp [intOf]; omega
        | true =>
          obtain ⟨ts, rfl, hch⟩ := ChAt.hit hno.out hxt hx
          have hP2 : RfP T tb to' tc g w2 o (.ok ts.tail) := by
            have e1 : pastP x.data.toList (.ok ts) = .ok ts.tail := if_pos hx
            rw [← e1]
            exact hPa
          have hC2 := Lib.hid (show ChAt (.ok ts) (k + 1 + 0) (6 + (k : Int)) (.ok ts.tail) from Or.inr ⟨k + 0, by omega, by omega, ts, rfl, hch, rfl⟩)
          have hw6 : IntKind.i64.wrap (6 + (k : Int)) = 6 + (k : Int) := by rw [IntKind.wrap_i64]; omega
          have d0 := he2.cell 0
          have df := he2.free 0
          have hel2 := he2.lt
          simp only [List.getElem?_toArray, List.getElem?_cons_zero] at d0
          have he3 := Lib.hid (show Own (w2.setCell ⟨ge, 0, none⟩ (.int .i64 (6 + (k : Int)))) ge #[.int .i64 (6 + (k : Int)), .string kx, .string nx, .slice none 0 0, .slice none 0 0] 31 from he2.set 0 _)
          have hg3 := Lib.hid (g_setCell hg2 (p := ⟨ge, 0, none⟩) (by simp; omega) (.int .i64 (6 + (k : Int))))
          have hz3 := Lib.hid (hz2.setOther (p := ⟨ge, 0, none⟩) (by simp; omega) (.int .i64 (6 + (k : Int))))
          have hw3 := Lib.hid (hw2.setOther (p := ⟨ge, 0, none⟩) (by simp; omega) (.int .i64 (6 + (k : Int))))
          have hs3 := Lib.hid (hs2.setOther (p := ⟨ge, 0, none⟩) (by simp; omega) (.int .i64 (6 + (k : Int))))
          have hP3 := Lib.hid (hP2.set (q := ge) (i := 0) (by omega) (.int .i64 (6 + (k : Int))))
          clear hga hPa he hg hP hz hw hs hC hx hxc hxt hP2 he2 hg2 hz2 hw2 hs2 hch hno
          go_wp2
          go_roundw
          case rel => exact ⟨k + 1, 6 + (k : Int), .ok ts.tail, by omega, by go_num, he3, hg3, hP3, hz3, hw3, hs3, hC2⟩
          case measure => simp [intOf]; omega

end
end Go.Proofs.YtfffpflflggonaaGreatDoor.src

