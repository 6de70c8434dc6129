/- The reference's parser: a value. The reference's parser: values. -/
import Derived.Test.YtfffpflflggonaaGreatDoorKS36
import Derived.Test.YtfffpflflggonaaGreatDoorKS20
namespace Go.Proofs.YtfffpflflggonaaGreatDoor.src
open Go.RowKit Go.Proofs.YtfffpflflggonaaGreatDoor Go.Proofs.YtfffpflflggonaaGreatDoor.lex Go.Proofs.YtfffpflflggonaaGreatDoor.value Go.Proofs.YtfffpflflggonaaGreatDoor.text Go.Proofs.YtfffpflflggonaaGreatDoor.schema Go.Proofs.YtfffpflflggonaaGreatDoor.draw Go.Proofs.YtfffpflflggonaaGreatDoor.clause

theorem kd_true : KdOf 1 (⟨#[116, 114, 117, 101]⟩ : ByteArray).data.toList := Or.inl ⟨rfl, 116, [114, 117, 101], rfl, by decide⟩
theorem kd_false : KdOf 1 (⟨#[102, 97, 108, 115, 101]⟩ : ByteArray).data.toList := Or.inl ⟨rfl, 102, [97, 108, 115, 101], rfl, by decide⟩
theorem sg_rb : signL (⟨#[93]⟩ : ByteArray).data.toList := ⟨93, [], rfl, by decide⟩
theorem kd_lb : KdOf 5 (⟨#[91]⟩ : ByteArray).data.toList := Or.inr ⟨rfl, 91, [], rfl, by decide⟩
theorem kd_rb : KdOf 5 (⟨#[93]⟩ : ByteArray).data.toList := Or.inr ⟨rfl, sg_rb⟩
/-- The ways of a value, whatever the state. -/
theorem rv_num {s : PS} {t : Tok} (hd : HdT s t) (h1 : isP sTrue s = false) (h2 : isP sFalse s = false) (hk : t.k = 2) : runS s valueS = bnd (runS s (takeS 2)) fun u q => .ok (⟨2, u.n, [], []⟩, q) := by
  cases s with
  | error e => rfl
  | ok ts => obtain ⟨r, rfl⟩ := hd ts rfl; exact valueS_num h1 h2 hk
theorem rv_text {s : PS} {t : Tok} (hd : HdT s t) (h1 : isP sTrue s = false) (h2 : isP sFalse s = false) (hk : t.k = 3) : runS s valueS = bnd (runS s (takeS 3)) fun u q => .ok (⟨3, 0, u.t, []⟩, q) := by
  cases s with
  | error e => rfl
  | ok ts => obtain ⟨r, rfl⟩ := hd ts rfl; exact valueS_text h1 h2 hk
theorem rv_ver {s : PS} {t : Tok} (hd : HdT s t) (h1 : isP sTrue s = false) (h2 : isP sFalse s = false) (hk : t.k = 4) : runS s valueS = bnd (runS s (takeS 4)) fun u q => .ok (⟨4, 0, u.t, []⟩, q) := by
  cases s with
  | error e => rfl
  | ok ts => obtain ⟨r, rfl⟩ := hd ts rfl; exact valueS_ver h1 h2 hk
theorem rv_list {s : PS} {t : Tok} (hd : HdT s t) (h1 : isP sTrue s = false) (h2 : isP sFalse s = false) (hk : t.k ≠ 2 ∧ t.k ≠ 3 ∧ t.k ≠ 4) (hx : isP sLb s = true) : runS s valueS = runS (pastP sLb s) listS := by
  cases s with
  | error e => cases hx
  | ok ts =>
    obtain ⟨r, rfl⟩ := hd ts rfl
    have e1 : pastP sLb (.ok (t :: r)) = .ok r := if_pos hx
    rw [e1, runS_ok, runS_ok, valueS_list h1 h2 hk, needS, if_pos (show isT sLb t = true from hx), bnd_ok]
theorem rv_fail {s : PS} {t : Tok} (hd : HdT s t) (h1 : isP sTrue s = false) (h2 : isP sFalse s = false) (hk : t.k ≠ 2 ∧ t.k ≠ 3 ∧ t.k ≠ 4) (hx : isP sLb s = false) : aft (runS s valueS) = failP s t 1 ∧ ∀ c q, runS s valueS ≠ .ok (c, q) := by
  cases s with
  | error e => exact ⟨rfl, fun c q h => by cases h⟩
  | ok ts =>
    obtain ⟨r, rfl⟩ := hd ts rfl
    have e1 : valueS (t :: r) = .error (1, t.line) := by rw [valueS_list h1 h2 hk, needS, if_neg (by rw [show isT sLb t = false from hx]; decide)]; rfl
    rw [runS_ok, e1]
    exact ⟨rfl, fun c q h => by cases h⟩
/-- What stands behind an opening bracket, as the reference asks. -/
theorem list_ref (s : PS) : runS s listS = if isP sRb s then bnd (runS s (needS sRb)) fun _ r'' => .ok (⟨5, 0, [], []⟩, r'') else bnd (runS s textsS) fun l r' => bnd (needS sRb r') fun _ r'' => .ok (⟨5, 0, [], l⟩, r'') := by
  cases s with
  | error e => rfl
  | ok ts =>
    cases ts with
    | nil => rfl
    | cons u q =>
      rw [runS_ok, runS_ok, runS_ok]
      show (if u.k = 3 then _ else _) = if isT sRb u then _ else _
      by_cases hk : u.k = 3
      · have h1 : isT sRb u = false := by unfold isT; rw [hk]; rfl
        rw [if_pos hk, h1]; rfl
      · rw [if_neg hk]
        cases h1 : isT sRb u with
        | true => rfl
        | false =>
          have e1 : needS sRb (u :: q) = .error (1, u.line) := by rw [needS, if_neg (by rw [h1]; decide)]
          have e2 : textsS (u :: q) = .error (1, u.line) := by rw [texts_cont, takeS, if_neg hk]; rfl
          rw [e1, e2]; rfl

section
variable {M : Mem} {T : List Tok} {tb to' tc : Nat}

set_option maxRecDepth 100000 in
set_option maxHeartbeats 8000000 in
theorem rvalue_any (hK : TokM M T tb to' tc) (g o : Nat) (w : World) (s : PS) (hM : Sub M (but g w)) (h : RfP T tb to' tc g w o s) :
    Calls Tryz.prog 272 #[.pointer (some ⟨g, 0, none⟩)] w (Rd g (fun w s => RfP T tb to' tc g w o s) w (ValIs w.heap.size g) (runS s valueS)) := by
  have hgl := h.lt
  have hne : Hid (∀ ts, s = .ok ts → ts ≠ []) := Lib.hid fun ts e => by subst e; exact h.ne
  have hz := Lib.hid (Own.new w #[.int .i64 0, .int .i64 0, .string ⟨#[]⟩, .slice none 0 0] 76)
  have h0 := Lib.hid (h.alloc (.cells #[.int .i64 0, .int .i64 0, .string ⟨#[]⟩, .slice none 0 0] 76))
  have hg0 := Lib.hid (World.grownBy_alloc w (.cells #[.int .i64 0, .int .i64 0, .string ⟨#[]⟩, .slice none 0 0] 76) (some g))
  have hM0 := Lib.hid (sub_but_grown hM hg0.out)
  have hMw := Lib.hid hM
  clear h hM
  go_enter Tryz.func272, Tryz.ntmps272
  go_wp2_with fail
  generalize w.alloc (.cells #[.int .i64 0, .int .i64 0, .string ⟨#[]⟩, .slice none 0 0] 76) = w0 at hz h0 hg0 hM0 ⊢
  obtain ⟨gz, hgz⟩ : ∃ z : Nat, Hid (z = w.heap.size) := ⟨_, Lib.hid rfl⟩
  rw [← hgz.out] at hz ⊢
  have hwz : w.heap.size ≤ gz := Nat.le_of_eq hgz.out.symm
  refine (rpeek_any hK g o _ s hM0.out h0.out).mono ?_
  rintro e w1 ⟨⟨t, rfl, ht, -⟩, hb⟩
  replace ht := Lib.hid ht
  have hba : Below w0.heap.size w0 (w1.alloc (.cells #[.int .i64 t.k, .string ⟨t.t.toArray⟩, .int .i64 t.n, .int .i64 t.line] 61)) := hb.alloc hb.size _
  have h2 := Lib.hid (h0.out.below hba)
  have hz2 := Lib.hid (hz.out.below hba hz.out.lt)
  have ht2 := Lib.hid (Own.new w1 #[.int .i64 t.k, .string ⟨t.t.toArray⟩, .int .i64 t.n, .int .i64 t.line] 61)
  have hg2 := Lib.hid (g_below hg0.out hba)
  have hM2 := Lib.hid (sub_but_below hM0.out hba)
  have hzl : gz < w1.heap.size := Nat.lt_of_lt_of_le hz.out.lt hb.size
  clear hba hb h0 hz hM0 hg0
  go_upto_region 2 with fail
  generalize w1.alloc (.cells #[.int .i64 t.k, .string ⟨t.t.toArray⟩, .int .i64 t.n, .int .i64 t.line] 61) = w2 at h2 hz2 ht2 hg2 hM2 ⊢
  obtain ⟨gt, hgt⟩ : ∃ z : Nat, Hid (z = w1.heap.size) := ⟨_, Lib.hid rfl⟩
  rw [← hgt.out] at ht2 hzl ⊢
  have hgg : g < gt := by omega
  go_wp2_with fail
  refine (rtake_any hK g o _ s hM2.out h2.out 1 ⟨#[116, 114, 117, 101]⟩ kd_true).mono ?_
  rintro e w3 ⟨rfl, hga, hPa⟩
  have hz3 := Lib.hid (hz2.out.kept hga (by simp; omega))
  have ht3 := Lib.hid (ht2.out.kept hga (by simp; omega))
  have hg3 := Lib.hid (g_call hg2.out hga)
  have hM3 := Lib.hid (sub_but_grown hM2.out hga)
  have hwz3 : w.heap.size ≤ w3.heap.size := hg3.out.size
  clear hz2 ht2 hg2 hM2 h2
  cases hx : isP sTrue s with
  | true =>
    have hx' : isP (⟨#[116, 114, 117, 101]⟩ : ByteArray).data.toList s = true := hx
    cases s with
    | error e => cases hx
    | ok ts =>
      cases ts with
      | nil => cases hx
      | cons u q =>
        have e1 : pastP (⟨#[116, 114, 117, 101]⟩ : ByteArray).data.toList (.ok (u :: q)) = .ok q := if_pos hx
        rw [e1] at hPa
        have hRB := RdF.mk' (B := gz) (St := fun w s => RfP T tb to' tc g w o s) hg3.out hPa hgl hwz
        have hv := Lib.hid (valueS_true (r := q) (show isT sTrue u = true from hx))
        rw [show isP (⟨#[116, 114, 117, 101]⟩ : ByteArray).data.toList (.ok (u :: q)) = true from hx]
        clear hPa hga hx hx' e1
        obtain ⟨z0, z1, z2, z3, f0, f1, f2, f3⟩ := own4z hz3.out
        have hzl := (hz3.out).lt
        have hF := Lib.hid (hRB.set4 (q := gz) (Nat.le_refl _) (.int .i64 1) (.int .i64 1) (.string ⟨#[]⟩) (.slice none 0 0))
        go_wp2
        refine bodyPost_ret (v := .agg #[.int .i64 1, .int .i64 1, .string ⟨#[]⟩, .slice none 0 0]) (by simp [results, Tryz.results272, go_sem, *]) rfl ?_
        exact (show Rd _ _ _ _ (valueS (u :: q)) _ _ from by rw [hv.out]; exact Rd.ok hF.out.grown hF.out.st (val_flat _ _ _ 1 1 ⟨#[]⟩ (by decide)))

  | false =>
    have hP4 : RfP T tb to' tc g w3 o s := by rw [← pastP_no (x := (⟨#[116, 114, 117, 101]⟩ : ByteArray).data.toList) hx]; exact hPa
    replace hP4 := Lib.hid hP4
    have hx1 := Lib.hid hx
    clear hPa hga
    rw [show isP (⟨#[116, 114, 117, 101]⟩ : ByteArray).data.toList s = false from hx]
    clear hx
    go_wp2_with fail
    refine (rtake_any hK g o _ s hM3.out hP4.out 1 ⟨#[102, 97, 108, 115, 101]⟩ kd_false).mono ?_
    rintro e w4 ⟨rfl, hga, hPa⟩
    have hz4 := Lib.hid (hz3.out.kept hga (by simp; omega))
    have ht4 := Lib.hid (ht3.out.kept hga (by simp; omega))
    have hg4 := Lib.hid (g_call hg3.out hga)
    have hM4 := Lib.hid (sub_but_grown hM3.out hga)
    have hwz4 : w.heap.size ≤ w4.heap.size := hg4.out.size
    clear hz3 ht3 hg3 hM3 hP4
    cases hx : isP sFalse s with
    | true =>
      cases s with
      | error e => cases hx
      | ok ts =>
        cases ts with
        | nil => cases hx
        | cons u q =>
          have e1 : pastP (⟨#[102, 97, 108, 115, 101]⟩ : ByteArray).data.toList (.ok (u :: q)) = .ok q := if_pos hx
          rw [e1] at hPa
          have hRB := RdF.mk' (B := gz) (St := fun w s => RfP T tb to' tc g w o s) hg4.out hPa hgl hwz
          have hv := Lib.hid (valueS_false (r := q) (show isT sTrue u = false from hx1.out) (show isT sFalse u = true from hx))
          rw [show isP (⟨#[102, 97, 108, 115, 101]⟩ : ByteArray).data.toList (.ok (u :: q)) = true from hx]
          clear hPa hga hx e1 hx1
          obtain ⟨z0, z1, z2, z3, f0, f1, f2, f3⟩ := own4z hz4.out
          have hzl := (hz4.out).lt
          have hF := Lib.hid (hRB.set4 (q := gz) (Nat.le_refl _) (.int .i64 1) (.int .i64 0) (.string ⟨#[]⟩) (.slice none 0 0))
          go_wp2
          refine bodyPost_ret (v := .agg #[.int .i64 1, .int .i64 0, .string ⟨#[]⟩, .slice none 0 0]) (by simp [results, Tryz.results272, go_sem, *]) rfl ?_
          exact (show Rd _ _ _ _ (valueS (u :: q)) _ _ from by rw [hv.out]; exact Rd.ok hF.out.grown hF.out.st (val_flat _ _ _ 1 0 ⟨#[]⟩ (by decide)))

    | false =>
      have hP5 : RfP T tb to' tc g w4 o s := by rw [← pastP_no (x := (⟨#[102, 97, 108, 115, 101]⟩ : ByteArray).data.toList) hx]; exact hPa
      replace hP5 := Lib.hid hP5
      have hx2 := Lib.hid hx
      clear hPa hga
      rw [show isP (⟨#[102, 97, 108, 115, 101]⟩ : ByteArray).data.toList s = false from hx]
      clear hx
      obtain ⟨t0, -⟩ := own4z ht4.out
      by_cases hk2 : t.k = 2
      case pos =>
        have hv := Lib.hid (rv_num ht.out hx1.out hx2.out hk2)
        have hkb : (t.k == 2) = true := by rw [hk2]; rfl
        replace hk2 := Lib.hid hk2
        go_wp2_with fail
        refine (rnumber_any hK g o _ s hM4.out hP5.out).mono ?_
        rintro e w5 hr
        obtain ⟨n, rfl, hn⟩ := hr.num
        replace hn := Lib.hid hn
        have hz5 := hz4.out.kept hr.1 (by simp; omega)
        have hRB := RdF.mk' (B := gz) (St := fun w s => RfP T tb to' tc g w o s) (g_call hg4.out hr.1) hr.2.1 hgl hwz
        clear hr t0
        obtain ⟨z0, z1, z2, z3, f0, f1, f2, f3⟩ := own4z hz5
        have hzl := (hz5).lt
        have hF := Lib.hid (hRB.set4 (q := gz) (Nat.le_refl _) (.int .i64 2) (.int .i64 n) (.string ⟨#[]⟩) (.slice none 0 0))
        go_wp2
        refine bodyPost_ret (v := .agg #[.int .i64 2, .int .i64 n, .string ⟨#[]⟩, .slice none 0 0]) (by simp [results, Tryz.results272, go_sem, *]) rfl ?_
        exact (show Rd _ _ _ _ (runS s valueS) _ _ from by
          have hv4 := fun (B : Nat) (W : World) => val_flat B g W 2 n ⟨#[]⟩ (by decide)
          rw [hv.out]
          refine Rd.fin hF.out.grown (by rw [aft_map]; exact hF.out.st) (fun c q' hc => ?_) ⟨_, hv4 _ _⟩
          obtain ⟨a, r1, h1, h2⟩ := bnd_inv hc
          injection h2 with h2
          injection h2 with h2 h3
          rw [← h2, ← hn.out a r1 h1]
          exact hv4 _ _)
      by_cases hk3 : t.k = 3
      case pos =>
        have hv := Lib.hid (rv_text ht.out hx1.out hx2.out hk3)
        have hkb : (t.k == 3) = true := by rw [hk3]; rfl
        have hkb2 : (t.k == 2) = false := by rw [hk3]; rfl
        replace hk3 := Lib.hid hk3
        go_wp2_with fail
        refine (rtext_any hK g o _ s hM4.out hP5.out).mono ?_
        rintro e w5 hr
        obtain ⟨x, rfl, hn, hxz⟩ := hr.str
        replace hn := Lib.hid hn
        have hz5 := hz4.out.kept hr.1 (by simp; omega)
        have hRB := RdF.mk' (B := gz) (St := fun w s => RfP T tb to' tc g w o s) (g_call hg4.out hr.1) hr.2.1 hgl hwz
        clear hr t0
        obtain ⟨z0, z1, z2, z3, f0, f1, f2, f3⟩ := own4z hz5
        have hzl := (hz5).lt
        have hF := Lib.hid (hRB.set4 (q := gz) (Nat.le_refl _) (.int .i64 3) (.int .i64 0) (.string x) (.slice none 0 0))
        go_wp2
        refine bodyPost_ret (v := .agg #[.int .i64 3, .int .i64 0, .string x, .slice none 0 0]) (by simp [results, Tryz.results272, go_sem, *]) rfl ?_
        exact (show Rd _ _ _ _ (runS s valueS) _ _ from by
          have hv4 := fun (B : Nat) (W : World) => val_flat B g W 3 0 x hxz
          rw [hv.out]
          refine Rd.fin hF.out.grown (by rw [aft_map]; exact hF.out.st) (fun c q' hc => ?_) ⟨_, hv4 _ _⟩
          obtain ⟨a, r1, h1, h2⟩ := bnd_inv hc
          injection h2 with h2
          injection h2 with h2 h3
          rw [← h2, ← hn.out a r1 h1]
          exact hv4 _ _)
      by_cases hk4 : t.k = 4
      case pos =>
        have hv := Lib.hid (rv_ver ht.out hx1.out hx2.out hk4)
        have hkb : (t.k == 4) = true := by rw [hk4]; rfl
        have hkb2 : (t.k == 2) = false := by rw [hk4]; rfl
        have hkb3 : (t.k == 3) = false := by rw [hk4]; rfl
        replace hk4 := Lib.hid hk4
        go_wp2_with fail
        refine (rany_any hK g o _ s hM4.out hP5.out 4 (by decide) (by decide)).mono ?_
        rintro e w5 hr
        obtain ⟨t5, rfl, hxz, hn⟩ := hr.tok2
        replace hn := Lib.hid hn
        have hz5 := hz4.out.kept hr.1 (by simp; omega)
        have hRB := RdF.mk' (B := gz) (St := fun w s => RfP T tb to' tc g w o s) (g_call hg4.out hr.1) hr.2.1 hgl hwz
        have hfd := field_tok1 t5.k t5.n t5.line ⟨t5.t.toArray⟩
        clear hr t0
        obtain ⟨z0, z1, z2, z3, f0, f1, f2, f3⟩ := own4z hz5
        have hzl := (hz5).lt
        have hF := Lib.hid (hRB.set4 (q := gz) (Nat.le_refl _) (.int .i64 4) (.int .i64 0) (.string ⟨t5.t.toArray⟩) (.slice none 0 0))
        go_wp2
        refine bodyPost_ret (v := .agg #[.int .i64 4, .int .i64 0, .string ⟨t5.t.toArray⟩, .slice none 0 0]) (by simp [results, Tryz.results272, go_sem, *]) rfl ?_
        exact (show Rd _ _ _ _ (runS s valueS) _ _ from by
          have hv4 := fun (B : Nat) (W : World) => val_flat B g W 4 0 ⟨t5.t.toArray⟩ (show t5.t.toArray.size ≤ 30000 by simpa using hxz)
          rw [hv.out]
          refine Rd.fin hF.out.grown (by rw [aft_map]; exact hF.out.st) (fun c q' hc => ?_) ⟨_, hv4 _ _⟩
          obtain ⟨a, r1, h1, h2⟩ := bnd_inv hc
          injection h2 with h2
          injection h2 with h2 h3
          rw [← h2, ← hn.out a r1 h1]
          exact hv4 _ _)
      have hkb2 : (t.k == 2) = false := by simpa using hk2
      have hkb3 : (t.k == 3) = false := by simpa using hk3
      have hkb4 : (t.k == 4) = false := by simpa using hk4
      have hk := Lib.hid (show t.k ≠ 2 ∧ t.k ≠ 3 ∧ t.k ≠ 4 from ⟨hk2, hk3, hk4⟩)
      clear hk2 hk3 hk4
      go_wp2_with fail
      refine (rtake_any hK g o _ s hM4.out hP5.out 5 ⟨#[91]⟩ kd_lb).mono ?_
      rintro e w5 ⟨rfl, hga, hPa⟩
      have hz5 := Lib.hid (hz4.out.kept hga (by simp; omega))
      have ht5 := Lib.hid (ht4.out.kept hga (by simp; omega))
      have hg5 := Lib.hid (g_call hg4.out hga)
      have hM5 := Lib.hid (sub_but_grown hM4.out hga)
      have hwz5 : w.heap.size ≤ w5.heap.size := hg5.out.size
      clear hga hz4 ht4 hg4 hM4 hP5 t0
      cases hx : isP sLb s with
      | false =>
        rw [show isP (⟨#[91]⟩ : ByteArray).data.toList s = false from hx]
        have hP6 : RfP T tb to' tc g w5 o s := by rw [← pastP_no (x := (⟨#[91]⟩ : ByteArray).data.toList) hx]; exact hPa
        replace hP6 := Lib.hid hP6
        have hbad := Lib.hid (rv_fail ht.out hx1.out hx2.out hk.out hx)
        obtain ⟨t0, t1, t2, t3, -⟩ := own4z ht5.out
        clear hPa hx hkb2 hkb3 hkb4
        go_wp2_with fail
        rw [← row_arr]
        refine (rfail_any g o _ s hP6.out t 1 (by decide)).mono ?_
        rintro e w6 ⟨rfl, hga, hP7⟩
        have hz6 := hz5.out.kept hga (by simp; omega)
        have hRB := RdF.mk' (B := gz) (St := fun w s => RfP T tb to' tc g w o s) (g_call hg5.out hga) hP7 hgl hwz
        obtain ⟨z0, z1, z2, z3, f0, f1, f2, f3⟩ := own4z hz6
        have hzl' := hz6.lt
        have hF := Lib.hid (hRB.set4 (q := gz) (Nat.le_refl _) (.int .i64 0) (.int .i64 0) (.string ⟨#[]⟩) (.slice none 0 0))
        clear hga hP7 hRB hz6
        go_wp2
        refine bodyPost_ret (v := .agg #[.int .i64 0, .int .i64 0, .string ⟨#[]⟩, .slice none 0 0]) (by simp [results, Tryz.results272, go_sem, *]) rfl ?_
        exact Rd.fin hF.out.grown (by rw [hbad.out.1]; exact hF.out.st) (fun c q hc => absurd hc (hbad.out.2 c q)) ⟨_, val_flat _ _ _ 0 0 ⟨#[]⟩ (by decide)⟩
      | true =>
      rw [show isP (⟨#[91]⟩ : ByteArray).data.toList s = true from hx]
      obtain ⟨s5, hs5⟩ : ∃ s5, Hid (s5 = pastP (⟨#[91]⟩ : ByteArray).data.toList s) := ⟨_, Lib.hid rfl⟩
      rw [← hs5.out] at hPa
      have hl1 := Lib.hid (show runS s valueS = runS s5 listS from (rv_list ht.out hx1.out hx2.out hk.out hx).trans (by rw [hs5.out]; rfl))
      have hP6 := hPa
      clear hPa hx hkb2 hkb3 hkb4 hk ht5
      have hv6 := Lib.hid (Own.new w5 #[.int .i64 5, .int .i64 0, .string ⟨#[]⟩, .slice none 0 0] 76)
      have hz6 := Lib.hid (hz5.out.alloc (.cells #[.int .i64 5, .int .i64 0, .string ⟨#[]⟩, .slice none 0 0] 76))
      have hg6 := Lib.hid (g_call hg5.out (World.grownBy_alloc w5 (.cells #[.int .i64 5, .int .i64 0, .string ⟨#[]⟩, .slice none 0 0] 76) (some g)))
      have hM6 := Lib.hid (sub_but_grown hM5.out (World.grownBy_alloc w5 (.cells #[.int .i64 5, .int .i64 0, .string ⟨#[]⟩, .slice none 0 0] 76) (some g)))
      have hP7 := Lib.hid (hP6.alloc (.cells #[.int .i64 5, .int .i64 0, .string ⟨#[]⟩, .slice none 0 0] 76))
      have hzv : gz < w5.heap.size := hz5.out.lt
      clear hz5 hg5 hM5 hP6
      go_upto_region 14 with fail
      generalize w5.alloc (.cells #[.int .i64 5, .int .i64 0, .string ⟨#[]⟩, .slice none 0 0] 76) = w6 at hv6 hz6 hg6 hM6 hP7 ⊢
      obtain ⟨gv, hgv⟩ : ∃ z : Nat, Hid (z = w5.heap.size) := ⟨_, Lib.hid rfl⟩
      rw [← hgv.out] at hv6 ⊢
      have hgvz : gz < gv := by have := hgv.out; omega
      have hgvl : gv < w6.heap.size := hv6.out.lt
      go_wp2_with fail
      refine (is_ref hK g o _ s5 hM6.out hP7.out 5 ⟨#[93]⟩ kd_rb).mono ?_
      rintro e w7 ⟨rfl, hb⟩
      have hz7 := Lib.hid (hz6.out.below hb hz6.out.lt)
      have hv7 := Lib.hid (hv6.out.below hb hv6.out.lt)
      have hg7 := Lib.hid (g_below hg6.out hb)
      have hM7 := Lib.hid (sub_but_below hM6.out hb)
      have hP8 := Lib.hid (hP7.out.below hb)
      have hgvl7 : gv < w7.heap.size := Nat.lt_of_lt_of_le hgvl hb.size
      have hwz7 : w.heap.size ≤ w7.heap.size := hg7.out.size
      clear hb hz6 hv6 hg6 hM6 hP7
      have hlr := Lib.hid (list_ref s5)
      cases hk : isP sRb s5 with
      | false =>
        rw [show isP (⟨#[93]⟩ : ByteArray).data.toList s5 = false from hk]
        have hl2 := Lib.hid (show runS s valueS = bnd (runS s5 textsS) fun l r' => bnd (needS sRb r') fun _ r'' => .ok (⟨5, 0, [], l⟩, r'') by
          rw [hl1.out, hlr.out, hk]; rfl)
        have v3 := hv7.out.cell 3
        have vf3 := hv7.out.free 3
        clear hk
        go_wp2_with fail
        refine (rtexts_any hK g o _ s5 hM7.out hP8.out).mono ?_
        rintro e w8 hr
        obtain ⟨a, n, c, ds, rfl, hrow, hdl, hds⟩ := hr.txts
        have hz8 := hz7.out.kept hr.1 (by simp; omega)
        have hv8 := hv7.out.kept hr.1 (by simp; omega)
        have hg8 := g_call hg7.out hr.1
        have hM8 := sub_but_grown hM7.out hr.1
        have hP9 := hr.2.1
        have hvl8 := hv8.lt
        have vf8 := hv8.free 3
        have v8 := hv8.cell 3
        simp only [List.getElem?_toArray, List.getElem?_cons_succ, List.getElem?_cons_zero] at v8
        have hz9 := Lib.hid (hz8.setOther (p := ⟨gv, 3, none⟩) (by simp; omega) (.slice a n c))
        have hv9 := Lib.hid (show Own (w8.setCell ⟨gv, 3, none⟩ (.slice a n c)) gv #[.int .i64 5, .int .i64 0, .string ⟨#[]⟩, .slice a n c] 76 from hv8.set 3 _)
        have hg9 := Lib.hid (g_setCell hg8 (p := ⟨gv, 3, none⟩) (by simp; omega) (.slice a n c))
        have hM9 := Lib.hid (sub_but_grown hMw.out hg9.out)
        have hP10 := Lib.hid (hP9.set (q := gv) (i := 3) (by omega) (.slice a n c))
        have hrow9 := Lib.hid (hrow.mono (nex_set (q := gv) (o := 3) (Or.inr hgvl7) (.slice a n c)))
        have hl3 := Lib.hid (show aft (runS s valueS) = aft (runS (aft (runS s5 textsS)) (needS sRb)) by
          rw [hl2.out]
          exact aft_bnd (runS s5 textsS) (needS sRb) (fun l r' => bnd (needS sRb r') fun _ r'' => .ok ((⟨5, 0, [], l⟩ : VV), r'')) fun l q => aft_map (needS sRb q) (fun _ => (⟨5, 0, [], l⟩ : VV)))
        have hds' := Lib.hid (show ∀ (c : VV) (q : List Tok), runS s valueS = .ok (c, q) → c = ⟨5, 0, [], lsL ds⟩ from fun c q hc => by
          rw [hl2.out] at hc
          obtain ⟨l, r1, h1, h2⟩ := bnd_inv hc
          obtain ⟨u', r2, h3, h4⟩ := bnd_inv h2
          injection h4 with h4
          injection h4 with h4 h5
          rw [← h4, hds l r1 h1])
        replace hr := Lib.hid hr
        clear hrow hg8 hM8 hz7 hv7 hg7 hM7 hP8 v3 vf3 hds hl2
        go_upto_region 16 with fail
        clear hr hz8 hv8 hP9 v8 vf8
        generalize w8.setCell ⟨gv, 3, none⟩ (.slice a n c) = w9 at hz9 hv9 hg9 hM9 hP10 hrow9 ⊢
        generalize aft (runS s5 textsS) = s6 at hP10 hl3
        have hbn := Lib.hid (show Below w9.heap.size w9 (w9.alloc (.cells #[.string ⟨#[93]⟩] 9)) from (Below.refl _ _).alloc (Nat.le_refl _) _)
        have hn9 := (Own.new w9 #[.string ⟨#[93]⟩] 9).cell 0
        simp only [List.getElem?_toArray, List.getElem?_cons_zero] at hn9
        have hgn : w9.heap.size ≠ g := by have := hgl; have := hP10.out.lt; omega
        replace hz9 := Lib.hid (hz9.out.below hbn.out hz9.out.lt)
        replace hv9 := Lib.hid (hv9.out.below hbn.out hv9.out.lt)
        replace hg9 := Lib.hid (g_below hg9.out hbn.out)
        replace hM9 := Lib.hid (sub_but_below hM9.out hbn.out)
        replace hP10 := Lib.hid (hP10.out.below hbn.out)
        replace hrow9 := Lib.hid (hrow9.out.mono (nex_grown (grown_of_below hbn.out none) (fun k e => by cases e)))
        go_wp2_with fail
        refine (rneed_any hK g o _ s6 hM9.out hP10.out ⟨#[93]⟩ sg_rb w9.heap.size 1 hn9 hgn).mono ?_
        rintro e w10 hr
        obtain rfl := hr.none
        have hz10 := hz9.out.kept hr.1 (by simp; omega)
        have hv10 := hv9.out.kept hr.1 (by simp; omega)
        have hRB := RdF.mk' (B := gz) (St := fun w s => RfP T tb to' tc g w o s) (s := aft (runS s valueS)) (g_call hg9.out hr.1) (by rw [hl3.out]; exact hr.2.1) hgl hwz
        have hrow10 := Lib.hid (hrow9.out.mono (nex_grown hr.1 (fun k e => by cases e; simp)))
        obtain ⟨y0, y1, y2, y3, -⟩ := own4z hv10
        obtain ⟨z0, z1, z2, z3, f0, f1, f2, f3⟩ := own4z hz10
        have hzl' := hz10.lt
        have hF := Lib.hid (hRB.set4 (q := gz) (Nat.le_refl _) (.int .i64 5) (.int .i64 0) (.string ⟨#[]⟩) (.slice a n c))
        have hL := Lib.hid (show LAt (nex w.heap.size [g] ((((w10.setCell ⟨gz, 0, none⟩ (.int .i64 5)).setCell ⟨gz, 1, none⟩ (.int .i64 0)).setCell ⟨gz, 2, none⟩ (.string ⟨#[]⟩)).setCell ⟨gz, 3, none⟩ (.slice a n c))) ⟨5, 0, ⟨#[]⟩, a, n, c, ds⟩ from
          ⟨hrow10.out.mono ((((nex_set (Or.inr (by omega)) _).trans (nex_set (Or.inr (by omega)) _)).trans ((nex_set (Or.inr (by omega)) _).trans (nex_set (Or.inr (by omega)) _))).trans (nex_up _ hwz7 (fun k hk => Or.inl hk))), (show (0 : Nat) < 4294967281 by decide), (show ds.length ≤ _ by omega)⟩)
        clear hr hRB hz10 hv10
        go_wp2
        refine bodyPost_ret (v := .agg #[.int .i64 5, .int .i64 0, .string ⟨#[]⟩, .slice a n c]) (by simp [results, Tryz.results272, go_sem, *]) rfl ?_
        have hv4 : ValIs w.heap.size g ⟨5, 0, [], lsL ds⟩ (.returned (.agg #[.int .i64 5, .int .i64 0, .string ⟨#[]⟩, .slice a n c])) _ := ⟨_, rfl, hL.out, rfl⟩
        exact Rd.fin hF.out.grown hF.out.st (fun c' q hc => by rw [hds'.out c' q hc]; exact hv4) ⟨_, hv4⟩
      | true =>
        rw [show isP (⟨#[93]⟩ : ByteArray).data.toList s5 = true from hk]
        have hl2 := Lib.hid (show runS s valueS = bnd (runS s5 (needS sRb)) fun _ r'' => .ok (⟨5, 0, [], []⟩, r'') by
          rw [hl1.out, hlr.out, hk]; rfl)
        have hl3 := Lib.hid (show aft (runS s valueS) = aft (runS s5 (needS sRb)) by
          rw [hl2.out]
          exact aft_map _ (fun _ => (⟨5, 0, [], []⟩ : VV)))
        have hds' := Lib.hid (show ∀ (c : VV) (q : List Tok), runS s valueS = .ok (c, q) → c = ⟨5, 0, [], []⟩ from fun c q hc => by
          rw [hl2.out] at hc
          obtain ⟨l, r1, h1, h2⟩ := bnd_inv hc
          injection h2 with h2
          injection h2 with h2 h3
          exact h2.symm)
        clear hk hl2
        have hbn := Lib.hid (show Below w7.heap.size w7 (w7.alloc (.cells #[.string ⟨#[93]⟩] 9)) from (Below.refl _ _).alloc (Nat.le_refl _) _)
        have hn9 := (Own.new w7 #[.string ⟨#[93]⟩] 9).cell 0
        simp only [List.getElem?_toArray, List.getElem?_cons_zero] at hn9
        have hgn : w7.heap.size ≠ g := by have := hgl; have := hP8.out.lt; omega
        replace hz7 := Lib.hid (hz7.out.below hbn.out hz7.out.lt)
        replace hv7 := Lib.hid (hv7.out.below hbn.out hv7.out.lt)
        replace hg7 := Lib.hid (g_below hg7.out hbn.out)
        replace hM7 := Lib.hid (sub_but_below hM7.out hbn.out)
        replace hP8 := Lib.hid (hP8.out.below hbn.out)
        go_wp2_with fail
        refine (rneed_any hK g o _ s5 hM7.out hP8.out ⟨#[93]⟩ sg_rb w7.heap.size 1 hn9 hgn).mono ?_
        rintro e w10 hr
        obtain rfl := hr.none
        have hz10 := hz7.out.kept hr.1 (by simp; omega)
        have hv10 := hv7.out.kept hr.1 (by simp; omega)
        have hRB := RdF.mk' (B := gz) (St := fun w s => RfP T tb to' tc g w o s) (s := aft (runS s valueS)) (g_call hg7.out hr.1) (by rw [hl3.out]; exact hr.2.1) hgl hwz
        obtain ⟨y0, y1, y2, y3, -⟩ := own4z hv10
        obtain ⟨z0, z1, z2, z3, f0, f1, f2, f3⟩ := own4z hz10
        have hzl' := hz10.lt
        have hF := Lib.hid (hRB.set4 (q := gz) (Nat.le_refl _) (.int .i64 5) (.int .i64 0) (.string ⟨#[]⟩) (.slice none 0 0))
        clear hr hRB hz10 hv10
        go_wp2
        refine bodyPost_ret (v := .agg #[.int .i64 5, .int .i64 0, .string ⟨#[]⟩, .slice none 0 0]) (by simp [results, Tryz.results272, go_sem, *]) rfl ?_
        have hv4 := fun (B : Nat) (W : World) => val_flat B g W 5 0 ⟨#[]⟩ (by decide)
        exact Rd.fin hF.out.grown hF.out.st (fun c' q hc => by rw [hds'.out c' q hc]; exact hv4 _ _) ⟨_, hv4 _ _⟩

end
end Go.Proofs.YtfffpflflggonaaGreatDoor.src

namespace Go.Proofs.YtfffpflflggonaaGreatDoor.src
open Go.RowKit Go.Proofs.YtfffpflflggonaaGreatDoor Go.Proofs.YtfffpflflggonaaGreatDoor.lex Go.Proofs.YtfffpflflggonaaGreatDoor.value Go.Proofs.YtfffpflflggonaaGreatDoor.text Go.Proofs.YtfffpflflggonaaGreatDoor.schema Go.Proofs.YtfffpflflggonaaGreatDoor.draw Go.Proofs.YtfffpflflggonaaGreatDoor.clause

section
variable {M : Mem} {T : List Tok} {tb to' tc : Nat}

set_option maxRecDepth 100000 in
set_option maxHeartbeats 8000000 in
theorem rvalues_any (hK : TokM M T tb to' tc) (g o : Nat) (w : World) (s : PS) (hM : Sub M (but g w)) (h : RfP T tb to' tc g w o s) :
    Calls Tryz.prog 270 #[.pointer (some ⟨g, 0, none⟩)] w (Rd g (fun w s => RfP T tb to' tc g w o s) w (ValsIs w.heap.size g) (runS s valuesS)) := by
  have hgl := h.lt
  have hlen : lenP s ≤ 30001 := by rw [← h.left]; unfold leftR; have := hK.few; split <;> omega
  have hne : Hid (∀ ts, s = .ok ts → ts ≠ []) := Lib.hid fun ts e => by subst e; exact h.ne
  replace hM := Lib.hid hM
  obtain ⟨r0, hr0⟩ : ∃ r, Hid (r = runS s valuesS) := ⟨_, Lib.hid rfl⟩
  rw [← hr0.out]
  go_enter Tryz.func270, Tryz.ntmps270
  go_wp2_with fail
  refine (rvalue_any hK g o _ s hM.out h).mono ?_
  rintro e w1 hr
  obtain ⟨x, rfl, hL, hx⟩ := hr.val
  have hg1 := hr.1
  have hP1 := hr.2.1
  have hz1 : w.heap.size ≤ w1.heap.size := hg1.size
  have hg2 := Lib.hid (g_call hg1 (World.grownBy_alloc w1 (.cells #[.int .i64 x.kind, .int .i64 x.num, .string x.text, .slice x.ptr x.len x.cap] 76) (some g)))
  have hP2 := Lib.hid (hP1.alloc (.cells #[.int .i64 x.kind, .int .i64 x.num, .string x.text, .slice x.ptr x.len x.cap] 76))
  have hR2 : RO 76 4 w.heap.size (.slice (some ⟨w1.heap.size, 0, none⟩) 1 1) ([x].map VD.row) (w1.alloc (.cells #[.int .i64 x.kind, .int .i64 x.num, .string x.text, .slice x.ptr x.len x.cap] 76)) :=
    ro_one (e := 76) w1 #[.int .i64 x.kind, .int .i64 x.num, .string x.text, .slice x.ptr x.len x.cap] (B := w.heap.size) hz1 rfl
  have hL2 : ∀ d ∈ [x], LAt (nexO w.heap.size g (.slice (some ⟨w1.heap.size, 0, none⟩) 1 1) (w1.alloc (.cells #[.int .i64 x.kind, .int .i64 x.num, .string x.text, .slice x.ptr x.len x.cap] 76))) d := fun d hd => by
    obtain rfl := List.mem_singleton.1 hd
    refine hL.mono (nex_new (World.grownBy_alloc _ _ none) (fun k e => by cases e) (fun k hk => ?_))
    simp [Value.ownBlock] at hk
    rcases hk with rfl | rfl
    · exact Or.inl (by simp)
    · exact Or.inr (Or.inl (Nat.le_refl _))
  have hr1 : ∃ f, r0 = runV f ([x].map vv) (aft (runS s valueS)) ∧ lenP (aft (runS s valueS)) ≤ f := by
    rw [hr0.out]
    cases s with
    | error e => exact ⟨0, rfl, Nat.le_refl _⟩
    | ok ts =>
      obtain ⟨n, hn⟩ : ∃ n, ts.length = n + 1 := ⟨ts.length - 1, by
        have := hne.out ts rfl
        have : ts.length ≠ 0 := fun e => this (List.eq_nil_of_length_eq_zero e)
        omega⟩
      refine ⟨n, ?_, ?_⟩
      · show valuesF ts.length ts = runV n _ (aft (valueS ts))
        rw [hn, values_cont]
        cases ht : valueS ts with
        | error q => rfl
        | ok v =>
          obtain ⟨t, ts'⟩ := v
          have := hx t ts' ht
          rw [bnd_ok, ← this]
          rfl
      · show lenP (aft (valueS ts)) ≤ n
        cases ht : valueS ts with
        | error q => exact Nat.zero_le _
        | ok v =>
          obtain ⟨t, ts'⟩ := v
          have := shr_value _ _ _ ht
          show ts'.length ≤ n
          omega
  have hn1 : 1 + lenP (aft (runS s valueS)) ≤ 30001 := by
    cases s with
    | error e => show 1 + 0 ≤ _; omega
    | ok ts =>
      show 1 + lenP (aft (valueS ts)) ≤ _
      have hl : ts.length ≤ 30001 := hlen
      cases ht : valueS ts with
      | error q => show 1 + 0 ≤ _; omega
      | ok v =>
        obtain ⟨t, ts'⟩ := v
        have := shr_value _ _ _ ht
        show 1 + ts'.length ≤ _
        omega
  replace hr1 := Lib.hid hr1
  replace hR2 := Lib.hid hR2
  replace hL2 := Lib.hid hL2
  clear hr hx hg1 hP1 h hL
  generalize aft (runS s valueS) = s1 at hP2 hr1 hn1
  go_wp2
  go_loopw [3] (fun s3 wr => ∃ (s' : PS) (ds : List VD), 0 < ds.length ∧ Hid (RO 76 4 w.heap.size s3 (ds.map VD.row) wr) ∧ Hid (∀ d ∈ ds, LAt (nexO w.heap.size g s3 wr) d) ∧ Hid (w.grownBy wr (some g)) ∧ Hid (RfP T tb to' tc g wr o s') ∧ Hid (∃ f, r0 = runV f (ds.map vv) s' ∧ lenP s' ≤ f) ∧ ds.length + lenP s' ≤ 30001) (fun _ wr => leftR T.length g wr)
  case atStart => exact ⟨s1, [x], by simp, hR2, hL2, hg2, hP2, hr1, hn1⟩
  case round =>
    clear hR2 hg2 hP2 hr1 hn1 hL2
    obtain ⟨s', ds, hd0, hR, hL, hg, hP, hr, hn⟩ := hrel
    obtain ⟨va, vc, hv⟩ := ro_form hR.out (valRows_len ds)
    rw [List.length_map] at hv
    subst hv
    have hgz : w.heap.size ≤ wr.heap.size := hg.out.size
    go_wp2_with fail
    refine (rtake_any hK g o _ s' (sub_but_grown hM.out hg.out) hP.out 5 ⟨#[44]⟩ kd_comma).mono ?_
    rintro e w2 ⟨rfl, hga, hPa⟩
    have hzz : wr.heap.size ≤ w2.heap.size := hga.size
    have hRa := Lib.hid (hR.out.kept hga (fun y e => by cases e; exact hgl))
    have hLa := Lib.hid (fun d (hd : d ∈ ds) => (hL.out d hd).mono (nexO_g hga (Or.inr rfl)))
    have hgb := Lib.hid (g_call hg.out hga)
    cases hx : isP [44] s' with
    | false =>
      have hx' : isP (⟨#[44]⟩ : ByteArray).data.toList s' = false := hx
      have hQ := Lib.hid (show ∀ v, v = Value.slice va ds.length vc → Rd g (fun w s => RfP T tb to' tc g w o s) w (ValsIs w.heap.size g) r0 (.returned v) w2 from fun v hv => by
        have hT : ValsIs w.heap.size g (ds.map vv) (.returned v) w2 := ⟨va, _, vc, ds, by rw [hv], by have := hRa.out.new (valRows_len ds) hgl; exact this, fun d hd => (hLa.out d hd).mono (nexO_out _), rfl⟩
        have hP3 : RfP T tb to' tc g w2 o s' := by rw [← pastP_no hx']; exact hPa
        obtain ⟨f, hf, -⟩ := hr.out
        rw [hf]
        cases s' with
        | error e => exact Rd.err hgb.out hP3 _ hT
        | ok ts =>
          rw [show runV f (ds.map vv) (.ok ts) = .ok (ds.map vv, ts) from contV_end _ _ _ hx]
          exact Rd.ok hgb.out hP3 hT)
      clear hPa hga hRa hLa hgb hx hx' hR hL hg hP hr
      go_wp2
      go_ret
      exact hQ.out _ rfl
    | true =>
      cases s' with
      | error e => cases hx
      | ok ts =>
        have hP3 : RfP T tb to' tc g w2 o (.ok ts.tail) := by
          have e1 : pastP (⟨#[44]⟩ : ByteArray).data.toList (.ok ts) = .ok ts.tail := if_pos hx
          rw [← e1]
          exact hPa
        have hlt : ts.tail.length < ts.length := by
          cases ts with
          | nil => cases hx
          | cons t q => simp
        have hst : ∃ f, (r0 = bnd (valueS ts.tail) fun v r => contV f (ds.map vv ++ [v]) r) ∧ ts.tail.length ≤ f := by
          obtain ⟨f, hf, hfl⟩ := hr.out
          obtain ⟨f', rfl⟩ : ∃ f', f = f' + 1 := ⟨f - 1, by have : ts.length ≤ f := hfl; omega⟩
          refine ⟨f', ?_, by have : ts.length ≤ f' + 1 := hfl; omega⟩
          rw [hf]
          exact contV_step _ _ _ hx
        have hlw : leftR T.length g wr = ts.length := hP.out.left
        replace hst := Lib.hid hst
        replace hlt := Lib.hid hlt
        replace hlw := Lib.hid hlw
        have hn' := Lib.hid (show ds.length + ts.length ≤ 30001 from hn)
        have hdl : ds.length ≤ 30001 := by omega
        clear hPa hga hR hg hP hr hx hn hL
        go_wp2_with fail
        refine (rvalue_any hK g o _ (.ok ts.tail) (sub_but_grown hM.out hgb.out) hP3).mono ?_
        rintro e w3 hr
        obtain ⟨x', rfl, hLx, hx'⟩ := hr.val
        have hg3 := g_call hgb.out hr.1
        have hP4 : RfP T tb to' tc g w3 o (aft (valueS ts.tail)) := hr.2.1
        have hz3 : w.heap.size ≤ w3.heap.size := hg3.size
        have hal : Below w3.heap.size w3 (w3.alloc (.cells #[.int .i64 x'.kind, .int .i64 x'.num, .string x'.text, .slice x'.ptr x'.len x'.cap] 76)) := (Below.refl w3.heap.size w3).alloc (Nat.le_refl _) _
        have hRb := hRa.out.kept hr.1 (fun y e => by cases e; exact hgl)
        have hR3 := hRb.below hal
        have hown2 : ∀ k, (Value.slice va ds.length vc).ownBlock = some k → k < w2.heap.size := fun k hk => (hRa.out.out.lt k hk).2
        have hL3 : ∀ d ∈ ds ++ [x'], LAt (nexO w.heap.size g (.slice va ds.length vc) (w3.alloc (.cells #[.int .i64 x'.kind, .int .i64 x'.num, .string x'.text, .slice x'.ptr x'.len x'.cap] 76))) d := fun d hd => by
          refine LAt.mono (nexO_g (World.grownBy_alloc w3 _ none) (Or.inl rfl)) ?_
          rcases List.mem_append.1 hd with hd | hd
          · exact (hLa.out d hd).mono (nexO_g hr.1 (Or.inr rfl))
          · obtain rfl := List.mem_singleton.1 hd
            exact hLx.mono (nexO_part _ hgb.out.size hown2)
        have hrow := lit_rows (sz := 4) (w := w3.alloc (.cells #[.int .i64 x'.kind, .int .i64 x'.num, .string x'.text, .slice x'.ptr x'.len x'.cap] 76)) (g := w3.heap.size) (cs := x'.row) (fun j => by rw [(Own.new w3 #[.int .i64 x'.kind, .int .i64 x'.num, .string x'.text, .slice x'.ptr x'.len x'.cap] 76).cell j]; simp [VD.row])
        have hr4 : ∃ f, r0 = runV f ((ds ++ [x']).map vv) (aft (valueS ts.tail)) ∧ lenP (aft (valueS ts.tail)) ≤ f := by
          obtain ⟨f, hf, hfl⟩ := hst.out
          refine ⟨f, ?_, ?_⟩
          · rw [hf]
            cases ht : valueS ts.tail with
            | error q => rfl
            | ok v =>
              obtain ⟨t, ts'⟩ := v
              have := hx' t ts' ht
              rw [bnd_ok, ← this, List.map_append]
              rfl
          · cases ht : valueS ts.tail with
            | error q => exact Nat.zero_le _
            | ok v =>
              obtain ⟨t, ts'⟩ := v
              have := shr_value _ _ _ ht
              show ts'.length ≤ f
              omega
        have hn4 : (ds ++ [x']).length + lenP (aft (valueS ts.tail)) ≤ 30001 ∧ lenP (aft (valueS ts.tail)) < ts.length := by
          have h1 := hlt.out
          have h2 := hn'.out
          rw [List.length_append, List.length_singleton]
          cases ht : valueS ts.tail with
          | error q => show ds.length + 1 + 0 ≤ _ ∧ 0 < _; omega
          | ok v =>
            obtain ⟨t, ts'⟩ := v
            have := shr_value _ _ _ ht
            show ds.length + 1 + ts'.length ≤ _ ∧ ts'.length < _
            omega
        replace hR3 := Lib.hid hR3
        replace hL3 := Lib.hid hL3
        replace hrow := Lib.hid hrow
        replace hr4 := Lib.hid hr4
        replace hn4 := Lib.hid hn4
        have hg4 := Lib.hid (g_call hg3 (World.grownBy_alloc w3 (.cells #[.int .i64 x'.kind, .int .i64 x'.num, .string x'.text, .slice x'.ptr x'.len x'.cap] 76) (some g)))
        have hP5 := Lib.hid (hP4.alloc (.cells #[.int .i64 x'.kind, .int .i64 x'.num, .string x'.text, .slice x'.ptr x'.len x'.cap] 76))
        clear hr hx' hst hg3 hP4 hP3 hRb hal hLx hown2
        generalize aft (valueS ts.tail) = s4 at hr4 hn4 hP5
        go_wp2_with (at_builtin; refine wpList_append_val rfl _ _ rfl w.heap.size va ds.length vc (ds.map VD.row) rfl hR3.out (valRows_len ds) (by rw [List.length_map]) _ 1 1 [x'.row] rfl hrow.out (by intro r hr; rw [List.mem_singleton.1 hr]; rfl) (valRow_one x') (by omega) (by simp; omega) ?_; intro va' vc' w5 hR5 hn5 hg5 hat5; replace hR5 := Lib.hid hR5; replace hg5 := Lib.hid hg5; replace hat5 := Lib.hid hat5; clear hn5)
        have hown := hR3.out.out.lt
        have hg6 := Lib.hid (g_own hg4.out hg5.out (fun i e => (hown i e).1))
        have hP6 := Lib.hid (hP5.out.kept hg5.out (fun e => by have := (hown g e).1; omega))
        have hL6 := Lib.hid (fun d (hd : d ∈ ds ++ [x']) => (hL3.out d hd).mono (nexO_new hg5.out hat5.out))
        go_roundw
        case rel => exact ⟨s4, ds ++ [x'], by simp, by rw [List.map_append]; exact hR5, hL6, hg6, hP6, hr4, hn4.out.1⟩
        case measure => rw [hP6.out.left, hlw.out]; exact hn4.out.2


end
end Go.Proofs.YtfffpflflggonaaGreatDoor.src
