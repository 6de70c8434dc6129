/- The reference's parser: a negation, a condition in parentheses or a test. -/
import Derived.Test.YtfffpflflggonaaGreatDoorKS36
import Derived.Test.YtfffpflflggonaaGreatDoorKRfG
import Derived.Test.YtfffpflflggonaaGreatDoorKS24
namespace Go.Proofs.YtfffpflflggonaaGreatDoor.src
open Go.RowKit Go.Proofs.YtfffpflflggonaaGreatDoor Go.Proofs.YtfffpflflggonaaGreatDoor.lex Go.Proofs.YtfffpflflggonaaGreatDoor.value Go.Proofs.YtfffpflflggonaaGreatDoor.text Go.Proofs.YtfffpflflggonaaGreatDoor.schema Go.Proofs.YtfffpflflggonaaGreatDoor.draw Go.Proofs.YtfffpflflggonaaGreatDoor.clause

theorem kd_not : KdOf 1 (⟨#[110, 111, 116]⟩ : ByteArray).data.toList := Or.inl ⟨rfl, 110, [111, 116], rfl, by decide⟩
theorem sg_lp : signL (⟨#[40]⟩ : ByteArray).data.toList := ⟨40, [], rfl, by decide⟩
theorem kd_lp : KdOf 5 (⟨#[40]⟩ : ByteArray).data.toList := Or.inr ⟨rfl, sg_lp⟩
theorem sg_rp : signL (⟨#[41]⟩ : ByteArray).data.toList := ⟨41, [], rfl, by decide⟩
section
variable {M : Mem} {T : List Tok} {tb to' tc : Nat}
theorem par_val {N A : R PE} {x : PE} (hv : N = bnd A fun x r' => bnd (needS sRp r') fun _ r'' => .ok (x, r'')) (hxb : ∀ b q, A = .ok (b, q) → x = b) : ∀ c q, N = .ok (c, q) → x = c := by
  intro c q hc
  rw [hv] at hc
  obtain ⟨y, r1, h1, h2⟩ := bnd_inv hc
  obtain ⟨u, r2, h3, h4⟩ := bnd_inv h2
  injection h4 with h4
  injection h4 with h4 h5
  rw [← h4]
  exact hxb y r1 h1
theorem par_aft {N A : R PE} (hv : N = bnd A fun x r' => bnd (needS sRp r') fun _ r'' => .ok (x, r'')) : aft N = aft (runS (aft A) (needS sRp)) := by
  rw [hv]
  exact aft_bnd A (needS sRp) (fun x r' => bnd (needS sRp r') fun _ r'' => .ok (x, r'')) fun a q' => aft_map (needS sRp q') (fun _ => a)
/-- What not does at some fuel. -/
def RNotOk (M : Mem) (T : List Tok) (tb to' tc g f : Nat) : Prop := ∀ (o : Nat) (_hf : f ≤ 30001) (_ho : o ≤ 101) (w : World) (s : PS) (_hM : Sub M (but g w)) (_h : RfP T tb to' tc g w o s) (_hl : lenP s ≤ f),
    Calls Tryz.prog 117 #[.pointer (some ⟨g, 0, none⟩)] w (Rd g (fun w s => RfP T tb to' tc g w o s) w (ExIs w.heap.size g (120006 * f)) (runS s (notF f o)))
theorem RfP.past {g o o2 : Nat} {w : World} {t : Tok} {q : List Tok} {p : Nat} (h1 : p + 1 < T.length) (h2 : T.drop p = t :: q) (hO : Own w g #[.slice (some ⟨tb, to', none⟩) T.length tc, .int .i64 p, .int .i64 o, .int .i64 0, .int .i64 0, .string ⟨#[]⟩, .string ⟨#[]⟩, .int .i64 0, .slice none 0 0, .slice none 0 0, .slice none 0 0, .slice none 0 0, .slice none 0 0, .bool false] 71) :
    RfP T tb to' tc g ((w.setCell ⟨g, 2, none⟩ (.int .i64 o2)).setCell ⟨g, 1, none⟩ (.int .i64 ((p : Int) + 1))) o2 (.ok q) := by
  refine ⟨p + 1, 0, 0, h1, (by have := (hO.set 2 (.int .i64 o2)).set 1 (.int .i64 ((p : Int) + 1)); simpa using this), rfl, rfl, ?_⟩
  have hp : p < T.length := by omega
  rw [drop_at hp] at h2
  injection h2 with _ h2
  exact h2.symm

set_option maxRecDepth 100000 in
set_option maxHeartbeats 16000000 in
theorem rnot_step (hK : TokM M T tb to' tc) (g f : Nat) (ih : ∀ f', f = f' + 1 → RNotOk M T tb to' tc g f') : RNotOk M T tb to' tc g f := by
  intro o hf ho w s hM h hl
  have hgl := h.lt
  have hne : Hid (∀ ts, s = .ok ts → ts ≠ []) := Lib.hid fun ts e => by subst e; exact h.ne
  have hz := Lib.hid (Own.new w #[.int .i64 0, .string ⟨#[]⟩, .string ⟨#[]⟩, .slice none 0 0, .slice none 0 0] 31)
  have h0 := Lib.hid (h.alloc (.cells #[.int .i64 0, .string ⟨#[]⟩, .string ⟨#[]⟩, .slice none 0 0, .slice none 0 0] 31))
  have hg0 := Lib.hid (World.grownBy_alloc w (.cells #[.int .i64 0, .string ⟨#[]⟩, .string ⟨#[]⟩, .slice none 0 0, .slice none 0 0] 31) (some g))
  have hMw := Lib.hid hM
  have ihh := Lib.hid ih
  replace hl := Lib.hid hl
  clear h hM ih
  go_enter Tryz.func117, Tryz.ntmps117
  go_wp2_with fail
  generalize w.alloc (.cells #[.int .i64 0, .string ⟨#[]⟩, .string ⟨#[]⟩, .slice none 0 0, .slice none 0 0] 31) = w0 at hz h0 hg0 ⊢
  obtain ⟨gz, hgz⟩ : ∃ z : Nat, Hid (z = w.heap.size) := ⟨_, Lib.hid rfl⟩
  rw [← hgz.out] at hz ⊢
  have hwz : w.heap.size ≤ gz := Nat.le_of_eq hgz.out.symm
  have hggz : g < gz := by omega
  refine (rpeek_any hK g o _ s (sub_but_grown hMw.out hg0.out) h0.out).mono ?_
  rintro e w1 ⟨⟨t, rfl, ht, htk⟩, hb⟩
  replace ht := Lib.hid ht
  replace htk := Lib.hid htk
  have hba : Below w0.heap.size w0 (w1.alloc (.cells #[.int .i64 t.k, .string ⟨t.t.toArray⟩, .int .i64 t.n, .int .i64 t.line] 61)) := hb.alloc hb.size _
  have h2 := Lib.hid (h0.out.below hba)
  have hz2 := Lib.hid (hz.out.below hba hz.out.lt)
  have ht2 := Lib.hid (Own.new w1 #[.int .i64 t.k, .string ⟨t.t.toArray⟩, .int .i64 t.n, .int .i64 t.line] 61)
  have hg2 := Lib.hid (g_below hg0.out hba)
  have hzl : gz < w1.heap.size := Nat.lt_of_lt_of_le hz.out.lt hb.size
  clear hba hb h0 hz hg0
  go_upto_region 2 with fail
  generalize w1.alloc (.cells #[.int .i64 t.k, .string ⟨t.t.toArray⟩, .int .i64 t.n, .int .i64 t.line] 61) = w2 at h2 hz2 ht2 hg2 ⊢
  obtain ⟨gt, hgt⟩ : ∃ z : Nat, Hid (z = w1.heap.size) := ⟨_, Lib.hid rfl⟩
  rw [← hgt.out] at ht2 hzl ⊢
  go_wp2_with fail
  refine (is_ref hK g o _ s (sub_but_grown hMw.out hg2.out) h2.out 1 ⟨#[110, 111, 116]⟩ kd_not).mono ?_
  rintro e w3 ⟨rfl, hb⟩
  have h3 := Lib.hid (h2.out.below hb)
  have hz3 := Lib.hid (hz2.out.below hb hz2.out.lt)
  have ht3 := Lib.hid (ht2.out.below hb ht2.out.lt)
  have hg3 := Lib.hid (g_below hg2.out hb)
  clear hb h2 hz2 ht2 hg2
  cases hx : isP sNot s with
  | true =>
    rw [show isP (⟨#[110, 111, 116]⟩ : ByteArray).data.toList s = true from hx]
    obtain ⟨q, rfl⟩ : ∃ q, s = .ok (t :: q) := by
      cases s with
      | error e => cases hx
      | ok ts => obtain ⟨r, rfl⟩ := ht.out ts rfl; exact ⟨r, rfl⟩
    obtain ⟨f', rfl⟩ : ∃ f', f = f' + 1 := ⟨f - 1, by have : (t :: q).length ≤ f := hl.out; simp at this; omega⟩
    have htk1 : t.k = 1 := by
      have h1 : isT sNot t = true := hx
      rw [isT_kd (show KdOf 1 sNot from kd_not) htk.out] at h1
      unfold isK at h1
      simp only [Bool.and_eq_true, beq_iff_eq] at h1
      exact h1.1
    obtain ⟨p, q0, L0, hp1, hO, rfl, rfl, hdr⟩ := h3.out
    have hpt : T[p] = t := by have h1 := hdr; rw [drop_at hp1] at h1; injection h1 with h1 h2; exact h1.symm
    have hp2 : p + 1 < T.length := past_lt hK hp1 (x := sNot) (by rw [hpt]; exact hx)
    have hlq : q.length ≤ f' := by have : (t :: q).length ≤ f' + 1 := hl.out; simp at this; exact this
    have hxt := Lib.hid (show isT sNot t = true from hx)
    have c1 := hO.cell 1
    have c2 := hO.cell 2
    have d1 := hO.free 1
    have d2 := hO.free 2
    have hgL := hO.lt
    simp only [List.getElem?_toArray, List.getElem?_cons_succ, List.getElem?_cons_zero] at c1 c2
    have hw1 : IntKind.i64.wrap ((p : Int) + 1) = (p : Int) + 1 := by have := hK.few; rw [IntKind.wrap_i64]; omega
    have hw2 : IntKind.i64.wrap ((o : Int) + 1) = (o : Int) + 1 := by rw [IntKind.wrap_i64]; omega
    by_cases hov : 100 < o
    case pos =>
      have hov1 : (100 : Int) < (o : Int) := by omega
      have hv := Lib.hid (show notF (f' + 1) o (t :: q) = .error (18, t.line) from by rw [notF, if_pos hxt.out, if_pos hov])
      obtain ⟨t0, t1, t2, t3, -⟩ := own4z ht3.out
      clear hx c1 d1 d2 htk1
      go_wp2_with fail
      rw [← row_arr]
      refine (rfail_any g o _ (.ok (t :: q)) h3.out t 18 (by decide)).mono ?_
      rintro e w5 ⟨rfl, hga, hP5⟩
      have hz5 := hz3.out.kept hga (by simp; omega)
      have hRB := RdF.mk' (B := gz) (St := fun w s => RfP T tb to' tc g w o s) (g_call hg3.out hga) hP5 hgl hwz
      obtain ⟨z0, z1, z2, z3, z4, f0, f1, f2, f3, f4⟩ := own5z hz5
      have hzl' := hz5.lt
      have hF := Lib.hid (hRB.set5 (q := gz) (Nat.le_refl _) (.int .i64 0) (.string ⟨#[]⟩) (.string ⟨#[]⟩) (.slice none 0 0) (.slice none 0 0))
      clear hga hP5 hRB hz5
      go_wp2
      refine bodyPost_ret (v := .agg #[.int .i64 0, .string ⟨#[]⟩, .string ⟨#[]⟩, .slice none 0 0, .slice none 0 0]) (by simp [results, Tryz.results117, go_sem, *]) rfl ?_
      rw [runS_ok, hv.out]
      exact Rd.err hF.out.grown hF.out.st _ ⟨_, rfl, ex_flat _ 0 ⟨#[]⟩ ⟨#[]⟩, Nat.zero_le _⟩
    have hov1 : ¬ (100 : Int) < (o : Int) := by omega
    have hP5' := RfP.past (o2 := o + 1) hp2 hdr.symm hO
    have hgw := g_call (grown_setCell w3 g 2 (.int .i64 ((o : Int) + 1))) (grown_setCell _ g 1 (.int .i64 ((p : Int) + 1)))
    have hg5' := g_call hg3.out hgw
    have hz5' := hz3.out.kept hgw (by simp; omega)
    have ht5' := ht3.out.kept hgw (by simp; omega)
    have hP5 : Hid (RfP T tb to' tc g (((w3.setCell ⟨g, 2, none⟩ (.int .i64 ((o : Int) + 1))).setCell ⟨g, 1, none⟩ (.int .i64 ((p : Int) + 1))).alloc (.cells #[.int .i64 0, .string ⟨#[]⟩, .string ⟨#[]⟩, .slice none 0 0, .slice none 0 0] 31)) (o + 1) (.ok q)) := Lib.hid (RfP.alloc hP5' _)
    have hg5 := Lib.hid (g_call hg5' (World.grownBy_alloc _ (.cells #[.int .i64 0, .string ⟨#[]⟩, .string ⟨#[]⟩, .slice none 0 0, .slice none 0 0] 31) (some g)))
    have hz5 := Lib.hid (hz5'.alloc (.cells #[.int .i64 0, .string ⟨#[]⟩, .string ⟨#[]⟩, .slice none 0 0, .slice none 0 0] 31))
    have ht5 := Lib.hid (ht5'.alloc (.cells #[.int .i64 0, .string ⟨#[]⟩, .string ⟨#[]⟩, .slice none 0 0, .slice none 0 0] 31))
    have he5 := Lib.hid (show Own (((w3.setCell ⟨g, 2, none⟩ (.int .i64 ((o : Int) + 1))).setCell ⟨g, 1, none⟩ (.int .i64 ((p : Int) + 1))).alloc (.cells #[.int .i64 0, .string ⟨#[]⟩, .string ⟨#[]⟩, .slice none 0 0, .slice none 0 0] 31)) w3.heap.size #[.int .i64 0, .string ⟨#[]⟩, .string ⟨#[]⟩, .slice none 0 0, .slice none 0 0] 31 from Own.new' (by simp))
    have hzle : gz < w3.heap.size := hz3.out.lt
    clear hgw hg5' hz5' ht5' hP5'
    go_upto_region 10 with fail
    generalize ((w3.setCell ⟨g, 2, none⟩ (.int .i64 ((o : Int) + 1))).setCell ⟨g, 1, none⟩ (.int .i64 ((p : Int) + 1))).alloc (.cells #[.int .i64 0, .string ⟨#[]⟩, .string ⟨#[]⟩, .slice none 0 0, .slice none 0 0] 31) = w5 at hP5 hg5 hz5 ht5 he5 ⊢
    obtain ⟨ge, hge⟩ : ∃ z : Nat, Hid (z = w3.heap.size) := ⟨_, Lib.hid rfl⟩
    rw [← hge.out] at he5 hzle ⊢
    clear c1 c2 d1 d2 hO h3 hg3 hz3 ht3
    obtain ⟨t0, -⟩ := own4z ht5.out
    have hgel : ge < w5.heap.size := he5.out.lt
    have hwz5 : w.heap.size ≤ w5.heap.size := hg5.out.size
    have hwb : IntKind.i64.wrap ((o : Int) + 1 - 1) = (o : Int) := by rw [IntKind.wrap_i64]; omega

    have htb : (t.k == 1) = true := by rw [htk1]; rfl
    have hv := Lib.hid (show notF (f' + 1) o (t :: q) = bnd (notF f' (o + 1) q) fun x r' => .ok (.mk 4 [] [] [] [x], r') from by rw [notF, if_pos hxt.out, if_neg hov])
    replace htk1 := Lib.hid htk1
    go_wp2_with fail
    refine (ihh.out f' rfl (o + 1) (by omega) (by omega) w5 (.ok q) (sub_but_grown hMw.out hg5.out) hP5.out hlq).mono ?_
    rintro e w6 hr
    obtain ⟨x, o1, kd, nm, va, vn, vc, ka, kn, kc, rfl, hX, hxk, hxb⟩ := hr.ex
    have hz6 := hz5.out.kept hr.1 (by simp; omega)
    have he6 := he5.out.kept hr.1 (by simp; omega)
    have hsz : w5.heap.size ≤ w6.heap.size := hr.1.size
    have hRB6 := RdF.mk' (B := gz) (St := fun w s => RfP T tb to' tc g w (o + 1) s) (g_call hg5.out hr.1) hr.2.1 hgl hwz
    have he7l := he6.lt
    obtain ⟨u0, u1, u2, u3, u4, y0, y1, y2, y3, y4⟩ := own5z he6
    have hset := grown5 w6 ge (.int .i64 4) (.string ⟨#[]⟩) (.string ⟨#[]⟩) (.slice none 0 0) (.slice (some ⟨w6.heap.size, 0, none⟩) 1 1)
    have hwsz : (((((w6.setCell ⟨ge, 0, none⟩ (.int .i64 4)).setCell ⟨ge, 1, none⟩ (.string ⟨#[]⟩)).setCell ⟨ge, 2, none⟩ (.string ⟨#[]⟩)).setCell ⟨ge, 3, none⟩ (.slice none 0 0)).setCell ⟨ge, 4, none⟩ (.slice (some ⟨w6.heap.size, 0, none⟩) 1 1)).heap.size = w6.heap.size := by simp
    have hro := ro_one (e := 31) (sz := 5) (B := w6.heap.size) (((((w6.setCell ⟨ge, 0, none⟩ (.int .i64 4)).setCell ⟨ge, 1, none⟩ (.string ⟨#[]⟩)).setCell ⟨ge, 2, none⟩ (.string ⟨#[]⟩)).setCell ⟨ge, 3, none⟩ (.slice none 0 0)).setCell ⟨ge, 4, none⟩ (.slice (some ⟨w6.heap.size, 0, none⟩) 1 1)) #[.int .i64 o1, .string kd, .string nm, .slice va vn vc, .slice ka kn kc] (Nat.le_of_eq hwsz.symm) rfl
    rw [hwsz] at hro
    have hrow8 := Lib.hid (hro.new (g := g) (by intro r hr; rw [List.mem_singleton.1 hr]; rfl) (by omega))
    have hP8 := Lib.hid ((hRB6.set5 (q := ge) (by omega) (.int .i64 4) (.string ⟨#[]⟩) (.string ⟨#[]⟩) (.slice none 0 0) (.slice (some ⟨w6.heap.size, 0, none⟩) 1 1)).alloc (.cells #[.int .i64 o1, .string kd, .string nm, .slice va vn vc, .slice ka kn kc] 31))
    have hz8 := Lib.hid ((hz6.kept hset (by simp; omega)).alloc (.cells #[.int .i64 o1, .string kd, .string nm, .slice va vn vc, .slice ka kn kc] 31))
    have he8 : Hid (Own ((((((w6.setCell ⟨ge, 0, none⟩ (.int .i64 4)).setCell ⟨ge, 1, none⟩ (.string ⟨#[]⟩)).setCell ⟨ge, 2, none⟩ (.string ⟨#[]⟩)).setCell ⟨ge, 3, none⟩ (.slice none 0 0)).setCell ⟨ge, 4, none⟩ (.slice (some ⟨w6.heap.size, 0, none⟩) 1 1)).alloc (.cells #[.int .i64 o1, .string kd, .string nm, .slice va vn vc, .slice ka kn kc] 31)) ge #[.int .i64 4, .string ⟨#[]⟩, .string ⟨#[]⟩, .slice none 0 0, .slice (some ⟨w6.heap.size, 0, none⟩) 1 1] 31) := Lib.hid ((((((he6.set 0 _).set 1 _).set 2 _).set 3 _).set 4 _).alloc _)
    have hX8 := Lib.hid ((hX.mono (nex_set5 (q := ge) (by omega) (.int .i64 4) (.string ⟨#[]⟩) (.string ⟨#[]⟩) (.slice none 0 0) (.slice (some ⟨w6.heap.size, 0, none⟩) 1 1))).mono (nex_grown (World.grownBy_alloc _ (.cells #[.int .i64 o1, .string kd, .string nm, .slice va vn vc, .slice ka kn kc] 31) none) (fun k e => by cases e)))
    replace hxb := Lib.hid hxb
    clear hr hX hRB6 hro hset hz6 he6 hwsz
    go_upto_region 14 with fail
    generalize ((((((w6.setCell ⟨ge, 0, none⟩ (.int .i64 4)).setCell ⟨ge, 1, none⟩ (.string ⟨#[]⟩)).setCell ⟨ge, 2, none⟩ (.string ⟨#[]⟩)).setCell ⟨ge, 3, none⟩ (.slice none 0 0)).setCell ⟨ge, 4, none⟩ (.slice (some ⟨w6.heap.size, 0, none⟩) 1 1)).alloc (.cells #[.int .i64 o1, .string kd, .string nm, .slice va vn vc, .slice ka kn kc] 31)) = w8 at hP8 hz8 he8 hX8 hrow8 ⊢

    obtain ⟨p8, q8, L8, hp8, hO8, hs8⟩ := hP8.out.st
    have b2 := hO8.cell 2
    have bf2 := hO8.free 2
    have hgl8 := hO8.lt
    simp only [List.getElem?_toArray, List.getElem?_cons_succ, List.getElem?_cons_zero] at b2
    have hP9 := Lib.hid (hP8.out.back (o2 := o))
    have hz9 := Lib.hid (hz8.out.setOther (p := ⟨g, 2, none⟩) (by simp; omega) (.int .i64 (o : Int)))
    have he9 := Lib.hid (he8.out.setOther (p := ⟨g, 2, none⟩) (by simp; omega) (.int .i64 (o : Int)))
    have hgB : g ∈ [g] := by simp
    have hX9 : Hid (ExAt (nex w5.heap.size [g] (w8.setCell ⟨g, 2, none⟩ (.int .i64 (o : Int)))) (.mk 4 [] [] [] [x]) [.int .i64 4, .string ⟨#[]⟩, .string ⟨#[]⟩, .slice none 0 0, .slice (some ⟨w6.heap.size, 0, none⟩) 1 1]) :=
      Lib.hid (ExAt.make (op := 4) (kd := ⟨#[]⟩) (nm := ⟨#[]⟩) (vals := []) (rows_nil _ _) (fun _ hv => (List.not_mem_nil hv).elim) (hrow8.out.mono ((nex_set (Or.inl hgB) _).trans (nex_up _ hsz (fun k hk => Or.inl hk)))) ((KidsAt.one hX8.out).mono (nex_set (Or.inl hgB) _)))
    clear hO8 hs8 t0 u0 u1 u2 u3 u4 y0 y1 y2 y3 y4
    go_upto_region 15 with fail
    generalize w8.setCell ⟨g, 2, none⟩ (.int .i64 (o : Int)) = w9 at hP9 hz9 he9 hX9 ⊢
    clear b2 bf2
    obtain ⟨z0, z1, z2, z3, z4, f0, f1, f2, f3, f4⟩ := own5z hz9.out
    obtain ⟨y0, y1, y2, y3, y4, -⟩ := own5z he9.out
    have hzl' := hz9.out.lt
    have hF := Lib.hid (hP9.out.set5 (q := gz) (Nat.le_refl _) (.int .i64 4) (.string ⟨#[]⟩) (.string ⟨#[]⟩) (.slice none 0 0) (.slice (some ⟨w6.heap.size, 0, none⟩) 1 1))
    have hXF := Lib.hid (hX9.out.mono ((nex_set5 (q := gz) (by omega) (.int .i64 4) (.string ⟨#[]⟩) (.string ⟨#[]⟩) (.slice none 0 0) (.slice (some ⟨w6.heap.size, 0, none⟩) 1 1)).trans (nex_up _ hwz5 (fun k hk => Or.inl hk))))
    clear hP8 hz8 he8
    go_wp2
    refine bodyPost_ret (v := .agg #[.int .i64 4, .string ⟨#[]⟩, .string ⟨#[]⟩, .slice none 0 0, .slice (some ⟨w6.heap.size, 0, none⟩) 1 1]) (by simp [results, Tryz.results117, go_sem, *]) rfl ?_
    rw [runS_ok]
    rw [hv.out]
    have h1k : (PE.mk 4 [] [] [] [x]).kids.length ≤ 120006 * (f' + 1) := by show 1 ≤ _; omega
    exact Rd.fin hF.out.grown (by rw [show aft (bnd (notF f' (o + 1) q) fun x r' => .ok ((.mk 4 [] [] [] [x] : PE), r')) = aft (notF f' (o + 1) q) from aft_map _ (fun x => (.mk 4 [] [] [] [x] : PE))]; exact hF.out.st) (fun c q' hc => by
      obtain ⟨y, r1, h1, h2⟩ := bnd_inv hc
      injection h2 with h2
      injection h2 with h2 h3
      rw [← h2, ← hxb.out y r1 h1]
      exact ⟨_, rfl, hXF.out, h1k⟩) ⟨_, _, rfl, hXF.out, h1k⟩
  | false =>
    rw [show isP (⟨#[110, 111, 116]⟩ : ByteArray).data.toList s = false from hx]
    replace hx := Lib.hid hx
    go_wp2_with fail
    refine (is_ref hK g o _ s (sub_but_grown hMw.out hg3.out) h3.out 5 ⟨#[40]⟩ kd_lp).mono ?_
    rintro e w4 ⟨rfl, hb⟩
    have h4 := Lib.hid (h3.out.below hb)
    have hz4 := Lib.hid (hz3.out.below hb hz3.out.lt)
    have ht4 := Lib.hid (ht3.out.below hb ht3.out.lt)
    have hg4 := Lib.hid (g_below hg3.out hb)
    clear hb h3 hz3 ht3 hg3
    cases hx2 : isP sLp s with
    | true =>
      rw [show isP (⟨#[40]⟩ : ByteArray).data.toList s = true from hx2]
      obtain ⟨q, rfl⟩ : ∃ q, s = .ok (t :: q) := by
        cases s with
        | error e => cases hx2
        | ok ts => obtain ⟨r, rfl⟩ := ht.out ts rfl; exact ⟨r, rfl⟩
      obtain ⟨f', rfl⟩ : ∃ f', f = f' + 1 := ⟨f - 1, by have : (t :: q).length ≤ f := hl.out; simp at this; omega⟩
      have htk1 : t.k = 5 := by
        have h1 : isT sLp t = true := hx2
        rw [isT_kd (show KdOf 5 sLp from kd_lp) htk.out] at h1
        unfold isK at h1
        simp only [Bool.and_eq_true, beq_iff_eq] at h1
        exact h1.1
      obtain ⟨p, q0, L0, hp1, hO, rfl, rfl, hdr⟩ := h4.out
      have hpt : T[p] = t := by have h1 := hdr; rw [drop_at hp1] at h1; injection h1 with h1 h2; exact h1.symm
      have hp2 : p + 1 < T.length := past_lt hK hp1 (x := sLp) (by rw [hpt]; exact hx2)
      have hlq : q.length ≤ f' := by have : (t :: q).length ≤ f' + 1 := hl.out; simp at this; exact this
      have hxt := Lib.hid (show isT sLp t = true from hx2)
      have c1 := hO.cell 1
      have c2 := hO.cell 2
      have d1 := hO.free 1
      have d2 := hO.free 2
      have hgL := hO.lt
      simp only [List.getElem?_toArray, List.getElem?_cons_succ, List.getElem?_cons_zero] at c1 c2
      have hw1 : IntKind.i64.wrap ((p : Int) + 1) = (p : Int) + 1 := by have := hK.few; rw [IntKind.wrap_i64]; omega
      have hw2 : IntKind.i64.wrap ((o : Int) + 1) = (o : Int) + 1 := by rw [IntKind.wrap_i64]; omega
      by_cases hov : 100 < o
      case pos =>
        have hov1 : (100 : Int) < (o : Int) := by omega
        have hv := Lib.hid (show notF (f' + 1) o (t :: q) = .error (18, t.line) from by rw [notF, if_neg (by rw [show isT sNot t = false from hx.out]; decide), if_pos hxt.out, if_pos hov])
        obtain ⟨t0, t1, t2, t3, -⟩ := own4z ht4.out
        clear hx2 c1 d1 d2 htk1
        go_wp2_with fail
        rw [← row_arr]
        refine (rfail_any g o _ (.ok (t :: q)) h4.out t 18 (by decide)).mono ?_
        rintro e w5 ⟨rfl, hga, hP5⟩
        have hz5 := hz4.out.kept hga (by simp; omega)
        have hRB := RdF.mk' (B := gz) (St := fun w s => RfP T tb to' tc g w o s) (g_call hg4.out hga) hP5 hgl hwz
        obtain ⟨z0, z1, z2, z3, z4, f0, f1, f2, f3, f4⟩ := own5z hz5
        have hzl' := hz5.lt
        have hF := Lib.hid (hRB.set5 (q := gz) (Nat.le_refl _) (.int .i64 0) (.string ⟨#[]⟩) (.string ⟨#[]⟩) (.slice none 0 0) (.slice none 0 0))
        clear hga hP5 hRB hz5
        go_wp2
        refine bodyPost_ret (v := .agg #[.int .i64 0, .string ⟨#[]⟩, .string ⟨#[]⟩, .slice none 0 0, .slice none 0 0]) (by simp [results, Tryz.results117, go_sem, *]) rfl ?_
        rw [runS_ok, hv.out]
        exact Rd.err hF.out.grown hF.out.st _ ⟨_, rfl, ex_flat _ 0 ⟨#[]⟩ ⟨#[]⟩, Nat.zero_le _⟩
      have hov1 : ¬ (100 : Int) < (o : Int) := by omega
      have hP5' := RfP.past (o2 := o + 1) hp2 hdr.symm hO
      have hgw := g_call (grown_setCell w4 g 2 (.int .i64 ((o : Int) + 1))) (grown_setCell _ g 1 (.int .i64 ((p : Int) + 1)))
      have hg5' := g_call hg4.out hgw
      have hz5' := hz4.out.kept hgw (by simp; omega)
      have ht5' := ht4.out.kept hgw (by simp; omega)
      have hP5 : Hid (RfP T tb to' tc g (((w4.setCell ⟨g, 2, none⟩ (.int .i64 ((o : Int) + 1))).setCell ⟨g, 1, none⟩ (.int .i64 ((p : Int) + 1))).alloc (.cells #[.int .i64 0, .string ⟨#[]⟩, .string ⟨#[]⟩, .slice none 0 0, .slice none 0 0] 31)) (o + 1) (.ok q)) := Lib.hid (RfP.alloc hP5' _)
      have hg5 := Lib.hid (g_call hg5' (World.grownBy_alloc _ (.cells #[.int .i64 0, .string ⟨#[]⟩, .string ⟨#[]⟩, .slice none 0 0, .slice none 0 0] 31) (some g)))
      have hz5 := Lib.hid (hz5'.alloc (.cells #[.int .i64 0, .string ⟨#[]⟩, .string ⟨#[]⟩, .slice none 0 0, .slice none 0 0] 31))
      have ht5 := Lib.hid (ht5'.alloc (.cells #[.int .i64 0, .string ⟨#[]⟩, .string ⟨#[]⟩, .slice none 0 0, .slice none 0 0] 31))
      have he5 := Lib.hid (show Own (((w4.setCell ⟨g, 2, none⟩ (.int .i64 ((o : Int) + 1))).setCell ⟨g, 1, none⟩ (.int .i64 ((p : Int) + 1))).alloc (.cells #[.int .i64 0, .string ⟨#[]⟩, .string ⟨#[]⟩, .slice none 0 0, .slice none 0 0] 31)) w4.heap.size #[.int .i64 0, .string ⟨#[]⟩, .string ⟨#[]⟩, .slice none 0 0, .slice none 0 0] 31 from Own.new' (by simp))
      have hzle : gz < w4.heap.size := hz4.out.lt
      clear hgw hg5' hz5' ht5' hP5'
      go_upto_region 10 with fail
      generalize ((w4.setCell ⟨g, 2, none⟩ (.int .i64 ((o : Int) + 1))).setCell ⟨g, 1, none⟩ (.int .i64 ((p : Int) + 1))).alloc (.cells #[.int .i64 0, .string ⟨#[]⟩, .string ⟨#[]⟩, .slice none 0 0, .slice none 0 0] 31) = w5 at hP5 hg5 hz5 ht5 he5 ⊢
      obtain ⟨ge, hge⟩ : ∃ z : Nat, Hid (z = w4.heap.size) := ⟨_, Lib.hid rfl⟩
      rw [← hge.out] at he5 hzle ⊢
      clear c1 c2 d1 d2 hO h4 hg4 hz4 ht4
      obtain ⟨t0, -⟩ := own4z ht5.out
      have hgel : ge < w5.heap.size := he5.out.lt
      have hwz5 : w.heap.size ≤ w5.heap.size := hg5.out.size
      have hwb : IntKind.i64.wrap ((o : Int) + 1 - 1) = (o : Int) := by rw [IntKind.wrap_i64]; omega

      have htb : (t.k == 1) = false := by rw [htk1]; rfl
      have hv := Lib.hid (show notF (f' + 1) o (t :: q) = bnd (chainF (chainF (notF f' (o + 1)) 2 sAnd f') 3 sOr f' q) fun x r' => bnd (needS sRp r') fun _ r'' => .ok (x, r'') from by rw [notF, if_neg (by rw [show isT sNot t = false from hx.out]; decide), if_pos hxt.out, if_neg hov])
      replace htk1 := Lib.hid htk1
      have hsn := shr_not f' (o + 1)
      have hkn := kid_not f' (o + 1)
      go_wp2_with fail
      refine (ror_any hK g (o + 1) f' (60003 + 120006 * f') (by omega) (chainF (notF f' (o + 1)) 2 sAnd f') (shr_chain hsn 2 sAnd f') (kid_chain hsn hkn 2 sAnd f')
        (fun w s a b c => rand_any hK g (o + 1) f' (120006 * f') (by omega) (notF f' (o + 1)) hsn hkn (fun w s a b c => ihh.out f' rfl (o + 1) (by omega) (by omega) w s a b c) w s a b c) w5 (.ok q) (sub_but_grown hMw.out hg5.out) hP5.out hlq).mono ?_
      rintro e w6 hr
      obtain ⟨x, o1, kd, nm, va, vn, vc, ka, kn, kc, rfl, hX, hxk, hxb⟩ := hr.ex
      have hz6 := hz5.out.kept hr.1 (by simp; omega)
      have he6 := he5.out.kept hr.1 (by simp; omega)
      have hsz : w5.heap.size ≤ w6.heap.size := hr.1.size
      have hRB6 := RdF.mk' (B := gz) (St := fun w s => RfP T tb to' tc g w (o + 1) s) (g_call hg5.out hr.1) hr.2.1 hgl hwz
      have hset := (fun (a b c d e : Value) => grown5 w6 ge a b c d e)
      have he7l := he6.lt
      obtain ⟨u0, u1, u2, u3, u4, y0, y1, y2, y3, y4⟩ := own5z he6
      have hP7 := Lib.hid (((hRB6.set5 (q := ge) (by omega) (.int .i64 o1) (.string kd) (.string nm) (.slice va vn vc) (.slice ka kn kc))).alloc (.cells #[.string ⟨#[41]⟩] 9))
      have hz7 := Lib.hid ((hz6.kept (hset (.int .i64 o1) (.string kd) (.string nm) (.slice va vn vc) (.slice ka kn kc)) (by simp; omega)).alloc (.cells #[.string ⟨#[41]⟩] 9))
      have he7 : Hid (Own ((((((w6.setCell ⟨ge, 0, none⟩ (.int .i64 o1)).setCell ⟨ge, 1, none⟩ (.string kd)).setCell ⟨ge, 2, none⟩ (.string nm)).setCell ⟨ge, 3, none⟩ (.slice va vn vc)).setCell ⟨ge, 4, none⟩ (.slice ka kn kc)).alloc (.cells #[.string ⟨#[41]⟩] 9)) ge #[.int .i64 o1, .string kd, .string nm, .slice va vn vc, .slice ka kn kc] 31) := Lib.hid ((((((he6.set 0 _).set 1 _).set 2 _).set 3 _).set 4 _).alloc _)
      have hX7 := Lib.hid ((hX.mono (nex_set5 (q := ge) (by omega) (.int .i64 o1) (.string kd) (.string nm) (.slice va vn vc) (.slice ka kn kc))).mono (nex_grown (World.grownBy_alloc _ (.cells #[.string ⟨#[41]⟩] 9) none) (fun k e => by cases e)))
      have hn9 : ((((((w6.setCell ⟨ge, 0, none⟩ (.int .i64 o1)).setCell ⟨ge, 1, none⟩ (.string kd)).setCell ⟨ge, 2, none⟩ (.string nm)).setCell ⟨ge, 3, none⟩ (.slice va vn vc)).setCell ⟨ge, 4, none⟩ (.slice ka kn kc)).alloc (.cells #[.string ⟨#[41]⟩] 9)).cell? ⟨w6.heap.size, 0, none⟩ = some (.string ⟨#[41]⟩) := by
        have := (Own.new' (w := ((((w6.setCell ⟨ge, 0, none⟩ (.int .i64 o1)).setCell ⟨ge, 1, none⟩ (.string kd)).setCell ⟨ge, 2, none⟩ (.string nm)).setCell ⟨ge, 3, none⟩ (.slice va vn vc)).setCell ⟨ge, 4, none⟩ (.slice ka kn kc)) (n := w6.heap.size) (A := #[.string ⟨#[41]⟩]) (t := 9) (by simp)).cell 0
        simpa using this
      have hgn : w6.heap.size ≠ g := by omega
      have hxb' := Lib.hid (par_val hv.out hxb)
      have haf := Lib.hid (par_aft hv.out)
      replace hP7 := Lib.hid (show RdF g gz (fun w s => RfP T tb to' tc g w (o + 1) s) w _ (aft (chainF (chainF (notF f' (o + 1)) 2 sAnd f') 3 sOr f' q)) from hP7.out)
      clear hr hX hRB6 hset hz6 he6 hxb hv
      generalize aft (chainF (chainF (notF f' (o + 1)) 2 sAnd f') 3 sOr f' q) = s6 at hP7 haf
      go_wp2_with fail
      generalize (((((w6.setCell ⟨ge, 0, none⟩ (.int .i64 o1)).setCell ⟨ge, 1, none⟩ (.string kd)).setCell ⟨ge, 2, none⟩ (.string nm)).setCell ⟨ge, 3, none⟩ (.slice va vn vc)).setCell ⟨ge, 4, none⟩ (.slice ka kn kc)).alloc (.cells #[.string ⟨#[41]⟩] 9) = w7 at hP7 hz7 he7 hX7 hn9 ⊢
      refine (rneed_any hK g (o + 1) w7 s6 (sub_but_grown hMw.out hP7.out.grown) hP7.out.st ⟨#[41]⟩ sg_rp w6.heap.size 1 hn9 hgn).mono ?_
      rintro e w8 hr
      obtain rfl := hr.none
      have hz8 := Lib.hid (hz7.out.kept hr.1 (by simp; omega))
      have he8 := Lib.hid (he7.out.kept hr.1 (by simp; omega))
      have hX8 := Lib.hid (hX7.out.mono (nex_grown hr.1 (fun k e => by cases e; exact Or.inl (by simp))))
      have hP8 := Lib.hid (RdF.mk' (B := gz) (St := fun w s => RfP T tb to' tc g w (o + 1) s) (s := aft (notF (f' + 1) o (t :: q))) (g_call hP7.out.grown hr.1) (by rw [haf.out]; exact hr.2.1) hgl hwz)
      clear hr hP7 hz7 he7 hX7 hn9

      obtain ⟨p8, q8, L8, hp8, hO8, hs8⟩ := hP8.out.st
      have b2 := hO8.cell 2
      have bf2 := hO8.free 2
      have hgl8 := hO8.lt
      simp only [List.getElem?_toArray, List.getElem?_cons_succ, List.getElem?_cons_zero] at b2
      have hP9 := Lib.hid (hP8.out.back (o2 := o))
      have hz9 := Lib.hid (hz8.out.setOther (p := ⟨g, 2, none⟩) (by simp; omega) (.int .i64 (o : Int)))
      have he9 := Lib.hid (he8.out.setOther (p := ⟨g, 2, none⟩) (by simp; omega) (.int .i64 (o : Int)))
      have hgB : g ∈ [g] := by simp
      have hX9 := Lib.hid (hX8.out.mono (nex_set (o := 2) (Or.inl hgB) (.int .i64 (o : Int))))
      clear hO8 hs8 t0 u0 u1 u2 u3 u4 y0 y1 y2 y3 y4
      go_upto_region 15 with fail
      generalize w8.setCell ⟨g, 2, none⟩ (.int .i64 (o : Int)) = w9 at hP9 hz9 he9 hX9 ⊢
      clear b2 bf2
      obtain ⟨z0, z1, z2, z3, z4, f0, f1, f2, f3, f4⟩ := own5z hz9.out
      obtain ⟨y0, y1, y2, y3, y4, -⟩ := own5z he9.out
      have hzl' := hz9.out.lt
      have hF := Lib.hid (hP9.out.set5 (q := gz) (Nat.le_refl _) (.int .i64 o1) (.string kd) (.string nm) (.slice va vn vc) (.slice ka kn kc))
      have hXF := Lib.hid (hX9.out.mono ((nex_set5 (q := gz) (by omega) (.int .i64 o1) (.string kd) (.string nm) (.slice va vn vc) (.slice ka kn kc)).trans (nex_up _ hwz5 (fun k hk => Or.inl hk))))
      clear hP8 hz8 he8
      go_wp2
      refine bodyPost_ret (v := .agg #[.int .i64 o1, .string kd, .string nm, .slice va vn vc, .slice ka kn kc]) (by simp [results, Tryz.results117, go_sem, *]) rfl ?_
      rw [runS_ok]
      exact Rd.fin hF.out.grown hF.out.st (fun c q' hc => by rw [← hxb'.out c q' hc]; exact ⟨_, rfl, hXF.out, by omega⟩) ⟨_, _, rfl, hXF.out, by omega⟩
    | false =>
      rw [show isP (⟨#[40]⟩ : ByteArray).data.toList s = false from hx2]
      have hv := Lib.hid (notF_test (f := f) (o := o) hne.out hl.out hx.out hx2)
      go_wp2_with fail
      refine (rtest_any hK g o _ s (sub_but_grown hMw.out hg4.out) h4.out).mono ?_
      rintro e w5 hr
      obtain ⟨x, o1, kd, nm, va, vn, vc, ka, kn, kc, rfl, hX, hxk, hxb⟩ := hr.ex
      have hz5 := hz4.out.kept hr.1 (by simp; omega)
      have hzB : gz < w4.heap.size := hz4.out.lt
      have hwz4 : w.heap.size ≤ w4.heap.size := hg4.out.size
      have hRB := RdF.mk' (B := gz) (St := fun w s => RfP T tb to' tc g w o s) (g_call hg4.out hr.1) hr.2.1 hgl hwz
      obtain ⟨z0, z1, z2, z3, z4, f0, f1, f2, f3, f4⟩ := own5z hz5
      have hzl' := hz5.lt
      have hF := Lib.hid (hRB.set5 (q := gz) (Nat.le_refl _) (.int .i64 o1) (.string kd) (.string nm) (.slice va vn vc) (.slice ka kn kc))
      have hXF := Lib.hid (hX.mono ((nex_set5 (q := gz) hzB (.int .i64 o1) (.string kd) (.string nm) (.slice va vn vc) (.slice ka kn kc)).trans (nex_up _ hwz4 (fun k hk => Or.inl hk))))
      replace hxb := Lib.hid hxb
      clear hr hRB hX hz5
      go_wp2
      refine bodyPost_ret (v := .agg #[.int .i64 o1, .string kd, .string nm, .slice va vn vc, .slice ka kn kc]) (by simp [results, Tryz.results117, go_sem, *]) rfl ?_
      rw [hv.out]
      exact Rd.fin hF.out.grown hF.out.st (fun c q hc => by rw [← hxb.out c q hc]; exact ⟨_, rfl, hXF.out, by omega⟩) ⟨x, _, rfl, hXF.out, by omega⟩

theorem rnot_any (hK : TokM M T tb to' tc) (g : Nat) : ∀ f, RNotOk M T tb to' tc g f
  | 0 => rnot_step hK g 0 (fun f' h => by omega)
  | f + 1 => rnot_step hK g (f + 1) (fun f' h => by
    have e : f = f' := by omega
    rw [← e]
    exact rnot_any hK g f)
theorem ror_all (hK : TokM M T tb to' tc) (g o f : Nat) (hf : f ≤ 30001) (ho : o ≤ 101) (w : World) (s : PS) (hM : Sub M (but g w)) (h : RfP T tb to' tc g w o s) (hl : lenP s ≤ f) :
    Calls Tryz.prog 24 #[.pointer (some ⟨g, 0, none⟩)] w (Rd g (fun w s => RfP T tb to' tc g w o s) w (ExIs w.heap.size g (KO f)) (runS s (orF f o))) :=
  ror_any hK g o f (60003 + 120006 * f) (by omega) (chainF (notF f o) 2 sAnd f) (shr_chain (shr_not f o) 2 sAnd f) (kid_chain (shr_not f o) (kid_not f o) 2 sAnd f)
    (fun w s a b c => rand_any hK g o f (120006 * f) (by omega) (notF f o) (shr_not f o) (kid_not f o) (fun w s a b c => rnot_any hK g f o hf ho w s a b c) w s a b c) w s hM h hl

end
end Go.Proofs.YtfffpflflggonaaGreatDoor.src

