/- Reading an empty text, comparing empty environments; the chapter's example. The state of the reference's parser: what is left of the tokens, or the first error and its line. The reference's parser: its small steps. -/
import Derived.Test.YtfffpflflggonaaGreatDoorKS33
import Derived.Test.YtfffpflflggonaaGreatDoorKS34
import Derived.Laws.StructEq
import Derived.Test.YtfffpflflggonaaGreatDoorKS17
import Derived.Test.YtfffpflflggonaaGreatDoorKS18
namespace Go.Proofs.YtfffpflflggonaaGreatDoor.src
open Go.RowKit Go.Proofs.YtfffpflflggonaaGreatDoor Go.Proofs.YtfffpflflggonaaGreatDoor.lex Go.Proofs.YtfffpflflggonaaGreatDoor.value Go.Proofs.YtfffpflflggonaaGreatDoor.text Go.Proofs.YtfffpflflggonaaGreatDoor.schema Go.Proofs.YtfffpflflggonaaGreatDoor.draw Go.Proofs.YtfffpflflggonaaGreatDoor.clause

theorem toks_zero : startS (⟨#[]⟩ : ByteArray).data.toList = .ok [⟨6, [], 0, 1⟩] := by kernel_rfl
set_option maxRecDepth 100000 in
set_option maxHeartbeats 8000000 in
theorem parse_zero (w : World) (hT : Tabs w) (hsp : SpaceTab w) :
    Calls Tryz.prog 16 #[.string ⟨#[]⟩] w fun e w' => e = .returned (.tuple #[.agg #[.string ⟨#[]⟩, .string ⟨#[]⟩, .int .i64 0, .slice none 0 0, .slice none 0 0, .slice none 0 0, .slice none 0 0, .slice none 0 0], .int .i64 0, .int .i64 0]) ∧ Below w.heap.size w w' := by
  have hz := Lib.hid (Own.new w #[.string ⟨#[]⟩, .string ⟨#[]⟩, .int .i64 0, .slice none 0 0, .slice none 0 0, .slice none 0 0, .slice none 0 0, .slice none 0 0] 51)
  have hB0 := (Below.refl w.heap.size w).alloc (Nat.le_refl _) (.cells #[.string ⟨#[]⟩, .string ⟨#[]⟩, .int .i64 0, .slice none 0 0, .slice none 0 0, .slice none 0 0, .slice none 0 0, .slice none 0 0] 51)
  have hT0 := Lib.hid (hT.below hB0)
  replace hB0 := Lib.hid hB0
  replace hT := Lib.hid hT
  replace hsp := Lib.hid hsp
  go_enter Tryz.func16, Tryz.ntmps16
  go_wp2_with fail
  generalize w.alloc (.cells #[.string ⟨#[]⟩, .string ⟨#[]⟩, .int .i64 0, .slice none 0 0, .slice none 0 0, .slice none 0 0, .slice none 0 0, .slice none 0 0] 51) = w0 at hz hB0 hT0 ⊢
  obtain ⟨gz, hgz⟩ : ∃ z : Nat, Hid (z = w.heap.size) := ⟨_, Lib.hid rfl⟩
  rw [← hgz.out] at hz ⊢
  have hgzw : w.heap.size ≤ gz := Nat.le_of_eq hgz.out.symm
  refine (start_any ⟨#[]⟩ w0 (by decide) hT0.out).mono ?_
  rintro e w1 ⟨g, M, T, tb, to', tc, rfl, hK, hM, hP, hg, hb⟩
  rw [toks_zero] at hP
  have hzl0 := hz.out.lt
  have hwg : gz < g := by omega
  have hz1 := Lib.hid (hz.out.below hb hzl0)
  have hB1 := Lib.hid (hB0.out.trans (hb.mono hB0.out.size))
  replace hK := Lib.hid hK
  replace hM := Lib.hid hM
  replace hP := Lib.hid hP
  clear hb hB0 hT0 hz
  go_wp2_with fail
  refine (env_zero hK.out g w1 ⟨6, [], 0, 1⟩ rfl hM.out hP.out).mono ?_
  rintro e w2 ⟨rfl, hb⟩
  have hz2 := hz1.out.below hb hz1.out.lt
  have hP2 := hP.out.below hb
  have hB2 := hB1.out.trans (hb.mono hB1.out.size)
  have hz3 := Lib.hid (hz2.alloc (.cells #[.string ⟨#[]⟩, .string ⟨#[]⟩, .int .i64 0, .slice none 0 0, .slice none 0 0, .slice none 0 0, .slice none 0 0, .slice none 0 0] 51))
  have hP3 := Lib.hid (hP2.alloc (.cells #[.string ⟨#[]⟩, .string ⟨#[]⟩, .int .i64 0, .slice none 0 0, .slice none 0 0, .slice none 0 0, .slice none 0 0, .slice none 0 0] 51))
  have hB3 := Lib.hid (hB2.alloc hB2.size (.cells #[.string ⟨#[]⟩, .string ⟨#[]⟩, .int .i64 0, .slice none 0 0, .slice none 0 0, .slice none 0 0, .slice none 0 0, .slice none 0 0] 51))
  have hv3 := Lib.hid (Own.new w2 #[.string ⟨#[]⟩, .string ⟨#[]⟩, .int .i64 0, .slice none 0 0, .slice none 0 0, .slice none 0 0, .slice none 0 0, .slice none 0 0] 51)
  have hzl2 := hz2.lt
  clear hb hz1 hP hB1 hz2 hP2 hB2
  go_upto_region 3 with fail
  generalize w2.alloc (.cells #[.string ⟨#[]⟩, .string ⟨#[]⟩, .int .i64 0, .slice none 0 0, .slice none 0 0, .slice none 0 0, .slice none 0 0, .slice none 0 0] 51) = w3 at hz3 hP3 hB3 hv3 ⊢
  obtain ⟨gv, hgv⟩ : ∃ z : Nat, Hid (z = w2.heap.size) := ⟨_, Lib.hid rfl⟩
  rw [← hgv.out] at hv3 hzl2 ⊢
  obtain ⟨p, hp, hd, hO⟩ := hP3.out
  have c4 := hO.cell 4
  have hgl3 := hO.lt
  simp only [List.getElem?_toArray, List.getElem?_cons_succ, List.getElem?_cons_zero] at c4
  replace hd := Lib.hid hd
  replace hO := Lib.hid hO
  obtain ⟨⟨v0, v1, v2, v3, v4, v5, v6, v7⟩, -⟩ := own8z hv3.out
  have hvl := hv3.out.lt
  go_wp2_with fail
  refine (env_shape w3 (hT.out.below hB3.out) (show SpaceTab w3 from var_below hB3.out hsp.out)).mono ?_
  rintro e w4 ⟨rfl, hb⟩
  have hz4 := hz3.out.below hb hz3.out.lt
  have hv4 := hv3.out.below hb hvl
  have hB4 := Lib.hid (hB3.out.trans (hb.mono hB3.out.size))
  clear hb v0 v1 v2 v3 v4 v5 v6 v7 c4
  obtain ⟨⟨v0, v1, v2, v3, v4, v5, v6, v7⟩, -⟩ := own8z hv4
  obtain ⟨⟨z0, z1, z2, z3, z4, z5, z6, z7⟩, ⟨f0, f1, f2, f3, f4, f5, f6, f7⟩⟩ := own8z hz4
  have hzl4 := hz4.lt
  have hF := Lib.hid (hB4.out.grown (grown8 w4 gz (.string ⟨#[]⟩) (.string ⟨#[]⟩) (.int .i64 0) (.slice none 0 0) (.slice none 0 0) (.slice none 0 0) (.slice none 0 0) (.slice none 0 0)) hB4.out.size (fun k e => by cases e; exact hgzw))
  go_wp2
  refine bodyPost_ret (v := .tuple #[.agg #[.string ⟨#[]⟩, .string ⟨#[]⟩, .int .i64 0, .slice none 0 0, .slice none 0 0, .slice none 0 0, .slice none 0 0, .slice none 0 0], .int .i64 0, .int .i64 0]) (by simp [results, Tryz.results16, go_sem, *]) rfl ?_
  exact ⟨rfl, hF.out⟩

set_option maxRecDepth 100000 in
set_option maxHeartbeats 4000000 in
theorem same_zero (w : World) :
    Calls Tryz.prog 17 #[.agg #[.string ⟨#[]⟩, .string ⟨#[]⟩, .int .i64 0, .slice none 0 0, .slice none 0 0, .slice none 0 0, .slice none 0 0, .slice none 0 0], .agg #[.string ⟨#[]⟩, .string ⟨#[]⟩, .int .i64 0, .slice none 0 0, .slice none 0 0, .slice none 0 0, .slice none 0 0, .slice none 0 0]] w fun e w' => e = .returned (.bool true) ∧ Below w.heap.size w w' := by
  have hal := Lib.hid (show Below w.heap.size w ((w.alloc (.cells #[.string ⟨#[]⟩, .string ⟨#[]⟩, .int .i64 0, .slice none 0 0, .slice none 0 0, .slice none 0 0, .slice none 0 0, .slice none 0 0] 51)).alloc (.cells #[.string ⟨#[]⟩, .string ⟨#[]⟩, .int .i64 0, .slice none 0 0, .slice none 0 0, .slice none 0 0, .slice none 0 0, .slice none 0 0] 51)) from ((Below.refl _ _).alloc (Nat.le_refl _) _).alloc (by simp) _)
  have ha := Lib.hid ((Own.new w #[.string ⟨#[]⟩, .string ⟨#[]⟩, .int .i64 0, .slice none 0 0, .slice none 0 0, .slice none 0 0, .slice none 0 0, .slice none 0 0] 51).alloc (.cells #[.string ⟨#[]⟩, .string ⟨#[]⟩, .int .i64 0, .slice none 0 0, .slice none 0 0, .slice none 0 0, .slice none 0 0, .slice none 0 0] 51))
  have hb := Lib.hid (show Own ((w.alloc (.cells #[.string ⟨#[]⟩, .string ⟨#[]⟩, .int .i64 0, .slice none 0 0, .slice none 0 0, .slice none 0 0, .slice none 0 0, .slice none 0 0] 51)).alloc (.cells #[.string ⟨#[]⟩, .string ⟨#[]⟩, .int .i64 0, .slice none 0 0, .slice none 0 0, .slice none 0 0, .slice none 0 0, .slice none 0 0] 51)) (w.heap.size + 1) #[.string ⟨#[]⟩, .string ⟨#[]⟩, .int .i64 0, .slice none 0 0, .slice none 0 0, .slice none 0 0, .slice none 0 0, .slice none 0 0] 51 from Own.new' (by simp))
  go_enter Tryz.func17, Tryz.ntmps17
  go_upto_region 1 with fail
  generalize (w.alloc (.cells #[.string ⟨#[]⟩, .string ⟨#[]⟩, .int .i64 0, .slice none 0 0, .slice none 0 0, .slice none 0 0, .slice none 0 0, .slice none 0 0] 51)).alloc (.cells #[.string ⟨#[]⟩, .string ⟨#[]⟩, .int .i64 0, .slice none 0 0, .slice none 0 0, .slice none 0 0, .slice none 0 0, .slice none 0 0] 51) = w1 at hal ha hb ⊢
  obtain ⟨⟨q0, q1, q2, q3, q4, q5, q6, q7⟩, -⟩ := own8z ha.out
  obtain ⟨⟨p0, p1, p2, p3, p4, p5, p6, p7⟩, -⟩ := own8z hb.out
  have hl1 := ha.out.lt
  have hl2 := hb.out.lt
  go_wp2_with fail
  refine (sameDeclared_zero _).mono ?_
  rintro e wx ⟨rfl, hw⟩
  replace hw := hw.symm
  subst hw
  go_wp2_with fail
  refine (sameSegments_zero _).mono ?_
  rintro e wx ⟨rfl, hw⟩
  replace hw := hw.symm
  subst hw
  go_wp2_with fail
  refine (sameFlags_zero _).mono ?_
  rintro e wx ⟨rfl, hw⟩
  replace hw := hw.symm
  subst hw
  go_wp2_with fail
  refine (sameLayers_zero _).mono ?_
  rintro e wx ⟨rfl, hw⟩
  replace hw := hw.symm
  subst hw
  go_wp2_with fail
  refine (sameExperiments_zero _).mono ?_
  rintro e wx ⟨rfl, hw⟩
  replace hw := hw.symm
  subst hw
  go_wp2
  go_ret
  exact ⟨rfl, hal.out⟩

/-- The example's condition. -/
def awE : PE := .mk 3 [] [] [] [.mk 4 [] [] [] [.mk 12 sUser sAge [⟨2, 18, [], []⟩] []], .mk 5 [] [115, 116, 97, 102, 102] [] []]
theorem read_aw : readS (⟨#[110, 111, 116, 32, 117, 115, 101, 114, 46, 97, 103, 101, 32, 60, 32, 49, 56, 32, 111, 114, 32, 109, 101, 109, 98, 101, 114, 32, 115, 116, 97, 102, 102]⟩ : ByteArray).data.toList = .ok awE := by kernel_rfl
theorem aw_at {M : Mem} {r : List Value} (h : ExAt M awE r) : ∃ (kd nm : ByteArray) (vs : Value) (blk off kc : Nat), r = [.int .i64 3, .string kd, .string nm, vs, .slice (some ⟨blk, off, none⟩) 2 kc] ∧ M ⟨blk, off, none⟩ = some (.int .i64 4) ∧ M ⟨blk, off + 5, none⟩ = some (.int .i64 5) := by
  obtain ⟨op, kd, nm, vals, va, vn, vc, ka, kn, kc, rows, rfl, hx, -, -, hk, hX⟩ := h.parts
  have hop : op = 3 := by injection hx with h1; exact h1.symm
  have hkl : awE.kids.length = 2 := rfl
  obtain ⟨blk, off, o1, kd1, nm1, va1, vn1, vc1, ka1, kn1, kc1, rfl, c0, -, -, -, -, hE⟩ := kids_get hk hX (k := 0) (by rw [hkl]; decide)
  obtain ⟨blk2, off2, o2, kd2, nm2, va2, vn2, vc2, ka2, kn2, kc2, e2, d0, -, -, -, -, hE2⟩ := kids_get hk hX (k := 1) (by rw [hkl]; decide)
  injection e2 with e2
  injection e2 with e2 e3
  subst e2; subst e3
  have h4 : o1 = 4 := ((ex_kids hE).1).symm
  have h5 : o2 = 5 := ((ex_kids hE2).1).symm
  have hn : kn = 2 := by have := (rows_len hk).1; have h2 := hX.1; rw [hkl] at h2; omega
  subst hop; subst h4; subst h5; subst hn
  exact ⟨kd, nm, _, blk, off, kc, rfl, by simpa using c0, by simpa using d0⟩
set_option maxRecDepth 100000 in
set_option maxHeartbeats 8000000 in
theorem awake_any (w : World) (hT : Tabs w) (hsp : SpaceTab w) : Calls Tryz.prog 5 #[] w fun e w' => e = .returned (.bool true) ∧ Below w.heap.size w w' := by
  go_enter Tryz.func5, Tryz.ntmps5
  go_wp2_with fail
  refine (parse_any ⟨#[110, 111, 116, 32, 117, 115, 101, 114, 46, 97, 103, 101, 32, 60, 32, 49, 56, 32, 111, 114, 32, 109, 101, 109, 98, 101, 114, 32, 115, 116, 97, 102, 102]⟩ w (by decide) hT hsp).mono ?_
  rintro e w1 ⟨hb, hm⟩
  rw [read_aw] at hm
  obtain ⟨r, rfl, hX⟩ := hm
  obtain ⟨kd, nm, vs, blk, off, kc, rfl, c0, c1⟩ := aw_at hX
  obtain ⟨va, vn, vc, rfl⟩ : ∃ va vn vc, vs = .slice va vn vc := by
    obtain ⟨op, kd', nm', vals, va, vn, vc, ka, kn, kc', rows, e, -⟩ := hX.parts
    simp only [List.cons.injEq] at e
    exact ⟨va, vn, vc, e.2.2.2.1⟩
  have hT1 := Lib.hid (hT.below hb)
  have hsp1 := Lib.hid (show SpaceTab w1 from var_below hb hsp)
  have hx := Lib.hid (Own.new w1 #[.int .i64 3, .string kd, .string nm, .slice va vn vc, .slice (some ⟨blk, off, none⟩) 2 kc] 31)
  have hb2 := (Below.refl w1.heap.size w1).alloc (Nat.le_refl _) (.cells #[.int .i64 3, .string kd, .string nm, .slice va vn vc, .slice (some ⟨blk, off, none⟩) 2 kc] 31)
  have hB2 := Lib.hid (hb.trans (hb2.mono hb.size))
  have d0 := Lib.hid (sub_of_below hb2 _ _ c0)
  have d1 := Lib.hid (sub_of_below hb2 _ _ c1)
  have hT2 := Lib.hid (hT1.out.below hb2)
  have hsp2 := Lib.hid (show SpaceTab _ from var_below hb2 hsp1.out)
  clear hX c0 c1 hb hb2 hT hsp
  go_upto_region 2 with fail
  generalize w1.alloc (.cells #[.int .i64 3, .string kd, .string nm, .slice va vn vc, .slice (some ⟨blk, off, none⟩) 2 kc] 31) = w2 at hx hB2 d0 d1 hT2 hsp2 ⊢
  obtain ⟨gx, hgx⟩ : ∃ z : Nat, Hid (z = w1.heap.size) := ⟨_, Lib.hid rfl⟩
  rw [← hgx.out] at hx ⊢
  go_wp2_with fail
  refine (parse_zero w2 hT2.out hsp2.out).mono ?_
  rintro e w3 ⟨rfl, hb⟩
  have hx3 := hx.out.below hb hx.out.lt
  have hB3 := hB2.out.trans (hb.mono hB2.out.size)
  have e0' := sub_of_below hb _ _ d0.out
  have e1' := sub_of_below hb _ _ d1.out
  have hb4 := (Below.refl w3.heap.size w3).alloc (Nat.le_refl _) (.cells #[.string ⟨#[]⟩, .string ⟨#[]⟩, .int .i64 0, .slice none 0 0, .slice none 0 0, .slice none 0 0, .slice none 0 0, .slice none 0 0] 51)
  have hx4 := Lib.hid (hx3.alloc (.cells #[.string ⟨#[]⟩, .string ⟨#[]⟩, .int .i64 0, .slice none 0 0, .slice none 0 0, .slice none 0 0, .slice none 0 0, .slice none 0 0] 51))
  have hv4 := Lib.hid (Own.new w3 #[.string ⟨#[]⟩, .string ⟨#[]⟩, .int .i64 0, .slice none 0 0, .slice none 0 0, .slice none 0 0, .slice none 0 0, .slice none 0 0] 51)
  have hB4 := Lib.hid (hB3.trans (hb4.mono hB3.size))
  have k0 := Lib.hid (sub_of_below hb4 _ _ e0')
  have k1 := Lib.hid (sub_of_below hb4 _ _ e1')
  clear hb hb4 hx3 hB3 e0' e1'
  go_upto_region 3 with fail
  generalize w3.alloc (.cells #[.string ⟨#[]⟩, .string ⟨#[]⟩, .int .i64 0, .slice none 0 0, .slice none 0 0, .slice none 0 0, .slice none 0 0, .slice none 0 0] 51) = w4 at hx4 hv4 hB4 k0 k1 ⊢
  obtain ⟨x0, x1, x2, x3, x4, -⟩ := own5z hx4.out
  obtain ⟨⟨v0, v1, v2, v3, v4, v5, v6, v7⟩, -⟩ := own8z hv4.out
  have c0 := k0.out
  have c1 := k1.out
  have hbl : blk < w4.heap.size := World.block_lt_of_cell? w4 _ c0
  have hxl := hx4.out.lt
  have hvl := hv4.out.lt
  go_wp2_with fail
  refine (same_zero _).mono ?_
  rintro e w5 ⟨rfl, hb⟩
  have hF := Lib.hid (hB4.out.trans (hb.mono hB4.out.size))
  clear hb
  go_wp2
  go_ret
  exact ⟨rfl, hF.out⟩

end Go.Proofs.YtfffpflflggonaaGreatDoor.src

namespace Go.Proofs.YtfffpflflggonaaGreatDoor.src
open Go.RowKit Go.Proofs.YtfffpflflggonaaGreatDoor Go.Proofs.YtfffpflflggonaaGreatDoor.lex Go.Proofs.YtfffpflflggonaaGreatDoor.value Go.Proofs.YtfffpflflggonaaGreatDoor.text Go.Proofs.YtfffpflflggonaaGreatDoor.schema Go.Proofs.YtfffpflflggonaaGreatDoor.draw

/-- What place, error and line say of the state. -/
def RSt (T : List Tok) (p : Nat) (q L : Int) : PS → Prop
  | .ok ts => q = 0 ∧ L = 0 ∧ ts = T.drop p
  | .error e => e = (q, L) ∧ q ≠ 0
/-- The reference's parser in block g, o open. -/
def RfP (T : List Tok) (tb to' tc g : Nat) (w : World) (o : Nat) (s : PS) : Prop := ∃ (p : Nat) (q L : Int), p < T.length ∧ Own w g #[.slice (some ⟨tb, to', none⟩) T.length tc, .int .i64 p, .int .i64 o, .int .i64 q, .int .i64 L, .string ⟨#[]⟩, .string ⟨#[]⟩, .int .i64 0, .slice none 0 0, .slice none 0 0, .slice none 0 0, .slice none 0 0, .slice none 0 0, .bool false] 71 ∧ RSt T p q L s
section
variable {T : List Tok} {tb to' tc g o : Nat} {w u : World} {s : PS}
theorem RfP.of {p : Nat} {q L : Int} (h1 : p < T.length) (h2 : Own w g #[.slice (some ⟨tb, to', none⟩) T.length tc, .int .i64 p, .int .i64 o, .int .i64 q, .int .i64 L, .string ⟨#[]⟩, .string ⟨#[]⟩, .int .i64 0, .slice none 0 0, .slice none 0 0, .slice none 0 0, .slice none 0 0, .slice none 0 0, .bool false] 71) (h3 : RSt T p q L s) : RfP T tb to' tc g w o s := ⟨p, q, L, h1, h2, h3⟩
theorem RfP.lt (h : RfP T tb to' tc g w o s) : g < w.heap.size := by obtain ⟨p, q, L, -, h1, -⟩ := h; exact h1.lt
theorem RfP.kept {r : Option Nat} (h : RfP T tb to' tc g w o s) (hg : w.grownBy u r) (hr : r ≠ some g) : RfP T tb to' tc g u o s := by
  obtain ⟨p, q, L, h1, h2, h3⟩ := h
  exact ⟨p, q, L, h1, h2.kept hg hr, h3⟩
theorem RfP.below (h : RfP T tb to' tc g w o s) (hb : Below w.heap.size w u) : RfP T tb to' tc g u o s := h.kept (grown_of_below hb none) (by simp)
theorem RfP.ne {ts : List Tok} (h : RfP T tb to' tc g w o (.ok ts)) : ts ≠ [] := by
  obtain ⟨p, q, L, h1, -, -, -, rfl⟩ := h
  intro e
  have := congrArg List.length e
  rw [List.length_drop, List.length_nil] at this
  omega
theorem RfP.set (h : RfP T tb to' tc g w o s) {q i : Nat} (hq : g ≠ q) (v : Value) : RfP T tb to' tc g (w.setCell ⟨q, i, none⟩ v) o s := h.kept (grown_setCell w q i v) (fun e => hq (Option.some.inj e).symm)
theorem RfP.back {o2 : Nat} (h : RfP T tb to' tc g w o s) : RfP T tb to' tc g (w.setCell ⟨g, 2, none⟩ (.int .i64 o2)) o2 s := by
  obtain ⟨p, q, L, h1, h2, h3⟩ := h
  exact ⟨p, q, L, h1, (by have := h2.set 2 (.int .i64 o2); simpa using this), h3⟩
theorem RfP.alloc (h : RfP T tb to' tc g w o s) (x : Obj) : RfP T tb to' tc g (w.alloc x) o s := h.kept (World.grownBy_alloc w x none) (by simp)
end
/-- How many tokens are left, by what the parser's block holds. -/
def leftR (n g : Nat) (w : World) : Nat :=
  if intOf ((w.cell? ⟨g, 3, none⟩).getD (.int .i64 1)) = 0 then n - (intOf ((w.cell? ⟨g, 1, none⟩).getD (.int .i64 0))).toNat else 0
theorem RfP.left {T : List Tok} {tb to' tc g o : Nat} {w : World} {s : PS} (h : RfP T tb to' tc g w o s) : leftR T.length g w = lenP s := by
  obtain ⟨p, q, L, h1, h2, h3⟩ := h
  have c1 := h2.cell 1
  have c3 := h2.cell 3
  simp only [List.getElem?_toArray, List.getElem?_cons_succ, List.getElem?_cons_zero] at c1 c3
  unfold leftR
  rw [c3, c1]
  cases s with
  | ok ts =>
    obtain ⟨rfl, rfl, rfl⟩ := h3
    simp [intOf, lenP]
  | error e =>
    obtain ⟨rfl, hq⟩ := h3
    simp [intOf, lenP, hq]
/-- The head of what is left is this token. -/
def HdT (s : PS) (t : Tok) : Prop := ∀ ts, s = .ok ts → ∃ r, ts = t :: r
theorem RSt.hd {T : List Tok} {p : Nat} {q L : Int} {s : PS} (h : RSt T p q L s) (hp : p < T.length) : HdT s T[p] := fun ts e => by
  subst e
  obtain ⟨-, -, h3⟩ := h
  exact ⟨T.drop (p + 1), by rw [h3]; exact drop_at hp⟩
/-- The parser while a call's own boxes, from block B on, are filled. -/
structure RdF (g B : Nat) (St : World → PS → Prop) (w u : World) (s : PS) : Prop where
  grown : w.grownBy u (some g)
  st : St u s
  gB : g < B
  wB : w.heap.size ≤ B
theorem RdF.mk' {g B : Nat} {St : World → PS → Prop} {w u : World} {s : PS} (h1 : w.grownBy u (some g)) (h2 : St u s) (h3 : g < w.heap.size) (h4 : w.heap.size ≤ B) : RdF g B St w u s := ⟨h1, h2, Nat.lt_of_lt_of_le h3 h4, h4⟩
theorem RdF.set {T : List Tok} {tb to' tc g o B : Nat} {w u : World} {s : PS} (h : RdF g B (fun w s => RfP T tb to' tc g w o s) w u s) {q i : Nat} (hq : B ≤ q) (v : Value) : RdF g B (fun w s => RfP T tb to' tc g w o s) w (u.setCell ⟨q, i, none⟩ v) s :=
  have h1 := h.gB
  have h2 := h.wB
  ⟨g_setCell h.grown (by simp; omega) v, h.st.set (by omega) v, h1, h2⟩
theorem RdF.alloc {T : List Tok} {tb to' tc g o B : Nat} {w u : World} {s : PS} (h : RdF g B (fun w s => RfP T tb to' tc g w o s) w u s) (x : Obj) : RdF g B (fun w s => RfP T tb to' tc g w o s) w (u.alloc x) s :=
  ⟨g_call h.grown (World.grownBy_alloc u x (some g)), h.st.alloc x, h.gB, h.wB⟩
theorem RdF.back {T : List Tok} {tb to' tc g o o2 B : Nat} {w u : World} {s : PS} (h : RdF g B (fun w s => RfP T tb to' tc g w o s) w u s) : RdF g B (fun w s => RfP T tb to' tc g w o2 s) w (u.setCell ⟨g, 2, none⟩ (.int .i64 o2)) s :=
  ⟨g_call h.grown (grown_setCell u g 2 _), h.st.back, h.gB, h.wB⟩
theorem RdF.set4 {T : List Tok} {tb to' tc g o B : Nat} {w u : World} {s : PS} (h : RdF g B (fun w s => RfP T tb to' tc g w o s) w u s) {q : Nat} (hq : B ≤ q) (a b c d : Value) : RdF g B (fun w s => RfP T tb to' tc g w o s) w ((((u.setCell ⟨q, 0, none⟩ a).setCell ⟨q, 1, none⟩ b).setCell ⟨q, 2, none⟩ c).setCell ⟨q, 3, none⟩ d) s := (((h.set hq a).set hq b).set hq c).set hq d
theorem RdF.set5 {T : List Tok} {tb to' tc g o B : Nat} {w u : World} {s : PS} (h : RdF g B (fun w s => RfP T tb to' tc g w o s) w u s) {q : Nat} (hq : B ≤ q) (a b c d e : Value) : RdF g B (fun w s => RfP T tb to' tc g w o s) w (((((u.setCell ⟨q, 0, none⟩ a).setCell ⟨q, 1, none⟩ b).setCell ⟨q, 2, none⟩ c).setCell ⟨q, 3, none⟩ d).setCell ⟨q, 4, none⟩ e) s := (h.set4 hq a b c d).set hq e
/-- A word of the language is asked for by its kind, a sign by its own. -/
def KdOf (k : Int) (x : List UInt8) : Prop := (k = 1 ∧ wordL x) ∨ (k = 5 ∧ signL x)
theorem isT_kd {k : Int} {x : List UInt8} (h : KdOf k x) {t : Tok} (ht : TokOk t ∨ t.k = 6) : isT x t = isK k x t := by
  rcases h with ⟨rfl, h⟩ | ⟨rfl, h⟩
  · exact isT_word h ht
  · exact isT_sign h ht
theorem tok_ok {M : Mem} {T : List Tok} {tb to' tc : Nat} (hK : TokM M T tb to' tc) {p : Nat} (hp : p < T.length) : TokOk T[p] ∨ T[p].k = 6 := (hK.ok p hp).imp (fun h => h.2) (fun h => h.2)

end Go.Proofs.YtfffpflflggonaaGreatDoor.src

namespace Go.Proofs.YtfffpflflggonaaGreatDoor.src
open Go.RowKit Go.Proofs.YtfffpflflggonaaGreatDoor Go.Proofs.YtfffpflflggonaaGreatDoor.lex Go.Proofs.YtfffpflflggonaaGreatDoor.value Go.Proofs.YtfffpflflggonaaGreatDoor.text Go.Proofs.YtfffpflflggonaaGreatDoor.schema Go.Proofs.YtfffpflflggonaaGreatDoor.draw

/-- Is the next token of this kind with this text. -/
def isQ (k : Int) (x : List UInt8) : PS → Bool
  | .ok (t :: _) => isK k x t
  | _ => false
def pastQ (k : Int) (x : List UInt8) : PS → PS
  | .error e => .error e
  | .ok ts => if isQ k x (.ok ts) then .ok ts.tail else .ok ts
theorem pastQ_no {k : Int} {x : List UInt8} {s : PS} (h : isQ k x s = false) : pastQ k x s = s := by
  cases s with
  | error e => rfl
  | ok ts => unfold pastQ; simp only; rw [h]; rfl
theorem pastQ_yes {k : Int} {x : List UInt8} {t : Tok} {r : List Tok} (h : isQ k x (.ok (t :: r)) = true) : pastQ k x (.ok (t :: r)) = .ok r := by
  unfold pastQ; simp only; rw [h]; rfl

section
variable {M : Mem} {T : List Tok} {tb to' tc : Nat}

set_option maxRecDepth 100000 in
set_option maxHeartbeats 4000000 in
theorem rpeek_at (hK : TokM M T tb to' tc) (g o : Nat) (w : World) (hM : Sub M (but g w)) {p : Nat} {q L : Int} (hp : p < T.length) (hO : Own w g #[.slice (some ⟨tb, to', none⟩) T.length tc, .int .i64 p, .int .i64 o, .int .i64 q, .int .i64 L, .string ⟨#[]⟩, .string ⟨#[]⟩, .int .i64 0, .slice none 0 0, .slice none 0 0, .slice none 0 0, .slice none 0 0, .slice none 0 0, .bool false] 71) :
    Calls Tryz.prog 51 #[.pointer (some ⟨g, 0, none⟩)] w fun e w' => e = .returned (.agg (T[p].row).toArray) ∧ Below w.heap.size w w' := by
  have c0 := hO.cell 0
  have c1 := hO.cell 1
  have hl := hO.lt
  simp only [List.getElem?_toArray, List.getElem?_cons_succ, List.getElem?_cons_zero] at c0 c1
  obtain ⟨k0, k1, k2, k3⟩ := tok_at hK hp
  replace k0 := but_sub _ _ _ _ (hM _ _ k0)
  replace k1 := but_sub _ _ _ _ (hM _ _ k1)
  replace k2 := but_sub _ _ _ _ (hM _ _ k2)
  replace k3 := but_sub _ _ _ _ (hM _ _ k3)
  have htl : tb < w.heap.size := World.block_lt_of_cell? w _ k0
  have n0 : (0 : Int) ≤ (p : Int) := by omega
  have n1 : (p : Int) < (T.length : Int) := by omega
  generalize T[p] = t at k0 k1 k2 k3 ⊢
  clear hO
  go_enter Tryz.func51, Tryz.ntmps51
  go_wp2_with fail
  go_region
  all_goals
    go_wp2
    refine bodyPost_ret (v := .agg #[.int .i64 t.k, .string ⟨t.t.toArray⟩, .int .i64 t.n, .int .i64 t.line]) (by simp [results, Tryz.results51, go_sem]) rfl ?_
    exact ⟨rfl, Below.grown ((Below.refl w.heap.size w).alloc (Nat.le_refl _) _) (grown_drew _ none) (by simp) (fun k e => by cases e)⟩

set_option maxRecDepth 100000 in
set_option maxHeartbeats 4000000 in
theorem ris_at (hK : TokM M T tb to' tc) (g o : Nat) (w : World) (s : PS) (hM : Sub M (but g w)) (h : RfP T tb to' tc g w o s) (k : Int) (x : ByteArray) :
    Calls Tryz.prog 118 #[.pointer (some ⟨g, 0, none⟩), .int .i64 k, .string x] w fun e w' => e = .returned (.bool (isQ k x.data.toList s)) ∧ Below w.heap.size w w' := by
  obtain ⟨p, q, L, hp, hO, hs⟩ := h
  go_enter Tryz.func118, Tryz.ntmps118
  go_wp2_with fail
  refine (rpeek_at hK g o _ hM hp hO).mono ?_
  rintro e w1 ⟨rfl, hb⟩
  rw [row_arr]
  have hE : q = 0 → isQ k x.data.toList s = isK k x.data.toList T[p] := fun hq => by
    cases s with
    | error e => obtain ⟨rfl, h2⟩ := hs; exact absurd hq h2
    | ok ts =>
      obtain ⟨-, -, rfl⟩ := hs
      rw [drop_at hp]
      rfl
  have hE2 : q ≠ 0 → isQ k x.data.toList s = false := fun hq => by
    cases s with
    | error e => rfl
    | ok ts => exact absurd hs.1 hq
  obtain ⟨t, ht⟩ : ∃ t, Hid (t = T[p]) := ⟨_, Lib.hid rfl⟩
  rw [← ht.out] at hE ⊢
  have hb2 := Lib.hid (hb.alloc hb.size (.cells #[.int .i64 t.k, .string ⟨t.t.toArray⟩, .int .i64 t.n, .int .i64 t.line] 61))
  have hO1 := hO.below hb hO.lt
  have c3 := hO1.cell 3
  have hl := hO1.lt
  simp only [List.getElem?_toArray, List.getElem?_cons_succ, List.getElem?_cons_zero] at c3
  have hE3 : isK k x.data.toList t = ((t.k == k) && ((⟨t.t.toArray⟩ : ByteArray).toList == x.toList)) := by
    unfold isK
    rw [ByteArray.toList_eq, ByteArray.toList_eq]
  generalize hr : isQ k x.data.toList s = r0 at hE hE2 ⊢
  clear hb hM hO hO1 hs
  replace hr := Lib.hid hr
  replace hE := Lib.hid hE
  replace hE2 := Lib.hid hE2
  replace hE3 := Lib.hid hE3
  generalize (⟨t.t.toArray⟩ : ByteArray) = sb at hb2 hE3 ⊢
  by_cases hq : q = 0
  case neg =>
    have hqb : (q == 0) = false := by simpa using hq
    have hQ := Lib.hid (hE2.out hq).symm
    clear hq
    go_wp2
    go_ret
    exact ⟨text.ret_bool (hQ.out.trans hr.out.symm), hb2.out⟩
  subst hq
  have hQ := Lib.hid (show r0 = ((t.k == k) && (sb.toList == x.toList)) by rw [hE.out rfl, hE3.out])
  generalize t.k = tk at hb2 hQ ⊢
  cases h1 : (tk == k) with
  | true =>
    cases hx : (sb.toList == x.toList) with
    | true =>
      have hR := Lib.hid (show true = r0 by rw [hQ.out, h1, hx]; rfl)
      go_wp2
      go_ret
      exact ⟨text.ret_bool (hR.out.trans hr.out.symm), hb2.out⟩
    | false =>
      have hR := Lib.hid (show false = r0 by rw [hQ.out, h1, hx]; rfl)
      go_wp2
      go_ret
      exact ⟨text.ret_bool (hR.out.trans hr.out.symm), hb2.out⟩
  | false =>
    have hR := Lib.hid (show false = r0 by rw [hQ.out, h1]; rfl)
    go_wp2
    go_ret
    exact ⟨text.ret_bool (hR.out.trans hr.out.symm), hb2.out⟩

theorem isK_lt (hK : TokM M T tb to' tc) {p : Nat} (hp : p < T.length) {k : Int} {x : List UInt8} (h : isQ k x (.ok (T[p] :: T.drop (p + 1))) = true) (h6 : k ≠ 6) : p + 1 < T.length := by
  rcases hK.ok _ hp with h1 | h1
  · exact h1.1
  · exfalso
    have h2 : isK k x T[p] = true := h
    unfold isK at h2
    rw [h1.2] at h2
    simp at h2
    exact h6 h2.1.symm

set_option maxRecDepth 100000 in
set_option maxHeartbeats 4000000 in
theorem rtake_at (hK : TokM M T tb to' tc) (g o : Nat) (w : World) (s : PS) (hM : Sub M (but g w)) (h : RfP T tb to' tc g w o s) (k : Int) (h6 : k ≠ 6) (x : ByteArray) :
    Calls Tryz.prog 49 #[.pointer (some ⟨g, 0, none⟩), .int .i64 k, .string x] w fun e w' => e = .returned (.bool (isQ k x.data.toList s)) ∧ w.grownBy w' (some g) ∧ RfP T tb to' tc g w' o (pastQ k x.data.toList s) := by
  go_enter Tryz.func49, Tryz.ntmps49
  go_wp2_with fail
  refine (ris_at hK g o _ s hM h k x).mono ?_
  rintro e w1 ⟨rfl, hb⟩
  have hg1 := Lib.hid (grown_of_below hb (some g))
  have h1 := h.below hb
  clear hb hM
  cases hx : isQ k x.data.toList s with
  | false =>
    have h2 := Lib.hid (show RfP T tb to' tc g w1 o (pastQ k x.data.toList s) by rw [pastQ_no hx]; exact h1)
    have hxh := Lib.hid hx.symm
    clear h h1 hx
    go_wp2
    go_ret
    exact ⟨text.ret_bool hxh.out, hg1.out, h2.out⟩
  | true =>
    cases s with
    | error e => cases hx
    | ok ts =>
      obtain ⟨p, q, L, hp, hO, rfl, rfl, rfl⟩ := h1
      have hxh := Lib.hid hx.symm
      rw [drop_at hp] at hx
      have hp1 := isK_lt hK hp hx h6
      have hQ := Lib.hid (show RfP T tb to' tc g (w1.setCell ⟨g, 1, none⟩ (.int .i64 ((p : Int) + 1))) o (pastQ k x.data.toList (.ok (T.drop p))) from by
        rw [drop_at hp, pastQ_yes hx]
        exact ⟨p + 1, 0, 0, hp1, (by have := hO.set 1 (.int .i64 ((p : Int) + 1)); simpa using this), rfl, rfl, rfl⟩)
      have hg2 := Lib.hid (g_call hg1.out (grown_setCell w1 g 1 (.int .i64 ((p : Int) + 1))))
      have c1 := hO.cell 1
      have f1 := hO.free 1
      have hl := hO.lt
      have hw : IntKind.i64.wrap ((p : Int) + 1) = (p : Int) + 1 := by have := hK.few; rw [IntKind.wrap_i64]; omega
      simp only [List.getElem?_toArray, List.getElem?_cons_succ, List.getElem?_cons_zero] at c1
      clear h hx hO
      go_wp2
      go_ret
      exact ⟨text.ret_bool hxh.out, hg2.out, hQ.out⟩

set_option maxRecDepth 100000 in
set_option maxHeartbeats 4000000 in
theorem rfail_any (g o : Nat) (w : World) (s : PS) (h : RfP T tb to' tc g w o s) (t : Tok) (q : Int) (hq : q ≠ 0) :
    Calls Tryz.prog 52 #[.pointer (some ⟨g, 0, none⟩), .int .i64 q, .agg t.row.toArray] w fun e w' => e = .returned (.tuple #[]) ∧ w.grownBy w' (some g) ∧ RfP T tb to' tc g w' o (failP s t q) := by
  have hB := Lib.hid (World.grownBy_alloc w (.cells #[.int .i64 t.k, .string ⟨t.t.toArray⟩, .int .i64 t.n, .int .i64 t.line] 61) (some g))
  have h1 := h.alloc (.cells #[.int .i64 t.k, .string ⟨t.t.toArray⟩, .int .i64 t.n, .int .i64 t.line] 61)
  have hl := h.lt
  rw [row_arr]
  obtain ⟨p, q0, L, hp, hO, hs⟩ := h
  have c3 := hO.cell 3
  have c4 := hO.cell 4
  have f3 := hO.free 3
  have f4 := hO.free 4
  simp only [List.getElem?_toArray, List.getElem?_cons_succ, List.getElem?_cons_zero] at c3 c4
  cases s with
  | error e =>
    obtain ⟨rfl, hne⟩ := hs
    have hz : (q0 == 0) = false := by simpa using hne
    replace h1 := Lib.hid h1
    clear hO hne
    go_enter Tryz.func52, Tryz.ntmps52
    go_wp2
    first | go_end0 | refine bodyPost_ret (results_none rfl _ _ _) rfl ?_
    exact ⟨rfl, hB.out, h1.out⟩
  | ok ts =>
    obtain ⟨rfl, rfl, rfl⟩ := hs
    have hQ0 : RfP T tb to' tc g ((w.setCell ⟨g, 3, none⟩ (.int .i64 q)).setCell ⟨g, 4, none⟩ (.int .i64 t.line)) o (.error (q, t.line)) :=
      ⟨p, q, t.line, hp, (by have := (hO.set 3 (.int .i64 q)).set 4 (.int .i64 t.line); simpa using this), rfl, hq⟩
    have hQ := Lib.hid (hQ0.alloc (.cells #[.int .i64 t.k, .string ⟨t.t.toArray⟩, .int .i64 t.n, .int .i64 t.line] 61))
    have hG := Lib.hid (g_call (g_call (grown_setCell w g 3 (.int .i64 q)) (grown_setCell _ g 4 (.int .i64 t.line))) (World.grownBy_alloc _ (.cells #[.int .i64 t.k, .string ⟨t.t.toArray⟩, .int .i64 t.n, .int .i64 t.line] 61) (some g)))
    clear hQ0 h1
    clear hO hB
    go_enter Tryz.func52, Tryz.ntmps52
    go_wp2_with fail
    go_region
    all_goals
      go_wp2
      first | go_end0 | refine bodyPost_ret (results_none rfl _ _ _) rfl ?_
      exact ⟨rfl, g_call hG.out (grown_drew _ _), hQ.out.kept (grown_drew _ none) (by simp)⟩

theorem isQ_kd (hK : TokM M T tb to' tc) {g o : Nat} {w : World} {s : PS} (h : RfP T tb to' tc g w o s) {k : Int} {x : List UInt8} (hk : KdOf k x) : isQ k x s = isP x s ∧ pastQ k x s = pastP x s := by
  obtain ⟨p, q, L, hp, hO, hs⟩ := h
  cases s with
  | error e => exact ⟨rfl, rfl⟩
  | ok ts =>
    obtain ⟨-, -, rfl⟩ := hs
    have e : isQ k x (.ok (T.drop p)) = isP x (.ok (T.drop p)) := by
      rw [drop_at hp]
      exact (isT_kd hk (tok_ok hK hp)).symm
    refine ⟨e, ?_⟩
    unfold pastQ pastP
    simp only
    rw [e]
    rfl
theorem isQ_no (hK : TokM M T tb to' tc) {g o : Nat} {w : World} {s : PS} (h : RfP T tb to' tc g w o s) {x : List UInt8} (hk : signL x) : isQ 1 x s = false := by
  obtain ⟨p, q, L, hp, hO, hs⟩ := h
  cases s with
  | error e => rfl
  | ok ts =>
    obtain ⟨-, -, rfl⟩ := hs
    rw [drop_at hp]
    show isK 1 x T[p] = false
    obtain ⟨c, r, rfl, hc⟩ := hk
    unfold isK
    cases h1 : (T[p].k == 1) with
    | false => rfl
    | true =>
      have h1' : T[p].k = 1 := by simpa using h1
      rcases tok_ok hK hp with h2 | h2
      · obtain ⟨d, q', hd, hq⟩ := h2.word h1'
        rw [hd, Bool.true_and]
        refine beq_eq_false_iff_ne.2 fun e => ?_
        injection e with e1 e2
        rw [e1, hc] at hq
        cases hq
      · omega
theorem kd6 {k : Int} {x : List UInt8} (hk : KdOf k x) : k ≠ 6 := by rcases hk with ⟨rfl, -⟩ | ⟨rfl, -⟩ <;> decide
theorem is_ref (hK : TokM M T tb to' tc) (g o : Nat) (w : World) (s : PS) (hM : Sub M (but g w)) (h : RfP T tb to' tc g w o s) (k : Int) (x : ByteArray) (hk : KdOf k x.data.toList) :
    Calls Tryz.prog 118 #[.pointer (some ⟨g, 0, none⟩), .int .i64 k, .string x] w fun e w' => e = .returned (.bool (isP x.data.toList s)) ∧ Below w.heap.size w w' := by
  rw [← (isQ_kd hK h hk).1]
  exact ris_at hK g o w s hM h k x
theorem rtake_any (hK : TokM M T tb to' tc) (g o : Nat) (w : World) (s : PS) (hM : Sub M (but g w)) (h : RfP T tb to' tc g w o s) (k : Int) (x : ByteArray) (hk : KdOf k x.data.toList) :
    Calls Tryz.prog 49 #[.pointer (some ⟨g, 0, none⟩), .int .i64 k, .string x] w fun e w' => e = .returned (.bool (isP x.data.toList s)) ∧ w.grownBy w' (some g) ∧ RfP T tb to' tc g w' o (pastP x.data.toList s) := by
  rw [← (isQ_kd hK h hk).1, ← (isQ_kd hK h hk).2]
  exact rtake_at hK g o w s hM h k (kd6 hk) x
theorem rtake_no (hK : TokM M T tb to' tc) (g o : Nat) (w : World) (s : PS) (hM : Sub M (but g w)) (h : RfP T tb to' tc g w o s) (x : ByteArray) (hk : signL x.data.toList) :
    Calls Tryz.prog 49 #[.pointer (some ⟨g, 0, none⟩), .int .i64 1, .string x] w fun e w' => e = .returned (.bool false) ∧ w.grownBy w' (some g) ∧ RfP T tb to' tc g w' o s := by
  have h1 := isQ_no hK h hk
  have h2 := rtake_at hK g o w s hM h 1 (by decide) x
  rw [h1, pastQ_no h1] at h2
  exact h2

/-- The token at the head, or one that is not asked. -/
theorem rpeek_any (hK : TokM M T tb to' tc) (g o : Nat) (w : World) (s : PS) (hM : Sub M (but g w)) (h : RfP T tb to' tc g w o s) :
    Calls Tryz.prog 51 #[.pointer (some ⟨g, 0, none⟩)] w fun e w' => (∃ t : Tok, e = .returned (.agg #[.int .i64 t.k, .string ⟨t.t.toArray⟩, .int .i64 t.n, .int .i64 t.line]) ∧ HdT s t ∧ (TokOk t ∨ t.k = 6)) ∧ Below w.heap.size w w' := by
  obtain ⟨p, q, L, hp, hO, hs⟩ := h
  refine (rpeek_at hK g o w hM hp hO).mono ?_
  rintro e w1 ⟨rfl, hb⟩
  exact ⟨⟨T[p], rfl, hs.hd hp, tok_ok hK hp⟩, hb⟩

end
end Go.Proofs.YtfffpflflggonaaGreatDoor.src
