/- Lookup of the program and of the reference, with where the value lies. -/
import Derived.Test.YtamkmdlfhlbbeaaGreatDoorKClR
namespace Go.Proofs.YtamkmdlfhlbbeaaGreatDoor.subj
open Go.RowKit Go.Proofs.YtamkmdlfhlbbeaaGreatDoor Go.Proofs.YtamkmdlfhlbbeaaGreatDoor.schema Go.Proofs.YtamkmdlfhlbbeaaGreatDoor.value Go.Proofs.YtamkmdlfhlbbeaaGreatDoor.text Go.Proofs.YtamkmdlfhlbbeaaGreatDoor.clause Go.Proofs.YtamkmdlfhlbbeaaGreatDoor.draw

def LookN (o : Option VD) (M : Mem) (e : Ending) : Prop :=
  match o with
  | none => e = .returned (.tuple #[.agg #[.int .i64 0, .int .i64 0, .string ⟨#[]⟩, .slice none 0 0], .bool false])
  | some v => ∃ d : VD, e = .returned (.tuple #[.agg d.row.toArray, .bool true]) ∧ SameV d v ∧ LAt M d
def LookF (o : Option VD) (e : Ending) : Prop :=
  match o with
  | none => e = .returned (.tuple #[.agg #[.int .i64 0, .int .i64 0, .string ⟨#[]⟩, .slice none 0 0], .bool false])
  | some d => e = .returned (.tuple #[.agg d.row.toArray, .bool true])

set_option maxRecDepth 100000 in
set_option maxHeartbeats 2000000 in
/-- The program's Lookup. -/
theorem lookN_any (l : List CT) (a : Option Addr) (n c : Nat) (kind name : ByteArray) (w : World) (h : SAt w.cell? (.slice a n c) l) :
    Calls Tryz.prog 24 #[.agg #[.slice a n c], .string kind, .string name] w fun e w' => LookN (lookS l kind.toList name.toList) (newM w.heap.size 0 w') e ∧ Below w.heap.size w w' := by
  have hB : Below w.heap.size w ((w.alloc (.cells #[.slice a n c] 24)).alloc (.cells zeroW 51)) := ((Below.refl _ _).alloc (Nat.le_refl _) _).alloc (by simp) _
  have hX := Lib.hid ((Own.new w #[.slice a n c] 24).alloc (.cells zeroW 51))
  have hZ := Own.new (w.alloc (.cells #[.slice a n c] 24)) zeroW 51
  rw [World.size_alloc] at hZ
  replace hZ := Lib.hid hZ
  have hS := Lib.hid (h.mono (sub_of_below hB))
  replace hB := Lib.hid hB
  clear h
  go_enter Tryz.func24, Tryz.ntmps24
  go_wp2_with fail
  refine (index_any kind a n c l _ hS.out.rows).mono ?_
  rintro e w1 ⟨⟨q, rfl, hq⟩, hb⟩
  have hX1 := Lib.hid (hX.out.below hb (by simp; omega))
  have hZ1 := Lib.hid (hZ.out.below hb (by simp))
  have hS1 := Lib.hid (hS.out.mono (sub_of_below hb))
  have hB1 := Lib.hid (hB.out.trans (hb.mono hB.out.size))
  clear hX hZ hS hB hb
  obtain ⟨z0, z1, z2, z3, g0, g1, g2, g3⟩ := own4z hZ1.out
  have hzl : w.heap.size + 1 < w1.heap.size := hZ1.out.lt
  have hxl : w.heap.size < w1.heap.size := by omega
  have x0 := hX1.out.cell 0
  rcases hq with ⟨k, hk, rfl, hf⟩ | ⟨rfl, hf⟩
  case inr =>
    replace hf := Lib.hid hf
    go_wp2
    refine bodyPost_ret (v := .tuple #[.agg #[.int .i64 0, .int .i64 0, .string ⟨#[]⟩, .slice none 0 0], .bool false]) (by simp [results, Tryz.results24, go_sem, z0, z1, z2, z3]) rfl ?_
    refine ⟨?_, (((hB1.out.setCell (by simp <;> omega) _).setCell (by simp <;> omega) _).setCell (by simp <;> omega) _).setCell (by simp <;> omega) _⟩
    rw [look_none hf.out]
    rfl
  obtain ⟨blk, off, rfl, rfl, hn, c0, c1, c2⟩ := ct_at hS1.out.rows hk
  have hCt := Lib.hid (hS1.out.each l[k] (List.getElem_mem hk))
  generalize l[k] = ct at c0 c1 c2 hCt hf
  obtain ⟨ckd, cky, cp, cl, cc, attrs⟩ := ct
  simp only at c0 c1 c2
  replace hf := Lib.hid hf
  have n0 : (0 : Int) ≤ (k : Int) := by omega
  have n1 : (k : Int) < (l.length : Int) := by omega
  cases hn : (name.toList == [107, 101, 121]) with
  | true =>
    have hn1 := Lib.hid hn
    go_wp2
    refine bodyPost_ret (v := .tuple #[.agg #[.int .i64 3, .int .i64 0, .string cky, .slice none 0 0], .bool true]) (by simp [results, Tryz.results24, go_sem, z0, z1, z2, z3, hzl]) rfl ?_
    refine ⟨?_, ((((hB1.out.setCell (by simp <;> omega) _).setCell (by simp <;> omega) _).setCell (by simp <;> omega) _).setCell (by simp <;> omega) _).alloc (by simp; have := hB1.out.size; omega) _⟩
    rw [look_key hf.out hn1.out]
    exact ⟨keyV cky, rfl, ⟨rfl, rfl, rfl, rfl⟩, LAt.flat _ _ _ _ hCt.out.key⟩
  | false =>
    have hn1 := Lib.hid hn
    have hcl := (len_of hCt.out.rows).1
    have hcm := (len_of hCt.out.rows).2
    simp only [List.length_map] at hcl
    subst hcl
    simp only at hcm
    go_wp2_with fail
    have hb2 : Below w1.heap.size w1 (w1.alloc (.cells #[.string ckd, .string cky, .slice cp attrs.length cc] 37)) := (Below.refl _ _).alloc (Nat.le_refl _) _
    have hB2 := Lib.hid (hB1.out.trans (hb2.mono hB1.out.size))
    have hZ2 := Lib.hid (hZ1.out.below hb2 hzl)
    have hC2 := Lib.hid (hCt.out.mono (sub_of_below hb2))
    clear hb2 hCt hB1 hZ1 hS1 hX1 c0 c1 c2 x0 z0 z1 z2 z3 g0 g1 g2 g3
    generalize w1.alloc (.cells #[.string ckd, .string cky, .slice cp attrs.length cc] 37) = w2 at hB2 hZ2 hC2 ⊢
    have hzl2 : w.heap.size + 1 < w2.heap.size := hZ2.out.lt
    go_loopw [31] (fun s31 wr => ∃ i : Nat, i ≤ attrs.length ∧ s31 = .int .i64 i ∧ Hid (Below w2.heap.size w2 wr) ∧ Hid (NoA name.toList attrs i)) (fun s31 _ => attrs.length - (intOf s31).toNat)
    case atStart => exact ⟨0, by omega, rfl, Lib.hid (Below.refl _ _), Lib.hid rfl⟩
    case round =>
      obtain ⟨i, hi, rfl, hBw, hNo⟩ := hrel
      have hZw := hZ2.out.below hBw.out hzl2
      have hBx := Lib.hid (hB2.out.trans (hBw.out.mono hB2.out.size))
      obtain ⟨z0, z1, z2, z3, g0, g1, g2, g3⟩ := own4z hZw
      have hzw : w.heap.size + 1 < wr.heap.size := hZw.lt
      replace hZw := Lib.hid hZw
      by_cases hil : i < attrs.length
      case neg =>
        have hE := Lib.hid (findA_end hil hNo.out)
        go_wp2
        refine bodyPost_ret (v := .tuple #[.agg #[.int .i64 0, .int .i64 0, .string ⟨#[]⟩, .slice none 0 0], .bool false]) (by simp [results, Tryz.results24, go_sem, z0, z1, z2, z3]) rfl ?_
        refine ⟨?_, (((hBx.out.setCell (by simp <;> omega) _).setCell (by simp <;> omega) _).setCell (by simp <;> omega) _).setCell (by simp <;> omega) _⟩
        rw [look_attr hf.out hn1.out]
        simp only
        rw [hE.out]
        rfl
      obtain ⟨ab, ao, rfl, a0, a1, a2, a3, a4⟩ := ad_at (hC2.out.rows.mono (sub_of_below hBw.out)) hil
      have hAt := Lib.hid ((hC2.out.each attrs[i] (List.getElem_mem hil)).mono (sub_of_below hBw.out))
      have i0 : (0 : Int) ≤ (i : Int) := by omega
      have i1 : (i : Int) < (attrs.length : Int) := by omega
      have hHit := Lib.hid (fun h1 => findA_hit hil h1 hNo.out)
      have hMiss := Lib.hid (fun h1 => findA_miss hil h1 hNo.out)
      have hab : ab < wr.heap.size := World.block_lt_of_cell? wr _ a0
      generalize attrs[i] = at' at a0 a1 a2 a3 a4 hAt hHit hMiss
      obtain ⟨an, av⟩ := at'
      simp only at a0 a1 a2 a3 a4
      cases hne : (an.toList == name.toList) with
      | false =>
        have hN := Lib.hid (hMiss.out hne)
        clear hHit hMiss hAt
        have hBy := Lib.hid (hBw.out.alloc hBw.out.size (.cells #[.string an, .int .i64 av.kind, .int .i64 av.num, .string av.text, .slice av.ptr av.len av.cap] 79))
        go_wp2
        go_roundw
        case rel => exact ⟨i + 1, by omega, by go_num, hBy, hN⟩
        case measure => simp [intOf]; omega
      | true =>
        have hN := Lib.hid (hHit.out hne)
        clear hHit hMiss
        have hb3 : Below wr.heap.size wr (wr.alloc (.cells #[.string an, .int .i64 av.kind, .int .i64 av.num, .string av.text, .slice av.ptr av.len av.cap] 79)) := (Below.refl _ _).alloc (Nat.le_refl _) _
        have hL3 := Lib.hid (hAt.out.mono (sub_of_below hb3))
        have hZ3 := Lib.hid (hZw.out.below hb3 hzw)
        have hB3 := Lib.hid (hBx.out.trans (hb3.mono hBx.out.size))
        clear hb3
        go_wp2_with fail
        refine (clone_value av _ hL3.out).mono ?_
        rintro e w4 ⟨⟨d', rfl, hsv, hLd⟩, hb4⟩
        have hZ4 := hZ3.out.below hb4 (by simp; omega)
        have hB4 := Lib.hid (hB3.out.trans (hb4.mono hB3.out.size))
        have hL4 := Lib.hid (LAtLow (B := w.heap.size + 2) hLd (by simp; omega))
        clear hLd hb4 z0 z1 z2 z3 g0 g1 g2 g3 a0 a1 a2 a3 a4 hL3 hZ3 hB3
        obtain ⟨z0, z1, z2, z3, g0, g1, g2, g3⟩ := own4z hZ4
        have hz4 : w.heap.size + 1 < w4.heap.size := hZ4.lt
        replace hsv := Lib.hid hsv
        go_wp2
        refine bodyPost_ret (v := .tuple #[.agg #[.int .i64 d'.kind, .int .i64 d'.num, .string d'.text, .slice d'.ptr d'.len d'.cap], .bool true]) (by simp [results, Tryz.results24, go_sem, z0, z1, z2, z3]) rfl ?_
        refine ⟨?_, (((hB4.out.setCell (by simp <;> omega) _).setCell (by simp <;> omega) _).setCell (by simp <;> omega) _).setCell (by simp <;> omega) _⟩
        rw [look_attr hf.out hn1.out]
        simp only
        rw [hN.out]
        exact ⟨d', rfl, hsv.out, (LAtSet (LAtSet (LAtSet (LAtSet hL4.out (by simp) _) (by simp) _) (by simp) _) (by simp) _).mono (newM_mono (by omega) 0 _)⟩

set_option maxRecDepth 100000 in
set_option maxHeartbeats 2000000 in
/-- The reference's Lookup. -/
theorem lookF_ref (l : List CT) (a : Option Addr) (n c : Nat) (kind name : ByteArray) (w : World) (h : SAt w.cell? (.slice a n c) l) :
    Calls Tryz.prog 25 #[.agg #[.slice a n c], .string kind, .string name] w fun e w' => LookF (lookS l kind.toList name.toList) e ∧ Below w.heap.size w w' := by
  have hB : Below w.heap.size w ((w.alloc (.cells #[.slice a n c] 24)).alloc (.cells #[.int .i64 0, .int .i64 0, .string ⟨#[]⟩, .slice none 0 0] 51)) := ((Below.refl _ _).alloc (Nat.le_refl _) _).alloc (by simp) _
  have hZ := Own.new (w.alloc (.cells #[.slice a n c] 24)) #[.int .i64 0, .int .i64 0, .string ⟨#[]⟩, .slice none 0 0] 51
  rw [World.size_alloc] at hZ
  replace hZ := Lib.hid hZ
  have hS := Lib.hid (h.mono (sub_of_below hB))
  replace hB := Lib.hid hB
  replace h := Lib.hid h
  go_enter Tryz.func25, Tryz.ntmps25
  go_wp2_with fail
  refine (find_ref l a n c kind _ hS.out.rows).mono ?_
  rintro e w1 ⟨hF, hb⟩
  have hZ1 := Lib.hid (hZ.out.below hb (by simp))
  have hS1 := Lib.hid (hS.out.mono (sub_of_below hb))
  have hB1 := Lib.hid (hB.out.trans (hb.mono hB.out.size))
  clear hZ hS hB hb
  cases hf : findS kind.toList l with
  | none =>
    rw [hf] at hF
    simp only [FindIs] at hF
    subst hF
    replace hf := Lib.hid hf
    obtain ⟨z0, z1, z2, z3, g0, g1, g2, g3⟩ := own4z hZ1.out
    have hzl : w.heap.size + 1 < w1.heap.size := hZ1.out.lt
    go_wp2
    refine bodyPost_ret (v := .tuple #[.agg #[.int .i64 0, .int .i64 0, .string ⟨#[]⟩, .slice none 0 0], .bool false]) (by simp [results, Tryz.results25, go_sem, z0, z1, z2, z3, hzl]) rfl ?_
    refine ⟨?_, by first | exact (((hB1.out.setCell (by simp <;> omega) _).setCell (by simp <;> omega) _).setCell (by simp <;> omega) _).setCell (by simp <;> omega) _ | exact ((((hB1.out.setCell (by simp <;> omega) _).setCell (by simp <;> omega) _).setCell (by simp <;> omega) _).setCell (by simp <;> omega) _).alloc (by simp; have := hB1.out.size; omega) _⟩
    rw [look_none hf.out]
    rfl
  | some ct =>
    rw [hf] at hF
    simp only [FindIs] at hF
    subst hF
    have hCt := Lib.hid (hS1.out.each ct (findS_mem hf))
    have hC0 := Lib.hid (h.out.each ct (findS_mem hf))
    obtain ⟨ckd, cky, cp, cl, cc, attrs⟩ := ct
    simp only
    replace hf := Lib.hid hf
    have hcl := (len_of hCt.out.rows).1
    have hcm := (len_of hCt.out.rows).2
    simp only [List.length_map] at hcl
    subst hcl
    simp only at hcm
    have hb2 : Below w1.heap.size w1 (w1.alloc (.cells #[.string ckd, .string cky, .slice cp attrs.length cc] 37)) := (Below.refl _ _).alloc (Nat.le_refl _) _
    have hB2 := Lib.hid (hB1.out.trans (hb2.mono hB1.out.size))
    have hZ2 := Lib.hid (hZ1.out.below hb2 hZ1.out.lt)
    have hX2 := Lib.hid (Own.new w1 #[.string ckd, .string cky, .slice cp attrs.length cc] 37)
    have hC2 := Lib.hid (hCt.out.mono (sub_of_below hb2))
    have hzl : w.heap.size + 1 < w1.heap.size := hZ1.out.lt
    obtain ⟨z0, z1, z2, z3, g0, g1, g2, g3⟩ := own4z hZ1.out
    clear hb2 hCt hS1
    cases hn : (name.toList == [107, 101, 121]) with
    | true =>
      have hn1 := Lib.hid hn
      go_wp2
      refine bodyPost_ret (v := .tuple #[.agg #[.int .i64 3, .int .i64 0, .string cky, .slice none 0 0], .bool true]) (by simp [results, Tryz.results25, go_sem, z0, z1, z2, z3, hzl]) rfl ?_
      refine ⟨?_, ((((hB1.out.setCell (by simp <;> omega) _).setCell (by simp <;> omega) _).setCell (by simp <;> omega) _).setCell (by simp <;> omega) _).alloc (by simp; have := hB1.out.size; omega) _⟩
      rw [look_key hf.out hn1.out]
      rfl
    | false =>
      have hn1 := Lib.hid hn
      clear hB1 hZ1 z0 z1 z2 z3 g0 g1 g2 g3
      go_wp2_with fail
      generalize w1.alloc (.cells #[.string ckd, .string cky, .slice cp attrs.length cc] 37) = w2 at hB2 hZ2 hC2 hX2 ⊢
      have hzl2 : w.heap.size + 1 < w2.heap.size := hZ2.out.lt
      have hxl2 : w1.heap.size < w2.heap.size := hX2.out.lt
      go_loopw [10] (fun s10 wr => ∃ i : Nat, i ≤ attrs.length ∧ s10 = .int .i64 i ∧ Hid (Below w2.heap.size w2 wr) ∧ Hid (NoA name.toList attrs i)) (fun s10 _ => attrs.length - (intOf s10).toNat)
      case atStart => exact ⟨0, by omega, rfl, Lib.hid (Below.refl _ _), Lib.hid rfl⟩
      case round =>
        obtain ⟨i, hi, rfl, hBw, hNo⟩ := hrel
        have hZw := hZ2.out.below hBw.out hzl2
        have hXw := hX2.out.below hBw.out hxl2
        have hBx := Lib.hid (hB2.out.trans (hBw.out.mono hB2.out.size))
        obtain ⟨z0, z1, z2, z3, g0, g1, g2, g3⟩ := own4z hZw
        obtain ⟨x0, x1, x2⟩ := own3c hXw
        have hzw : w.heap.size + 1 < wr.heap.size := hZw.lt
        have hxw : w1.heap.size < wr.heap.size := hXw.lt
        clear hZw hXw
        by_cases hil : i < attrs.length
        case neg =>
          have hE := Lib.hid (findA_end hil hNo.out)
          go_wp2
          refine bodyPost_ret (v := .tuple #[.agg #[.int .i64 0, .int .i64 0, .string ⟨#[]⟩, .slice none 0 0], .bool false]) (by simp [results, Tryz.results25, go_sem, z0, z1, z2, z3]) rfl ?_
          refine ⟨?_, (((hBx.out.setCell (by simp <;> omega) _).setCell (by simp <;> omega) _).setCell (by simp <;> omega) _).setCell (by simp <;> omega) _⟩
          rw [look_attr hf.out hn1.out]
          simp only
          rw [hE.out]
          rfl
        obtain ⟨ab, ao, rfl, a0, a1, a2, a3, a4⟩ := ad_at (hC2.out.rows.mono (sub_of_below hBw.out)) hil
        have hAt := Lib.hid (hC0.out.each attrs[i] (List.getElem_mem hil))
        have i0 : (0 : Int) ≤ (i : Int) := by omega
        have i1 : (i : Int) < (attrs.length : Int) := by omega
        have hHit := Lib.hid (fun h1 => findA_hit hil h1 hNo.out)
        have hMiss := Lib.hid (fun h1 => findA_miss hil h1 hNo.out)
        have hab : ab < wr.heap.size := World.block_lt_of_cell? wr _ a0
        generalize attrs[i] = at' at a0 a1 a2 a3 a4 hAt hHit hMiss
        obtain ⟨an, av⟩ := at'
        simp only at a0 a1 a2 a3 a4
        cases hne : (an.toList == name.toList) with
        | false =>
          have hN := Lib.hid (hMiss.out hne)
          clear hHit hMiss hAt
          go_wp2
          go_roundw
          case rel => exact ⟨i + 1, by omega, by go_num, hBw, hN⟩
          case measure => simp [intOf]; omega
        | true =>
          have hN := Lib.hid (hHit.out hne)
          clear hHit hMiss
          go_wp2
          refine bodyPost_ret (v := .tuple #[.agg #[.int .i64 av.kind, .int .i64 av.num, .string av.text, .slice av.ptr av.len av.cap], .bool true]) (by simp [results, Tryz.results25, go_sem, z0, z1, z2, z3]) rfl ?_
          have hBz := (((hBx.out.setCell (p := ⟨w.heap.size + 1, 0, none⟩) (by simp <;> omega) (.int .i64 av.kind)).setCell (p := ⟨w.heap.size + 1, 1, none⟩) (by simp <;> omega) (.int .i64 av.num)).setCell (p := ⟨w.heap.size + 1, 2, none⟩) (by simp <;> omega) (.string av.text)).setCell (p := ⟨w.heap.size + 1, 3, none⟩) (by simp <;> omega) (.slice av.ptr av.len av.cap)
          refine ⟨?_, hBz⟩
          rw [look_attr hf.out hn1.out]
          simp only
          rw [hN.out]
          rfl

end Go.Proofs.YtamkmdlfhlbbeaaGreatDoor.subj

