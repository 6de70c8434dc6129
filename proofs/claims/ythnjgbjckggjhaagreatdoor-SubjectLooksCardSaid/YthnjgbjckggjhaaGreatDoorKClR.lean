/- Which attribute is found: the reference's Find and Lookup. -/
import Derived.Test.YthnjgbjckggjhaaGreatDoorKClL
namespace Go.Proofs.YthnjgbjckggjhaaGreatDoor.clause
open Go.RowKit Go.Proofs.YthnjgbjckggjhaaGreatDoor Go.Proofs.YthnjgbjckggjhaaGreatDoor.schema Go.Proofs.YthnjgbjckggjhaaGreatDoor.value Go.Proofs.YthnjgbjckggjhaaGreatDoor.text Go.Proofs.YthnjgbjckggjhaaGreatDoor.draw

def FindIs (o : Option CT) (e : Ending) : Prop :=
  match o with
  | none => e = .returned (.tuple #[.agg #[.string ⟨#[]⟩, .string ⟨#[]⟩, .slice none 0 0], .bool false])
  | some c => e = .returned (.tuple #[.agg #[.string c.kind, .string c.key, .slice c.ptr c.len c.cap], .bool true])
theorem own3z {w : World} {n : Nat} {x0 x1 x2 : Value} {t : TypeId} (h : Own w n #[x0, x1, x2] t) :
    w.cell? ⟨n, 0, none⟩ = some x0 ∧ w.cell? ⟨n, 1, none⟩ = some x1 ∧ w.cell? ⟨n, 2, none⟩ = some x2 ∧ w.frozen? ⟨n, 0, none⟩ = false ∧ w.frozen? ⟨n, 1, none⟩ = false ∧ w.frozen? ⟨n, 2, none⟩ = false :=
  ⟨h.cell 0, h.cell 1, h.cell 2, h.free 0, h.free 1, h.free 2⟩

set_option maxRecDepth 100000 in
set_option maxHeartbeats 2000000 in
/-- The reference's Find. -/
theorem find_ref (l : List CT) (a : Option Addr) (n c : Nat) (kind : ByteArray) (w : World) (h : RowsAt w.cell? 3 (.slice a n c) (l.map CT.row)) :
    Calls Tryz.prog 11 #[.agg #[.slice a n c], .string kind] w fun e w' => FindIs (findS kind.toList l) e ∧ Below w.heap.size w w' := by
  have hB : Below w.heap.size w ((w.alloc (.cells #[.slice a n c] 24)).alloc (.cells #[.string ⟨#[]⟩, .string ⟨#[]⟩, .slice none 0 0] 37)) := ((Below.refl _ _).alloc (Nat.le_refl _) _).alloc (by simp) _
  have hX := Lib.hid ((Own.new w #[.slice a n c] 24).alloc (.cells #[.string ⟨#[]⟩, .string ⟨#[]⟩, .slice none 0 0] 37))
  have hZ := Own.new (w.alloc (.cells #[.slice a n c] 24)) #[.string ⟨#[]⟩, .string ⟨#[]⟩, .slice none 0 0] 37
  rw [World.size_alloc] at hZ
  replace hZ := Lib.hid hZ
  have hR := Lib.hid (h.mono (sub_of_below hB))
  replace hB := Lib.hid hB
  have hn := (len_of h).1
  have hm := (len_of h).2
  simp only [List.length_map] at hn
  subst hn
  clear h
  go_enter Tryz.func11, Tryz.ntmps11
  go_wp2_with fail
  generalize (w.alloc (.cells #[.slice a l.length c] 24)).alloc (.cells #[.string ⟨#[]⟩, .string ⟨#[]⟩, .slice none 0 0] 37) = w1 at hB hX hZ hR ⊢
  have hx1 : w.heap.size < w1.heap.size := hX.out.lt
  have hz1 : w.heap.size + 1 < w1.heap.size := hZ.out.lt
  go_loopw [6] (fun s6 wr => ∃ k : Nat, k ≤ l.length ∧ s6 = .int .i64 k ∧ Hid (Below w1.heap.size w1 wr) ∧ Hid (NoC kind.toList l k)) (fun s6 _ => l.length - (intOf s6).toNat)
  case atStart => exact ⟨0, by omega, rfl, Lib.hid (Below.refl _ _), Lib.hid rfl⟩
  case round =>
    obtain ⟨k, hk, rfl, hBw, hNo⟩ := hrel
    have hXw := hX.out.below hBw.out hx1
    have hZw := hZ.out.below hBw.out hz1
    have hBx := Lib.hid (hB.out.trans (hBw.out.mono hB.out.size))
    have x0 := hXw.cell 0
    obtain ⟨z0, z1, z2, g0, g1, g2⟩ := own3z hZw
    have hxw : w.heap.size < wr.heap.size := hXw.lt
    have hzw : w.heap.size + 1 < wr.heap.size := hZw.lt
    simp only [List.getElem?_toArray, List.getElem?_cons_zero] at x0
    clear hXw hZw
    by_cases hlt : k < l.length
    case neg =>
      have hE := Lib.hid (findS_end hlt hNo.out)
      go_wp2
      refine bodyPost_ret (v := .tuple #[.agg #[.string ⟨#[]⟩, .string ⟨#[]⟩, .slice none 0 0], .bool false]) (by simp [results, Tryz.results11, go_sem, z0, z1, z2]) rfl ?_
      refine ⟨?_, ((hBx.out.setCell (by simp <;> omega) _).setCell (by simp <;> omega) _).setCell (by simp <;> omega) _⟩
      rw [hE.out]
      rfl
    obtain ⟨blk, off, rfl, -, -, c0, c1, c2⟩ := ct_at (hR.out.mono (sub_of_below hBw.out)) hlt
    have hHit := Lib.hid (fun h1 => findS_hit hlt h1 hNo.out)
    have hMiss := Lib.hid (fun h1 => findS_miss hlt h1 hNo.out)
    have n0 : (0 : Int) ≤ (k : Int) := by omega
    have n1 : (k : Int) < (l.length : Int) := by omega
    have hbl : blk < wr.heap.size := World.block_lt_of_cell? wr _ c0
    generalize l[k] = ct at c0 c1 c2 hHit hMiss
    cases hne : (ct.kind.toList == kind.toList) with
    | false =>
      have hN := Lib.hid (hMiss.out hne)
      clear hHit hMiss
      go_wp2
      go_roundw
      case rel => exact ⟨k + 1, by omega, by go_num, hBw, hN⟩
      case measure => simp [intOf]; omega
    | true =>
      have hN := Lib.hid (hHit.out hne)
      clear hHit hMiss
      go_wp2
      refine bodyPost_ret (v := .tuple #[.agg #[.string ct.kind, .string ct.key, .slice ct.ptr ct.len ct.cap], .bool true]) (by simp [results, Tryz.results11, go_sem, z0, z1, z2]) rfl ?_
      refine ⟨?_, ((hBx.out.setCell (by simp <;> omega) _).setCell (by simp <;> omega) _).setCell (by simp <;> omega) _⟩
      rw [hN.out]
      rfl

set_option maxRecDepth 100000 in
set_option maxHeartbeats 2000000 in
/-- The reference's Lookup. -/
theorem look_ref (l : List CT) (a : Option Addr) (n c : Nat) (kind name : ByteArray) (w : World) (h : SAt w.cell? (.slice a n c) l) :
    Calls Tryz.prog 14 #[.agg #[.slice a n c], .string kind, .string name] w fun e w' => LookIs (lookS l kind.toList name.toList) e w' ∧ Below w.heap.size w w' := by
  have hB : Below w.heap.size w ((w.alloc (.cells #[.slice a n c] 24)).alloc (.cells #[.int .i64 0, .int .i64 0, .string ⟨#[]⟩, .slice none 0 0] 42)) := ((Below.refl _ _).alloc (Nat.le_refl _) _).alloc (by simp) _
  have hZ := Own.new (w.alloc (.cells #[.slice a n c] 24)) #[.int .i64 0, .int .i64 0, .string ⟨#[]⟩, .slice none 0 0] 42
  rw [World.size_alloc] at hZ
  replace hZ := Lib.hid hZ
  have hS := Lib.hid (h.mono (sub_of_below hB))
  replace hB := Lib.hid hB
  replace h := Lib.hid h
  go_enter Tryz.func14, Tryz.ntmps14
  go_wp2_with fail
  refine (find_ref l a n c kind _ hS.out.rows).mono ?_
  rintro e w1 ⟨hF, hb⟩
  have hZ1 := Lib.hid (hZ.out.below hb (by simp))
  have hS1 := Lib.hid (hS.out.mono (sub_of_below hb))
  have hB1 := Lib.hid (hB.out.trans (hb.mono hB.out.size))
  clear hZ hS hB hb
  cases hf : findS kind.toList l with
  | none =>
    rw [hf] at hF
    simp only [FindIs] at hF
    subst hF
    replace hf := Lib.hid hf
    obtain ⟨z0, z1, z2, z3, g0, g1, g2, g3⟩ := own4z hZ1.out
    have hzl : w.heap.size + 1 < w1.heap.size := hZ1.out.lt
    go_wp2
    refine bodyPost_ret (v := .tuple #[.agg #[.int .i64 0, .int .i64 0, .string ⟨#[]⟩, .slice none 0 0], .bool false]) (by simp [results, Tryz.results14, go_sem, z0, z1, z2, z3, hzl]) rfl ?_
    refine ⟨?_, by first | exact (((hB1.out.setCell (by simp <;> omega) _).setCell (by simp <;> omega) _).setCell (by simp <;> omega) _).setCell (by simp <;> omega) _ | exact ((((hB1.out.setCell (by simp <;> omega) _).setCell (by simp <;> omega) _).setCell (by simp <;> omega) _).setCell (by simp <;> omega) _).alloc (by simp; have := hB1.out.size; omega) _⟩
    rw [look_none hf.out]
    rfl
  | some ct =>
    rw [hf] at hF
    simp only [FindIs] at hF
    subst hF
    have hCt := Lib.hid (hS1.out.each ct (findS_mem hf))
    have hC0 := Lib.hid (h.out.each ct (findS_mem hf))
    obtain ⟨ckd, cky, cp, cl, cc, attrs⟩ := ct
    simp only
    replace hf := Lib.hid hf
    have hcl := (len_of hCt.out.rows).1
    have hcm := (len_of hCt.out.rows).2
    simp only [List.length_map] at hcl
    subst hcl
    simp only at hcm
    have hb2 : Below w1.heap.size w1 (w1.alloc (.cells #[.string ckd, .string cky, .slice cp attrs.length cc] 37)) := (Below.refl _ _).alloc (Nat.le_refl _) _
    have hB2 := Lib.hid (hB1.out.trans (hb2.mono hB1.out.size))
    have hZ2 := Lib.hid (hZ1.out.below hb2 hZ1.out.lt)
    have hX2 := Lib.hid (Own.new w1 #[.string ckd, .string cky, .slice cp attrs.length cc] 37)
    have hC2 := Lib.hid (hCt.out.mono (sub_of_below hb2))
    have hzl : w.heap.size + 1 < w1.heap.size := hZ1.out.lt
    obtain ⟨z0, z1, z2, z3, g0, g1, g2, g3⟩ := own4z hZ1.out
    clear hb2 hCt hS1
    cases hn : (name.toList == [107, 101, 121]) with
    | true =>
      have hn1 := Lib.hid hn
      go_wp2
      refine bodyPost_ret (v := .tuple #[.agg #[.int .i64 3, .int .i64 0, .string cky, .slice none 0 0], .bool true]) (by simp [results, Tryz.results14, go_sem, z0, z1, z2, z3, hzl]) rfl ?_
      refine ⟨?_, ((((hB1.out.setCell (by simp <;> omega) _).setCell (by simp <;> omega) _).setCell (by simp <;> omega) _).setCell (by simp <;> omega) _).alloc (by simp; have := hB1.out.size; omega) _⟩
      rw [look_key hf.out hn1.out]
      exact ⟨keyV cky, rfl, ⟨rfl, rfl, rfl, rfl⟩, LAt.flat _ _ _ _ hC2.out.key⟩
    | false =>
      have hn1 := Lib.hid hn
      clear hB1 hZ1 z0 z1 z2 z3 g0 g1 g2 g3
      go_wp2_with fail
      generalize w1.alloc (.cells #[.string ckd, .string cky, .slice cp attrs.length cc] 37) = w2 at hB2 hZ2 hC2 hX2 ⊢
      have hzl2 : w.heap.size + 1 < w2.heap.size := hZ2.out.lt
      have hxl2 : w1.heap.size < w2.heap.size := hX2.out.lt
      go_loopw [10] (fun s10 wr => ∃ i : Nat, i ≤ attrs.length ∧ s10 = .int .i64 i ∧ Hid (Below w2.heap.size w2 wr) ∧ Hid (NoA name.toList attrs i)) (fun s10 _ => attrs.length - (intOf s10).toNat)
      case atStart => exact ⟨0, by omega, rfl, Lib.hid (Below.refl _ _), Lib.hid rfl⟩
      case round =>
        obtain ⟨i, hi, rfl, hBw, hNo⟩ := hrel
        have hZw := hZ2.out.below hBw.out hzl2
        have hXw := hX2.out.below hBw.out hxl2
        have hBx := Lib.hid (hB2.out.trans (hBw.out.mono hB2.out.size))
        obtain ⟨z0, z1, z2, z3, g0, g1, g2, g3⟩ := own4z hZw
        obtain ⟨x0, x1, x2⟩ := own3c hXw
        have hzw : w.heap.size + 1 < wr.heap.size := hZw.lt
        have hxw : w1.heap.size < wr.heap.size := hXw.lt
        clear hZw hXw
        by_cases hil : i < attrs.length
        case neg =>
          have hE := Lib.hid (findA_end hil hNo.out)
          go_wp2
          refine bodyPost_ret (v := .tuple #[.agg #[.int .i64 0, .int .i64 0, .string ⟨#[]⟩, .slice none 0 0], .bool false]) (by simp [results, Tryz.results14, go_sem, z0, z1, z2, z3]) rfl ?_
          refine ⟨?_, (((hBx.out.setCell (by simp <;> omega) _).setCell (by simp <;> omega) _).setCell (by simp <;> omega) _).setCell (by simp <;> omega) _⟩
          rw [look_attr hf.out hn1.out]
          simp only
          rw [hE.out]
          rfl
        obtain ⟨ab, ao, rfl, a0, a1, a2, a3, a4⟩ := ad_at (hC2.out.rows.mono (sub_of_below hBw.out)) hil
        have hAt := Lib.hid (hC0.out.each attrs[i] (List.getElem_mem hil))
        have i0 : (0 : Int) ≤ (i : Int) := by omega
        have i1 : (i : Int) < (attrs.length : Int) := by omega
        have hHit := Lib.hid (fun h1 => findA_hit hil h1 hNo.out)
        have hMiss := Lib.hid (fun h1 => findA_miss hil h1 hNo.out)
        have hab : ab < wr.heap.size := World.block_lt_of_cell? wr _ a0
        generalize attrs[i] = at' at a0 a1 a2 a3 a4 hAt hHit hMiss
        obtain ⟨an, av⟩ := at'
        simp only at a0 a1 a2 a3 a4
        cases hne : (an.toList == name.toList) with
        | false =>
          have hN := Lib.hid (hMiss.out hne)
          clear hHit hMiss hAt
          go_wp2
          go_roundw
          case rel => exact ⟨i + 1, by omega, by go_num, hBw, hN⟩
          case measure => simp [intOf]; omega
        | true =>
          have hN := Lib.hid (hHit.out hne)
          clear hHit hMiss
          go_wp2
          refine bodyPost_ret (v := .tuple #[.agg #[.int .i64 av.kind, .int .i64 av.num, .string av.text, .slice av.ptr av.len av.cap], .bool true]) (by simp [results, Tryz.results14, go_sem, z0, z1, z2, z3]) rfl ?_
          have hBz := (((hBx.out.setCell (p := ⟨w.heap.size + 1, 0, none⟩) (by simp <;> omega) (.int .i64 av.kind)).setCell (p := ⟨w.heap.size + 1, 1, none⟩) (by simp <;> omega) (.int .i64 av.num)).setCell (p := ⟨w.heap.size + 1, 2, none⟩) (by simp <;> omega) (.string av.text)).setCell (p := ⟨w.heap.size + 1, 3, none⟩) (by simp <;> omega) (.slice av.ptr av.len av.cap)
          refine ⟨?_, hBz⟩
          rw [look_attr hf.out hn1.out]
          simp only
          rw [hN.out]
          refine ⟨av, rfl, ⟨rfl, rfl, rfl, rfl⟩, ?_⟩
          exact hAt.out.mono (sub_of_below hBz)

end Go.Proofs.YthnjgbjckggjhaaGreatDoor.clause

