/- The program's Find: an own copy of a subject's context. Which attribute is found: the reference's Find and Lookup. Lookup of the program and of the reference, with where the value lies. Find and Lookup of the program and of the reference, in one form. -/
import Derived.Test.YthnjgbjckggjhaaGreatDoorKJ30
import Derived.Test.YthnjgbjckggjhaaGreatDoorKWd
import Derived.Test.YthnjgbjckggjhaaGreatDoorKWdSm
import Derived.Test.YthnjgbjckggjhaaGreatDoorKSuX
namespace Go.Proofs.YthnjgbjckggjhaaGreatDoor.subj.wide
open Go.RowKit Go.Proofs.YthnjgbjckggjhaaGreatDoor Go.Proofs.YthnjgbjckggjhaaGreatDoor.schema Go.Proofs.YthnjgbjckggjhaaGreatDoor.value Go.Proofs.YthnjgbjckggjhaaGreatDoor.text Go.Proofs.YthnjgbjckggjhaaGreatDoor.clause Go.Proofs.YthnjgbjckggjhaaGreatDoor.draw

attribute [local go_sem ↓] Go.wp_at_zero Go.wp_at_succ

def FoundIs : Option CT → Mem → Ending → Prop
  | none, _, e => e = .returned (.tuple #[.agg #[.string ⟨#[]⟩, .string ⟨#[]⟩, .slice none 0 0], .bool false])
  | some c, M, e => ∃ d : CT, e = .returned (.tuple #[.agg #[.string d.kind, .string d.key, .slice d.ptr d.len d.cap], .bool true]) ∧ SameC d c ∧ CAt M d

set_option maxRecDepth 100000 in
set_option maxHeartbeats 2000000 in
theorem found_any (l : List CT) (a : Option Addr) (n c : Nat) (kind : ByteArray) (w : World) (h : SAt w.cell? (.slice a n c) l) (hfew : ∀ x ∈ l, x.attrs.length ≤ 1099511627776) :
    Calls Tryz.prog 10 #[.agg #[.slice a n c], .string kind] w fun e w' => FoundIs (findS kind.toList l) (newM w.heap.size 0 w') e ∧ Below w.heap.size w w' := by
  have hB : Below w.heap.size w ((w.alloc (.cells #[.slice a n c] 24)).alloc (.cells #[.string ⟨#[]⟩, .string ⟨#[]⟩, .slice none 0 0] 37)) := ((Below.refl _ _).alloc (Nat.le_refl _) _).alloc (by simp) _
  have hX := Lib.hid ((Own.new w #[.slice a n c] 24).alloc (.cells #[.string ⟨#[]⟩, .string ⟨#[]⟩, .slice none 0 0] 37))
  have hZ := Own.new (w.alloc (.cells #[.slice a n c] 24)) #[.string ⟨#[]⟩, .string ⟨#[]⟩, .slice none 0 0] 37
  rw [World.size_alloc] at hZ
  replace hZ := Lib.hid hZ
  have hS := Lib.hid (h.mono (sub_of_below hB))
  replace hB := Lib.hid hB
  replace hfew := Lib.hid hfew
  clear h
  go_enter Tryz.func10, Tryz.ntmps10
  go_wp2_with fail
  refine (index_any kind a n c l _ hS.out.rows).mono ?_
  rintro e w1 ⟨⟨q, rfl, hq⟩, hb⟩
  have hX1 := Lib.hid (hX.out.below hb (by simp; omega))
  have hZ1 := Lib.hid (hZ.out.below hb (by simp))
  have hS1 := Lib.hid (hS.out.mono (sub_of_below hb))
  have hB1 := Lib.hid (hB.out.trans (hb.mono hB.out.size))
  clear hX hZ hS hB hb
  obtain ⟨z0, z1, z2⟩ := own3c hZ1.out
  have g0 := hZ1.out.free 0
  have g1 := hZ1.out.free 1
  have g2 := hZ1.out.free 2
  have hzl : w.heap.size + 1 < w1.heap.size := hZ1.out.lt
  have hxl : w.heap.size < w1.heap.size := by omega
  have x0 := hX1.out.cell 0
  rcases hq with ⟨k, hk, rfl, hf⟩ | ⟨rfl, hf⟩
  case inr =>
    replace hf := Lib.hid hf
    go_wp2
    refine bodyPost_ret (v := .tuple #[.agg #[.string ⟨#[]⟩, .string ⟨#[]⟩, .slice none 0 0], .bool false]) (by simp [results, Tryz.results10, go_sem, z0, z1, z2]) rfl ?_
    refine ⟨?_, ((hB1.out.setCell (by simp <;> omega) _).setCell (by simp <;> omega) _).setCell (by simp <;> omega) _⟩
    rw [hf.out]
    rfl
  obtain ⟨blk, off, rfl, rfl, hn, c0, c1, c2⟩ := ct_at hS1.out.rows hk
  have hCt := Lib.hid (hS1.out.each l[k] (List.getElem_mem hk))
  have hfk := Lib.hid (hfew.out l[k] (List.getElem_mem hk))
  generalize l[k] = ct at c0 c1 c2 hCt hf hfk
  obtain ⟨ckd, cky, cp, cl, cc, attrs⟩ := ct
  simp only at c0 c1 c2
  replace hf := Lib.hid hf
  have n0 : (0 : Int) ≤ (k : Int) := by omega
  have n1 : (k : Int) < (l.length : Int) := by omega
  clear hfew hS1
  go_wp2_with fail
  refine (clone_context ⟨ckd, cky, cp, cl, cc, attrs⟩ _ hCt.out hfk.out).mono ?_
  rintro e w2 ⟨⟨d, rfl, hd, hdA⟩, hb⟩
  have hZ2 := Lib.hid (hZ1.out.below hb hzl)
  have hB2 := Lib.hid (hB1.out.trans (hb.mono hB1.out.size))
  have hd2 := Lib.hid (hdA.mono (newM_set (q := ⟨w.heap.size + 1, 0, none⟩) (by show w.heap.size + 1 < w1.heap.size; omega) (.string d.kind)))
  have hd3 := Lib.hid (hd2.out.mono (newM_set (q := ⟨w.heap.size + 1, 1, none⟩) (by show w.heap.size + 1 < w1.heap.size; omega) (.string d.key)))
  have hd4 := Lib.hid ((hd3.out.mono (newM_set (q := ⟨w.heap.size + 1, 2, none⟩) (by show w.heap.size + 1 < w1.heap.size; omega) (.slice d.ptr d.len d.cap))).mono (newM_mono (B := w.heap.size) (B' := w1.heap.size) (by omega) 0 _))
  replace hd := Lib.hid hd
  clear hZ1 hB1 hb hdA hd2 hd3 z0 z1 z2 g0 g1 g2 c0 c1 c2 x0 hCt hX1
  obtain ⟨z0, z1, z2⟩ := own3c hZ2.out
  have g0 := hZ2.out.free 0
  have g1 := hZ2.out.free 1
  have g2 := hZ2.out.free 2
  have hz2 : w.heap.size + 1 < w2.heap.size := hZ2.out.lt
  go_wp2
  refine bodyPost_ret (v := .tuple #[.agg #[.string d.kind, .string d.key, .slice d.ptr d.len d.cap], .bool true]) (by simp [results, Tryz.results10, go_sem, z0, z1, z2]) rfl ?_
  refine ⟨?_, ((hB2.out.setCell (by simp <;> omega) _).setCell (by simp <;> omega) _).setCell (by simp <;> omega) _⟩
  rw [hf.out]
  exact ⟨d, rfl, hd.out, hd4.out⟩

end Go.Proofs.YthnjgbjckggjhaaGreatDoor.subj.wide

namespace Go.Proofs.YthnjgbjckggjhaaGreatDoor.subj.wide
open Go.RowKit Go.Proofs.YthnjgbjckggjhaaGreatDoor Go.Proofs.YthnjgbjckggjhaaGreatDoor.schema Go.Proofs.YthnjgbjckggjhaaGreatDoor.value Go.Proofs.YthnjgbjckggjhaaGreatDoor.text Go.Proofs.YthnjgbjckggjhaaGreatDoor.draw Go.Proofs.YthnjgbjckggjhaaGreatDoor.clause

def FindIs (o : Option CT) (e : Ending) : Prop :=
  match o with
  | none => e = .returned (.tuple #[.agg #[.string ⟨#[]⟩, .string ⟨#[]⟩, .slice none 0 0], .bool false])
  | some c => e = .returned (.tuple #[.agg #[.string c.kind, .string c.key, .slice c.ptr c.len c.cap], .bool true])
theorem own3z {w : World} {n : Nat} {x0 x1 x2 : Value} {t : TypeId} (h : Own w n #[x0, x1, x2] t) :
    w.cell? ⟨n, 0, none⟩ = some x0 ∧ w.cell? ⟨n, 1, none⟩ = some x1 ∧ w.cell? ⟨n, 2, none⟩ = some x2 ∧ w.frozen? ⟨n, 0, none⟩ = false ∧ w.frozen? ⟨n, 1, none⟩ = false ∧ w.frozen? ⟨n, 2, none⟩ = false :=
  ⟨h.cell 0, h.cell 1, h.cell 2, h.free 0, h.free 1, h.free 2⟩

set_option maxRecDepth 100000 in
set_option maxHeartbeats 2000000 in
/-- The reference's Find. -/
theorem find_ref (l : List CT) (a : Option Addr) (n c : Nat) (kind : ByteArray) (w : World) (h : RowsAt w.cell? 3 (.slice a n c) (l.map CT.row)) :
    Calls Tryz.prog 11 #[.agg #[.slice a n c], .string kind] w fun e w' => FindIs (findS kind.toList l) e ∧ Below w.heap.size w w' := by
  have hB : Below w.heap.size w ((w.alloc (.cells #[.slice a n c] 24)).alloc (.cells #[.string ⟨#[]⟩, .string ⟨#[]⟩, .slice none 0 0] 37)) := ((Below.refl _ _).alloc (Nat.le_refl _) _).alloc (by simp) _
  have hX := Lib.hid ((Own.new w #[.slice a n c] 24).alloc (.cells #[.string ⟨#[]⟩, .string ⟨#[]⟩, .slice none 0 0] 37))
  have hZ := Own.new (w.alloc (.cells #[.slice a n c] 24)) #[.string ⟨#[]⟩, .string ⟨#[]⟩, .slice none 0 0] 37
  rw [World.size_alloc] at hZ
  replace hZ := Lib.hid hZ
  have hR := Lib.hid (h.mono (sub_of_below hB))
  replace hB := Lib.hid hB
  have hn := (len_of h).1
  have hm := (len_of h).2
  simp only [List.length_map] at hn
  subst hn
  clear h
  go_enter Tryz.func11, Tryz.ntmps11
  go_wp2_with fail
  generalize (w.alloc (.cells #[.slice a l.length c] 24)).alloc (.cells #[.string ⟨#[]⟩, .string ⟨#[]⟩, .slice none 0 0] 37) = w1 at hB hX hZ hR ⊢
  have hx1 : w.heap.size < w1.heap.size := hX.out.lt
  have hz1 : w.heap.size + 1 < w1.heap.size := hZ.out.lt
  go_loopw [6] (fun s6 wr => ∃ k : Nat, k ≤ l.length ∧ s6 = .int .i64 k ∧ Hid (Below w1.heap.size w1 wr) ∧ Hid (NoC kind.toList l k)) (fun s6 _ => l.length - (intOf s6).toNat)
  case atStart => exact ⟨0, by omega, rfl, Lib.hid (Below.refl _ _), Lib.hid rfl⟩
  case round =>
    obtain ⟨k, hk, rfl, hBw, hNo⟩ := hrel
    have hXw := hX.out.below hBw.out hx1
    have hZw := hZ.out.below hBw.out hz1
    have hBx := Lib.hid (hB.out.trans (hBw.out.mono hB.out.size))
    have x0 := hXw.cell 0
    obtain ⟨z0, z1, z2, g0, g1, g2⟩ := own3z hZw
    have hxw : w.heap.size < wr.heap.size := hXw.lt
    have hzw : w.heap.size + 1 < wr.heap.size := hZw.lt
    simp only [List.getElem?_toArray, List.getElem?_cons_zero] at x0
    clear hXw hZw
    by_cases hlt : k < l.length
    case neg =>
      have hE := Lib.hid (findS_end hlt hNo.out)
      go_wp2
      refine bodyPost_ret (v := .tuple #[.agg #[.string ⟨#[]⟩, .string ⟨#[]⟩, .slice none 0 0], .bool false]) (by simp [results, Tryz.results11, go_sem, z0, z1, z2]) rfl ?_
      refine ⟨?_, ((hBx.out.setCell (by simp <;> omega) _).setCell (by simp <;> omega) _).setCell (by simp <;> omega) _⟩
      rw [hE.out]
      rfl
    obtain ⟨blk, off, rfl, -, -, c0, c1, c2⟩ := ct_at (hR.out.mono (sub_of_below hBw.out)) hlt
    have hHit := Lib.hid (fun h1 => findS_hit hlt h1 hNo.out)
    have hMiss := Lib.hid (fun h1 => findS_miss hlt h1 hNo.out)
    have n0 : (0 : Int) ≤ (k : Int) := by omega
    have n1 : (k : Int) < (l.length : Int) := by omega
    have hbl : blk < wr.heap.size := World.block_lt_of_cell? wr _ c0
    generalize l[k] = ct at c0 c1 c2 hHit hMiss
    cases hne : (ct.kind.toList == kind.toList) with
    | false =>
      have hN := Lib.hid (hMiss.out hne)
      clear hHit hMiss
      go_wp2
      go_roundw
      case rel => exact ⟨k + 1, by omega, by go_num, hBw, hN⟩
      case measure => simp [intOf]; omega
    | true =>
      have hN := Lib.hid (hHit.out hne)
      clear hHit hMiss
      go_wp2
      refine bodyPost_ret (v := .tuple #[.agg #[.string ct.kind, .string ct.key, .slice ct.ptr ct.len ct.cap], .bool true]) (by simp [results, Tryz.results11, go_sem, z0, z1, z2]) rfl ?_
      refine ⟨?_, ((hBx.out.setCell (by simp <;> omega) _).setCell (by simp <;> omega) _).setCell (by simp <;> omega) _⟩
      rw [hN.out]
      rfl

set_option maxRecDepth 100000 in
set_option maxHeartbeats 2000000 in
/-- The reference's Lookup. -/
theorem look_ref (l : List CT) (a : Option Addr) (n c : Nat) (kind name : ByteArray) (w : World) (h : SAt w.cell? (.slice a n c) l) :
    Calls Tryz.prog 14 #[.agg #[.slice a n c], .string kind, .string name] w fun e w' => LookIs (lookS l kind.toList name.toList) e w' ∧ Below w.heap.size w w' := by
  have hB : Below w.heap.size w ((w.alloc (.cells #[.slice a n c] 24)).alloc (.cells #[.int .i64 0, .int .i64 0, .string ⟨#[]⟩, .slice none 0 0] 42)) := ((Below.refl _ _).alloc (Nat.le_refl _) _).alloc (by simp) _
  have hZ := Own.new (w.alloc (.cells #[.slice a n c] 24)) #[.int .i64 0, .int .i64 0, .string ⟨#[]⟩, .slice none 0 0] 42
  rw [World.size_alloc] at hZ
  replace hZ := Lib.hid hZ
  have hS := Lib.hid (h.mono (sub_of_below hB))
  replace hB := Lib.hid hB
  replace h := Lib.hid h
  go_enter Tryz.func14, Tryz.ntmps14
  go_wp2_with fail
  refine (find_ref l a n c kind _ hS.out.rows).mono ?_
  rintro e w1 ⟨hF, hb⟩
  have hZ1 := Lib.hid (hZ.out.below hb (by simp))
  have hS1 := Lib.hid (hS.out.mono (sub_of_below hb))
  have hB1 := Lib.hid (hB.out.trans (hb.mono hB.out.size))
  clear hZ hS hB hb
  cases hf : findS kind.toList l with
  | none =>
    rw [hf] at hF
    simp only [FindIs] at hF
    subst hF
    replace hf := Lib.hid hf
    obtain ⟨z0, z1, z2, z3, g0, g1, g2, g3⟩ := own4z hZ1.out
    have hzl : w.heap.size + 1 < w1.heap.size := hZ1.out.lt
    go_wp2
    refine bodyPost_ret (v := .tuple #[.agg #[.int .i64 0, .int .i64 0, .string ⟨#[]⟩, .slice none 0 0], .bool false]) (by simp [results, Tryz.results14, go_sem, z0, z1, z2, z3, hzl]) rfl ?_
    refine ⟨?_, by first | exact (((hB1.out.setCell (by simp <;> omega) _).setCell (by simp <;> omega) _).setCell (by simp <;> omega) _).setCell (by simp <;> omega) _ | exact ((((hB1.out.setCell (by simp <;> omega) _).setCell (by simp <;> omega) _).setCell (by simp <;> omega) _).setCell (by simp <;> omega) _).alloc (by simp; have := hB1.out.size; omega) _⟩
    rw [look_none hf.out]
    rfl
  | some ct =>
    rw [hf] at hF
    simp only [FindIs] at hF
    subst hF
    have hCt := Lib.hid (hS1.out.each ct (findS_mem hf))
    have hC0 := Lib.hid (h.out.each ct (findS_mem hf))
    obtain ⟨ckd, cky, cp, cl, cc, attrs⟩ := ct
    simp only
    replace hf := Lib.hid hf
    have hcl := (len_of hCt.out.rows).1
    have hcm := (len_of hCt.out.rows).2
    simp only [List.length_map] at hcl
    subst hcl
    simp only at hcm
    have hb2 : Below w1.heap.size w1 (w1.alloc (.cells #[.string ckd, .string cky, .slice cp attrs.length cc] 37)) := (Below.refl _ _).alloc (Nat.le_refl _) _
    have hB2 := Lib.hid (hB1.out.trans (hb2.mono hB1.out.size))
    have hZ2 := Lib.hid (hZ1.out.below hb2 hZ1.out.lt)
    have hX2 := Lib.hid (Own.new w1 #[.string ckd, .string cky, .slice cp attrs.length cc] 37)
    have hC2 := Lib.hid (hCt.out.mono (sub_of_below hb2))
    have hzl : w.heap.size + 1 < w1.heap.size := hZ1.out.lt
    obtain ⟨z0, z1, z2, z3, g0, g1, g2, g3⟩ := own4z hZ1.out
    clear hb2 hCt hS1
    cases hn : (name.toList == [107, 101, 121]) with
    | true =>
      have hn1 := Lib.hid hn
      go_wp2
      refine bodyPost_ret (v := .tuple #[.agg #[.int .i64 3, .int .i64 0, .string cky, .slice none 0 0], .bool true]) (by simp [results, Tryz.results14, go_sem, z0, z1, z2, z3, hzl]) rfl ?_
      refine ⟨?_, ((((hB1.out.setCell (by simp <;> omega) _).setCell (by simp <;> omega) _).setCell (by simp <;> omega) _).setCell (by simp <;> omega) _).alloc (by simp; have := hB1.out.size; omega) _⟩
      rw [look_key hf.out hn1.out]
      exact ⟨keyV cky, rfl, ⟨rfl, rfl, rfl, rfl⟩, LAt.flat _ _ _ _ hC2.out.key⟩
    | false =>
      have hn1 := Lib.hid hn
      clear hB1 hZ1 z0 z1 z2 z3 g0 g1 g2 g3
      go_wp2_with fail
      generalize w1.alloc (.cells #[.string ckd, .string cky, .slice cp attrs.length cc] 37) = w2 at hB2 hZ2 hC2 hX2 ⊢
      have hzl2 : w.heap.size + 1 < w2.heap.size := hZ2.out.lt
      have hxl2 : w1.heap.size < w2.heap.size := hX2.out.lt
      go_loopw [10] (fun s10 wr => ∃ i : Nat, i ≤ attrs.length ∧ s10 = .int .i64 i ∧ Hid (Below w2.heap.size w2 wr) ∧ Hid (NoA name.toList attrs i)) (fun s10 _ => attrs.length - (intOf s10).toNat)
      case atStart => exact ⟨0, by omega, rfl, Lib.hid (Below.refl _ _), Lib.hid rfl⟩
      case round =>
        obtain ⟨i, hi, rfl, hBw, hNo⟩ := hrel
        have hZw := hZ2.out.below hBw.out hzl2
        have hXw := hX2.out.below hBw.out hxl2
        have hBx := Lib.hid (hB2.out.trans (hBw.out.mono hB2.out.size))
        obtain ⟨z0, z1, z2, z3, g0, g1, g2, g3⟩ := own4z hZw
        obtain ⟨x0, x1, x2⟩ := own3c hXw
        have hzw : w.heap.size + 1 < wr.heap.size := hZw.lt
        have hxw : w1.heap.size < wr.heap.size := hXw.lt
        clear hZw hXw
        by_cases hil : i < attrs.length
        case neg =>
          have hE := Lib.hid (findA_end hil hNo.out)
          go_wp2
          refine bodyPost_ret (v := .tuple #[.agg #[.int .i64 0, .int .i64 0, .string ⟨#[]⟩, .slice none 0 0], .bool false]) (by simp [results, Tryz.results14, go_sem, z0, z1, z2, z3]) rfl ?_
          refine ⟨?_, (((hBx.out.setCell (by simp <;> omega) _).setCell (by simp <;> omega) _).setCell (by simp <;> omega) _).setCell (by simp <;> omega) _⟩
          rw [look_attr hf.out hn1.out]
          simp only
          rw [hE.out]
          rfl
        obtain ⟨ab, ao, rfl, a0, a1, a2, a3, a4⟩ := ad_at (hC2.out.rows.mono (sub_of_below hBw.out)) hil
        have hAt := Lib.hid (hC0.out.each attrs[i] (List.getElem_mem hil))
        have i0 : (0 : Int) ≤ (i : Int) := by omega
        have i1 : (i : Int) < (attrs.length : Int) := by omega
        have hHit := Lib.hid (fun h1 => findA_hit hil h1 hNo.out)
        have hMiss := Lib.hid (fun h1 => findA_miss hil h1 hNo.out)
        have hab : ab < wr.heap.size := World.block_lt_of_cell? wr _ a0
        generalize attrs[i] = at' at a0 a1 a2 a3 a4 hAt hHit hMiss
        obtain ⟨an, av⟩ := at'
        simp only at a0 a1 a2 a3 a4
        cases hne : (an.toList == name.toList) with
        | false =>
          have hN := Lib.hid (hMiss.out hne)
          clear hHit hMiss hAt
          go_wp2
          go_roundw
          case rel => exact ⟨i + 1, by omega, by go_num, hBw, hN⟩
          case measure => simp [intOf]; omega
        | true =>
          have hN := Lib.hid (hHit.out hne)
          clear hHit hMiss
          go_wp2
          refine bodyPost_ret (v := .tuple #[.agg #[.int .i64 av.kind, .int .i64 av.num, .string av.text, .slice av.ptr av.len av.cap], .bool true]) (by simp [results, Tryz.results14, go_sem, z0, z1, z2, z3]) rfl ?_
          have hBz := (((hBx.out.setCell (p := ⟨w.heap.size + 1, 0, none⟩) (by simp <;> omega) (.int .i64 av.kind)).setCell (p := ⟨w.heap.size + 1, 1, none⟩) (by simp <;> omega) (.int .i64 av.num)).setCell (p := ⟨w.heap.size + 1, 2, none⟩) (by simp <;> omega) (.string av.text)).setCell (p := ⟨w.heap.size + 1, 3, none⟩) (by simp <;> omega) (.slice av.ptr av.len av.cap)
          refine ⟨?_, hBz⟩
          rw [look_attr hf.out hn1.out]
          simp only
          rw [hN.out]
          refine ⟨av, rfl, ⟨rfl, rfl, rfl, rfl⟩, ?_⟩
          exact hAt.out.mono (sub_of_below hBz)

end Go.Proofs.YthnjgbjckggjhaaGreatDoor.subj.wide

namespace Go.Proofs.YthnjgbjckggjhaaGreatDoor.subj.wide
open Go.RowKit Go.Proofs.YthnjgbjckggjhaaGreatDoor Go.Proofs.YthnjgbjckggjhaaGreatDoor.schema Go.Proofs.YthnjgbjckggjhaaGreatDoor.value Go.Proofs.YthnjgbjckggjhaaGreatDoor.text Go.Proofs.YthnjgbjckggjhaaGreatDoor.clause Go.Proofs.YthnjgbjckggjhaaGreatDoor.draw

def LookN (o : Option VD) (M : Mem) (e : Ending) : Prop :=
  match o with
  | none => e = .returned (.tuple #[.agg #[.int .i64 0, .int .i64 0, .string ⟨#[]⟩, .slice none 0 0], .bool false])
  | some v => ∃ d : VD, e = .returned (.tuple #[.agg d.row.toArray, .bool true]) ∧ SameV d v ∧ LAt M d
def LookF (o : Option VD) (e : Ending) : Prop :=
  match o with
  | none => e = .returned (.tuple #[.agg #[.int .i64 0, .int .i64 0, .string ⟨#[]⟩, .slice none 0 0], .bool false])
  | some d => e = .returned (.tuple #[.agg d.row.toArray, .bool true])

set_option maxRecDepth 100000 in
set_option maxHeartbeats 2000000 in
/-- The program's Lookup. -/
theorem lookN_any (l : List CT) (a : Option Addr) (n c : Nat) (kind name : ByteArray) (w : World) (h : SAt w.cell? (.slice a n c) l) :
    Calls Tryz.prog 13 #[.agg #[.slice a n c], .string kind, .string name] w fun e w' => LookN (lookS l kind.toList name.toList) (newM w.heap.size 0 w') e ∧ Below w.heap.size w w' := by
  have hB : Below w.heap.size w ((w.alloc (.cells #[.slice a n c] 24)).alloc (.cells zeroW 42)) := ((Below.refl _ _).alloc (Nat.le_refl _) _).alloc (by simp) _
  have hX := Lib.hid ((Own.new w #[.slice a n c] 24).alloc (.cells zeroW 42))
  have hZ := Own.new (w.alloc (.cells #[.slice a n c] 24)) zeroW 42
  rw [World.size_alloc] at hZ
  replace hZ := Lib.hid hZ
  have hS := Lib.hid (h.mono (sub_of_below hB))
  replace hB := Lib.hid hB
  clear h
  go_enter Tryz.func13, Tryz.ntmps13
  go_wp2_with fail
  refine (index_any kind a n c l _ hS.out.rows).mono ?_
  rintro e w1 ⟨⟨q, rfl, hq⟩, hb⟩
  have hX1 := Lib.hid (hX.out.below hb (by simp; omega))
  have hZ1 := Lib.hid (hZ.out.below hb (by simp))
  have hS1 := Lib.hid (hS.out.mono (sub_of_below hb))
  have hB1 := Lib.hid (hB.out.trans (hb.mono hB.out.size))
  clear hX hZ hS hB hb
  obtain ⟨z0, z1, z2, z3, g0, g1, g2, g3⟩ := own4z hZ1.out
  have hzl : w.heap.size + 1 < w1.heap.size := hZ1.out.lt
  have hxl : w.heap.size < w1.heap.size := by omega
  have x0 := hX1.out.cell 0
  rcases hq with ⟨k, hk, rfl, hf⟩ | ⟨rfl, hf⟩
  case inr =>
    replace hf := Lib.hid hf
    go_wp2
    refine bodyPost_ret (v := .tuple #[.agg #[.int .i64 0, .int .i64 0, .string ⟨#[]⟩, .slice none 0 0], .bool false]) (by simp [results, Tryz.results13, go_sem, z0, z1, z2, z3]) rfl ?_
    refine ⟨?_, (((hB1.out.setCell (by simp <;> omega) _).setCell (by simp <;> omega) _).setCell (by simp <;> omega) _).setCell (by simp <;> omega) _⟩
    rw [look_none hf.out]
    rfl
  obtain ⟨blk, off, rfl, rfl, hn, c0, c1, c2⟩ := ct_at hS1.out.rows hk
  have hCt := Lib.hid (hS1.out.each l[k] (List.getElem_mem hk))
  generalize l[k] = ct at c0 c1 c2 hCt hf
  obtain ⟨ckd, cky, cp, cl, cc, attrs⟩ := ct
  simp only at c0 c1 c2
  replace hf := Lib.hid hf
  have n0 : (0 : Int) ≤ (k : Int) := by omega
  have n1 : (k : Int) < (l.length : Int) := by omega
  cases hn : (name.toList == [107, 101, 121]) with
  | true =>
    have hn1 := Lib.hid hn
    go_wp2
    refine bodyPost_ret (v := .tuple #[.agg #[.int .i64 3, .int .i64 0, .string cky, .slice none 0 0], .bool true]) (by simp [results, Tryz.results13, go_sem, z0, z1, z2, z3, hzl]) rfl ?_
    refine ⟨?_, ((((hB1.out.setCell (by simp <;> omega) _).setCell (by simp <;> omega) _).setCell (by simp <;> omega) _).setCell (by simp <;> omega) _).alloc (by simp; have := hB1.out.size; omega) _⟩
    rw [look_key hf.out hn1.out]
    exact ⟨keyV cky, rfl, ⟨rfl, rfl, rfl, rfl⟩, LAt.flat _ _ _ _ hCt.out.key⟩
  | false =>
    have hn1 := Lib.hid hn
    have hcl := (len_of hCt.out.rows).1
    have hcm := (len_of hCt.out.rows).2
    simp only [List.length_map] at hcl
    subst hcl
    simp only at hcm
    go_wp2_with fail
    have hb2 : Below w1.heap.size w1 (w1.alloc (.cells #[.string ckd, .string cky, .slice cp attrs.length cc] 37)) := (Below.refl _ _).alloc (Nat.le_refl _) _
    have hB2 := Lib.hid (hB1.out.trans (hb2.mono hB1.out.size))
    have hZ2 := Lib.hid (hZ1.out.below hb2 hzl)
    have hC2 := Lib.hid (hCt.out.mono (sub_of_below hb2))
    clear hb2 hCt hB1 hZ1 hS1 hX1 c0 c1 c2 x0 z0 z1 z2 z3 g0 g1 g2 g3
    generalize w1.alloc (.cells #[.string ckd, .string cky, .slice cp attrs.length cc] 37) = w2 at hB2 hZ2 hC2 ⊢
    have hzl2 : w.heap.size + 1 < w2.heap.size := hZ2.out.lt
    go_loopw [31] (fun s31 wr => ∃ i : Nat, i ≤ attrs.length ∧ s31 = .int .i64 i ∧ Hid (Below w2.heap.size w2 wr) ∧ Hid (NoA name.toList attrs i)) (fun s31 _ => attrs.length - (intOf s31).toNat)
    case atStart => exact ⟨0, by omega, rfl, Lib.hid (Below.refl _ _), Lib.hid rfl⟩
    case round =>
      obtain ⟨i, hi, rfl, hBw, hNo⟩ := hrel
      have hZw := hZ2.out.below hBw.out hzl2
      have hBx := Lib.hid (hB2.out.trans (hBw.out.mono hB2.out.size))
      obtain ⟨z0, z1, z2, z3, g0, g1, g2, g3⟩ := own4z hZw
      have hzw : w.heap.size + 1 < wr.heap.size := hZw.lt
      replace hZw := Lib.hid hZw
      by_cases hil : i < attrs.length
      case neg =>
        have hE := Lib.hid (findA_end hil hNo.out)
        go_wp2
        refine bodyPost_ret (v := .tuple #[.agg #[.int .i64 0, .int .i64 0, .string ⟨#[]⟩, .slice none 0 0], .bool false]) (by simp [results, Tryz.results13, go_sem, z0, z1, z2, z3]) rfl ?_
        refine ⟨?_, (((hBx.out.setCell (by simp <;> omega) _).setCell (by simp <;> omega) _).setCell (by simp <;> omega) _).setCell (by simp <;> omega) _⟩
        rw [look_attr hf.out hn1.out]
        simp only
        rw [hE.out]
        rfl
      obtain ⟨ab, ao, rfl, a0, a1, a2, a3, a4⟩ := ad_at (hC2.out.rows.mono (sub_of_below hBw.out)) hil
      have hAt := Lib.hid ((hC2.out.each attrs[i] (List.getElem_mem hil)).mono (sub_of_below hBw.out))
      have i0 : (0 : Int) ≤ (i : Int) := by omega
      have i1 : (i : Int) < (attrs.length : Int) := by omega
      have hHit := Lib.hid (fun h1 => findA_hit hil h1 hNo.out)
      have hMiss := Lib.hid (fun h1 => findA_miss hil h1 hNo.out)
      have hab : ab < wr.heap.size := World.block_lt_of_cell? wr _ a0
      generalize attrs[i] = at' at a0 a1 a2 a3 a4 hAt hHit hMiss
      obtain ⟨an, av⟩ := at'
      simp only at a0 a1 a2 a3 a4
      cases hne : (an.toList == name.toList) with
      | false =>
        have hN := Lib.hid (hMiss.out hne)
        clear hHit hMiss hAt
        have hBy := Lib.hid (hBw.out.alloc hBw.out.size (.cells #[.string an, .int .i64 av.kind, .int .i64 av.num, .string av.text, .slice av.ptr av.len av.cap] 56))
        go_wp2
        go_roundw
        case rel => exact ⟨i + 1, by omega, by go_num, hBy, hN⟩
        case measure => simp [intOf]; omega
      | true =>
        have hN := Lib.hid (hHit.out hne)
        clear hHit hMiss
        have hb3 : Below wr.heap.size wr (wr.alloc (.cells #[.string an, .int .i64 av.kind, .int .i64 av.num, .string av.text, .slice av.ptr av.len av.cap] 56)) := (Below.refl _ _).alloc (Nat.le_refl _) _
        have hL3 := Lib.hid (hAt.out.mono (sub_of_below hb3))
        have hZ3 := Lib.hid (hZw.out.below hb3 hzw)
        have hB3 := Lib.hid (hBx.out.trans (hb3.mono hBx.out.size))
        clear hb3
        go_wp2_with fail
        refine (clone_value av _ hL3.out).mono ?_
        rintro e w4 ⟨⟨d', rfl, hsv, hLd⟩, hb4⟩
        have hZ4 := hZ3.out.below hb4 (by simp; omega)
        have hB4 := Lib.hid (hB3.out.trans (hb4.mono hB3.out.size))
        have hL4 := Lib.hid (LAtLow (B := w.heap.size + 2) hLd (by simp; omega))
        clear hLd hb4 z0 z1 z2 z3 g0 g1 g2 g3 a0 a1 a2 a3 a4 hL3 hZ3 hB3
        obtain ⟨z0, z1, z2, z3, g0, g1, g2, g3⟩ := own4z hZ4
        have hz4 : w.heap.size + 1 < w4.heap.size := hZ4.lt
        replace hsv := Lib.hid hsv
        go_wp2
        refine bodyPost_ret (v := .tuple #[.agg #[.int .i64 d'.kind, .int .i64 d'.num, .string d'.text, .slice d'.ptr d'.len d'.cap], .bool true]) (by simp [results, Tryz.results13, go_sem, z0, z1, z2, z3]) rfl ?_
        refine ⟨?_, (((hB4.out.setCell (by simp <;> omega) _).setCell (by simp <;> omega) _).setCell (by simp <;> omega) _).setCell (by simp <;> omega) _⟩
        rw [look_attr hf.out hn1.out]
        simp only
        rw [hN.out]
        exact ⟨d', rfl, hsv.out, (LAtSet (LAtSet (LAtSet (LAtSet hL4.out (by simp) _) (by simp) _) (by simp) _) (by simp) _).mono (newM_mono (by omega) 0 _)⟩

set_option maxRecDepth 100000 in
set_option maxHeartbeats 2000000 in
/-- The reference's Lookup. -/
theorem lookF_ref (l : List CT) (a : Option Addr) (n c : Nat) (kind name : ByteArray) (w : World) (h : SAt w.cell? (.slice a n c) l) :
    Calls Tryz.prog 14 #[.agg #[.slice a n c], .string kind, .string name] w fun e w' => LookF (lookS l kind.toList name.toList) e ∧ Below w.heap.size w w' := by
  have hB : Below w.heap.size w ((w.alloc (.cells #[.slice a n c] 24)).alloc (.cells #[.int .i64 0, .int .i64 0, .string ⟨#[]⟩, .slice none 0 0] 42)) := ((Below.refl _ _).alloc (Nat.le_refl _) _).alloc (by simp) _
  have hZ := Own.new (w.alloc (.cells #[.slice a n c] 24)) #[.int .i64 0, .int .i64 0, .string ⟨#[]⟩, .slice none 0 0] 42
  rw [World.size_alloc] at hZ
  replace hZ := Lib.hid hZ
  have hS := Lib.hid (h.mono (sub_of_below hB))
  replace hB := Lib.hid hB
  replace h := Lib.hid h
  go_enter Tryz.func14, Tryz.ntmps14
  go_wp2_with fail
  refine (find_ref l a n c kind _ hS.out.rows).mono ?_
  rintro e w1 ⟨hF, hb⟩
  have hZ1 := Lib.hid (hZ.out.below hb (by simp))
  have hS1 := Lib.hid (hS.out.mono (sub_of_below hb))
  have hB1 := Lib.hid (hB.out.trans (hb.mono hB.out.size))
  clear hZ hS hB hb
  cases hf : findS kind.toList l with
  | none =>
    rw [hf] at hF
    simp only [FindIs] at hF
    subst hF
    replace hf := Lib.hid hf
    obtain ⟨z0, z1, z2, z3, g0, g1, g2, g3⟩ := own4z hZ1.out
    have hzl : w.heap.size + 1 < w1.heap.size := hZ1.out.lt
    go_wp2
    refine bodyPost_ret (v := .tuple #[.agg #[.int .i64 0, .int .i64 0, .string ⟨#[]⟩, .slice none 0 0], .bool false]) (by simp [results, Tryz.results14, go_sem, z0, z1, z2, z3, hzl]) rfl ?_
    refine ⟨?_, by first | exact (((hB1.out.setCell (by simp <;> omega) _).setCell (by simp <;> omega) _).setCell (by simp <;> omega) _).setCell (by simp <;> omega) _ | exact ((((hB1.out.setCell (by simp <;> omega) _).setCell (by simp <;> omega) _).setCell (by simp <;> omega) _).setCell (by simp <;> omega) _).alloc (by simp; have := hB1.out.size; omega) _⟩
    rw [look_none hf.out]
    rfl
  | some ct =>
    rw [hf] at hF
    simp only [FindIs] at hF
    subst hF
    have hCt := Lib.hid (hS1.out.each ct (findS_mem hf))
    have hC0 := Lib.hid (h.out.each ct (findS_mem hf))
    obtain ⟨ckd, cky, cp, cl, cc, attrs⟩ := ct
    simp only
    replace hf := Lib.hid hf
    have hcl := (len_of hCt.out.rows).1
    have hcm := (len_of hCt.out.rows).2
    simp only [List.length_map] at hcl
    subst hcl
    simp only at hcm
    have hb2 : Below w1.heap.size w1 (w1.alloc (.cells #[.string ckd, .string cky, .slice cp attrs.length cc] 37)) := (Below.refl _ _).alloc (Nat.le_refl _) _
    have hB2 := Lib.hid (hB1.out.trans (hb2.mono hB1.out.size))
    have hZ2 := Lib.hid (hZ1.out.below hb2 hZ1.out.lt)
    have hX2 := Lib.hid (Own.new w1 #[.string ckd, .string cky, .slice cp attrs.length cc] 37)
    have hC2 := Lib.hid (hCt.out.mono (sub_of_below hb2))
    have hzl : w.heap.size + 1 < w1.heap.size := hZ1.out.lt
    obtain ⟨z0, z1, z2, z3, g0, g1, g2, g3⟩ := own4z hZ1.out
    clear hb2 hCt hS1
    cases hn : (name.toList == [107, 101, 121]) with
    | true =>
      have hn1 := Lib.hid hn
      go_wp2
      refine bodyPost_ret (v := .tuple #[.agg #[.int .i64 3, .int .i64 0, .string cky, .slice none 0 0], .bool true]) (by simp [results, Tryz.results14, go_sem, z0, z1, z2, z3, hzl]) rfl ?_
      refine ⟨?_, ((((hB1.out.setCell (by simp <;> omega) _).setCell (by simp <;> omega) _).setCell (by simp <;> omega) _).setCell (by simp <;> omega) _).alloc (by simp; have := hB1.out.size; omega) _⟩
      rw [look_key hf.out hn1.out]
      rfl
    | false =>
      have hn1 := Lib.hid hn
      clear hB1 hZ1 z0 z1 z2 z3 g0 g1 g2 g3
      go_wp2_with fail
      generalize w1.alloc (.cells #[.string ckd, .string cky, .slice cp attrs.length cc] 37) = w2 at hB2 hZ2 hC2 hX2 ⊢
      have hzl2 : w.heap.size + 1 < w2.heap.size := hZ2.out.lt
      have hxl2 : w1.heap.size < w2.heap.size := hX2.out.lt
      go_loopw [10] (fun s10 wr => ∃ i : Nat, i ≤ attrs.length ∧ s10 = .int .i64 i ∧ Hid (Below w2.heap.size w2 wr) ∧ Hid (NoA name.toList attrs i)) (fun s10 _ => attrs.length - (intOf s10).toNat)
      case atStart => exact ⟨0, by omega, rfl, Lib.hid (Below.refl _ _), Lib.hid rfl⟩
      case round =>
        obtain ⟨i, hi, rfl, hBw, hNo⟩ := hrel
        have hZw := hZ2.out.below hBw.out hzl2
        have hXw := hX2.out.below hBw.out hxl2
        have hBx := Lib.hid (hB2.out.trans (hBw.out.mono hB2.out.size))
        obtain ⟨z0, z1, z2, z3, g0, g1, g2, g3⟩ := own4z hZw
        obtain ⟨x0, x1, x2⟩ := own3c hXw
        have hzw : w.heap.size + 1 < wr.heap.size := hZw.lt
        have hxw : w1.heap.size < wr.heap.size := hXw.lt
        clear hZw hXw
        by_cases hil : i < attrs.length
        case neg =>
          have hE := Lib.hid (findA_end hil hNo.out)
          go_wp2
          refine bodyPost_ret (v := .tuple #[.agg #[.int .i64 0, .int .i64 0, .string ⟨#[]⟩, .slice none 0 0], .bool false]) (by simp [results, Tryz.results14, go_sem, z0, z1, z2, z3]) rfl ?_
          refine ⟨?_, (((hBx.out.setCell (by simp <;> omega) _).setCell (by simp <;> omega) _).setCell (by simp <;> omega) _).setCell (by simp <;> omega) _⟩
          rw [look_attr hf.out hn1.out]
          simp only
          rw [hE.out]
          rfl
        obtain ⟨ab, ao, rfl, a0, a1, a2, a3, a4⟩ := ad_at (hC2.out.rows.mono (sub_of_below hBw.out)) hil
        have hAt := Lib.hid (hC0.out.each attrs[i] (List.getElem_mem hil))
        have i0 : (0 : Int) ≤ (i : Int) := by omega
        have i1 : (i : Int) < (attrs.length : Int) := by omega
        have hHit := Lib.hid (fun h1 => findA_hit hil h1 hNo.out)
        have hMiss := Lib.hid (fun h1 => findA_miss hil h1 hNo.out)
        have hab : ab < wr.heap.size := World.block_lt_of_cell? wr _ a0
        generalize attrs[i] = at' at a0 a1 a2 a3 a4 hAt hHit hMiss
        obtain ⟨an, av⟩ := at'
        simp only at a0 a1 a2 a3 a4
        cases hne : (an.toList == name.toList) with
        | false =>
          have hN := Lib.hid (hMiss.out hne)
          clear hHit hMiss hAt
          go_wp2
          go_roundw
          case rel => exact ⟨i + 1, by omega, by go_num, hBw, hN⟩
          case measure => simp [intOf]; omega
        | true =>
          have hN := Lib.hid (hHit.out hne)
          clear hHit hMiss
          go_wp2
          refine bodyPost_ret (v := .tuple #[.agg #[.int .i64 av.kind, .int .i64 av.num, .string av.text, .slice av.ptr av.len av.cap], .bool true]) (by simp [results, Tryz.results14, go_sem, z0, z1, z2, z3]) rfl ?_
          have hBz := (((hBx.out.setCell (p := ⟨w.heap.size + 1, 0, none⟩) (by simp <;> omega) (.int .i64 av.kind)).setCell (p := ⟨w.heap.size + 1, 1, none⟩) (by simp <;> omega) (.int .i64 av.num)).setCell (p := ⟨w.heap.size + 1, 2, none⟩) (by simp <;> omega) (.string av.text)).setCell (p := ⟨w.heap.size + 1, 3, none⟩) (by simp <;> omega) (.slice av.ptr av.len av.cap)
          refine ⟨?_, hBz⟩
          rw [look_attr hf.out hn1.out]
          simp only
          rw [hN.out]
          rfl

end Go.Proofs.YthnjgbjckggjhaaGreatDoor.subj.wide

namespace Go.Proofs.YthnjgbjckggjhaaGreatDoor.subj.wide
open Go.RowKit Go.Sort Go.Proofs.YthnjgbjckggjhaaGreatDoor Go.Proofs.YthnjgbjckggjhaaGreatDoor.schema Go.Proofs.YthnjgbjckggjhaaGreatDoor.value Go.Proofs.YthnjgbjckggjhaaGreatDoor.text Go.Proofs.YthnjgbjckggjhaaGreatDoor.clause Go.Proofs.YthnjgbjckggjhaaGreatDoor.draw

theorem _root_.Go.Proofs.YthnjgbjckggjhaaGreatDoor.subj.Aft.set {w u : World} (h : Aft w u) {p : Addr} (hp : w.heap.size ≤ p.block) (v : Value) : Aft w (u.setCell p v) := Below.setCell h hp v
def zeroC : CT := ⟨⟨#[]⟩, ⟨#[]⟩, none, 0, 0, []⟩
def zeroV : VD := ⟨0, 0, ⟨#[]⟩, none, 0, 0, []⟩
theorem SameV.refl (d : VD) : SameV d d := ⟨rfl, rfl, rfl, rfl⟩
theorem SameC.refl (c : CT) : SameC c c := ⟨rfl, rfl, rfl, fun _ _ _ => ⟨rfl, SameV.refl _⟩⟩
theorem zeroC_at (m : Mem) : CAt m zeroC := ⟨rows_nil _ _, fun a h => (List.not_mem_nil h).elim, by decide⟩
theorem zeroV_at (m : Mem) : LAt m zeroV := LAt.flat _ _ _ _ (by decide)
/-- The memory but for the blocks from lo up to hi. -/
def mOut (lo hi : Nat) (w : World) : Mem := fun p => if lo ≤ p.block ∧ p.block < hi then none else w.cell? p
theorem mOut_in (lo hi : Nat) (w : World) : Sub (mOut lo hi w) w.cell? := fun p v h => by
  unfold mOut at h
  split at h
  · cases h
  · exact h
theorem mOut_new (lo : Nat) {u u' : World} : Sub (newM u.heap.size 0 u') (mOut lo u.heap.size u') := fun p v h => by
  unfold newM at h
  split at h
  · cases h
  · rename_i hn
    unfold mOut
    rw [if_neg (fun hc => hn (Or.inl hc.2))]
    exact h
theorem mOut_old {w u' : World} (hb : Aft w u') (hi : Nat) : Sub w.cell? (mOut w.heap.size hi u') := fun p v h => by
  unfold mOut
  have := World.block_lt_of_cell? w _ h
  rw [if_neg (fun hc => by omega)]
  exact sub_of_below hb _ _ h
theorem mOut_set {lo hi : Nat} {w : World} {q : Addr} (h1 : lo ≤ q.block) (h2 : q.block < hi) (x : Value) : Sub (mOut lo hi w) (mOut lo hi (w.setCell q x)) := fun p v h => by
  unfold mOut at h ⊢
  split at h
  · cases h
  · rename_i hn
    rw [if_neg hn]
    exact (excl_sub [q.block] _) _ _ (excl_set (by simp) x _ _ (excl_mk (by simp; intro e; rw [e] at hn; exact hn ⟨h1, h2⟩) h))
/-- A context found, or the zero one. -/
def FndR (o : Option CT) (lo hi : Nat) (e : Ending) (w : World) : Prop := ∃ c : CT, e = .returned (.tuple #[.agg #[.string c.kind, .string c.key, .slice c.ptr c.len c.cap], .bool o.isSome]) ∧ SameC c (o.getD zeroC) ∧ CAt (mOut lo hi w) c
/-- A value looked up, or the zero one. -/
def LkR (o : Option VD) (lo hi : Nat) (e : Ending) (w : World) : Prop := ∃ d : VD, e = .returned (.tuple #[.agg #[.int .i64 d.kind, .int .i64 d.num, .string d.text, .slice d.ptr d.len d.cap], .bool o.isSome]) ∧ SameV d (o.getD zeroV) ∧ LAt (mOut lo hi w) d
theorem fndP (l : List CT) (a : Option Addr) (n c : Nat) (kind : ByteArray) (w u : World) (hw : Aft w u) (h : SAt w.cell? (.slice a n c) l) (hfew : ∀ x ∈ l, x.attrs.length ≤ 1099511627776) :
    Calls Tryz.prog 10 #[.agg #[.slice a n c], .string kind] u fun e u' => FndR (findS kind.toList l) w.heap.size u.heap.size e u' ∧ Aft u u' := by
  refine (found_any l a n c kind u (h.mono (sub_of_below hw)) hfew).mono ?_
  rintro e w' ⟨hf, hb⟩
  refine ⟨?_, hb⟩
  cases ho : findS kind.toList l with
  | none => rw [ho] at hf; exact ⟨zeroC, hf, SameC.refl _, zeroC_at _⟩
  | some x => rw [ho] at hf; obtain ⟨d, h1, h2, h3⟩ := hf; exact ⟨d, h1, h2, h3.mono (mOut_new _)⟩
theorem fndF (l : List CT) (a : Option Addr) (n c : Nat) (kind : ByteArray) (w u : World) (hw : Aft w u) (h : SAt w.cell? (.slice a n c) l) :
    Calls Tryz.prog 11 #[.agg #[.slice a n c], .string kind] u fun e u' => FndR (findS kind.toList l) w.heap.size u.heap.size e u' ∧ Aft u u' := by
  refine (find_ref l a n c kind u (h.mono (sub_of_below hw)).rows).mono ?_
  rintro e w' ⟨hf, hb⟩
  refine ⟨?_, hb⟩
  cases ho : findS kind.toList l with
  | none => rw [ho] at hf; exact ⟨zeroC, hf, SameC.refl _, zeroC_at _⟩
  | some x => rw [ho] at hf; exact ⟨x, hf, SameC.refl _, (h.each x (findS_mem ho)).mono (mOut_old (Aft.next hb hw) _)⟩
theorem lkP (l : List CT) (a : Option Addr) (n c : Nat) (kind name : ByteArray) (w u : World) (hw : Aft w u) (h : SAt w.cell? (.slice a n c) l) :
    Calls Tryz.prog 13 #[.agg #[.slice a n c], .string kind, .string name] u fun e u' => LkR (lookS l kind.toList name.toList) w.heap.size u.heap.size e u' ∧ Aft u u' := by
  refine (lookN_any l a n c kind name u (h.mono (sub_of_below hw))).mono ?_
  rintro e w' ⟨hf, hb⟩
  refine ⟨?_, hb⟩
  cases ho : lookS l kind.toList name.toList with
  | none => rw [ho] at hf; exact ⟨zeroV, hf, SameV.refl _, zeroV_at _⟩
  | some x => rw [ho] at hf; obtain ⟨d, h1, h2, h3⟩ := hf; exact ⟨d, h1, h2, h3.mono (mOut_new _)⟩
theorem findA_at {m : Mem} {name : List UInt8} : ∀ {l : List AD} {x : VD}, (∀ a ∈ l, LAt m a.val) → findA name l = some x → LAt m x
  | [], x, _, ho => by cases ho
  | a :: r, x, h, ho => by
    rw [findA] at ho
    split at ho
    · injection ho with ho
      subst ho
      exact h a (by simp)
    · exact findA_at (fun b hb => h b (by simp [hb])) ho
/-- What is looked up lies where the subject lies. -/
theorem look_at {m : Mem} {v : Value} {l : List CT} (h : SAt m v l) {kind name : List UInt8} {x : VD} (ho : lookS l kind name = some x) : LAt m x := by
  unfold lookS at ho
  split at ho
  · cases ho
  · rename_i c hc
    have hC := h.each c (findS_mem hc)
    split at ho
    · injection ho with ho
      subst ho
      exact LAt.flat _ _ _ _ hC.key
    · exact findA_at hC.each ho
theorem lkF (l : List CT) (a : Option Addr) (n c : Nat) (kind name : ByteArray) (w u : World) (hw : Aft w u) (h : SAt w.cell? (.slice a n c) l) :
    Calls Tryz.prog 14 #[.agg #[.slice a n c], .string kind, .string name] u fun e u' => LkR (lookS l kind.toList name.toList) w.heap.size u.heap.size e u' ∧ Aft u u' := by
  refine (lookF_ref l a n c kind name u (h.mono (sub_of_below hw))).mono ?_
  rintro e w' ⟨hf, hb⟩
  refine ⟨?_, hb⟩
  cases ho : lookS l kind.toList name.toList with
  | none => rw [ho] at hf; exact ⟨zeroV, hf, SameV.refl _, zeroV_at _⟩
  | some x => rw [ho] at hf; exact ⟨x, hf, SameV.refl _, (look_at h ho).mono (mOut_old (Aft.next hb hw) _)⟩
theorem eqV_two {x y z : VD} (h : SameV x y) (h' : SameV z y) : eqV x z = true := by
  obtain ⟨h1, h2, h3, h4⟩ := h
  obtain ⟨g1, g2, g3, g4⟩ := h'
  unfold eqV eqVV
  rw [h1, h2, h3, h4, g1, g2, g3, g4]
  simp
theorem ceq_two {x y z : CT} (h : SameC x y) (h' : SameC z y) : CEq x z := by
  obtain ⟨h1, h2, h3⟩ := h
  obtain ⟨g1, g2, g3⟩ := h'
  refine ⟨by rw [h1, g1]; simp, by rw [h2, g2]; simp, h3.1.trans g3.1.symm, fun i p q => ?_⟩
  have hy : i < y.attrs.length := by have := h3.1; omega
  obtain ⟨e1, e2⟩ := h3.2 i p hy
  obtain ⟨f1, f2⟩ := g3.2 i q hy
  exact ⟨by rw [e1, f1]; simp, eqV_two e2 f2⟩
/-- A subject of one context. -/
theorem one_at {w : World} {g : Nat} {c : CT} {t : TypeId} (h : Own w g #[.string c.kind, .string c.key, .slice c.ptr c.len c.cap] t) (hc : CAt w.cell? c) : SAt w.cell? (.slice (some ⟨g, 0, none⟩) 1 1) [c] := by
  refine ⟨⟨_, _, rfl, by simp, by unfold maxLen; simp, Or.inr ⟨g, 0, rfl, fun i r hi j x hx => ?_⟩⟩, fun y hy => by obtain rfl := List.mem_singleton.1 hy; exact hc⟩
  match i, hi with
  | 0, hi =>
    injection hi with hi
    subst hi
    rw [show 0 + 0 * 3 + j = j by omega, h.cell j]
    simpa [CT.row] using hx
  | i + 1, hi => simp at hi
theorem pairs_one {c d : CT} (h : CEq c d) : Pairs CEq [c] [d] := ⟨rfl, fun i p q => by
  obtain rfl : i = 0 := by simp at p; exact p
  exact h⟩

theorem okSub_fewR {l : List CT} (h : okSub l) : ∀ c ∈ l, c.attrs.length ≤ 8 := fun c hc => by
  have h1 := (okSub_eachR h c hc).2.2.1.length_le
  have h2 : (namesD c.kind 8).length ≤ 8 := by
    unfold namesD
    rw [List.length_map]
    exact Nat.le_trans (List.length_filter_le _ _) (by decide)
  simp at h1
  omega

end Go.Proofs.YthnjgbjckggjhaaGreatDoor.subj.wide
