/- The program's search by halves among sorted attributes. -/
import Derived.Test.YtamkmdlfhlbbeaaGreatDoorKJ20
import Derived.Test.YtamkmdlfhlbbeaaGreatDoorKSuK
namespace Go.Proofs.YtamkmdlfhlbbeaaGreatDoor.subj
open Go.RowKit Go.Proofs.YtamkmdlfhlbbeaaGreatDoor Go.Proofs.YtamkmdlfhlbbeaaGreatDoor.schema Go.Proofs.YtamkmdlfhlbbeaaGreatDoor.value Go.Proofs.YtamkmdlfhlbbeaaGreatDoor.text Go.Proofs.YtamkmdlfhlbbeaaGreatDoor.clause Go.Proofs.YtamkmdlfhlbbeaaGreatDoor.draw

set_option maxHeartbeats 1000000 in
theorem with_cmp (d : AD) (x : ByteArray) (w : World) :
    Calls Tryz.prog 76 #[.agg #[.string d.name, .int .i64 d.val.kind, .int .i64 d.val.num, .string d.val.text, .slice d.val.ptr d.val.len d.val.cap], .string x] w fun e w' => e = .returned (.int .i64 (Lib.compareBytes d.name.data.toList x.data.toList)) ∧ Below w.heap.size w w' := by
  have hB := Lib.hid (show Below w.heap.size w (w.alloc (.cells #[.string d.name, .int .i64 d.val.kind, .int .i64 d.val.num, .string d.val.text, .slice d.val.ptr d.val.len d.val.cap] 79)) from (Below.refl _ _).alloc (Nat.le_refl _) _)
  go_enter Tryz.func76, Tryz.ntmps76
  go_wp2_with fail
  refine (Tryz.strings_Compare d.name x _).mono ?_
  rintro e w1 ⟨rfl, rfl⟩
  go_wp2
  go_ret
  exact ⟨rfl, hB.out⟩

set_option maxRecDepth 100000 in
set_option maxHeartbeats 4000000 in
theorem bsearch_any (l : List AD) (a : Option Addr) (n c : Nat) (x : ByteArray) (w : World) (h : RowsAt w.cell? 5 (.slice a n c) (l.map AD.row)) (ha : Asc l) (hn : l.length ≤ 1099511627776) :
    Calls Tryz.prog 75 #[.slice a n c, .string x, .func (.func 76) #[] #[]] w fun e w' => e = .returned (.tuple #[.int .i64 (posA x.data.toList l), .bool (hasAt x.data.toList l (posA x.data.toList l))]) ∧ Below w.heap.size w w' := by
  have hln := (len_of h).1
  simp only [List.length_map] at hln
  subst hln
  have hR := Lib.hid h
  replace ha := Lib.hid ha
  clear h
  have hS := Lib.hid (Halves.start x.data.toList l)
  go_enter Tryz.func75, Tryz.ntmps75
  go_wp2
  go_loopw [9, 10] (fun s9 s10 wr => ∃ i j : Nat, s9 = .int .i64 i ∧ s10 = .int .i64 j ∧ Hid (Halves x.data.toList l i j) ∧ Hid (Below w.heap.size w wr)) (fun s9 s10 _ => (intOf s10).toNat - (intOf s9).toNat)
  case atStart => exact ⟨0, l.length, rfl, rfl, hS, Lib.hid (Below.refl _ _)⟩
  case round =>
    clear hS
    obtain ⟨i, j, rfl, rfl, hH, hB⟩ := hrel
    have hle := hH.out.le
    have hjl := hH.out.len
    by_cases hlt : i < j
    case neg =>
      obtain rfl : i = j := by omega
      have hi := Lib.hid hH.out.done
      by_cases hin : i < l.length
      case neg =>
        have hz := Lib.hid (hasAt_out (x := x.data.toList) hin)
        have hin' : ¬ ((i : Int) < (l.length : Int)) := by omega
        go_wp2
        refine bodyPost_ret (v := .tuple #[.int .i64 i, .bool false]) (by simp [results, Tryz.results75, go_sem]) rfl ?_
        rw [← hi.out, hz.out]
        exact ⟨rfl, hB.out⟩
      obtain ⟨blk, off, rfl, v0, v1, v2, v3, v4⟩ := ad_at (hR.out.mono (sub_of_below hB.out)) hin
      have hz := Lib.hid (hasAt_in (x := x.data.toList) hin)
      generalize l[i] = d at v0 v1 v2 v3 v4 hz
      have n0 : (0 : Int) ≤ (i : Int) := by omega
      have n1 : (i : Int) < (l.length : Int) := by omega
      go_wp2_with fail
      refine (with_cmp d x _).mono ?_
      rintro e w1 ⟨rfl, hb⟩
      have hb' := Lib.hid (hB.out.trans (hb.mono hB.out.size))
      have hc := Lib.hid (compare_eq d.name.data.toList x.data.toList)
      generalize Lib.compareBytes d.name.data.toList x.data.toList = q at hc
      clear hb v0 v1 v2 v3 v4
      go_wp2
      refine bodyPost_ret (v := .tuple #[.int .i64 i, .bool (q == 0)]) (by simp [results, Tryz.results75, go_sem]) rfl ?_
      rw [← hi.out, hz.out]
      refine ⟨?_, hb'.out⟩
      rw [show (q == 0) = (d.name.data.toList == x.data.toList) by rw [Bool.eq_iff_iff]; simpa using hc.out]
    obtain ⟨m, hm⟩ : ∃ m : Nat, m = (i + j) / 2 := ⟨_, rfl⟩
    have hmi : i ≤ m := by omega
    have hmj : m < j := by omega
    have hml : m < l.length := by omega
    obtain ⟨blk, off, rfl, v0, v1, v2, v3, v4⟩ := ad_at (hR.out.mono (sub_of_below hB.out)) hml
    have hbef := Lib.hid (show befA x.data.toList l[m] = Op.bytesLess l[m].name.data.toList x.data.toList from rfl)
    have hup := Lib.hid (fun hb => hH.out.up ha.out hmj hml hb)
    have hdn := Lib.hid (fun hb => hH.out.down ha.out hmi hml hb)
    generalize befA x.data.toList l[m] = bm at hbef hup hdn
    generalize l[m] = d at v0 v1 v2 v3 v4 hbef
    have n0 : (0 : Int) ≤ (m : Int) := by omega
    have n1 : (m : Int) < (l.length : Int) := by omega
    have hw1 : IntKind.i64.wrap ((i : Int) + (j : Int)) = (i : Int) + (j : Int) := by rw [IntKind.wrap_i64]; omega
    have hw2 : IntKind.u64.wrap ((i : Int) + (j : Int)) = (i : Int) + (j : Int) := by rw [IntKind.wrap_u64]; omega
    subst hm
    go_wp2_with fail
    refine (with_cmp d x _).mono ?_
    rintro e w1 ⟨rfl, hb⟩
    have hb' := Lib.hid (hB.out.trans (hb.mono hB.out.size))
    have hc := compare_lt d.name.data.toList x.data.toList
    rw [← hbef.out] at hc
    generalize Lib.compareBytes d.name.data.toList x.data.toList = q at hc
    clear hb v0 v1 v2 v3 v4 hbef
    by_cases hq : q < 0
    · have hu := Lib.hid (hup.out (hc.1 hq))
      clear hup hdn hc
      go_wp2
      go_roundw
      case rel => exact ⟨(i + j) / 2 + 1, j, by go_num, rfl, hu, hb'⟩
      case measure => simp [intOf]; omega
    · have hu := Lib.hid (hdn.out (by cases bm with | false => rfl | true => exact absurd (hc.2 rfl) hq))
      clear hup hdn hc
      go_wp2
      go_roundw
      case rel => exact ⟨i, (i + j) / 2, rfl, by go_num, hu, hb'⟩
      case measure => simp [intOf]; omega

end Go.Proofs.YtamkmdlfhlbbeaaGreatDoor.subj

