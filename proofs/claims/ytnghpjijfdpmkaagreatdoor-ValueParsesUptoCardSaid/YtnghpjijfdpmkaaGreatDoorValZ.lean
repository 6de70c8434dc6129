/- The texts of a list behind its opening bracket: the program's list of chapter 3. -/
import Derived.Test.YtnghpjijfdpmkaaGreatDoorValY
import Derived.Test.YtnghpjijfdpmkaaGreatDoorValT
import Derived.Test.YtnghpjijfdpmkaaGreatDoorTextV
import Derived.Laws.AppendOwn
namespace Go.Proofs.YtnghpjijfdpmkaaGreatDoor.value
open Go.RowKit Go.Proofs.YtnghpjijfdpmkaaGreatDoor.text

/-- The value that the texts behind a bracket give. -/
def listV (l : List UInt8) : VV := match listG 21 l [] with | none => ⟨0, 0, [], []⟩ | some L => ⟨5, 0, [], L⟩
/-- Rows that lie from block n on. -/
def LFrom (n : Nat) (la : Option Addr) : Prop := ∀ a, la = some a → n ≤ a.block
theorem LFrom.le {n m : Nat} {la : Option Addr} (h : LFrom n la) (hm : m ≤ n) : LFrom m la := fun a e => Nat.le_trans hm (h a e)
theorem lfrom_owns {w : World} {base n : Nat} {e : TypeId} {va : Option Addr} {vc : Nat} {xs : List Value} (h : w.ownsRow base e 1 (.slice va n vc) n xs) : LFrom base va := fun a q => (h.lt a.block (by rw [q]; rfl)).1
/-- What list gives: the value, with its texts in memory. -/
def LPost (v : VV) (w : World) (e : Ending) (w' : World) : Prop :=
  ∃ (t : ByteArray) (la : Option Addr) (lc : Nat) (ls : List ByteArray), e = .returned (.agg #[.int .i64 v.k, .int .i64 v.n, .string t, .slice la ls.length lc]) ∧ VOk w' v t la ls ∧ ls.length ≤ 21 ∧ LFrom w.heap.size la ∧ Below w.heap.size w w'
def lenAt (b : Nat) (w : World) : Nat := match w.cell? ⟨b, 3, none⟩ with | some (.slice _ n _) => n | _ => 0
theorem listG_end (f : Nat) (acc : List (List UInt8)) : listG f [93] acc = some acc := by cases f with | zero => rfl | succ f => rw [listG, if_pos rfl]
theorem listG_bad {f : Nat} {l : List UInt8} {acc : List (List UInt8)} (h : l ≠ [93]) (hu : uqS (l.take (quotedN l)) = none) : listG (f + 1) l acc = none := by rw [listG, if_neg h, hu]
theorem listG_ok {f : Nat} {l t : List UInt8} {acc : List (List UInt8)} (h : l ≠ [93]) (hu : uqS (l.take (quotedN l)) = some t) : listG (f + 1) l acc = listG f (trimC (l.drop (quotedN l))) (acc ++ [t]) := by rw [listG, if_neg h, hu]
theorem uq_ways (l : List UInt8) : (∃ q : Int, (q != 0) = true ∧ unquoteV l = .tuple #[.string ⟨#[]⟩, .int .i64 q] ∧ uqS l = none) ∨ ∃ b : List UInt8, unquoteV l = .tuple #[.string ⟨b.toArray⟩, .int .i64 0] ∧ uqS l = some b := by
  unfold unquoteV uqS
  cases h : unquoteS l with
  | none => exact Or.inl ⟨1, rfl, rfl, rfl⟩
  | some b =>
    cases hv : validS b with
    | false => exact Or.inl ⟨2, rfl, by simp [hv], by simp [hv]⟩
    | true => exact Or.inr ⟨b, by simp [hv], by simp [hv]⟩
theorem lin_owns {w : World} {base : Nat} {va : Option Addr} {vc : Nat} {acc : List ByteArray} (h : w.ownsRow base 9 1 (.slice va acc.length vc) acc.length (acc.map Value.string)) : LIn w va acc := by
  rcases h.2 with ⟨h1, h0⟩ | ⟨g, cap, cur, h1, hb, hg, hnc, hcm, hcs, htake⟩
  · exact Or.inl (List.eq_nil_of_length_eq_zero h0)
  · injection h1 with h1 _ _
    refine Or.inr ⟨g, 0, h1, fun k hk => ?_⟩
    have h2 : (acc.map Value.string)[k]? = some (.string acc[k]) := by simp [hk]
    rw [← htake, List.getElem?_take] at h2
    split at h2
    · simp [World.cell?, hg]
      simpa using h2
    · cases h2
theorem trim_lib (l : List UInt8) : Lib.trimPrefix l [44, 32] = trimC l := by
  unfold Lib.trimPrefix trimC
  rfl
theorem gset (w : World) (b o : Nat) (v : Value) : w.grownBy (w.setCell ⟨b, o, none⟩ v) (some b) :=
  ⟨rfl, rfl, rfl, by simp [World.setCell], fun k _ hne => Below.heap_setCell w ⟨b, o, none⟩ v k (by intro e; exact hne (by rw [e]))⟩
theorem own_set4 {w : World} {base b : Nat} {e : TypeId} {sz : Nat} {v : Value} {n : Nat} {xs : List Value} (h : w.ownsRow base e sz v n xs) (hb : b < base) (x0 x1 x2 x3 : Value) :
    ((((w.setCell ⟨b, 0, none⟩ x0).setCell ⟨b, 1, none⟩ x1).setCell ⟨b, 2, none⟩ x2).setCell ⟨b, 3, none⟩ x3).ownsRow base e sz v n xs :=
  owns_kept (owns_kept (owns_kept (owns_kept h (gset _ _ _ _) hb) (gset _ _ _ _) hb) (gset _ _ _ _) hb) (gset _ _ _ _) hb

set_option maxRecDepth 100000 in
set_option maxHeartbeats 2000000 in
theorem list_any (s : ByteArray) (w : World) (hs : s.size ≤ 140737488355328) (hT : Tabs w) :
    Calls Tryz.prog 59 #[.string s] w (LPost (listV s.data.toList) w) := by
  replace hT := Lib.hid hT
  obtain ⟨i0, hi, hz0, hz1, hz2⟩ := info_parts infoStr
  have hO2 := Lib.hid (show Own ((w.alloc (.cells zero4 24)).alloc (.cells #[.int .i64 5, .int .i64 0, .string ⟨#[]⟩, .slice none 0 0] 24)) w.heap.size zero4 24 from (Own.new w zero4 _).alloc _)
  have hO3 := Lib.hid (show Own ((w.alloc (.cells zero4 24)).alloc (.cells #[.int .i64 5, .int .i64 0, .string ⟨#[]⟩, .slice none 0 0] 24)) (w.heap.size + 1) #[.int .i64 5, .int .i64 0, .string ⟨#[]⟩, .slice none 0 0] 24 from Own.new' (by simp))
  have hB := Lib.hid (show Below w.heap.size w ((w.alloc (.cells zero4 24)).alloc (.cells #[.int .i64 5, .int .i64 0, .string ⟨#[]⟩, .slice none 0 0] 24)) from ((Below.refl _ _).alloc (Nat.le_refl _) _).alloc (by simp) _)
  go_enter Tryz.func59, Tryz.ntmps59
  go_wp2
  unfold zero4 at hO2 hO3 hB
  generalize World.alloc (World.alloc w (.cells _ 24)) (.cells _ 24) = w0 at hO2 hO3 hB ⊢
  go_loopw [0] (fun v wr => ∃ (t : ByteArray) (va : Option Addr) (vc : Nat) (acc : List ByteArray), v = .string t ∧ t.size ≤ 140737488355328 ∧ acc.length ≤ 21 ∧ Hid (listG 21 s.data.toList [] = listG (21 - acc.length) t.data.toList (lsL acc)) ∧
    Hid (Own wr w.heap.size #[.int .i64 0, .int .i64 0, .string ⟨#[]⟩, .slice none 0 0] 24) ∧ Hid (Own wr (w.heap.size + 1) #[.int .i64 5, .int .i64 0, .string ⟨#[]⟩, .slice va acc.length vc] 24) ∧
    Hid (wr.ownsRow (w.heap.size + 2) 9 1 (.slice va acc.length vc) acc.length (acc.map Value.string)) ∧ Hid (Below w.heap.size w wr)) (fun _ wr => 22 - lenAt (w.heap.size + 1) wr)
  case atStart => exact ⟨s, none, 0, [], rfl, hs, Nat.zero_le _, rfl, hO2.out, hO3.out, World.ownsRow_nil _ _ _ _, hB.out⟩
  case round =>
    clear hO2 hO3 hB
    obtain ⟨t, va, vc, acc, rfl, ht, hacc, hG, hO2, hO3, hown, hB⟩ := hrel
    have hlen := Lib.hid (show lenAt (w.heap.size + 1) wr = acc.length by unfold lenAt; rw [hO3.out.cell 3]; rfl)
    obtain ⟨c0, c1, c2, c3, f0, f1, f2, f3⟩ := own4 hO3.out
    obtain ⟨d0, d1, d2, d3, g0, g1, g2, g3⟩ := own4 hO2.out
    have hsz := hO3.out.lt
    by_cases he : t.toList = [93]
    · have q1 : (!t.toList == [93]) = false := by rw [he]; rfl
      have hV := Lib.hid (show listV s.data.toList = ⟨5, 0, [], lsL acc⟩ by
        have h1 := hG.out
        rw [← ByteArray.toList_eq t, he, listG_end] at h1
        unfold listV
        rw [h1])
      clear he
      go_wp2
      refine bodyPost_ret (v := .agg #[.int .i64 5, .int .i64 0, .string ⟨#[]⟩, .slice va acc.length vc]) (by simp [results, Tryz.results59, go_sem, d0, d1, d2, d3]) rfl ?_
      refine ⟨⟨#[]⟩, va, vc, acc, by rw [hV.out], ⟨by rw [hV.out], lin_owns (own_set4 hown.out (by omega) _ _ _ _), by rw [hV.out]⟩, hacc, (lfrom_owns hown.out).le (by omega), ?_⟩
      exact (((hB.out.setCell (by simp) _).setCell (by simp) _).setCell (by simp) _).setCell (by simp) _
    · have q1 : (!t.toList == [93]) = true := by simp [he]
      have he2 : t.data.toList ≠ [93] := by rw [← ByteArray.toList_eq]; exact he
      by_cases h20 : acc.length ≤ 20
      · obtain ⟨f, hf⟩ : ∃ f, 21 - acc.length = f + 1 := ⟨20 - acc.length, by omega⟩
        have hq := quotedN_le t.data.toList
        replace he2 := Lib.hid he2
        replace hf := Lib.hid hf
        clear he
        go_wp2_with fail
        refine (quotedV_any t _ ht).mono ?_
        rintro e w1 ⟨rfl, rfl⟩
        obtain ⟨n, hn⟩ : ∃ n, Hid (n = quotedN t.data.toList) := ⟨_, rfl⟩
        rw [← hn.out] at hq ⊢
        have hnz : n ≤ t.size := by simpa using hq
        obtain ⟨x, hx⟩ : ∃ x : ByteArray, Hid (x = t.extract 0 n) := ⟨_, rfl⟩
        have hxd := Lib.hid (show x.data.toList = t.data.toList.take (quotedN t.data.toList) by rw [hx.out, Lib.extract_data, ← hn.out]; simp)
        have hxz : x.size ≤ 140737488355328 := by rw [hx.out]; simp; omega
        clear hq
        go_wp2_with fail
        rw [← hx.out]
        refine (unquote_any x _ hxz (hT.out.below hB.out).runes).mono ?_
        rintro e w2 ⟨rfl, hb2⟩
        rw [hxd.out]
        have hO2' := Lib.hid (hO2.out.below hb2 hO2.out.lt)
        have hO3' := Lib.hid (hO3.out.below hb2 hO3.out.lt)
        have hown' := Lib.hid (hown.out.kept (grown_of_below hb2 none) (by cases va <;> simp [Value.ownBlock]))
        have hB' := Lib.hid (hB.out.trans (hb2.mono hB.out.size))
        clear hb2 hO2 hO3 hown hB c0 c1 c2 c3 f0 f1 f2 f3 d0 d1 d2 d3 g0 g1 g2 g3 hsz
        obtain ⟨c0, c1, c2, c3, f0, f1, f2, f3⟩ := own4 hO3'.out
        obtain ⟨d0, d1, d2, d3, g0, g1, g2, g3⟩ := own4 hO2'.out
        have hsz := hO3'.out.lt
        rcases uq_ways (t.data.toList.take (quotedN t.data.toList)) with ⟨q, hq0, hu, hu2⟩ | ⟨b, hu, hu2⟩
        · rw [hu]
          have hV := Lib.hid (show listV s.data.toList = ⟨0, 0, [], []⟩ by
            have h1 := hG.out
            rw [hf.out, listG_bad he2.out hu2] at h1
            unfold listV
            rw [h1])
          clear hu hu2
          go_wp2
          refine bodyPost_ret (v := .agg #[.int .i64 0, .int .i64 0, .string ⟨#[]⟩, .slice none 0 0]) (by simp [results, Tryz.results59, go_sem, d0, d1, d2, d3]) rfl ?_
          refine ⟨⟨#[]⟩, none, 0, [], by rw [hV.out]; rfl, ⟨by rw [hV.out], Or.inl rfl, by rw [hV.out]; rfl⟩, by simp, (fun a e => by cases e), ?_⟩
          exact (((hB'.out.setCell (by simp) _).setCell (by simp) _).setCell (by simp) _).setCell (by simp) _
        · rw [hu]
          have hG2 := Lib.hid (show listG 21 s.data.toList [] = listG f (trimC (t.data.toList.drop (quotedN t.data.toList))) (lsL acc ++ [b]) by
            have h1 := hG.out
            rw [hf.out, listG_ok he2.out hu2] at h1
            exact h1)
          clear hu hu2
          obtain ⟨u, hub⟩ : ∃ u : ByteArray, Hid (u = ⟨b.toArray⟩) := ⟨⟨b.toArray⟩, rfl⟩
          rw [← hub.out]
          go_wp2_with (at_builtin; refine wpList_append_own _ rfl _ _ 22 rfl (w.heap.size + 2) 9 i0 (.string ⟨#[]⟩) 1 16 Tryz.underlying22 hi hz0 hz1 hz2 rfl (by decide) _ acc.length _ rfl (hown'.out.alloc (.cells #[.string u] 9)) ⟨w2.heap.size, 0, none⟩ 1 1 [.string u] rfl rfl (World.news_of_block (cs := #[.string u]) (t := 9) (fr := (0, 0)) (Own.new' rfl)) (by simp; rfl) (by unfold maxLen; omega) (by omega) (by simp; omega) ?_; intro v' w3 hown3 hgrow hnil; clear hnil; obtain ⟨va', vc', hv'⟩ := owns_slice hown3; subst hv'; have hO23 := Lib.hid ((hO2'.out.alloc (.cells #[.string u] 9)).kept hgrow (row_far (hown'.out.alloc (.cells #[.string u] 9)) (by omega))); have hO33 := Lib.hid ((hO3'.out.alloc (.cells #[.string u] 9)).kept hgrow (row_far (hown'.out.alloc (.cells #[.string u] 9)) (by omega))); have hB3 := Lib.hid ((hB'.out.alloc hB'.out.size (.cells #[.string u] 9)).grown hgrow (by simp; omega) (fun k hk => by have := ((hown'.out.alloc (.cells #[.string u] 9)).lt k hk).1; omega)); replace hown3 := Lib.hid hown3; clear hgrow c0 c1 c2 c3 f0 f1 f2 f3 d0 d1 d2 d3 g0 g1 g2 g3 hsz; obtain ⟨c0, c1, c2, c3, f0, f1, f2, f3⟩ := own4 hO33.out)
          obtain ⟨y, hy⟩ : ∃ y : ByteArray, Hid (y = t.extract n t.size) := ⟨_, rfl⟩
          have hyd := Lib.hid (show y.data.toList = t.data.toList.drop (quotedN t.data.toList) by rw [hy.out, Lib.extract_to_end, ← hn.out])
          have hyz : y.size ≤ 140737488355328 := by rw [hy.out]; simp; omega
          rw [← hy.out]
          refine (Tryz.strings_TrimPrefix y ⟨#[44, 32]⟩ _).mono ?_
          rintro e w4 ⟨rfl, rfl⟩
          obtain ⟨z, hzd⟩ : ∃ z : ByteArray, Hid (z = ⟨(Lib.trimPrefix y.data.toList [44, 32]).toArray⟩) := ⟨_, rfl⟩
          rw [← hzd.out]
          have hG4 := Lib.hid (show listG 21 s.data.toList [] = listG (21 - (acc.length + 1)) z.data.toList (lsL (acc ++ [u])) by
            rw [hG2.out, show 21 - (acc.length + 1) = f by have := hf.out; omega]
            have e1 : z.data.toList = trimC (t.data.toList.drop (quotedN t.data.toList)) := by rw [hzd.out, hyd.out, trim_lib]
            have e2 : lsL (acc ++ [u]) = lsL acc ++ [b] := by rw [hub.out]; simp [lsL]
            rw [e1, e2])
          have hzz : z.size ≤ 140737488355328 := by
            have h1 : z.data.toList.length ≤ y.data.toList.length := by
              rw [hzd.out]; unfold Lib.trimPrefix; split <;> simp
            simp at h1; omega
          clear hG2
          go_wp2
          go_roundw
          case rel => exact ⟨z, va', vc', acc ++ [u], rfl, hzz, by simp; omega, by rw [List.length_append]; exact hG4.out, hO23.out.setOther (by simp) _, by rw [List.length_append]; exact hO33.out.set 3 _, by rw [List.length_append, List.map_append]; exact owns_kept hown3.out (gset _ _ _ _) (by omega), hB3.out.setCell (by simp) _⟩
          case measure =>
            have e1 := hlen.out
            have e2 : lenAt (w.heap.size + 1) (w3.setCell ⟨w.heap.size + 1, 3, none⟩ (.slice va' (acc.length + 1) vc')) = acc.length + 1 := by
              unfold lenAt
              rw [(hO33.out.set 3 _).cell 3]
              rfl
            rw [e1]
            omega
      · have q2 : acc.length = 21 := by omega
        have hV := Lib.hid (show listV s.data.toList = ⟨5, 0, [], lsL acc⟩ by
          have h1 := hG.out
          rw [q2, show 21 - 21 = 0 from rfl, listG] at h1
          unfold listV
          rw [h1])
        have q3 : decide ((acc.length : Int) ≤ 20) = false := by simp; omega
        clear he h20 q2 he2
        go_wp2
        refine bodyPost_ret (v := .agg #[.int .i64 5, .int .i64 0, .string ⟨#[]⟩, .slice va acc.length vc]) (by simp [results, Tryz.results59, go_sem, d0, d1, d2, d3]) rfl ?_
        refine ⟨⟨#[]⟩, va, vc, acc, by rw [hV.out], ⟨by rw [hV.out], lin_owns (own_set4 hown.out (by omega) _ _ _ _), by rw [hV.out]⟩, hacc, (lfrom_owns hown.out).le (by omega), ?_⟩
        exact (((hB.out.setCell (by simp) _).setCell (by simp) _).setCell (by simp) _).setCell (by simp) _

end Go.Proofs.YtnghpjijfdpmkaaGreatDoor.value
