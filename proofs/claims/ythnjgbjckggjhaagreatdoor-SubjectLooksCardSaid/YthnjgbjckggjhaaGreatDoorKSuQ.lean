/- The canonical text of a subject: the program's and the reference's. -/
import Derived.Test.YthnjgbjckggjhaaGreatDoorKSuE
import Derived.Test.YthnjgbjckggjhaaGreatDoorKSuN
import Derived.Test.YthnjgbjckggjhaaGreatDoorKJ19
import Derived.Test.YthnjgbjckggjhaaGreatDoorKTextG
import Derived.Deep.AppendLies
namespace Go.Proofs.YthnjgbjckggjhaaGreatDoor.subj
open Go.RowKit Go.Proofs.YthnjgbjckggjhaaGreatDoor Go.Proofs.YthnjgbjckggjhaaGreatDoor.schema Go.Proofs.YthnjgbjckggjhaaGreatDoor.value Go.Proofs.YthnjgbjckggjhaaGreatDoor.text Go.Proofs.YthnjgbjckggjhaaGreatDoor.clause Go.Proofs.YthnjgbjckggjhaaGreatDoor.draw

def canV (l : List CT) : Value := .tuple #[.string ⟨(canS l).1.toArray⟩, .int .i64 (canS l).2]
/-- A context's part, as bytes. -/
def canB (c : CT) : ByteArray := c.kind ++ ⟨#[58]⟩ ++ ⟨(quoteS c.key.data.toList).toArray⟩
theorem canB_list (c : CT) : (canB c).data.toList = canC c := by simp [canB, canC, ByteArray.data_append]
theorem key_small {l : List UInt8} (h : keyS l = true) : l.length ≤ 32 := by
  unfold keyS at h
  simp only [Bool.and_eq_true, decide_eq_true_eq] at h
  exact h.1.2
theorem subGo_all : ∀ (l : List CT) (p : Option (List UInt8)), subGo p l = 0 → ∀ c ∈ l, keyS c.kind.data.toList = true ∧ ¬ c.key.size = 0 ∧ validS c.key.data.toList = true ∧ attrS c.attrs = 0
  | [], _, _, _, h => by cases h
  | c :: r, p, h, d, hd => by
    have hk := subGo_keys (c :: r) p h c (by simp)
    rw [subGo.eq_def] at h
    simp only [hk] at h
    split at h
    · rename_i hx; cases hx
    · split at h
      · cases h
      · split at h
        · cases h
        · rename_i h3
          split at h
          · rename_i hx; exact absurd h hx
          · rename_i h4
            rcases List.mem_cons.1 hd with rfl | hd
            · refine ⟨hk, fun e => h3 (Or.inl e), ?_, by simpa using h4⟩
              cases hv : validS d.key.data.toList with
              | true => rfl
              | false => exact absurd (Or.inr hv) h3
            · exact subGo_all r _ h d hd
theorem sub_all {l : List CT} (h : subS l = 0) : l.length ≤ 4 ∧ ∀ c ∈ l, keyS c.kind.data.toList = true ∧ ¬ c.key.size = 0 ∧ validS c.key.data.toList = true ∧ attrS c.attrs = 0 := by
  unfold subS at h
  split at h
  · cases h
  · exact ⟨by omega, subGo_all l none h⟩
theorem qok {l : List UInt8} (h : validS l = true) : quoteV l = .tuple #[.string ⟨(quoteS l).toArray⟩, .int .i64 0] := by rw [quoteV, h]; rfl
theorem quote_sz {s : ByteArray} (h : validS s.data.toList = true) : (⟨(quoteS s.data.toList).toArray⟩ : ByteArray).size ≤ 402 := by
  have h1 := valid_size h
  have h2 := escL_len s.data.toList
  show (quoteS s.data.toList).toArray.size ≤ 402
  unfold quoteS
  simp at h1 h2 ⊢
  omega
theorem info9s : (Tryz.prog.info? 9).map (fun i => (i.zero, i.size, i.bytes)) = some (some (.string ⟨#[]⟩), 1, 16) := by kernel_rfl
theorem ret_can {l : List CT} (h : subS l = 0) {T : ByteArray} (hT : T.data.toList = canL l) : Ending.returned (.tuple #[.string T, .int .i64 0]) = .returned (canV l) := by
  have e : T = ⟨(canL l).toArray⟩ := by rw [← hT]
  rw [canV, canS, if_pos h, e]
theorem ret_can_bad {l : List CT} (h : ¬ subS l = 0) : Ending.returned (.tuple #[.string ⟨#[]⟩, .int .i64 (subS l)]) = .returned (canV l) := by
  rw [canV, canS, if_neg h]
theorem canL_joinK : ∀ l : List CT, joinK (l.map canC) = canL l
  | [] => rfl
  | [_] => rfl
  | a :: b :: r => by
    have := canL_joinK (b :: r)
    simp only [List.map_cons] at this ⊢
    rw [joinK, this, canL]

set_option maxRecDepth 100000 in
set_option maxHeartbeats 8000000 in
theorem can_any (l : List CT) (va : Option Addr) (n vc : Nat) (w : World) (h : SAt w.cell? (.slice va n vc) l) (hT : STabs w) :
    Calls Tryz.prog 16 #[.agg #[.slice va n vc]] w fun e w' => e = .returned (canV l) ∧ Below w.heap.size w w' := by
  have hn := (len_of h.rows).1
  have hm := (len_of h.rows).2
  simp only [List.length_map] at hn
  subst hn
  obtain ⟨i0, hi, hz0, hz1, hz2⟩ := info_parts info9s
  have hB0 : Below w.heap.size w (w.alloc (.cells #[.slice va l.length vc] 24)) := (Below.refl _ _).alloc (Nat.le_refl _) _
  have hSx := Lib.hid (Own.new w #[.slice va l.length vc] 24)
  have hA := Lib.hid (h.mono (sub_of_below hB0))
  replace hT := Lib.hid (hT.below hB0)
  replace hB0 := Lib.hid hB0
  clear h
  go_enter Tryz.func16, Tryz.ntmps16
  go_wp2_with fail
  generalize w.alloc (.cells #[.slice va l.length vc] 24) = w0 at hB0 hSx hA hT ⊢
  obtain ⟨gs, hgs⟩ : ∃ g : Nat, Hid (g = w.heap.size) := ⟨_, Lib.hid rfl⟩
  rw [← hgs.out] at hSx ⊢
  refine (scheck_any l va l.length vc _ hA.out hT.out).mono ?_
  rintro e w1 ⟨rfl, hb1⟩
  have hB1 := Lib.hid (hB0.out.trans (hb1.mono hB0.out.size))
  have hS1 := hSx.out.below hb1 hSx.out.lt
  have hA1 := Lib.hid (hA.out.mono (sub_of_below hb1))
  have hT1 := Lib.hid (hT.out.below hb1)
  have s0 := hS1.cell 0
  have hsl := hS1.lt
  simp only [List.getElem?_toArray, List.getElem?_cons_zero] at s0
  clear hb1 hSx hA hT hB0 hS1
  by_cases hok : subS l = 0
  case neg =>
    have hE := Lib.hid (ret_can_bad hok)
    generalize subS l = cv at hok hE ⊢
    go_wp2
    go_ret2
    exact ⟨hE.out, hB1.out⟩
  have hall := Lib.hid (sub_all hok)
  replace hok := Lib.hid hok
  rw [hok.out]
  have h4 : l.length ≤ 4 := hall.out.1
  obtain ⟨B, hBe⟩ : ∃ B, B = w1.heap.size := ⟨_, rfl⟩
  have hBl : w.heap.size ≤ B := by have := hB1.out.size; omega
  have hS := Lib.hid (show w1.ownsRow B 9 1 (.slice none 0 0) 0 ((l.take 0).map fun c => Value.string (canB c)) from World.ownsRow_nil _ _ _ _)
  have hW := Lib.hid (show Below B w1 w1 from Below.refl _ _)
  go_wp2
  go_loopw [5, 18] (fun s5 s18 wr => ∃ (k : Nat) (pa : Option Addr) (pc : Nat), k ≤ l.length ∧ s18 = .int .i64 k ∧ s5 = .slice pa k pc ∧ Hid (wr.ownsRow B 9 1 (.slice pa k pc) k ((l.take k).map fun c => Value.string (canB c))) ∧ Hid (Below B w1 wr)) (fun _ s18 _ => l.length - (intOf s18).toNat)
  case atStart => exact ⟨0, none, 0, by omega, rfl, rfl, hS, hW⟩
  case round =>
    clear hS hW
    obtain ⟨k, pa, pc, hk, rfl, rfl, hown, hBw⟩ := hrel
    have hBr : B ≤ wr.heap.size := by have := hBw.out.size; omega
    by_cases hlt : k < l.length
    case neg =>
      obtain rfl : k = l.length := by omega
      have hrow := rows_of_owns hown.out (((l.map canB)).map strRow) (by simp) (by simp [strRow]) (by rw [List.take_length, strRow_flat]; simp)
      replace hrow := Lib.hid hrow
      have hBx := Lib.hid (hB1.out.trans (hBw.out.mono hBl))
      have hz := Lib.hid (show ∀ x ∈ l.map canB, x.size ≤ 1000 by
        intro x hx
        obtain ⟨c, hc, rfl⟩ := List.mem_map.1 hx
        have h1 := hall.out.2 c hc
        have h2 := quote_sz h1.2.2.1
        have h3 := key_small h1.1
        unfold canB
        rw [ByteArray.size_append, ByteArray.size_append]
        simp at h3
        have h5 : (⟨#[58]⟩ : ByteArray).size = 1 := rfl
        omega)
      clear hown hBw
      go_wp2_with fail
      refine (joinK_rows pa l.length pc (l.map canB) _ hrow.out (by simp; omega) hz.out).mono ?_
      rintro e w5 ⟨rfl, hb5⟩
      replace hb5 := Lib.hid (hBx.out.trans (hb5.mono hBx.out.size))
      have hE := Lib.hid (ret_can hok.out (T := ⟨(joinK (lsL (l.map canB))).toArray⟩) (by
        have e1 : lsL (l.map canB) = l.map canC := by simp [lsL, canB_list]
        rw [e1, canL_joinK]))
      generalize (⟨(joinK (lsL (l.map canB))).toArray⟩ : ByteArray) = T at hE ⊢
      go_wp2
      go_ret2
      exact ⟨hE.out, hb5.out⟩
    obtain ⟨blk, off, rfl, -, -, c0, c1, c2⟩ := ct_at (hA1.out.rows.mono (sub_of_below (hBw.out.mono (by omega)))) hlt
    have hc := hall.out.2 l[k] (List.getElem_mem hlt)
    have htk := Lib.hid (show (l.take (k + 1)).map (fun c => Value.string (canB c)) = (l.take k).map (fun c => Value.string (canB c)) ++ [.string (canB l[k])] by rw [List.take_succ_eq_append_getElem hlt, List.map_append]; rfl)
    have n0 : (0 : Int) ≤ (k : Int) := by omega
    have n1 : (k : Int) < (l.length : Int) := by omega
    have hbl : blk < wr.heap.size := World.block_lt_of_cell? wr _ c0
    generalize l[k] = ct at c0 c1 c2 hc htk
    obtain ⟨ck, cy, cp, cl, cc, ca⟩ := ct
    simp only at c0 c1 c2 hc
    have hks : ck.size ≤ 32 := by have := key_small hc.1; simpa using this
    have hqs := quote_sz hc.2.2.1
    have hqv := qok hc.2.2.1
    have hbx : Below B wr (wr.alloc (.cells #[.string ck, .string cy, .slice cp cl cc] 37)) := (Below.refl _ _).alloc hBr _
    have hX := Lib.hid (Own.new wr #[.string ck, .string cy, .slice cp cl cc] 37)
    have hB2 := Lib.hid (hBw.out.trans hbx)
    have hown2 := Lib.hid (hown.out.alloc (.cells #[.string ck, .string cy, .slice cp cl cc] 37))
    have hB2s : B ≤ (wr.alloc (.cells #[.string ck, .string cy, .slice cp cl cc] 37)).heap.size := by simp; omega
    have hTr := Lib.hid ((hT1.out.below (hB2.out.mono (by omega))).tabs.runes)
    clear hbx hown hc hBr
    go_wp2_with fail
    generalize wr.alloc (.cells #[.string ck, .string cy, .slice cp cl cc] 37) = w2 at hX hB2 hown2 hB2s hTr ⊢
    obtain ⟨gx, hgx⟩ : ∃ g : Nat, g = wr.heap.size := ⟨_, rfl⟩
    rw [← hgx] at hX ⊢
    clear hgx c0 c1 c2 hbl
    refine (quote_any cy _ hTr.out).mono ?_
    rintro e w3 ⟨rfl, hb3⟩
    rw [hqv]
    have hX3 := hX.out.below hb3 hX.out.lt
    obtain ⟨x0, x1, x2⟩ := own3c hX3
    have hxl := hX3.lt
    have hB3 := Lib.hid (hB2.out.trans (hb3.mono hB2s))
    have hown3 := Lib.hid (owns_kept hown2.out (grown_of_below hb3 (some 0)) (by
      have := hB1.out.size
      have h0 : gs < w1.heap.size := hsl
      omega))
    have hB3s : B ≤ w3.heap.size := by have := hb3.size; omega
    have hcan := Lib.hid (show canB ⟨ck, cy, cp, cl, cc, ca⟩ = ck ++ ⟨#[58]⟩ ++ ⟨(quoteS cy.data.toList).toArray⟩ from rfl)
    generalize (⟨(quoteS cy.data.toList).toArray⟩ : ByteArray) = q at hqs hcan ⊢
    generalize canB ⟨ck, cy, cp, cl, cc, ca⟩ = P at hcan htk
    have hq1 : ¬ 9223372036854775807 < ck.size + (⟨#[58]⟩ : ByteArray).size := by
      have : (⟨#[58]⟩ : ByteArray).size = 1 := rfl
      omega
    have hq2 : ¬ 9223372036854775807 < (ck ++ ⟨#[58]⟩).size + q.size := by
      have : (⟨#[58]⟩ : ByteArray).size = 1 := rfl
      rw [ByteArray.size_append]
      omega
    clear hb3 hX hown2 hB2 hX3 hqv hB2s hTr
    have hown5 := Lib.hid (hown3.out.alloc (.cells #[.string (ck ++ ⟨#[58]⟩ ++ q)] 9))
    go_wp2_with (at_builtin; (refine wpList_append_lies _ rfl _ _ 33 rfl B 9 i0 (.string ⟨#[]⟩) 1 16 Tryz.underlying33 hi hz0 hz1 hz2 rfl (by decide) (.slice pa k pc) k _ rfl hown5.out ⟨w3.heap.size, 0, none⟩ 1 1 [.string (ck ++ ⟨#[58]⟩ ++ q)] rfl rfl (World.news_of_block (cs := #[.string (ck ++ ⟨#[58]⟩ ++ q)]) (t := 9) (fr := (0, 0)) (Own.new' rfl)) (by simp [Value.oneCell']) (by omega) (by unfold maxLen; omega) (by omega) (by simp; omega) (w3.heap.size + 1) (by simp) ?_); intro g cap w6 hown6 hgrow6 hat6 hgl6; replace hown6 := Lib.hid hown6; replace hgrow6 := Lib.hid hgrow6; clear hat6)
    have hN := Lib.hid (show w6.ownsRow B 9 1 (.slice (some ⟨g, 0, none⟩) (k + 1) cap) (k + 1) ((l.take (k + 1)).map fun c => Value.string (canB c)) by rw [htk.out, hcan.out]; exact hown6.out)
    have hB6 := Lib.hid (show Below B w1 w6 from (hB3.out.alloc hB3s _).grown hgrow6.out (by simp; omega) (fun j hj => (hown5.out.lt j hj).1))
    clear hown6 hgrow6 hown5 hown3 hB3 hcan htk x0 x1 x2 hxl
    go_wp2
    go_roundw
    case rel => exact ⟨k + 1, _, _, by omega, by go_num, rfl, hN, hB6⟩
    case measure => simp [intOf]; omega

theorem comma_list (T P : ByteArray) : (T ++ ⟨#[44]⟩ ++ P).data.toList = T.data.toList ++ 44 :: P.data.toList := by simp [ByteArray.data_append]
theorem canL_take {l : List CT} {k : Nat} (h0 : 0 < k) (h : k < l.length) : canL (l.take (k + 1)) = canL (l.take k) ++ 44 :: canC l[k] := by
  rw [List.take_succ_eq_append_getElem h, canL_snoc _ _ (by
    intro e
    have := congrArg List.length e
    simp only [List.length_take, List.length_nil] at this
    omega)]

end Go.Proofs.YthnjgbjckggjhaaGreatDoor.subj

