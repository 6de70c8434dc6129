/- The words of a text: the reference's words, and that they are the fields. -/
import Derived.Test.YtnghpjijfdpmkaaDoorMetT
import Derived.Deep.AppendLies
import Derived.Laws.OwnMore
namespace Go.Proofs.YtnghpjijfdpmkaaDoor.metric
open Go.RowKit Go.Proofs.YtnghpjijfdpmkaaDoor Go.Proofs.YtnghpjijfdpmkaaDoor.text

theorem infoStrU : (Tryd.prog.info? 9).map (fun i => (i.zero, i.size, i.bytes)) = some (some (.string ⟨#[]⟩), 1, 16) := by kernel_rfl

/-- What the reference's words has made of the first k bytes. -/
def WRel (s : ByteArray) (k : Nat) (L : List ByteArray) (x : ByteArray) : Prop :=
  x.size ≤ k ∧ L.length ≤ k ∧ ((k ≤ s.size ∧ (L.map fun y => y.data.toList) ++ wordsGo x.data.toList (s.data.toList.drop k) = wordsW s.data.toList) ∨ (k = s.size + 1 ∧ (L.map fun y => y.data.toList) = wordsW s.data.toList))
theorem ba_nil {x : ByteArray} : x.data.toList = [] ↔ x.size = 0 := by
  constructor
  · intro h; have := congrArg List.length h; rw [Array.length_toList] at this; exact this
  · intro h; exact List.eq_nil_of_length_eq_zero (by rw [Array.length_toList]; exact h)
theorem drop_at (s : ByteArray) {k : Nat} (hk : k < s.size) : s.data.toList.drop k = s[k] :: s.data.toList.drop (k + 1) := by
  rw [List.drop_eq_getElem_cons (by rw [Array.length_toList]; exact hk)]
  rfl
theorem WRel.start (s : ByteArray) : WRel s 0 [] ⟨#[]⟩ := ⟨Nat.le_refl _, Nat.le_refl _, Or.inl ⟨Nat.zero_le _, by simp [wordsW]⟩⟩
theorem WRel.letter {s : ByteArray} {k : Nat} {L : List ByteArray} {x y : ByteArray} (h : WRel s k L x) (hk : k < s.size) (hb : blankB s[k] = false) (hy : y.data.toList = x.data.toList ++ [s[k]]) : WRel s (k + 1) L y := by
  obtain ⟨h1, h2, h3⟩ := h
  have hs : y.size = x.size + 1 := by
    have := congrArg List.length hy
    simp only [List.length_append, Array.length_toList, List.length_cons, List.length_nil] at this
    exact this
  refine ⟨by omega, by omega, Or.inl ⟨by omega, ?_⟩⟩
  rcases h3 with ⟨-, h3⟩ | ⟨h3, -⟩
  · rw [drop_at s hk] at h3
    have : wordsGo x.data.toList (s[k] :: s.data.toList.drop (k + 1)) = wordsGo (x.data.toList ++ [s[k]]) (s.data.toList.drop (k + 1)) := by
      show (if blankB s[k] = true then _ else wordsGo (x.data.toList ++ [s[k]]) (s.data.toList.drop (k + 1))) = _
      rw [if_neg (by rw [hb]; decide)]
    rw [this, ← hy] at h3
    exact h3
  · omega
/-- A blank, or the end. -/
theorem WRel.blank {s : ByteArray} {k : Nat} {L : List ByteArray} {x : ByteArray} (h : WRel s k L x) (hk : k = s.size ∨ ∃ h : k < s.size, blankB s[k] = true) : WRel s (k + 1) (if x.size = 0 then L else L ++ [x]) ⟨#[]⟩ := by
  obtain ⟨h1, h2, h3⟩ := h
  have hl : (if x.size = 0 then L else L ++ [x]).length ≤ k + 1 := by
    split
    · omega
    · simp; omega
  refine ⟨Nat.zero_le _, hl, ?_⟩
  rcases hk with rfl | ⟨hk, hb⟩
  · refine Or.inr ⟨rfl, ?_⟩
    rcases h3 with ⟨-, h3⟩ | ⟨h3, -⟩
    · have hd : s.data.toList.drop s.size = [] := List.drop_eq_nil_of_le (by rw [Array.length_toList]; exact Nat.le_refl _)
      rw [hd, wordsGo_nil] at h3
      rw [← h3]
      by_cases hx : x.size = 0
      · rw [if_pos hx, if_pos (ba_nil.2 hx)]; simp
      · rw [if_neg hx, if_neg (fun e => hx (ba_nil.1 e))]; simp
    · omega
  · refine Or.inl ⟨by omega, ?_⟩
    rcases h3 with ⟨-, h3⟩ | ⟨h3, -⟩
    · rw [drop_at s hk, wordsGo_blank _ _ _ hb] at h3
      rw [← h3]
      by_cases hx : x.size = 0
      · rw [if_pos hx, if_pos (ba_nil.2 hx)]
      · rw [if_neg hx, if_neg (fun e => hx (ba_nil.1 e))]; simp
    · omega
theorem WRel.done {s : ByteArray} {k : Nat} {L : List ByteArray} {x : ByteArray} (h : WRel s k L x) (hk : s.size < k) : L = Lib.goFieldsP blankR s := by
  obtain ⟨-, -, h3⟩ := h
  rcases h3 with ⟨h3, -⟩ | ⟨-, h3⟩
  · omega
  · rw [← fields_words s] at h3
    have hinj : Function.Injective (fun y : ByteArray => y.data.toList) := fun a b h => ba_ext h
    exact (List.map_inj_right (fun {a b} h => hinj h)).1 h3
theorem letter_app (s X : ByteArray) {k : Nat} (hk : k < s.size) : (X ++ s.extract k (k + 1)).data.toList = X.data.toList ++ [s[k]] := by
  have h : (s.extract k (k + 1)).data.toList = [s[k]] := by
    rw [ByteArray.data_extract, Array.toList_extract]
    have := drop_at s hk
    unfold List.extract
    rw [this]
    simp
  rw [ByteArray.data_append, Array.toList_append, h]
def WordsIs (w : World) (s : ByteArray) (e : Ending) (u : World) : Prop :=
  ∃ v, e = .returned v ∧ u.ownsRow w.heap.size 9 1 v (Lib.goFieldsP blankR s).length ((Lib.goFieldsP blankR s).map Value.string) ∧ Below w.heap.size w u

set_option maxRecDepth 100000 in
set_option maxHeartbeats 8000000 in
theorem words_r (s : ByteArray) (w : World) (hs : s.size ≤ 200) : Calls Tryd.prog 40 #[.string s] w (WordsIs w s) := by
  obtain ⟨i0, hi, hz0, hz1, hz2⟩ := info_parts infoStrU
  go_enter Tryd.func40, Tryd.ntmps40
  go_wp2
  go_loopw [3, 4, 5] (fun o x i wr => ∃ (k : Nat) (L : List ByteArray) (X : ByteArray), k ≤ s.size + 1 ∧ i = .int .i64 k ∧ x = .string X ∧ Hid (WRel s k L X) ∧ Hid (wr.ownsRow w.heap.size 9 1 o L.length (L.map Value.string)) ∧ Hid (Below w.heap.size w wr)) (fun _ _ i _ => s.size + 1 - (intOf i).toNat)
  case atStart => exact ⟨0, [], ⟨#[]⟩, by omega, rfl, rfl, Lib.hid (WRel.start s), Lib.hid (World.ownsRow_nil _ _ _ _), Lib.hid (Below.refl _ _)⟩
  case round =>
    obtain ⟨k, L, X, hk, rfl, rfl, hR, hO, hB⟩ := hrel
    by_cases hlt : k ≤ s.size
    · have hXs := Lib.hid hR.out.1
      have hLl := Lib.hid hR.out.2.1
      by_cases hblank : k = s.size ∨ ∃ h : k < s.size, blankB s[k] = true
      · have hR2 := Lib.hid (hR.out.blank hblank)
        have hways : ((k : Int) == (s.size : Int)) = true ∨ (((k : Int) == (s.size : Int)) = false ∧ ∃ h : k < s.size, (s[k].toNat : Int) = 32) ∨ (((k : Int) == (s.size : Int)) = false ∧ ∃ h : k < s.size, (s[k].toNat : Int) = 9) ∨ (((k : Int) == (s.size : Int)) = false ∧ ∃ h : k < s.size, (s[k].toNat : Int) = 10) := by
          rcases hblank with h | ⟨h, hb⟩
          · exact Or.inl (by simp [h])
          · have hne : ((k : Int) == (s.size : Int)) = false := by simp; omega
            unfold blankB at hb
            simp only [Bool.or_eq_true, beq_iff_eq] at hb
            rcases hb with (hb | hb) | hb
            · exact Or.inr (Or.inl ⟨hne, h, by omega⟩)
            · exact Or.inr (Or.inr (Or.inl ⟨hne, h, by omega⟩))
            · exact Or.inr (Or.inr (Or.inr ⟨hne, h, by omega⟩))
        clear hblank hR
        by_cases hX : X.size = 0
        · rw [if_pos hX] at hR2
          have x1 : X.toList = [] := by rw [ByteArray.toList_eq]; exact ba_nil.2 hX
          have x2 : X.toList.isEmpty = true := by rw [x1]; rfl
          clear hX
          rcases hways with he | ⟨he, hlt2, hc⟩ | ⟨he, hlt2, hc⟩ | ⟨he, hlt2, hc⟩
          all_goals
            go_wp2
            go_roundw
            case rel => exact ⟨k + 1, _, _, by omega, by go_num, rfl, hR2, hO, hB⟩
            case measure => simp [intOf]; omega
        · rw [if_neg hX] at hR2
          have x1 : ¬ X.toList = [] := by rw [ByteArray.toList_eq]; exact fun e => hX (ba_nil.1 e)
          have x2 : X.toList.isEmpty = false := by cases h : X.toList with | nil => exact absurd h x1 | cons a r => rfl
          clear hX
          have hO3 := Lib.hid (hO.out.alloc (.cells #[.string X] 9))
          have hB3 := Lib.hid (hB.out.alloc hB.out.size (.cells #[.string X] 9))
          rcases hways with he | ⟨he, hlt2, hc⟩ | ⟨he, hlt2, hc⟩ | ⟨he, hlt2, hc⟩
          all_goals
            go_wp2_with (at_builtin; refine wpList_append_own _ rfl _ _ 33 rfl w.heap.size 9 i0 (.string ⟨#[]⟩) 1 16 Tryd.underlying33 hi hz0 hz1 hz2 rfl (by decide) _ L.length _ rfl hO3.out ⟨wr.heap.size, 0, none⟩ 1 1 [.string X] rfl rfl (World.news_of_block (cs := #[.string X]) (t := 9) (fr := (0, 0)) (heap_alloc_new wr _)) (by simp [Value.oneCell']) (by have := hLl.out; unfold maxLen; omega) (by have := hLl.out; omega) (by have := hB.out.size; simp; omega) ?_; intro v1 w2 hown hgrow hnil; clear hnil; have hO4 := Lib.hid hown; have hB4 := Lib.hid (hB3.out.grown hgrow (by have := hB.out.size; simp; omega) (fun j hj => by have := (hO3.out.lt j hj).1; omega)); clear hown hgrow)
            go_roundw
            case rel => exact ⟨k + 1, _, _, by omega, by go_num, rfl, hR2, by rw [List.length_append, List.map_append]; exact hO4, hB4⟩
            case measure => simp [intOf]; omega
      · have hk : k < s.size := by
          rcases Nat.lt_or_ge k s.size with h | h
          · exact h
          · exact absurd (Or.inl (by omega)) hblank
        have hb : blankB s[k] = false := by
          cases h : blankB s[k] with
          | false => rfl
          | true => exact absurd (Or.inr ⟨hk, h⟩) hblank
        have he : ((k : Int) == (s.size : Int)) = false := by simp; omega
        have hR2 := Lib.hid (fun y hy => hR.out.letter (y := y) hk hb hy)
        have h1 : ((s[k].toNat : Int) == 32) = false := by
          unfold blankB at hb; simp only [Bool.or_eq_false_iff, beq_eq_false_iff_ne] at hb; simp; omega
        have h2 : ((s[k].toNat : Int) == 9) = false := by
          unfold blankB at hb; simp only [Bool.or_eq_false_iff, beq_eq_false_iff_ne] at hb; simp; omega
        have h3 : ((s[k].toNat : Int) == 10) = false := by
          unfold blankB at hb; simp only [Bool.or_eq_false_iff, beq_eq_false_iff_ne] at hb; simp; omega
        clear hblank hb hR
        have hx3 : X.size ≤ 201 := by have := hXs.out; omega
        go_wp2
        go_roundw
        case rel => exact ⟨k + 1, L, _, by omega, by go_num, rfl, Lib.hid (hR2.out _ (letter_app s X hk)), hO, hB⟩
        case measure => simp [intOf]; omega
    · have hE := Lib.hid (hR.out.done (by omega))
      go_wp2
      go_ret
      exact ⟨_, rfl, by rw [← hE.out]; exact hO.out, hB.out⟩

end Go.Proofs.YtnghpjijfdpmkaaDoor.metric

