/- What the laws of the chapter share: Mod, lists of texts, the sanity check with which each of them begins. -/
import Derived.Test.YtnghpjijfdpmkaaDoorValT
namespace Go.Proofs.YtnghpjijfdpmkaaDoor.value
open Go.RowKit Go.Proofs.YtnghpjijfdpmkaaDoor.text

set_option maxHeartbeats 400000 in
theorem mod_eq (x n : Int) (w : World) (hn : 1 ≤ n) (hn2 : n ≤ 4294967296) (_hx : -9223372036854775808 ≤ x) (_hx2 : x ≤ 9223372036854775807) :
    Calls Tryd.prog 27 #[.int .i64 x, .int .i64 n] w fun e w' => e = .returned (.int .i64 (x % n)) ∧ w' = w := by
  have h1 : x.tmod n < n := Int.tmod_lt_of_pos x (by omega)
  have h2 : -n < x.tmod n := by have := Int.lt_tmod_of_pos x (show 0 < n by omega); omega
  have h3 : 0 ≤ x % n := Int.emod_nonneg _ (by omega)
  have h4 : x % n < n := Int.emod_lt_of_pos _ (by omega)
  have h5 := Int.tmod_eq_emod (a := x) (b := n)
  have hQ := Lib.hid (show (x.tmod n < 0 ∧ x.tmod n + n = x % n) ∨ (¬ x.tmod n < 0 ∧ x.tmod n = x % n) by
    split at h5
    · exact Or.inr (by omega)
    · have : ((n.natAbs : Nat) : Int) = n := by omega
      rw [this] at h5
      exact Or.inl (by omega))
  clear h3 h4 h5
  rcases hQ.out with ⟨h, hq⟩ | ⟨h, hq⟩
  · have hE := Lib.hid hq
    clear hq hQ
    go_enter Tryd.func27, Tryd.ntmps27
    go_wp2
    go_ret
    exact ⟨ret_i hE.out.symm, rfl⟩
  · have hE := Lib.hid hq
    clear hq hQ
    go_enter Tryd.func27, Tryd.ntmps27
    go_wp2
    go_ret
    exact ⟨ret_i hE.out.symm, rfl⟩

/-- A list of texts of a known number, none of them longer than M. -/
def Texts (w : World) (A n M : Nat) : Prop := ∀ i, i < n → ∃ t, w.cell? ⟨A, i, none⟩ = some (.string t) ∧ t.size ≤ M
theorem Texts.below {w w' : World} {A n M : Nat} (h : Texts w A n M) (hb : Below w.heap.size w w') : Texts w' A n M := by
  intro i hi
  obtain ⟨t, h1, h2⟩ := h i hi
  exact ⟨t, (sub_of_below hb) _ _ h1, h2⟩
theorem texts_new {w : World} {ts : List ByteArray} {A : Nat} (hA : A = w.heap.size) {n M : Nat} {arr : Array Value} (ha : arr = (ts.map Value.string).toArray) (hn : n = ts.length) (hM : ∀ t ∈ ts, t.size ≤ M) : Texts (w.alloc (.cells arr 9)) A n M := by
  subst hA hn ha
  intro i hi
  refine ⟨ts[i], ?_, hM _ (List.getElem_mem _)⟩
  rw [(Own.new w _ 9).cell i]
  simp [hi]
def ListAt (w w2 : World) (A n M : Nat) : Prop := Below w.heap.size w w2 ∧ Texts w2 A n M ∧ Tabs w2
theorem ListAt.below {w w2 w3 : World} {A n M : Nat} (h : ListAt w w2 A n M) (hb : Below w2.heap.size w2 w3) : ListAt w w3 A n M :=
  ⟨h.1.trans (hb.mono h.1.size), h.2.1.below hb, h.2.2.below hb⟩

theorem aw_cmp : cmpR ⟨4, 0, [49, 46, 49, 48, 46, 48], []⟩ ⟨4, 0, [49, 46, 57, 46, 55], []⟩ = .tuple #[.int .i64 1, .int .i64 0] := by kernel_rfl
theorem aw_form : formR ⟨5, 0, [], [[97], [98]]⟩ = .tuple #[.string ⟨#[91, 34, 97, 34, 44, 32, 34, 98, 34, 93]⟩, .int .i64 0] := by kernel_rfl

set_option maxRecDepth 100000 in
set_option maxHeartbeats 4000000 in
theorem awake_any (w : World) (hT : Tabs w) : Calls Tryd.prog 26 #[] w fun e w' => e = .returned (.bool true) ∧ Below w.heap.size w w' := by
  replace hT := Lib.hid hT
  have hB0 := Lib.hid (show Below w.heap.size w ((w.alloc (.cells #[.int .i64 4, .int .i64 0, .string ⟨#[49, 46, 49, 48, 46, 48]⟩, .slice none 0 0] 59)).alloc (.cells #[.int .i64 4, .int .i64 0, .string ⟨#[49, 46, 57, 46, 55]⟩, .slice none 0 0] 59)) from ((Below.refl _ _).alloc (Nat.le_refl _) _).alloc (by simp) _)
  go_enter Tryd.func26, Tryd.ntmps26
  go_wp2_with fail
  refine (compare_any ⟨4, 0, [49, 46, 49, 48, 46, 48], []⟩ ⟨4, 0, [49, 46, 57, 46, 55], []⟩ ⟨#[49, 46, 49, 48, 46, 48]⟩ ⟨#[49, 46, 57, 46, 55]⟩ none none 0 0 [] [] _ ⟨rfl, Or.inl rfl, rfl⟩ ⟨rfl, Or.inl rfl, rfl⟩ (by simp) (by simp) (by decide) (by decide) (hT.out.below hB0.out)).mono ?_
  rintro e w1 ⟨rfl, hb1⟩
  rw [aw_cmp]
  have hB1 := Lib.hid (hB0.out.trans (hb1.mono hB0.out.size))
  have hB2 := Lib.hid (hB1.out.alloc hB1.out.size (.cells #[.string ⟨#[97]⟩, .string ⟨#[98]⟩] 9))
  have hO := Lib.hid (Own.new w1 #[.string ⟨#[97]⟩, .string ⟨#[98]⟩] 9)
  clear hb1 hB0
  go_wp2_with fail
  refine (format_any ⟨5, 0, [], [[97], [98]]⟩ ⟨#[]⟩ (some ⟨w1.heap.size, 0, none⟩) 2 [⟨#[97]⟩, ⟨#[98]⟩] _ ⟨rfl, Or.inr ⟨_, _, rfl, fun k hk => ?_⟩, rfl⟩ (by simp) (by decide) (hT.out.below hB2.out)).mono ?_
  · rw [Nat.zero_add, hO.out.cell k]
    match k, hk with
    | 0, _ => rfl
    | 1, _ => rfl
    | k + 2, h => simp at h; omega
  rintro e w2 ⟨rfl, hb2⟩
  rw [aw_form]
  have hB3 := Lib.hid (hB2.out.trans (hb2.mono hB2.out.size))
  clear hb2 hB2 hB1 hO
  go_wp2_with fail
  refine (parse_awake _ (hT.out.below hB3.out)).mono ?_
  rintro e w3 ⟨rfl, hb3⟩
  have hB4 := Lib.hid (hB3.out.trans (hb3.mono hB3.out.size))
  have hB5 := Lib.hid (hB4.out.alloc hB4.out.size (.cells #[.int .i64 0, .int .i64 0, .string ⟨#[]⟩, .slice none 0 0] 59))
  clear hb3 hB4 hB3
  go_wp2
  go_ret
  exact ⟨rfl, hB5.out⟩

end Go.Proofs.YtnghpjijfdpmkaaDoor.value

