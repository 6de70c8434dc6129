/- What the reference's next leans on: scans, the token of a number, the signs. -/
import Derived.Test.YtpildefkhlejgaaDoorLexD
import Derived.Test.YtpildefkhlejgaaDoorTextU
namespace Go.Proofs.YtpildefkhlejgaaDoor.lex
open Go.RowKit Go.Proofs.YtpildefkhlejgaaDoor.text Go.Proofs.YtpildefkhlejgaaDoor.value

/-- How far a scan from place a on has come: j bytes. -/
def SpanOff (p : UInt8 → Bool) (l : List UInt8) (a k : Nat) : Prop := a ≤ k ∧ spanN p (l.drop a) = (k - a) + spanN p (l.drop k)
theorem SpanOff.start (p : UInt8 → Bool) (l : List UInt8) (a : Nat) : SpanOff p l a a := ⟨Nat.le_refl _, by simp⟩
theorem SpanOff.next {p : UInt8 → Bool} {s : ByteArray} {a k : Nat} (h : SpanOff p s.data.toList a k) (hk : k < s.size) (hp : p s[k] = true) : SpanOff p s.data.toList a (k + 1) := by
  obtain ⟨h1, h2⟩ := h
  rw [drop_byte s k hk, spanN, if_pos hp] at h2
  exact ⟨by omega, by omega⟩
theorem SpanOff.stop {p : UInt8 → Bool} {s : ByteArray} {a k : Nat} (h : SpanOff p s.data.toList a k) (hk : k < s.size) (hp : p s[k] = false) : k = a + spanN p (s.data.toList.drop a) := by
  obtain ⟨h1, h2⟩ := h
  rw [drop_byte s k hk, spanN, if_neg (by simp [hp])] at h2
  omega
theorem SpanOff.done {p : UInt8 → Bool} {s : ByteArray} {a k : Nat} (h : SpanOff p s.data.toList a k) (hk : ¬ k < s.size) : k = a + spanN p (s.data.toList.drop a) := by
  obtain ⟨h1, h2⟩ := h
  rw [show s.data.toList.drop k = [] from List.drop_eq_nil_of_le (by simp; omega), spanN] at h2
  omega
theorem wordB_dig {c : UInt8} (h : digB c = true) : wordB c = true := by unfold wordB; rw [h]; simp
theorem wordB_45 {c : UInt8} (h : c.toNat = 45) : wordB c = true := by unfold wordB; simp [h]
theorem wordB_95 {c : UInt8} (h : c.toNat = 95) : wordB c = true := by unfold wordB; simp [h]
theorem wordB_no {c : UInt8} (h1 : letB c = false) (h2 : digB c = false) (h3 : c.toNat ≠ 45) (h4 : c.toNat ≠ 95) : wordB c = false := by unfold wordB; rw [h1, h2]; simp [h3, h4]
theorem numB_dig {c : UInt8} (h : digB c = true) : numB c = true := by unfold numB; rw [h]; rfl
theorem numB_46 {c : UInt8} (h : c.toNat = 46) : numB c = true := by unfold numB; simp [h]
theorem numB_no {c : UInt8} (h2 : digB c = false) (h3 : c.toNat ≠ 46) : numB c = false := by unfold numB; rw [h2]; simp [h3]

/-- What number gives. -/
def NumIs (l : List UInt8) (k : Int) (t : ByteArray) (x err : Int) : Prop :=
  ((verS l).isSome = true ∧ k = 4 ∧ t.data.toList = l ∧ x = 0 ∧ err = 0) ∨ ((verS l).isSome = false ∧ k = 2 ∧ t.data.toList = [] ∧ x = (parseS l).1 ∧ err = (parseS l).2)
def NumPost (l : List UInt8) (w : World) (e : Ending) (w' : World) : Prop :=
  ∃ k t x err, e = .returned (.tuple #[.agg #[.int .i64 k, .string t, .int .i64 x, .int .i64 0], .int .i64 err]) ∧ NumIs l k t x err ∧ Below w.heap.size w w'

set_option maxRecDepth 100000 in
set_option maxHeartbeats 4000000 in
theorem number_tok (s : ByteArray) (w : World) (hs : s.size ≤ 30000) (hT : Tabs w) :
    Calls Tryd.prog 58 #[.string s] w (NumPost s.data.toList w) := by
  replace hT := Lib.hid hT
  have hO := Lib.hid (Own.new w #[.int .i64 0, .string ⟨#[]⟩, .int .i64 0, .int .i64 0] 39)
  have hB := Lib.hid ((Below.refl w.heap.size w).alloc (Nat.le_refl _) (.cells #[.int .i64 0, .string ⟨#[]⟩, .int .i64 0, .int .i64 0] 39))
  go_enter Tryd.func58, Tryd.ntmps58
  go_wp2_with fail
  generalize w.alloc (.cells #[.int .i64 0, .string ⟨#[]⟩, .int .i64 0, .int .i64 0] 39) = w0 at hO hB ⊢
  refine (check_ref ⟨4, 0, s.data.toList, []⟩ s none 0 [] _ ⟨rfl, Or.inl rfl, rfl⟩ (by omega) (hT.out.below hB.out)).mono ?_
  rintro e w2 ⟨rfl, hb2⟩
  rw [check_ver]
  have hO2 := Lib.hid (hO.out.below hb2 hO.out.lt)
  have hB2 := Lib.hid (hB.out.trans (hb2.mono hB.out.size))
  clear hb2 hO hB
  obtain ⟨c0, c1, c2, c3, f0, f1, f2, f3⟩ := own4 hO2.out
  cases hv : (verS s.data.toList).isSome with
  | true =>
    have hV := Lib.hid hv
    clear hv
    go_wp2
    refine bodyPost_ret (v := .tuple #[.agg #[.int .i64 4, .string s, .int .i64 0, .int .i64 0], .int .i64 0]) (by simp [results, Tryd.results58, go_sem, c0, c1, c2, c3]) rfl ?_
    exact ⟨_, _, _, _, rfl, Or.inl ⟨hV.out, rfl, rfl, rfl, rfl⟩, (((hB2.out.setCell (by simp) _).setCell (by simp) _).setCell (by simp) _).setCell (by simp) _⟩
  | false =>
    have hV := Lib.hid hv
    clear hv
    go_wp2_with fail
    refine (parse_ref s _ (by unfold maxLen; omega)).mono ?_
    rintro e w3 ⟨rfl, rfl⟩
    unfold parseV
    obtain ⟨x, hx⟩ : ∃ x, Hid (x = (parseS s.data.toList).1) := ⟨_, rfl⟩
    obtain ⟨q, hq⟩ : ∃ q, Hid (q = (parseS s.data.toList).2) := ⟨_, rfl⟩
    rw [← hx.out, ← hq.out]
    go_wp2
    refine bodyPost_ret (v := .tuple #[.agg #[.int .i64 2, .string ⟨#[]⟩, .int .i64 x, .int .i64 0], .int .i64 q]) (by simp [results, Tryd.results58, go_sem, c0, c1, c2, c3]) rfl ?_
    exact ⟨_, _, _, _, rfl, Or.inr ⟨hV.out, rfl, rfl, hx.out, hq.out⟩, (((hB2.out.setCell (by simp) _).setCell (by simp) _).setCell (by simp) _).setCell (by simp) _⟩

theorem NextIs.num {c : UInt8} {r : List UInt8} (h : letB c = false) (hn : numStart c r = true) {t : List UInt8} (ht : (c :: r).take (1 + spanN numB r) = t) {k : Int} {T : ByteArray} {x err : Int} (hN : NumIs t k T x err) (off n : Int) (hnn : n = off + ((1 + spanN numB r : Nat) : Int)) : NextIs (c :: r) off k T x n err := by
  rcases num_ways h hn ht with ⟨hv, hx⟩ | ⟨hv, hp, hx⟩ | ⟨hv, hp, hx⟩
  · rcases hN with ⟨_, h1, h2, h3, h4⟩ | ⟨h0, _⟩
    · rw [h4]; exact NextIs.good hx h1 h2 h3 hnn
    · rw [hv] at h0; cases h0
  · rcases hN with ⟨h0, _⟩ | ⟨_, h1, h2, h3, h4⟩
    · rw [hv] at h0; cases h0
    · rw [h4, hp]; exact NextIs.good hx h1 h2 h3 hnn
  · rcases hN with ⟨h0, _⟩ | ⟨_, h1, h2, h3, h4⟩
    · rw [hv] at h0; cases h0
    · rw [h4]; exact NextIs.bad hx hp _ _ _ _ _

def sgn : ByteArray := ⟨#[123, 125, 40, 41, 91, 93, 44, 46, 60, 62]⟩
theorem sgn_hit {c : UInt8} {j : Nat} (hj : j < sgn.size) (h : (sgn[j].toNat : Int) = (c.toNat : Int)) : signB c = true := by
  have e : sgn[j].toNat = c.toNat := by omega
  unfold signB
  rw [← e]
  have : sgn.size = 10 := rfl
  rcases (show j = 0 ∨ j = 1 ∨ j = 2 ∨ j = 3 ∨ j = 4 ∨ j = 5 ∨ j = 6 ∨ j = 7 ∨ j = 8 ∨ j = 9 by omega) with rfl | rfl | rfl | rfl | rfl | rfl | rfl | rfl | rfl | rfl <;> rfl
theorem sgn_miss {c : UInt8} (h : ∀ j (hj : j < sgn.size), j < 10 → sgn[j].toNat ≠ c.toNat) : signB c = false := by
  have h0 := h 0 (by decide) (by omega)
  have h1 := h 1 (by decide) (by omega)
  have h2 := h 2 (by decide) (by omega)
  have h3 := h 3 (by decide) (by omega)
  have h4 := h 4 (by decide) (by omega)
  have h5 := h 5 (by decide) (by omega)
  have h6 := h 6 (by decide) (by omega)
  have h7 := h 7 (by decide) (by omega)
  have h8 := h 8 (by decide) (by omega)
  have h9 := h 9 (by decide) (by omega)
  replace h0 : 123 ≠ c.toNat := h0
  replace h1 : 125 ≠ c.toNat := h1
  replace h2 : 40 ≠ c.toNat := h2
  replace h3 : 41 ≠ c.toNat := h3
  replace h4 : 91 ≠ c.toNat := h4
  replace h5 : 93 ≠ c.toNat := h5
  replace h6 : 44 ≠ c.toNat := h6
  replace h7 : 46 ≠ c.toNat := h7
  replace h8 : 60 ≠ c.toNat := h8
  replace h9 : 62 ≠ c.toNat := h9
  unfold signB
  simp only [List.contains_eq_mem, decide_eq_false_iff_not]
  simp
  omega

end Go.Proofs.YtpildefkhlejgaaDoor.lex
