/- The text of a metric, said plainly, and the reference's Print. -/
import Derived.Test.YtnghpjijfdpmkaaDoorMetE
import Derived.Test.YtnghpjijfdpmkaaDoorTextE
import Derived.Test.YtnghpjijfdpmkaaDoorTextPl
namespace Go.Proofs.YtnghpjijfdpmkaaDoor.metric
open Go.RowKit Go.Proofs.YtnghpjijfdpmkaaDoor Go.Proofs.YtnghpjijfdpmkaaDoor.text

/-- The word of a kind. -/
def kindW : Nat → List UInt8
  | 1 => [115, 117, 109]
  | 2 => [99, 111, 117, 110, 116]
  | 3 => [115, 104, 97, 114, 101]
  | _ => [114, 97, 116, 105, 111]
/-- The words of a metric's text. -/
def wordsM (m : MV) : List (List UInt8) :=
  [kindW m.k.toNat, [111, 102], m.name] ++ (if m.k = 4 then [[116, 111], m.below] else []) ++ [[119, 105, 116, 104, 105, 110], Lib.itoa m.win, [99, 97, 112], Lib.itoa m.cap] ++
    (if m.least ≠ -1099511627776 then [[108, 101, 97, 115, 116], Lib.itoa m.least] else []) ++ (if m.before ≠ 0 then [[98, 101, 102, 111, 114, 101], Lib.itoa m.before] else [])
/-- Words with a blank between them. -/
def joinW : List (List UInt8) → List UInt8
  | [] => []
  | [a] => a
  | a :: b :: r => a ++ 32 :: joinW (b :: r)
def printM (m : MV) : List UInt8 := joinW (wordsM m)
def printV (m : MV) : Value := if chkM m = 0 then .tuple #[.string ⟨(printM m).toArray⟩, .int .i64 0] else .tuple #[.string ⟨#[]⟩, .int .i64 (chkM m)]
theorem joinW_snoc : ∀ (l : List (List UInt8)) (x : List UInt8), l ≠ [] → joinW (l ++ [x]) = joinW l ++ 32 :: x
  | [], _, h => absurd rfl h
  | [a], x, _ => rfl
  | a :: b :: r, x, _ => by
    have := joinW_snoc (b :: r) x (by simp)
    show a ++ 32 :: joinW (b :: r ++ [x]) = _
    rw [this]
    simp [joinW]
theorem printV_bad {m : MV} (h : ¬ chkM m = 0) : printV m = .tuple #[.string ⟨#[]⟩, .int .i64 (chkM m)] := by unfold printV; rw [if_neg h]
theorem printV_ok {m : MV} (h : chkM m = 0) : printV m = .tuple #[.string ⟨(printM m).toArray⟩, .int .i64 0] := by unfold printV; rw [if_pos h]
/-- What a valid metric is like. -/
structure MOk (m : MV) : Prop where
  k : 1 ≤ m.k ∧ m.k ≤ 4
  name : keyS m.name = true
  win : 1 ≤ m.win ∧ m.win ≤ 68719476736
  cap : 1 ≤ m.cap ∧ m.cap ≤ 1048576
  least : -1099511627776 ≤ m.least ∧ m.least ≤ 1099511627776
  before : 0 ≤ m.before ∧ m.before ≤ 68719476736
  below : m.k = 4 → keyS m.below = true
  none : m.k ≠ 4 → m.below = []
  share : m.k = 3 → m.cap = 1
theorem mok {m : MV} (h : chkM m = 0) : MOk m := by
  unfold chkM at h
  split at h
  · cases h
  · rename_i h1
    split at h
    · cases h
    · rename_i h2
      split at h
      · cases h
      · rename_i h3
        split at h
        · cases h
        · rename_i h4
          have hr : rangeM m = true := by simpa using h3
          have hr2 := of_decide_eq_true hr
          refine ⟨by omega, ?_, by omega, by omega, by omega, by omega, fun hk => ?_, fun hk => ?_, fun hk => ?_⟩
          · cases hn : keyS m.name with
            | true => rfl
            | false => exact absurd (Or.inl hn) h2
          · cases hn : keyS m.below with
            | true => rfl
            | false => exact absurd (Or.inr ⟨hk, hn⟩) h2
          · by_cases hb : m.below = []
            · exact hb
            · exact absurd (Or.inl ⟨hk, hb⟩) h4
          · by_cases hb : m.cap = 1
            · exact hb
            · exact absurd (Or.inr ⟨hk, hb⟩) h4
theorem key_len {l : List UInt8} (h : keyS l = true) : l.length ≤ 32 ∧ l ≠ [] := by
  unfold keyS at h
  simp only [Bool.and_eq_true, decide_eq_true_eq] at h
  refine ⟨h.1.2, ?_⟩
  rintro rfl
  have := h.1.1
  revert this
  decide
theorem itoa_14 {n : Int} (h0 : -1099511627776 ≤ n) (h1 : n ≤ 1099511627776) : (Lib.itoa n).length ≤ 14 := by
  have hp : (parseS (Lib.itoa n)).2 = 0 := by rw [parse_itoa, if_neg (by omega)]
  generalize Lib.itoa n = l at hp
  have h1 : l.length ≤ (digsOf l).length + 1 := by
    cases l with
    | nil => simp
    | cons c r => rw [digsOf]; split <;> simp
  unfold parseS at hp
  split at hp
  · cases hp
  · split at hp
    · cases hp
    · rename_i h2
      omega
theorem kinds_ref (w : World) : Calls Tryd.prog 31 #[] w fun e w' => e = .returned (.slice (some ⟨w.heap.size, 0, none⟩) 5 5) ∧ w' = w.alloc (.cells #[.string ⟨#[]⟩, .string ⟨#[115, 117, 109]⟩, .string ⟨#[99, 111, 117, 110, 116]⟩, .string ⟨#[115, 104, 97, 114, 101]⟩, .string ⟨#[114, 97, 116, 105, 111]⟩] 9) := by
  go_enter Tryd.func31, Tryd.ntmps31
  go_wp2
  go_ret
  exact ⟨rfl, rfl⟩
theorem number_q (n : Int) (x : ByteArray) (hx : x = ⟨(Lib.itoa n).toArray⟩) (h0 : -1099511627776 ≤ n) (h1 : n ≤ 1099511627776) (w : World) : Calls Tryd.prog 28 #[.int .i64 n] w fun e w' => e = .returned (.string x) ∧ w' = w := by
  rw [hx]
  exact (number_ref n w (by omega) (by omega)).mono fun e w' ⟨h1, h2⟩ => ⟨h1, h2.symm⟩

end Go.Proofs.YtnghpjijfdpmkaaDoor.metric

