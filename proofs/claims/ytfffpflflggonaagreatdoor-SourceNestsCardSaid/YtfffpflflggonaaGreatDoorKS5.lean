/- Which value a text is: what the reference's Parse gives is what the program's gives. No program in sight. The reference's Parse gives what the program's gives; a source form is read as the value. No program in sight. The tokens of a source text, said plainly. No program in sight. -/
import Derived.Test.YtfffpflflggonaaGreatDoorKS2
import Derived.Test.YtfffpflflggonaaGreatDoorKS4
namespace Go.Proofs.YtfffpflflggonaaGreatDoor.value
open Go.Proofs.YtfffpflflggonaaGreatDoor.text

end Go.Proofs.YtfffpflflggonaaGreatDoor.value

namespace Go.Proofs.YtfffpflflggonaaGreatDoor.value
open Go.Proofs.YtfffpflflggonaaGreatDoor.text

/-! Decimal numbers are the forms of the numbers that they read as. -/
end Go.Proofs.YtfffpflflggonaaGreatDoor.value

namespace Go.Proofs.YtfffpflflggonaaGreatDoor.lex
open Go.Proofs.YtfffpflflggonaaGreatDoor.text Go.Proofs.YtfffpflflggonaaGreatDoor.value

def letB (c : UInt8) : Bool := decide (97 ≤ c.toNat) && decide (c.toNat ≤ 122)
/-- A byte of a word, of a number or version, of a comment. -/
def wordB (c : UInt8) : Bool := letB c || digB c || decide (c.toNat = 45) || decide (c.toNat = 95)
def numB (c : UInt8) : Bool := digB c || decide (c.toNat = 46)
def lineB (c : UInt8) : Bool := decide (c.toNat ≠ 10)
def signB (c : UInt8) : Bool := [123, 125, 40, 41, 91, 93, 44, 46, 60, 62].contains c.toNat
/-- How many bytes at the beginning belong to a set. -/
def spanN (p : UInt8 → Bool) : List UInt8 → Nat
  | [] => 0
  | c :: r => if p c then 1 + spanN p r else 0
theorem spanN_le (p : UInt8 → Bool) : ∀ l, spanN p l ≤ l.length
  | [] => Nat.le_refl _
  | c :: r => by
    have := spanN_le p r
    rw [spanN, List.length_cons]
    split <;> omega
/-- Behind the first quotation mark: how many bytes to behind the closing one, on the line. -/
def lqS : Bool → List UInt8 → Option Nat
  | _, [] => none
  | true, c :: r => if c.toNat = 10 then none else (lqS false r).map (1 + ·)
  | false, c :: r => if c.toNat = 10 then none else if c.toNat = 34 then some 1 else if c.toNat = 92 then (lqS true r).map (1 + ·) else (lqS false r).map (1 + ·)
theorem lqS_le : ∀ (l : List UInt8) (e : Bool) (k : Nat), lqS e l = some k → 1 ≤ k ∧ k ≤ l.length
  | [], e, k, h => by cases e <;> cases h
  | c :: r, e, k, h => by
    have ih := lqS_le r
    have key : ∀ e', (lqS e' r).map (1 + ·) = some k → 1 ≤ k ∧ k ≤ (c :: r).length := by
      intro e' h1
      cases h2 : lqS e' r with
      | none => rw [h2] at h1; cases h1
      | some q =>
        rw [h2] at h1
        have := ih e' q h2
        simp only [Option.map_some, Option.some.injEq] at h1
        rw [List.length_cons]
        omega
    cases e with
    | true =>
      rw [lqS] at h
      split at h
      · cases h
      · exact key _ h
    | false =>
      rw [lqS] at h
      split at h
      · cases h
      · split at h
        · injection h with h; rw [List.length_cons]; omega
        · split at h
          · exact key _ h
          · exact key _ h

/-- A token without its line. -/
structure Tk where
  k : Int
  t : List UInt8
  n : Int
/-- The token at the beginning of a text and how many bytes it takes, or the error. -/
def nextC (c : UInt8) (r : List UInt8) : Except Int (Tk × Nat) :=
  if letB c then .ok (⟨1, (c :: r).take (1 + spanN wordB r), 0⟩, 1 + spanN wordB r)
  else if digB c || (decide (c.toNat = 45) && (match r with | [] => false | d :: _ => digB d)) then
    if (verS ((c :: r).take (1 + spanN numB r))).isSome then .ok (⟨4, (c :: r).take (1 + spanN numB r), 0⟩, 1 + spanN numB r)
    else if (parseS ((c :: r).take (1 + spanN numB r))).2 = 0 then .ok (⟨2, [], (parseS ((c :: r).take (1 + spanN numB r))).1⟩, 1 + spanN numB r) else .error (parseS ((c :: r).take (1 + spanN numB r))).2
  else if c.toNat = 34 then
    match lqS false r with
    | none => .error 1
    | some k => match unquoteS ((c :: r).take (1 + k)) with
      | none => .error 1
      | some b => if validS b then .ok (⟨3, b, 0⟩, 1 + k) else .error 2
  else if signB c then
    if (decide (c.toNat = 60) || decide (c.toNat = 62)) && (match r with | [] => false | d :: _ => decide (d.toNat = 61)) then .ok (⟨5, (c :: r).take 2, 0⟩, 2) else .ok (⟨5, (c :: r).take 1, 0⟩, 1)
  else .error 1
def nextS (s : List UInt8) : Except Int (Tk × Nat) :=
  match s with
  | [] => .error 1
  | c :: r => nextC c r
theorem nextS_cons (c : UInt8) (r : List UInt8) : nextS (c :: r) = nextC c r := rfl

/-- A token with its line. -/
structure Tok where
  k : Int
  t : List UInt8
  n : Int
  line : Int
/-- The tokens of a text from a line on, or the error and its line. -/
def tokF : Nat → List UInt8 → Int → Except (Int × Int) (List Tok)
  | 0, _, line => .ok [⟨6, [], 0, line⟩]
  | f + 1, s, line =>
    match s with
    | [] => .ok [⟨6, [], 0, line⟩]
    | c :: r =>
      if c.toNat = 10 then tokF f r (line + 1)
      else if c.toNat = 32 ∨ c.toNat = 9 then tokF f r line
      else if c.toNat = 35 then tokF f (s.drop (spanN lineB s)) line
      else match nextS s with
        | .error e => .error (e, line)
        | .ok (t, n) => match tokF f (s.drop n) line with
          | .error e => .error e
          | .ok l => .ok (⟨t.k, t.t, t.n, line⟩ :: l)
/-- The tokens of a text. -/
def toksS (s : List UInt8) : Except (Int × Int) (List Tok) := if 30000 < s.length then .error (4, 0) else tokF (s.length + 1) s 1

end Go.Proofs.YtfffpflflggonaaGreatDoor.lex
