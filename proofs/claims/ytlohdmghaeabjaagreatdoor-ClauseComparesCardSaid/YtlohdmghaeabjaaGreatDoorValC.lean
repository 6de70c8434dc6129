/- Texts in order, and values: what Check, Compare and Format give, said plainly. No program in sight. -/
import Derived.Test.YtlohdmghaeabjaaGreatDoorValS
import Derived.Test.YtlohdmghaeabjaaGreatDoorTextD
namespace Go.Proofs.YtlohdmghaeabjaaGreatDoor.value
open Go.Proofs.YtlohdmghaeabjaaGreatDoor.text

theorem less_irrefl : ∀ a : List UInt8, Op.bytesLess a a = false
  | [] => rfl
  | c :: r => by
    rw [Op.bytesLess, less_irrefl r]
    simp
theorem less_tri : ∀ a b : List UInt8, Op.bytesLess a b = !(Op.bytesLess b a || b == a)
  | [], [] => rfl
  | [], _ :: _ => rfl
  | _ :: _, [] => rfl
  | a :: x, b :: y => by
    rw [Op.bytesLess, Op.bytesLess, less_tri x y]
    have e1 : (a == b) = (b == a) := Bool.beq_comm
    have e2 : (b :: y == a :: x) = ((b == a) && (y == x)) := rfl
    rw [e1, e2]
    rcases Nat.lt_trichotomy a.toNat b.toNat with h | h | h
    · have h1 : decide (a < b) = true := decide_eq_true (UInt8.lt_iff_toNat_lt.2 h)
      have h2 : decide (b < a) = false := decide_eq_false (fun e => by have := UInt8.lt_iff_toNat_lt.1 e; omega)
      have h3 : (b == a) = false := beq_eq_false_iff_ne.2 (fun e => by rw [e] at h; omega)
      rw [h1, h2, h3]; rfl
    · have e : a = b := UInt8.toNat_inj.1 h
      subst e
      have h2 : decide (a < a) = false := decide_eq_false (fun e => by have := UInt8.lt_iff_toNat_lt.1 e; omega)
      have h3 : (a == a) = true := beq_self_eq_true a
      rw [h2, h3]
      cases Op.bytesLess y x <;> cases (y == x) <;> rfl
    · have h1 : decide (a < b) = false := decide_eq_false (fun e => by have := UInt8.lt_iff_toNat_lt.1 e; omega)
      have h2 : decide (b < a) = true := decide_eq_true (UInt8.lt_iff_toNat_lt.2 h)
      have h3 : (b == a) = false := beq_eq_false_iff_ne.2 (fun e => by rw [e] at h; omega)
      rw [h1, h2, h3]; rfl
theorem less_trans : ∀ {a b c : List UInt8}, Op.bytesLess a b = true → Op.bytesLess b c = true → Op.bytesLess a c = true
  | [], [], c, h, _ => by cases h
  | [], _ :: _, [], _, h => by cases h
  | [], _ :: _, _ :: _, _, _ => rfl
  | _ :: _, [], _, h, _ => by cases h
  | _ :: _, _ :: _, [], _, h => by cases h
  | a :: x, b :: y, c :: z, h1, h2 => by
    rw [Op.bytesLess] at h1 h2 ⊢
    simp only [Bool.or_eq_true, Bool.and_eq_true, decide_eq_true_eq, beq_iff_eq] at h1 h2 ⊢
    rcases h1 with h1 | ⟨rfl, h1⟩
    · rcases h2 with h2 | ⟨rfl, h2⟩
      · exact Or.inl (UInt8.lt_trans h1 h2)
      · exact Or.inl h1
    · rcases h2 with h2 | ⟨rfl, h2⟩
      · exact Or.inl h2
      · exact Or.inr ⟨rfl, less_trans h1 h2⟩

/-- Are the texts of a list in ascending order. -/
def ascL : List (List UInt8) → Bool
  | a :: b :: r => Op.bytesLess a b && ascL (b :: r)
  | _ => true
/-- The first error of a list. -/
def listS (l : List (List UInt8)) : Int := if 20 < l.length then 5 else if l.all validS = false then 2 else if ascL l = false then 9 else 0

/-- A value: its kind and its fields. -/
structure VV where
  k : Int
  n : Int
  t : List UInt8
  l : List (List UInt8)
def shapeS (v : VV) : Bool :=
  if v.k = 1 ∨ v.k = 2 then v.t.isEmpty && v.l.isEmpty else if v.k = 3 ∨ v.k = 4 then decide (v.n = 0) && v.l.isEmpty else decide (v.n = 0) && v.t.isEmpty
/-- The first error of a value. -/
def checkS (v : VV) : Int :=
  if v.k < 1 ∨ 5 < v.k then 7
  else if shapeS v = false then 15
  else if v.k = 1 then (if v.n ≠ 0 ∧ v.n ≠ 1 then 3 else 0)
  else if v.k = 2 then (if v.n < -1099511627776 ∨ 1099511627776 < v.n then 3 else 0)
  else if v.k = 3 then (if validS v.t then 0 else 2)
  else if v.k = 4 then (if (verS v.t).isSome then 0 else 1)
  else listS v.l

/-- How two versions compare. -/
def cmpI (a b : Int) : Int := if a < b then -1 else if b < a then 1 else 0
def cmpT (a b : List UInt8) : Int := if Op.bytesLess a b then -1 else if Op.bytesLess b a then 1 else 0
def cmpV : Option (Int × Int × Int) → Option (Int × Int × Int) → Int
  | some (a, b, c), some (x, y, z) => if a ≠ x then cmpI a x else if b ≠ y then cmpI b y else cmpI c z
  | _, _ => 0
/-- How two values compare, or the error. -/
def compareS (a b : VV) : Int × Int :=
  if checkS a ≠ 0 then (0, checkS a)
  else if checkS b ≠ 0 then (0, checkS b)
  else if a.k ≠ b.k ∨ a.k = 1 ∨ a.k = 5 then (0, 8)
  else if a.k = 2 then (cmpI a.n b.n, 0)
  else if a.k = 3 then (cmpT a.t b.t, 0)
  else (cmpV (verS a.t) (verS b.t), 0)

/-- Texts with a comma and a space between them. -/
def joinC : List (List UInt8) → List UInt8
  | [] => []
  | [a] => a
  | a :: b :: r => a ++ 44 :: 32 :: joinC (b :: r)
/-- The source form of a value. -/
def formS (v : VV) : List UInt8 :=
  if v.k = 1 then (if v.n = 0 then [102, 97, 108, 115, 101] else [116, 114, 117, 101])
  else if v.k = 2 then Lib.itoa v.n
  else if v.k = 3 then quoteS v.t
  else if v.k = 4 then v.t
  else 91 :: (joinC (v.l.map quoteS) ++ [93])

end Go.Proofs.YtlohdmghaeabjaaGreatDoor.value

