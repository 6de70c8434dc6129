/- Which value a text is: what the reference's Parse gives is what the program's gives. No program in sight. -/
import Derived.Test.YtnghpjijfdpmkaaDoorValC
import Derived.Test.YtnghpjijfdpmkaaDoorTextPl
namespace Go.Proofs.YtnghpjijfdpmkaaDoor.value
open Go.Proofs.YtnghpjijfdpmkaaDoor.text

/-- A text in quotation marks, read, where it is one. -/
def uqS (l : List UInt8) : Option (List UInt8) := match unquoteS l with | some b => if validS b then some b else none | none => none
theorem uqS_quote {t l : List UInt8} (h : uqS l = some t) : quoteS t = l ∧ validS t = true := by
  unfold uqS at h
  cases h1 : unquoteS l with
  | none => rw [h1] at h; cases h
  | some b =>
    rw [h1] at h
    simp only at h
    split at h
    · rename_i hv
      injection h with h
      subst h
      exact ⟨quote_unquoteS h1, hv⟩
    · cases h
theorem uqS_of {t : List UInt8} (h : validS t = true) : uqS (quoteS t) = some t := by
  unfold uqS
  rw [unquoteS_quote]
  simp [h]

/-- Behind the first quotation mark: how many bytes to behind the closing one, or all. -/
def qScan : Bool → List UInt8 → Nat
  | _, [] => 0
  | true, _ :: r => 1 + qScan false r
  | false, c :: r => if c.toNat = 92 then 1 + qScan true r else if c.toNat = 34 then 1 else 1 + qScan false r
/-- How many bytes the quoted text at the beginning of s takes. -/
def quotedN : List UInt8 → Nat
  | [] => 0
  | _ :: r => 1 + qScan false r
/-- The same, or nothing where it is not closed. -/
def eScan : Bool → List UInt8 → Option Nat
  | _, [] => none
  | true, _ :: r => (eScan false r).map (1 + ·)
  | false, c :: r => if c.toNat = 92 then (eScan true r).map (1 + ·) else if c.toNat = 34 then some 1 else (eScan false r).map (1 + ·)
def endN : List UInt8 → Option Nat
  | [] => none
  | _ :: r => (eScan false r).map (1 + ·)
theorem qScan_esc : ∀ (l r : List UInt8), qScan false (escL l ++ 34 :: r) = (escL l).length + 1
  | [], r => by show qScan false (34 :: r) = 1; rw [qScan, if_neg (by decide), if_pos (by decide)]
  | c :: l, r => by
    have e : escL (c :: l) = esc c ++ escL l := by simp [escL]
    have ih := qScan_esc l r
    rw [e]
    by_cases h : c.toNat = 34 ∨ c.toNat = 92
    · rw [esc_two h]
      show qScan false (92 :: c :: (escL l ++ 34 :: r)) = _
      rw [qScan, if_pos (by decide), qScan, ih]
      simp only [List.length_append, List.length_cons, List.length_nil]
      omega
    · rw [esc_one (by omega) (by omega)]
      show qScan false (c :: (escL l ++ 34 :: r)) = _
      rw [qScan, if_neg (by omega), if_neg (by omega), ih]
      simp only [List.length_append, List.length_cons, List.length_nil]
      omega
theorem eScan_esc : ∀ (l r : List UInt8), eScan false (escL l ++ 34 :: r) = some ((escL l).length + 1)
  | [], r => by show eScan false (34 :: r) = some 1; rw [eScan, if_neg (by decide), if_pos (by decide)]
  | c :: l, r => by
    have e : escL (c :: l) = esc c ++ escL l := by simp [escL]
    have ih := eScan_esc l r
    rw [e]
    by_cases h : c.toNat = 34 ∨ c.toNat = 92
    · rw [esc_two h]
      show eScan false (92 :: c :: (escL l ++ 34 :: r)) = _
      rw [eScan, if_pos (by decide), eScan, ih]
      simp only [List.length_append, List.length_cons, List.length_nil, Option.map_some]
      congr 1
      omega
    · rw [esc_one (by omega) (by omega)]
      show eScan false (c :: (escL l ++ 34 :: r)) = _
      rw [eScan, if_neg (by omega), if_neg (by omega), ih]
      simp only [List.length_append, List.length_cons, List.length_nil, Option.map_some]
      congr 1
theorem quoteS_app (t r : List UInt8) : quoteS t ++ r = 34 :: (escL t ++ 34 :: r) := by simp [quoteS]
theorem quoteS_len (t : List UInt8) : (quoteS t).length = (escL t).length + 2 := by simp [quoteS]
theorem quotedN_quote (t r : List UInt8) : quotedN (quoteS t ++ r) = (quoteS t).length := by
  rw [quoteS_app, quotedN, qScan_esc, quoteS_len]; omega
theorem endN_quote (t r : List UInt8) : endN (quoteS t ++ r) = some (quoteS t).length := by
  rw [quoteS_app, endN, eScan_esc, quoteS_len]
  simp only [Option.map_some]
  congr 1
  omega

/-- Without ", " ahead of it. -/
def trimC (l : List UInt8) : List UInt8 := if List.isPrefixOf [44, 32] l then l.drop 2 else l
/-- The texts of a list behind its bracket, as the program reads them. -/
def listG : Nat → List UInt8 → List (List UInt8) → Option (List (List UInt8))
  | 0, _, acc => some acc
  | f + 1, s, acc => if s = [93] then some acc else match uqS (s.take (quotedN s)) with
    | none => none
    | some t => listG f (trimC (s.drop (quotedN s))) (acc ++ [t])
/-- As the reference reads them. -/
def elemS : Nat → List UInt8 → List (List UInt8) → Option (List (List UInt8))
  | 0, _, _ => none
  | f + 1, s, acc => if s = [93] then some acc else
    if ¬ (acc = []) ∧ List.isPrefixOf [44, 32] s = false then none else
      if ((if acc = [] then s else s.drop 2)).head? ≠ some 34 then none else
        match endN (if acc = [] then s else s.drop 2) with
        | none => none
        | some k => if (if acc = [] then s else s.drop 2).length ≤ k then none else match uqS ((if acc = [] then s else s.drop 2).take k) with
          | none => none
          | some t => elemS f ((if acc = [] then s else s.drop 2).drop k) (acc ++ [t])

/-- What stands behind a bracket when acc has been read and l is to come. -/
def tailS (acc : List (List UInt8)) (l : List (List UInt8)) : List UInt8 :=
  match l with
  | [] => [93]
  | a :: r => (if acc = [] then [] else [44, 32]) ++ quoteS a ++ tailS (acc ++ [a]) r
theorem tailS_cons (acc l : List (List UInt8)) (a : List UInt8) (h : acc ≠ []) : tailS acc l = (match l with | [] => [93] | b :: r => 44 :: 32 :: (joinC ((b :: r).map quoteS) ++ [93])) := by
  induction l generalizing acc a with
  | nil => rfl
  | cons b r ih =>
    rw [tailS, if_neg h, ih (acc ++ [b]) b (by simp)]
    cases r with
    | nil => simp [joinC]
    | cons c q => simp [joinC]
theorem tailS_form (l : List (List UInt8)) : tailS [] l = joinC (l.map quoteS) ++ [93] := by
  cases l with
  | nil => rfl
  | cons a r =>
    rw [tailS, if_pos rfl, tailS_cons _ r a (by simp)]
    cases r with
    | nil => simp [joinC]
    | cons c q => simp [joinC]

/-- .. without the comma. -/
def restS (acc l : List (List UInt8)) : List UInt8 :=
  match l with
  | [] => [93]
  | a :: r => quoteS a ++ tailS (acc ++ [a]) r
theorem trim_tail (acc l : List (List UInt8)) (h : acc ≠ []) : trimC (tailS acc l) = restS acc l := by
  cases l with
  | nil => rfl
  | cons a r =>
    rw [tailS, if_neg h, restS]
    show trimC (44 :: 32 :: (quoteS a ++ tailS (acc ++ [a]) r)) = _
    rw [trimC, if_pos (by simp [List.isPrefixOf])]
    rfl
theorem tail_first (l : List (List UInt8)) : tailS [] l = restS [] l := by
  cases l with
  | nil => rfl
  | cons a r => rw [tailS, if_pos rfl, restS]; rfl
theorem tailS_ne (acc l : List (List UInt8)) : tailS acc l ≠ [] := by
  cases l with
  | nil => simp [tailS]
  | cons a r => simp [tailS, quoteS]
theorem restS_cons_ne (acc r : List (List UInt8)) (a : List UInt8) : restS acc (a :: r) ≠ [93] := by
  intro e
  have := congrArg List.length e
  simp [restS, quoteS] at this
theorem listG_of : ∀ (l : List (List UInt8)) (acc : List (List UInt8)) (f : Nat), l.length ≤ f → (∀ t ∈ l, validS t = true) → listG f (restS acc l) acc = some (acc ++ l)
  | [], acc, f, _, _ => by
    cases f with
    | zero => simp [listG]
    | succ f => simp [listG, restS]
  | a :: r, acc, f, hf, hv => by
    cases f with
    | zero => simp at hf
    | succ f =>
      rw [listG, if_neg (restS_cons_ne acc r a)]
      have hq : quotedN (restS acc (a :: r)) = (quoteS a).length := quotedN_quote a _
      have ht : (restS acc (a :: r)).take (quoteS a).length = quoteS a := by simp [restS]
      have hd : (restS acc (a :: r)).drop (quoteS a).length = tailS (acc ++ [a]) r := by simp [restS]
      rw [hq, ht, hd, uqS_of (hv a (by simp)), trim_tail _ _ (by simp)]
      simp only
      rw [listG_of r (acc ++ [a]) f (by simpa using hf) (fun t h => hv t (by simp [h]))]
      simp

theorem elemS_of : ∀ (l : List (List UInt8)) (acc : List (List UInt8)) (f : Nat), l.length < f → (∀ t ∈ l, validS t = true) → elemS f (tailS acc l) acc = some (acc ++ l)
  | [], acc, f, hf, _ => by
    cases f with
    | zero => omega
    | succ f => simp [elemS, tailS]
  | a :: r, acc, f, hf, hv => by
    cases f with
    | zero => omega
    | succ f =>
      have hne : tailS acc (a :: r) ≠ [93] := by
        intro e
        have := congrArg List.length e
        simp [tailS, quoteS] at this
        omega
      have hpre : ¬ (¬ (acc = []) ∧ List.isPrefixOf [44, 32] (tailS acc (a :: r)) = false) := by
        rintro ⟨h1, h2⟩
        rw [tailS, if_neg h1] at h2
        simp [List.isPrefixOf] at h2
      have hb : (if acc = [] then tailS acc (a :: r) else (tailS acc (a :: r)).drop 2) = quoteS a ++ tailS (acc ++ [a]) r := by
        by_cases h : acc = []
        · rw [if_pos h, tailS, if_pos h]; rfl
        · rw [if_neg h, tailS, if_neg h]; rfl
      rw [elemS, if_neg hne, if_neg hpre, hb, endN_quote]
      have hhead : ¬ ((quoteS a ++ tailS (acc ++ [a]) r).head? ≠ some 34) := by simp [quoteS]
      have hlen : ¬ (quoteS a ++ tailS (acc ++ [a]) r).length ≤ (quoteS a).length := by
        have h1 := List.length_pos_iff.2 (tailS_ne (acc ++ [a]) r)
        rw [List.length_append]
        omega
      have ht : (quoteS a ++ tailS (acc ++ [a]) r).take (quoteS a).length = quoteS a := by simp
      have hd : (quoteS a ++ tailS (acc ++ [a]) r).drop (quoteS a).length = tailS (acc ++ [a]) r := by simp
      rw [if_neg hhead]
      simp only
      rw [if_neg hlen, ht, hd, uqS_of (hv a (by simp))]
      simp only
      rw [elemS_of r (acc ++ [a]) f (by simpa using hf) (fun t h => hv t (by simp [h]))]
      simp
theorem elemS_to : ∀ (f : Nat) (s : List UInt8) (acc l : List (List UInt8)), elemS f s acc = some l → ∃ l', l = acc ++ l' ∧ s = tailS acc l' ∧ ∀ t ∈ l', validS t = true
  | 0, s, acc, l, h => by cases h
  | f + 1, s, acc, l, h => by
    rw [elemS] at h
    split at h
    · rename_i hs
      injection h with h
      exact ⟨[], by simp [h], by rw [hs]; rfl, by simp⟩
    · split at h
      · cases h
      · rename_i hpre
        generalize hb : (if acc = [] then s else s.drop 2) = b at h
        split at h
        · cases h
        · split at h
          · cases h
          · rename_i k hk
            split at h
            · cases h
            · cases hu : uqS (b.take k) with
              | none => rw [hu] at h; cases h
              | some t =>
                rw [hu] at h
                simp only at h
                obtain ⟨l', h1, h2, h3⟩ := elemS_to f _ _ _ h
                obtain ⟨h4, h5⟩ := uqS_quote hu
                refine ⟨t :: l', by rw [h1]; simp, ?_, ?_⟩
                · have hbb : b = quoteS t ++ tailS (acc ++ [t]) l' := by rw [← h2, h4, List.take_append_drop]
                  by_cases ha : acc = []
                  · rw [if_pos ha] at hb
                    rw [tailS, if_pos ha, hb, hbb]
                    rfl
                  · rw [if_neg ha] at hb
                    have hp : List.isPrefixOf [44, 32] s = true := by
                      cases hx : List.isPrefixOf [44, 32] s with
                      | true => rfl
                      | false => exact absurd ⟨ha, hx⟩ hpre
                    obtain ⟨r, hr⟩ := List.isPrefixOf_iff_prefix.1 hp
                    rw [tailS, if_neg ha, ← hr]
                    rw [← hr] at hb
                    have : r = b := by rw [← hb]; rfl
                    rw [this, hbb]
                    simp
                · intro x hx
                  rcases List.mem_cons.1 hx with rfl | hx
                  · exact h5
                  · exact h3 x hx

/-- What the program takes a text for. -/
def guessS (s : List UInt8) : VV :=
  if s = [102, 97, 108, 115, 101] then ⟨1, 0, [], []⟩
  else if s = [116, 114, 117, 101] then ⟨1, 1, [], []⟩
  else if s.head? = some 34 then (match uqS s with | none => ⟨0, 0, [], []⟩ | some t => ⟨3, 0, t, []⟩)
  else if s.head? = some 91 then (match listG 21 (s.drop 1) [] with | none => ⟨0, 0, [], []⟩ | some l => ⟨5, 0, [], l⟩)
  else if (cutD s).isSome then ⟨4, 0, s, []⟩
  else if (parseS s).2 = 0 then ⟨2, (parseS s).1, [], []⟩ else ⟨0, 0, [], []⟩
/-- Which value a text is, by the program. -/
def parseP (s : List UInt8) : Option VV := if checkS (guessS s) = 0 ∧ formS (guessS s) = s then some (guessS s) else none
/-- What the reference takes a text for. -/
def guessR (s : List UInt8) : Option VV :=
  if s = [116, 114, 117, 101] then some ⟨1, 1, [], []⟩
  else if s = [102, 97, 108, 115, 101] then some ⟨1, 0, [], []⟩
  else if s.head? = some 34 then (match uqS s with | none => none | some t => some ⟨3, 0, t, []⟩)
  else if s.head? = some 91 ∧ 1 < s.length then (match elemS s.length (s.drop 1) [] with | none => none | some l => some ⟨5, 0, [], l⟩)
  else if (parseS s).2 = 0 then some ⟨2, (parseS s).1, [], []⟩ else some ⟨4, 0, s, []⟩
def parseR (s : List UInt8) : Option VV := match guessR s with | none => none | some v => if checkS v = 0 then some v else none

end Go.Proofs.YtnghpjijfdpmkaaDoor.value

