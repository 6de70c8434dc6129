/- A text without its quotation marks: the reference's Unquote and the program's give the same. Plain laws of quoted texts and of decimal numbers. No program in sight. Which value a text is: what the reference's Parse gives is what the program's gives. No program in sight. -/
import Derived.Test.YtfffpflflggonaaGreatDoorKS2
import Derived.Test.YtfffpflflggonaaGreatDoorKS1
import Derived.Lib.ItoaNum
namespace Go.Proofs.YtfffpflflggonaaGreatDoor.text
open Go.RowKit
def unqF : Bool→List UInt8→Option (List UInt8)
  | false,[]=>some []
  | true,[]=>none
  | true,c :: r=>if c.toNat = 34∨c.toNat = 92 then (unqF false r).map (c :: ·) else none
  | false,c :: r=>if c.toNat = 34 then none else if c.toNat = 92 then unqF true r else (unqF false r).map (c :: ·)
def unquoteS (l : List UInt8) : Option (List UInt8) :=
  if l.length < 2∨l.head? ≠ some 34∨l.getLast? ≠ some 34 then none else unqF false ((l.take (l.length - 1)).drop 1)
def unquoteV (l : List UInt8) : Value :=
  match unquoteS l with
  | none=>.tuple #[.string ⟨#[]⟩,.int .i64 1]
  | some b=>if validS b then .tuple #[.string ⟨b.toArray⟩,.int .i64 0] else .tuple #[.string ⟨#[]⟩,.int .i64 2]
def UnqRel (T : Option (List UInt8)) (e : Bool) (acc rest : List UInt8) : Prop:=(unqF e rest).map (acc ++ ·) = T
theorem unq_start (l : List UInt8) : UnqRel (unqF false l) false [] l:=by
  unfold UnqRel
  cases unqF false l <;> rfl
theorem unq_plain {T : Option (List UInt8)} {acc r : List UInt8} {c : UInt8} (h : UnqRel T false acc (c :: r)) (h1 : c.toNat ≠ 34) (h2 : c.toNat ≠ 92) : UnqRel T false (acc ++ [c]) r:=by
  unfold UnqRel at *
  rw [unqF,if_neg h1,if_neg h2,Option.map_map] at h
  rw [← h]
  congr 1
  funext x
  simp
theorem unq_esc {T : Option (List UInt8)} {acc r : List UInt8} {c : UInt8} (h : UnqRel T false acc (c :: r)) (h2 : c.toNat = 92) : UnqRel T true acc r:=by
  unfold UnqRel at *
  rw [unqF,if_neg (by omega),if_pos h2] at h
  exact h
theorem unq_escd {T : Option (List UInt8)} {acc r : List UInt8} {c : UInt8} (h : UnqRel T true acc (c :: r)) (h2 : c.toNat = 34∨c.toNat = 92) : UnqRel T false (acc ++ [c]) r:=by
  unfold UnqRel at *
  rw [unqF,if_pos h2,Option.map_map] at h
  rw [← h]
  congr 1
  funext x
  simp
theorem unq_quote {T : Option (List UInt8)} {acc r : List UInt8} {c : UInt8} (h : UnqRel T false acc (c :: r)) (h2 : c.toNat = 34) : T = none:=by
  unfold UnqRel at h
  rw [unqF,if_pos h2] at h
  exact h.symm
theorem unq_bad {T : Option (List UInt8)} {acc r : List UInt8} {c : UInt8} (h : UnqRel T true acc (c :: r)) (h1 : c.toNat ≠ 34) (h2 : c.toNat ≠ 92) : T = none:=by
  unfold UnqRel at h
  rw [unqF,if_neg (by omega)] at h
  exact h.symm
theorem unq_open {T : Option (List UInt8)} {acc : List UInt8} (h : UnqRel T true acc []) : T = none:=h.symm
theorem unq_end {T : Option (List UInt8)} {acc : List UInt8} (h : UnqRel T false acc []) : T = some acc:=by
  unfold UnqRel at h
  rw [unqF] at h
  simpa using h.symm
theorem head_byte' {s : ByteArray} (h : 0 < s.size) : s.data.toList.head? = some s[0]:=by
  rw [List.head?_eq_getElem?,Array.getElem?_toList]
  exact Array.getElem?_eq_getElem (show 0 < s.data.size from h)
def innerL (s : ByteArray) : List UInt8:=(s.data.toList.take (s.size - 1)).drop 1
theorem unquoteV_short {s : ByteArray} (h : s.size < 2) : unquoteV s.data.toList = .tuple #[.string ⟨#[]⟩,.int .i64 1]:=by
  unfold unquoteV unquoteS
  rw [if_pos (Or.inl (by simpa using h))]
theorem unquoteV_first {s : ByteArray} (h : 0 < s.size) (h1 : s[0].toNat ≠ 34) : unquoteV s.data.toList = .tuple #[.string ⟨#[]⟩,.int .i64 1]:=by
  unfold unquoteV unquoteS
  have hh : s.data.toList.head? ≠ some 34:=by
    have : s.data.toList.head? = some s[0]:=head_byte' h
    rw [this]
    intro e
    injection e with e
    exact h1 (by rw [e]; rfl)
  rw [if_pos (Or.inr (Or.inl hh))]
theorem last_byte {s : ByteArray} (h : 0 < s.size) : s.data.toList.getLast? = some (s[s.size - 1]'(by omega)):=by
  have e : s.data.toList.length - 1 = s.size - 1:=by simp
  rw [List.getLast?_eq_getElem?,e,Array.getElem?_toList]
  exact Array.getElem?_eq_getElem (show s.size - 1 < s.data.size by have : s.data.size = s.size:=rfl; omega)
theorem unquoteV_last {s : ByteArray} (h : 0 < s.size) (h1 : (s[s.size - 1]'(by omega)).toNat ≠ 34) : unquoteV s.data.toList = .tuple #[.string ⟨#[]⟩,.int .i64 1]:=by
  unfold unquoteV unquoteS
  have hh : s.data.toList.getLast? ≠ some 34:=by
    rw [last_byte h]
    intro e
    injection e with e
    exact h1 (by rw [e]; rfl)
  rw [if_pos (Or.inr (Or.inr hh))]
theorem unquoteS_inner {s : ByteArray} (h : 2≤s.size) (h1 : (s[0]'(by omega)).toNat = 34) (h2 : (s[s.size - 1]'(by omega)).toNat = 34) : unquoteS s.data.toList = unqF false (innerL s):=by
  unfold unquoteS innerL
  have e1 : s.data.toList.head? = some 34:=by
    have : s.data.toList.head? = some (s[0]'(by omega)):=head_byte' (by omega)
    rw [this]
    exact congrArg some (UInt8.toNat_inj.1 h1)
  have e2 : s.data.toList.getLast? = some 34:=by
    rw [last_byte (by omega)]
    exact congrArg some (UInt8.toNat_inj.1 h2)
  have e3 : s.data.toList.length = s.size:=by simp
  rw [if_neg (by rw [e1,e2,e3]; simp; omega),e3]
theorem ret_none {s : ByteArray} (h : unquoteS s.data.toList = none) : Ending.returned (.tuple #[.string ⟨#[]⟩,.int .i64 1]) = .returned (unquoteV s.data.toList):=by rw [unquoteV,h]
theorem ret_inval {s : ByteArray} {b : List UInt8} (h : unquoteS s.data.toList = some b) (hv : validS b = false) : Ending.returned (.tuple #[.string ⟨#[]⟩,.int .i64 2]) = .returned (unquoteV s.data.toList):=by
  rw [unquoteV,h]
  simp [hv]
theorem ret_read {s : ByteArray} {b : List UInt8} (h : unquoteS s.data.toList = some b) (hv : validS b = true) : Ending.returned (.tuple #[.string ⟨b.toArray⟩,.int .i64 0]) = .returned (unquoteV s.data.toList):=by
  rw [unquoteV,h]
  simp [hv]
def RefRel (s : ByteArray) (w wr : World) (k : Nat) (va : Option Addr) (n vc : Nat) (acc : List UInt8) : Prop :=
  UnqRel (unquoteS s.data.toList) false acc ((innerL s).drop (k - 1))∧n = acc.length∧BS w.heap.size (.slice va n vc) acc wr∧Below w.heap.size w wr
end Go.Proofs.YtfffpflflggonaaGreatDoor.text
namespace Go.Proofs.YtfffpflflggonaaGreatDoor.text
theorem unq_escL : ∀ l : List UInt8,unqF false (escL l) = some l
  | []=>rfl
  | c :: r=>by
    have ih:=unq_escL r
    have e : escL (c :: r) = esc c ++ escL r:=by simp [escL]
    rw [e]
    by_cases h : c.toNat = 34∨c.toNat = 92
    · rw [esc_two h]
      show unqF false (92 :: c :: escL r) = _
      have h92 : (92 : UInt8).toNat = 92:=rfl
      rw [unqF,if_neg (by omega),if_pos h92,unqF,if_pos h,ih]
      rfl
    · rw [esc_one (by omega) (by omega)]
      show unqF false (c :: escL r) = _
      rw [unqF,if_neg (by omega),if_neg (by omega),ih]
      rfl
theorem unquoteS_quote (l : List UInt8) : unquoteS (quoteS l) = some l:=by
  unfold unquoteS quoteS
  have h1 : ¬ ((34 :: (escL l ++ [34])).length < 2∨(34 :: (escL l ++ [34])).head? ≠ some 34∨(34 :: (escL l ++ [34])).getLast? ≠ some 34):=by
    have : (34 :: (escL l ++ [34])).getLast? = some 34:=by
      rw [← List.cons_append,List.getLast?_append]; rfl
    rw [this]
    simp
  rw [if_neg h1]
  have h2 : List.drop 1 (List.take ((34 :: (escL l ++ [34])).length - 1) (34 :: (escL l ++ [34]))) = escL l:=by
    simp
  rw [h2]
  exact unq_escL l
theorem digit_ofNat {d : Nat} (h : d < 10) : digB (UInt8.ofNat (48 + d)) = true:=by
  unfold digB
  have : (UInt8.ofNat (48 + d)).toNat = 48 + d:=by simp; omega
  rw [this]
  simp; omega
theorem dec_digits (u : Nat) : (Lib.decDigits u).all digB = true:=by
  induction u using Nat.strongRecOn with
  | _ u ih =>
    by_cases h : u < 10
    · rw [Lib.decDigits,dif_pos h]
      rw [List.all_cons,digit_ofNat h]
      rfl
    · rw [Lib.decDigits,dif_neg h,List.all_append,ih (u / 10) (by omega)]
      rw [List.all_cons,digit_ofNat (show u % 10 < 10 by omega)]
      rfl
theorem dec_val (u : Nat) : valFrom 0 (Lib.decDigits u) = u:=by
  induction u using Nat.strongRecOn with
  | _ u ih =>
    by_cases h : u < 10
    · rw [Lib.decDigits,dif_pos h]
      have : (UInt8.ofNat (48 + u)).toNat = 48 + u:=by simp; omega
      show 10 * 0 + ((UInt8.ofNat (48 + u)).toNat - 48) = u
      rw [this]; omega
    · rw [Lib.decDigits,dif_neg h,valFrom_snoc,ih (u / 10) (by omega)]
      have : (UInt8.ofNat (48 + u % 10)).toNat = 48 + u % 10:=by simp; omega
      rw [this]; omega
theorem dec_head (u : Nat) (h : u ≠ 0) : (Lib.decDigits u).head? ≠ some 48:=by
  induction u using Nat.strongRecOn with
  | _ u ih =>
    by_cases h10 : u < 10
    · rw [Lib.decDigits,dif_pos h10]
      intro e
      have e1 : UInt8.ofNat (48 + u) = 48:=by simpa using e
      have e2:=congrArg UInt8.toNat e1
      have : (UInt8.ofNat (48 + u)).toNat = 48 + u:=by simp; omega
      rw [this] at e2
      have : (48 : UInt8).toNat = 48:=rfl
      omega
    · rw [Lib.decDigits,dif_neg h10]
      have hne : Lib.decDigits (u / 10) ≠ []:=by
        intro e
        have:=Lib.decDigits_length (u / 10)
        rw [e] at this
        have:=Lib.nDigits_pos (u / 10)
        simp at *
        omega
      have:=ih (u / 10) (by omega) (by omega)
      cases hd : Lib.decDigits (u / 10) with
      | nil=>exact absurd hd hne
      | cons a r=>rw [hd] at this; simpa using this
theorem dec_ne (u : Nat) : Lib.decDigits u ≠ []:=by
  intro e
  have h1:=Lib.decDigits_length u
  rw [e] at h1
  have:=Lib.nDigits_pos u
  simp at h1
  omega
theorem digs_itoa (n : Int) : digsOf (Lib.itoa n) = Lib.decDigits n.natAbs:=by
  unfold Lib.itoa
  split
  · rfl
  · have e : n.toNat = n.natAbs:=by omega
    rw [e]
    have hd:=dec_digits n.natAbs
    cases h : Lib.decDigits n.natAbs with
    | nil=>rfl
    | cons c r =>
      rw [h,List.all_cons,Bool.and_eq_true] at hd
      have:=digB_bd hd.1
      rw [digsOf,if_neg (by omega)]
theorem parse_itoa (n : Int) : parseS (Lib.itoa n) = if n < -1099511627776∨1099511627776 < n then (0,3) else (n,0):=by
  unfold parseS
  rw [digs_itoa,dec_digits,dec_val]
  have h1 : ¬ (Lib.decDigits n.natAbs = []∨true = false∨((Lib.decDigits n.natAbs).head? = some 48∧Lib.itoa n ≠ [48])):=by
    rintro (h | h | ⟨h,h2⟩)
    · exact dec_ne _ h
    · cases h
    · by_cases h0 : n.natAbs = 0
      · have : n = 0:=by omega
        subst this
        exact h2 itoa_zero
      · exact dec_head _ h0 h
  rw [if_neg h1]
  have hlen : 13 < (Lib.decDigits n.natAbs).length→1099511627776 < n.natAbs:=by
    intro h
    rw [Lib.decDigits_length] at h
    have hne : n.natAbs ≠ 0:=by
      intro e
      rw [e,Lib.nDigits_small (by decide)] at h
      omega
    have h2:=Lib.pow_le_of_nDigits n.natAbs hne
    have h3 : 10 ^ 13≤10 ^ (Lib.nDigits n.natAbs - 1):=Nat.pow_le_pow_right (by decide) (by omega)
    have h4 : (10 : Nat) ^ 13 = 10000000000000:=by decide
    omega
  have hl : (Lib.decDigits n.natAbs).length < (Lib.itoa n).length ↔ n < 0:=by
    unfold Lib.itoa
    split
    · rename_i h
      simp [h]
    · rename_i h
      have e : n.toNat = n.natAbs:=by omega
      rw [e]
      simp [h]
  by_cases hb : n < -1099511627776∨1099511627776 < n
  · rw [if_pos hb,if_pos (Or.inr (by omega))]
  · rw [if_neg hb,if_neg (by intro e; rcases e with e | e; (have:=hlen e; omega); omega)]
    by_cases h0 : n < 0
    · rw [if_pos (hl.2 h0)]
      congr 1
      omega
    · rw [if_neg (fun e=>h0 (hl.1 e))]
      congr 1
      omega
end Go.Proofs.YtfffpflflggonaaGreatDoor.text
namespace Go.Proofs.YtfffpflflggonaaGreatDoor.value
open text
theorem quoteS_len (t : List UInt8) : (quoteS t).length = (escL t).length + 2:=by simp [quoteS]
end Go.Proofs.YtfffpflflggonaaGreatDoor.value
