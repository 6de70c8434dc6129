/- The reference's Parse gives what the program's gives; a source form is read as the value. No program in sight. The tokens of a source text, said plainly. No program in sight. -/
import Derived.Test.YtfffpflflggonaaGreatDoorKS3
namespace Go.Proofs.YtfffpflflggonaaGreatDoor.value
open text
theorem dec_of_digits : ∀ (n : Nat) (D : List UInt8),D.length = n→D ≠ []→D.all digB = true→(D.head? = some 48→D = [48])→Lib.decDigits (valFrom 0 D) = D
  | 0,D,hn,h,_,_=>absurd (List.eq_nil_of_length_eq_zero hn) h
  | n + 1,D,hn,h,ha,h0=>by
    obtain ⟨E,c,rfl⟩ : ∃ E c,D = E ++ [c]:=⟨D.dropLast,D.getLast h,(List.dropLast_concat_getLast h).symm⟩
    rw [List.all_append,Bool.and_eq_true] at ha
    have hc : digB c = true:=by simpa using ha.2
    obtain ⟨hc0,hc1⟩:=digB_bd hc
    have hof : UInt8.ofNat (48 + (c.toNat - 48)) = c:=by
      apply UInt8.toNat_inj.1
      simp
      omega
    rw [valFrom_snoc]
    by_cases hE : E = []
    · subst hE
      have e : valFrom 0 [] = 0:=rfl
      rw [e,Lib.decDigits,dif_pos (by omega)]
      have e2 : 10 * 0 + (c.toNat - 48) = c.toNat - 48:=by omega
      rw [e2,hof]
      rfl
    · have hE0 : E.head? ≠ some 48:=by
        intro e
        have : (E ++ [c]).head? = some 48:=by
          cases E with
          | nil=>exact absurd rfl hE
          | cons a r=>simpa using e
        have h1:=h0 this
        have:=congrArg List.length h1
        simp at this
        exact hE this
      have ih:=dec_of_digits n E (by simpa using hn) hE ha.1 (fun e=>absurd e hE0)
      have hpos : 1≤valFrom 0 E:=by
        cases E with
        | nil=>exact absurd rfl hE
        | cons a r =>
          have ha1 : digB a = true:=by have:=ha.1; rw [List.all_cons,Bool.and_eq_true] at this; exact this.1
          obtain ⟨b0,b1⟩:=digB_bd ha1
          have hne : a.toNat ≠ 48:=by
            intro e
            exact hE0 (by simp; exact UInt8.toNat_inj.1 e)
          have e : valFrom 0 (a :: r) = valFrom (10 * 0 + (a.toNat - 48)) r:=rfl
          rw [e]
          have hg:=valFrom_ge r (10 * 0 + (a.toNat - 48))
          have hp : 1≤10 ^ r.length:=Nat.one_le_pow _ _ (by decide)
          have hm : 10 * 0 + (a.toNat - 48)≤(10 * 0 + (a.toNat - 48)) * 10 ^ r.length:=Nat.le_mul_of_pos_right _ hp
          omega
      rw [Lib.decDigits,dif_neg (by omega)]
      have e1 : (10 * valFrom 0 E + (c.toNat - 48)) / 10 = valFrom 0 E:=by omega
      have e2 : (10 * valFrom 0 E + (c.toNat - 48)) % 10 = c.toNat - 48:=by omega
      rw [e1,e2,ih,hof]
theorem number_form {s : List UInt8} (h : (parseS s).2 = 0) : -1099511627776≤(parseS s).1∧(parseS s).1≤1099511627776∧Lib.itoa (parseS s).1 = s∧(digsOf s).all digB = true:=by
  unfold parseS at h ⊢
  split at h
  · cases h
  · rename_i h1
    rw [if_neg h1]
    split at h
    · cases h
    · rename_i h2
      rw [if_neg h2]
      have hne : digsOf s ≠ []:=fun e=>h1 (Or.inl e)
      have hall : (digsOf s).all digB = true:=by
        cases e : (digsOf s).all digB with
        | true=>rfl
        | false=>exact absurd (Or.inr (Or.inl e)) h1
      have hz : (digsOf s).head? = some 48→s = [48]:=fun e=>Classical.byContradiction fun e2=>h1 (Or.inr (Or.inr ⟨e,e2⟩))
      have hd48 : digsOf [48] = [48]:=rfl
      have hdec:=dec_of_digits _ (digsOf s) rfl hne hall (fun e=>by rw [hz e]; rfl)
      have hv : valFrom 0 (digsOf s)≤1099511627776:=by
        rcases Nat.lt_or_ge 1099511627776 (valFrom 0 (digsOf s)) with h9 | h9
        · exact absurd (Or.inr h9) h2
        · exact h9
      cases s with
      | nil=>exact absurd rfl hne
      | cons c r =>
        by_cases hc : c.toNat = 45
        · have hdr : digsOf (c :: r) = r:=by rw [digsOf,if_pos hc]
          rw [hdr] at hdec hv hall hz ⊢
          rw [if_pos (by simp)]
          have hpos : valFrom 0 r ≠ 0:=by
            intro e
            rw [e,Lib.decDigits,dif_pos (by decide)] at hdec
            have h48 : r.head? = some 48:=by rw [← hdec]; rfl
            have:=hz h48
            injection this with h3 _
            rw [h3] at hc
            exact absurd hc (by decide)
          have hneg : -(valFrom 0 r : Int) < 0:=by omega
          refine ⟨by simp only []; omega,by simp only []; omega,?_,hall⟩
          simp only []
          rw [Lib.itoa,if_pos hneg,Int.natAbs_neg,Int.natAbs_natCast,hdec]
          congr 1
          exact (UInt8.toNat_inj.1 (hc.trans rfl)).symm
        · have hdr : digsOf (c :: r) = c :: r:=by rw [digsOf,if_neg hc]
          rw [hdr] at hdec hv hall ⊢
          rw [if_neg (by simp)]
          refine ⟨by simp only []; omega,by simp only []; omega,?_,hall⟩
          simp only []
          rw [Lib.itoa,if_neg (by omega),Int.toNat_natCast,hdec]
theorem list_ok {l : List (List UInt8)} (h : listS l = 0) : l.length≤20∧∀ t∈l,validS t = true:=by
  unfold listS at h
  split at h
  · cases h
  · rename_i h1
    split at h
    · cases h
    · rename_i h2
      refine ⟨by omega,?_⟩
      have : l.all validS = true:=by
        cases e : l.all validS with
        | true=>rfl
        | false=>exact absurd e h2
      exact fun t ht=>List.all_eq_true.1 this t ht
end Go.Proofs.YtfffpflflggonaaGreatDoor.value
namespace Go.Proofs.YtfffpflflggonaaGreatDoor.lex
open text value
def letB (c : UInt8) : Bool:=decide (97≤c.toNat) && decide (c.toNat≤122)
def wordB (c : UInt8) : Bool:=letB c || digB c || decide (c.toNat = 45) || decide (c.toNat = 95)
def numB (c : UInt8) : Bool:=digB c || decide (c.toNat = 46)
def lineB (c : UInt8) : Bool:=decide (c.toNat ≠ 10)
def signB (c : UInt8) : Bool:=[123,125,40,41,91,93,44,46,60,62].contains c.toNat
def spanN (p : UInt8→Bool) : List UInt8→Nat
  | []=>0
  | c :: r=>if p c then 1 + spanN p r else 0
theorem spanN_le (p : UInt8→Bool) : ∀ l,spanN p l≤l.length
  | []=>Nat.le_refl _
  | c :: r=>by
    have:=spanN_le p r
    rw [spanN,List.length_cons]
    split <;> omega
def lqS : Bool→List UInt8→Option Nat
  | _,[]=>none
  | true,c :: r=>if c.toNat = 10 then none else (lqS false r).map (1 + ·)
  | false,c :: r=>if c.toNat = 10 then none else if c.toNat = 34 then some 1 else if c.toNat = 92 then (lqS true r).map (1 + ·) else (lqS false r).map (1 + ·)
theorem lqS_le : ∀ (l : List UInt8) (e : Bool) (k : Nat),lqS e l = some k→1≤k∧k≤l.length
  | [],e,k,h=>by cases e <;> cases h
  | c :: r,e,k,h=>by
    have ih:=lqS_le r
    have key : ∀ e',(lqS e' r).map (1 + ·) = some k→1≤k∧k≤(c :: r).length:=by
      intro e' h1
      cases h2 : lqS e' r with
      | none=>rw [h2] at h1; cases h1
      | some q =>
        rw [h2] at h1
        have:=ih e' q h2
        simp only [Option.map_some,Option.some.injEq] at h1
        rw [List.length_cons]
        omega
    cases e with
    | true =>
      rw [lqS] at h
      split at h
      · cases h
      · exact key _ h
    | false =>
      rw [lqS] at h
      split at h
      · cases h
      · split at h
        · injection h with h; rw [List.length_cons]; omega
        · split at h
          · exact key _ h
          · exact key _ h
structure Tk where
  k : Int
  t : List UInt8
  n : Int
def nextC (c : UInt8) (r : List UInt8) : Except Int (Tk × Nat) :=
  if letB c then .ok (⟨1,(c :: r).take (1 + spanN wordB r),0⟩,1 + spanN wordB r)
  else if digB c || (decide (c.toNat = 45) && (match r with | []=>false | d :: _=>digB d)) then
    if (verS ((c :: r).take (1 + spanN numB r))).isSome then .ok (⟨4,(c :: r).take (1 + spanN numB r),0⟩,1 + spanN numB r)
    else if (parseS ((c :: r).take (1 + spanN numB r))).2 = 0 then .ok (⟨2,[],(parseS ((c :: r).take (1 + spanN numB r))).1⟩,1 + spanN numB r) else .error (parseS ((c :: r).take (1 + spanN numB r))).2
  else if c.toNat = 34 then
    match lqS false r with
    | none=>.error 1
    | some k=>match unquoteS ((c :: r).take (1 + k)) with
      | none=>.error 1
      | some b=>if validS b then .ok (⟨3,b,0⟩,1 + k) else .error 2
  else if signB c then
    if (decide (c.toNat = 60) || decide (c.toNat = 62)) && (match r with | []=>false | d :: _=>decide (d.toNat = 61)) then .ok (⟨5,(c :: r).take 2,0⟩,2) else .ok (⟨5,(c :: r).take 1,0⟩,1)
  else .error 1
def nextS (s : List UInt8) : Except Int (Tk × Nat) :=
  match s with
  | []=>.error 1
  | c :: r=>nextC c r
theorem nextS_cons (c : UInt8) (r : List UInt8) : nextS (c :: r) = nextC c r:=rfl
structure Tok where
  k : Int
  t : List UInt8
  n : Int
  line : Int
def tokF : Nat→List UInt8→Int→Except (Int × Int) (List Tok)
  | 0,_,line=>.ok [⟨6,[],0,line⟩]
  | f + 1,s,line =>
    match s with
    | []=>.ok [⟨6,[],0,line⟩]
    | c :: r =>
      if c.toNat = 10 then tokF f r (line + 1)
      else if c.toNat = 32∨c.toNat = 9 then tokF f r line
      else if c.toNat = 35 then tokF f (s.drop (spanN lineB s)) line
      else match nextS s with
        | .error e=>.error (e,line)
        | .ok (t,n)=>match tokF f (s.drop n) line with
          | .error e=>.error e
          | .ok l=>.ok (⟨t.k,t.t,t.n,line⟩ :: l)
def toksS (s : List UInt8) : Except (Int × Int) (List Tok):=if 30000 < s.length then .error (4,0) else tokF (s.length + 1) s 1
end Go.Proofs.YtfffpflflggonaaGreatDoor.lex
