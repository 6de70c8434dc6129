/- strings.Builder's WriteString, walked over this program: a builder that the call itself has made holds the text's bytes more. strings.Join with ", " walked over this program. One element appended to a slice whose capacity is its length: a new block is made. The source form of a value: the program's Format. -/
import Derived.Test.YtfffpflflggonaaGreatDoorKS2
import Derived.Lib.AppendStr
import Derived.Test.YtfffpflflggonaaGreatDoorKS10
import Derived.Deep.Onto
import Derived.Test.YtfffpflflggonaaGreatDoorKS15
namespace Go.Proofs.YtfffpflflggonaaGreatDoor.text
open Go.RowKit
theorem cells_str (l : List UInt8) (s : ByteArray) : Lib.byteCells (l ++ s.data.toList) = Lib.byteCells l ++ Lib.strCells s:=by simp [Lib.byteCells,Lib.strCells]
set_option maxRecDepth 100000 in
set_option maxHeartbeats 1000000 in
theorem writeString_any (B b : Nat) (l : List UInt8) (s : ByteArray) (w : World) (h : IsB B b l w) (hl : l.length + s.size≤140737488355328) (hB : B≤w.heap.size) :
    Calls Tryz.prog 200 #[.pointer (some ⟨b,0,none⟩),.string s] w fun e w'=>e = .returned (.tuple #[.int .i64 s.size,.nilIface])∧(IsB B b (l ++ s.data.toList) w'∧Below B w w'):=by
  obtain ⟨i0,hi,hz0,hz1,hz2⟩:=info_parts infoByte
  go_enter Tryz.func200,Tryz.ntmps200
  go_wp2_with fail
  refine (copyCheck_any B b l _ h).mono ?_
  rintro e w1 ⟨rfl,h1,hb1⟩
  obtain ⟨hBb,v,hbk,hown,hne⟩:=h1
  obtain ⟨va,vc,rfl⟩:=owns_slice hown
  have hO:=Lib.hid (show Own w1 b #[.pointer (some ⟨b,0,none⟩),.slice va (Lib.byteCells l).length vc] 241 from hbk)
  have c0:=hO.out.cell 0
  have c1:=hO.out.cell 1
  simp at c0 c1
  have hlb : (Lib.byteCells l).length = l.length:=by simp [Lib.byteCells]
  rw [hlb] at hown hne c1
  have hs1:=hb1.size
  have hb10:=Lib.hid hb1
  have hown0:=Lib.hid hown
  have hne0:=Lib.hid hne
  clear hown hbk hne hlb hb1
  go_wp2_with (at_builtin; refine Lib.wpList_append_own_string _ rfl _ _ _ _ rfl B 5 i0 Tryz.underlying22 Tryz.underlying9 hi hz0 hz1 hz2 (.slice va l.length vc) l.length (Lib.byteCells l) rfl hown0.out s rfl (by unfold maxLen; omega) (by omega) (by omega) ?_; intro v' w2 hown2 hgrow hnil; clear hnil; obtain ⟨g2,n2,hv2⟩:=owns_slice hown2; subst hv2; replace hown2:=Lib.hid hown2; have hO2:=hO.out.kept hgrow hne0.out; have d0:=hO2.cell 0; have d1:=hO2.cell 1; have d2:=hO2.free 1; simp at d0 d1)
  go_ret2
  refine ⟨rfl,Or.inr (Lib.BuilderAt.put hBb hO2 (bs':=Lib.byteCells (l ++ s.data.toList)) (by have:=hown2.out; rw [cells_str,List.length_append,Lib.strCells_length,Lib.byteCells_length]; exact this) (by decide)),?_⟩
  exact (((hb10.out).grown hgrow (by omega) (fun k hk=>((hown0.out).lt k hk).1)).setCell (p:=⟨b,1,none⟩) hBb _)
end Go.Proofs.YtfffpflflggonaaGreatDoor.text
namespace Go.Proofs.YtfffpflflggonaaGreatDoor.value
open Go.RowKit text
theorem joinC_snoc : ∀ (l : List (List UInt8)) (x : List UInt8),l ≠ []→joinC (l ++ [x]) = joinC l ++ [44,32] ++ x
  | [],_,h=>absurd rfl h
  | [a],x,_=>by simp [joinC]
  | a :: b :: r,x,_=>by
    have:=joinC_snoc (b :: r) x (by simp)
    simp only [List.cons_append] at this ⊢
    rw [joinC,this,joinC]
    simp
def sumL (l : List (List UInt8)) : Nat:=(l.map List.length).sum
theorem joinC_len : ∀ l : List (List UInt8),l ≠ []→(joinC l).length = 2 * (l.length - 1) + sumL l
  | [],h=>absurd rfl h
  | [a],_=>by simp [joinC,sumL]
  | a :: b :: r,_=>by
    have:=joinC_len (b :: r) (by simp)
    rw [joinC]
    simp only [List.length_append,List.length_cons,this]
    simp only [sumL,List.map_cons,List.sum_cons]
    omega
theorem sum_take {ls : List ByteArray} {k : Nat} (h : k < ls.length) : sumL ((lsL ls).take (k + 1)) = sumL ((lsL ls).take k) + ls[k].size:=by
  have hl : k < (lsL ls).length:=by simpa [lsL] using h
  rw [List.take_succ_eq_append_getElem hl]
  simp [sumL,lsL]
theorem sum_take_le (l : List (List UInt8)) (k : Nat) : sumL (l.take k)≤sumL l:=by
  have:=List.take_append_drop k l
  have e : sumL l = sumL (l.take k) + sumL (l.drop k):=by
    conv=>lhs; rw [← this]
    rw [sumL,List.map_append,List.sum_append]
    rfl
  omega
theorem join_take {ls : List ByteArray} {k : Nat} (h0 : 1≤k) (h : k < ls.length) : joinC ((lsL ls).take (k + 1)) = joinC ((lsL ls).take k) ++ [44,32] ++ ls[k].data.toList:=by
  have hl : k < (lsL ls).length:=by simpa [lsL] using h
  rw [List.take_succ_eq_append_getElem hl,joinC_snoc _ _ (by
    intro e
    have:=congrArg List.length e
    simp only [List.length_take,List.length_nil] at this
    omega)]
  simp [lsL]
theorem take_le (l : List (List UInt8)) (k : Nat) (h0 : 1≤k) (h : k≤l.length) : (joinC (l.take k)).length≤(joinC l).length:=by
  have h1 : l.take k ≠ []:=by
    intro e
    have:=congrArg List.length e
    simp only [List.length_take,List.length_nil] at this
    omega
  have h2 : l ≠ []:=by intro e; subst e; simp at h; omega
  rw [joinC_len _ h1,joinC_len _ h2,List.length_take]
  have:=sum_take_le l k
  omega
set_option maxRecDepth 100000 in
set_option maxHeartbeats 4000000 in
theorem join_any (blk off lc : Nat) (ls : List ByteArray) (w : World) (hL : ∀ k (h : k < ls.length),w.cell? ⟨blk,off + k,none⟩ = some (.string ls[k])) (h2 : 2≤ls.length) (hlc : ls.length≤lc) (_hb : blk < w.heap.size) (h20 : ls.length≤20)
    (hsz : (joinC (lsL ls)).length≤140737488355328) :
    Calls Tryz.prog 122 #[.slice (some ⟨blk,off,none⟩) ls.length lc,.string ⟨#[44,32]⟩] w fun e w'=>e = .returned (.string ⟨(joinC (lsL ls)).toArray⟩)∧Below w.heap.size w w':=by
  have hne : lsL ls ≠ []:=by intro e; have:=congrArg List.length e; simp [lsL] at this; rw [this] at h2; simp at h2
  have hlen : (lsL ls).length = ls.length:=by simp [lsL]
  have htot:=joinC_len (lsL ls) hne
  rw [hlen] at htot
  have hs0 : ∀ k,sumL ((lsL ls).take k)≤sumL (lsL ls):=fun k=>sum_take_le _ _
  replace hL:=Lib.hid hL
  replace hs0:=Lib.hid hs0
  have e0 : ((ls.length : Int) == 0) = false:=by simp; intro e; rw [e] at h2; simp at h2
  have e1 : ((ls.length : Int) == 1) = false:=by simp; omega
  have e2 : (2 : Int) < 9223372036854775807 / ((ls.length : Int) - 1):=by
    have : (3 : Int)≤9223372036854775807 / ((ls.length : Int) - 1):=Int.le_ediv_of_mul_le (by omega) (by omega)
    omega
  clear hne hlen
  go_enter Tryz.func122,Tryz.ntmps122
  go_wp2
  clear e0 e1 e2
  go_loopw [5,41] (fun n i wr=>w = wr∧∃ k t : Nat,k≤ls.length∧i = .int .i64 k∧n = .int .i64 t∧Hid (t = 2 * (ls.length - 1) + sumL ((lsL ls).take k))) (fun _ i _=>ls.length - (intOf i).toNat)
  case atStart=>exact ⟨by first | rfl | trivial,0,2 * (ls.length - 1),by omega,by first | rfl | trivial,by congr 1; omega,show 2 * (ls.length - 1) = 2 * (ls.length - 1) + sumL ((lsL ls).take 0) by simp [sumL]⟩
  case round =>
    obtain ⟨rfl,k,t,hk,rfl,rfl,ht⟩:=hrel
    by_cases hkl : k < ls.length
    · have hc:=hL.out k hkl
      have hst:=sum_take hkl
      have hs1:=hs0.out (k + 1)
      have hb1 : t + ls[k].size≤140737488355328:=by have:=ht.out; omega
      have hn : t + ls[k].size = 2 * (ls.length - 1) + sumL ((lsL ls).take (k + 1)):=by have:=ht.out; omega
      replace hn:=Lib.hid hn
      clear hst hs1 ht htot hsz
      go_wp2
      go_roundw
      case rel=>exact ⟨by first | rfl | trivial,k + 1,t + ls[k].size,by omega,by simp,by simp,hn.out⟩
      case measure=>simp [intOf]; omega
    · have hkk : k = ls.length:=by omega
      subst hkk
      have ht2 : t = (joinC (lsL ls)).length:=by
        have:=ht.out
        rw [htot,this,List.take_of_length_le (by simp [lsL])]
      subst ht2
      clear ht hkl
      have hG0:=Lib.hid (Tryz.Builder_Grow_fresh w.heap.size w.heap.size (joinC (lsL ls)).length (w.alloc (.cells #[.pointer none,.slice none 0 0] 241)) (Nat.le_refl _) (Own.new w _ _) (by simp) (by omega))
      generalize (joinC (lsL ls)).length = T at hG0 ⊢
      go_wp2_with fail
      refine (hG0.out).mono ?_
      rintro e w1 ⟨rfl,hg,hb1⟩
      have hB1:=Lib.hid (show Below w.heap.size w w1 from ((Below.refl _ _).alloc (Nat.le_refl _) _).trans (hb1.mono (Nat.le_refl _)))
      have hG:=Lib.hid (show IsB w.heap.size w.heap.size [] w1 from Or.inr hg)
      clear hG0 hb1 hg
      have hc0:=sub_of_below hB1.out _ _ (hL.out 0 (by omega))
      have hs1 : ls[0].size≤140737488355328:=by have:=hs0.out (0 + 1); have h7:=sum_take (ls:=ls) (k:=0) (by omega); omega
      rw [Nat.add_zero] at hc0
      go_wp2_with fail
      refine (writeString_any w.heap.size w.heap.size [] ls[0] _ hG.out (by simpa using hs1) hB1.out.size).mono ?_
      rintro e w2 ⟨rfl,hG2,hb2⟩
      replace hG2:=Lib.hid hG2
      have hB2:=Lib.hid (hB1.out.trans hb2)
      clear hb2 hB1 hc0 hs1 hG
      have hacc : joinC ((lsL ls).take 1) = [] ++ ls[0].data.toList:=by
        match ls,h2 with
        | a :: b :: r,_=>simp [lsL,joinC]
      rw [← hacc] at hG2
      clear hacc
      replace hsz:=Lib.hid hsz
      replace htot:=Lib.hid htot
      go_wp2
      go_loopw [65] (fun i wr=>∃ k : Nat,k + 1≤ls.length∧i = .int .i64 k∧Hid (IsB w.heap.size w.heap.size (joinC ((lsL ls).take (k + 1))) wr)∧Hid (Below w.heap.size w wr)) (fun i _=>ls.length - (intOf i).toNat)
      case atStart=>exact ⟨0,by omega,rfl,hG2.out,hB2.out⟩
      case round =>
        clear hG2 hB2
        obtain ⟨k,hk,rfl,hG,hB⟩:=hrel
        by_cases hkl : k + 1 < ls.length
        · have hc:=sub_of_below hB.out _ _ (hL.out (k + 1) hkl)
          rw [show off + (k + 1) = off + 1 + k by omega] at hc
          have hj:=join_take (ls:=ls) (k:=k + 1) (by omega) hkl
          have hlt:=take_le (lsL ls) (k + 1 + 1) (by omega) (by simp [lsL]; omega)
          have hle:=Lib.hid (Nat.le_trans hlt hsz.out)
          rw [hj] at hle
          have hz1:=Lib.hid (show (joinC ((lsL ls).take (k + 1))).length + 2≤140737488355328 by have:=hle.out; simp only [List.length_append,List.length_cons,List.length_nil] at this; omega)
          have hz2:=Lib.hid (show (joinC ((lsL ls).take (k + 1)) ++ [44,32]).length + ls[k + 1].size≤140737488355328 by have:=hle.out; simp only [List.length_append,Array.length_toList] at this ⊢; exact this)
          replace hj:=Lib.hid hj
          clear hlt hle
          go_wp2_with fail
          refine (writeString_any w.heap.size w.heap.size _ ⟨#[44,32]⟩ _ hG.out hz1.out hB.out.size).mono ?_
          rintro e w3 ⟨rfl,hG3,hb3⟩
          replace hG3:=Lib.hid hG3
          have hB3:=Lib.hid (hB.out.trans hb3)
          clear hb3 hG hB hc
          go_wp2_with fail
          refine (writeString_any w.heap.size w.heap.size _ ls[k + 1] _ hG3.out hz2.out hB3.out.size).mono ?_
          rintro e w4 ⟨rfl,hG4,hb4⟩
          rw [← hj.out] at hG4
          replace hG4:=Lib.hid hG4
          have hB4:=Lib.hid (hB3.out.trans hb4)
          clear hb4 hG3 hB3
          go_wp2
          go_roundw
          case rel=>exact ⟨k + 1,by omega,by simp,hG4.out,hB4.out⟩
          case measure=>simp [intOf]; omega
        · have hkk : (lsL ls).take (k + 1) = lsL ls:=List.take_of_length_le (by simp [lsL]; omega)
          rw [hkk] at hG
          clear hkk
          go_wp2_with fail
          refine (Tryz.Builder_String_any w.heap.size w.heap.size _ _ hG.out hB.out.size).mono ?_
          rintro e w3 ⟨rfl,hb3⟩
          have hB3:=Lib.hid (hB.out.trans hb3)
          clear hb3 hG hB
          go_wp2
          go_ret
          exact ⟨rfl,hB3.out⟩
end Go.Proofs.YtfffpflflggonaaGreatDoor.value
namespace Go.Proofs.YtfffpflflggonaaGreatDoor.value
open Go.RowKit text
section
variable {P : Program}
theorem wpList_append_cut {ops : Array Oper} {rest : List Oper} {o : Oper} {a : Act} {Q : Exit→Act→World→Prop} {w : World} (hgd : o.guard = none) (s x : Operand) (t : TypeId)
    (ho : o.op = .call { callee:=.builtin .append,args:=#[s,x],argTypes:=#[t,t] }) (e : TypeId) (i : TypeInfo) (z : Value) (bytes : Nat)
    (ht : P.underlying t = some (.slice e)) (hi : P.info? e = some i) (hz : i.zero = some z) (hsize : i.size = 1) (hby : i.bytes = bytes) (hzs : z.cells.size = 1)
    (va : Option Addr) (k : Nat) (olds : List Value) (hol : olds.length = k)
    (hva : (k = 0∧va = none)∨∃ b,va = some b∧∀ j u,olds[j]? = some u→w.cell? (b.add j) = some u)
    (ad : Addr) (c : Nat) (u : Value) (hs : a.eval s = .slice va k k) (hx : a.eval x = .slice (some ad) 1 c) (hu : w.cell? (ad.add 0) = some u) (h1 : u.oneCell' = true)
    (h63 : k + 1≤maxLen) (hbytes : (k + 1) * bytes≤140737488355328)
    (hK : ∀ v' w',w'.ownsRow w.heap.size e 1 v' (k + 1) (olds ++ [u])→w.grownBy w' none→wpList P ops Q rest (a.put o.dst v') w') : wpList P ops Q (o :: rest) a w:=by
  have hnews : ∀ j v,[u][j]? = some v→w.cell? (ad.add j) = some v:=by
    intro j v hj
    match j,hj with
    | 0,hj=>simp at hj; subst hj; exact hu
  have hr : ∃ v' w',(Builtin.append_ #[t,t] o.type #[.slice va k k,.slice (some ad) 1 c]).run P w = .ok v' w'∧w'.ownsRow w.heap.size e 1 v' (k + 1) (olds ++ [u])∧w.grownBy w' none:=by
    rcases hva with ⟨rfl,rfl⟩ | ⟨b,rfl,hb⟩
    · have ho : olds = []:=List.eq_nil_of_length_eq_zero hol
      subst ho
      obtain ⟨v',w',hrun,r1,r2,_⟩:=run_append_own (P:=P) w w.heap.size t o.type e i z 1 bytes ht hi hz hsize hby hzs (by decide) (.slice none 0 0) 0 [] ⟨rfl,Or.inl ⟨rfl,rfl⟩⟩ ad 1 c [u] rfl hnews (by simpa using h1) h63 hbytes (Nat.le_refl _)
      exact ⟨v',w',hrun,r1,r2⟩
    · exact run_append_arg_grows (P:=P) w t o.type e i z 1 bytes ht hi hz hsize hby hzs (by decide) b k k olds (by omega) hb ad 1 c [u] rfl hnews (by omega) h63 hbytes
  refine wpList_plain hgd fun K hK'=>?_
  obtain ⟨v',w',hrun,r1,r2⟩:=hr
  unfold Oper.wp
  simp [execOp,ho,resolve,invoke,builtin,hs,hx,hrun,Result.andThen]
  exact hK' _ _ (hK v' w' r1 r2)
end
end Go.Proofs.YtfffpflflggonaaGreatDoor.value
namespace Go.Proofs.YtfffpflflggonaaGreatDoor.value
open Go.RowKit text
def formR (v : VV) : Value:=if checkS v = 0 then .tuple #[.string ⟨(formS v).toArray⟩,.int .i64 0] else .tuple #[.string ⟨#[]⟩,.int .i64 (checkS v)]
theorem formR_bad {v : VV} (h : ¬ checkS v = 0) : formR v = .tuple #[.string ⟨#[]⟩,.int .i64 (checkS v)]:=by rw [formR,if_neg h]
theorem shape_of {v : VV} (h : checkS v = 0) : shapeS v = true:=by
  have hk:=kind_of h
  cases hs : shapeS v with
  | true=>rfl
  | false=>rw [c_shape (by omega) hs] at h; cases h
theorem bytes_str (t : ByteArray) : (⟨t.data.toList.toArray⟩ : ByteArray) = t:=by cases t; simp
theorem form_ways {v : VV} {t : ByteArray} (ht : t.data.toList = v.t) (h : checkS v = 0) :
    (v.k = 1∧v.n = 0∧Hid (formR v = .tuple #[.string ⟨#[102,97,108,115,101]⟩,.int .i64 0]))∨(v.k = 1∧v.n = 1∧Hid (formR v = .tuple #[.string ⟨#[116,114,117,101]⟩,.int .i64 0])) ∨
    (v.k = 2∧Hid (-1099511627776≤v.n∧v.n≤1099511627776)∧Hid (formR v = .tuple #[.string ⟨(Lib.itoa v.n).toArray⟩,.int .i64 0])) ∨
    (v.k = 3∧Hid (formR v = quoteV v.t))∨(v.k = 4∧Hid (formR v = .tuple #[.string t,.int .i64 0])) ∨
    (v.k = 5∧Hid (v.l.length≤20)∧Hid (v.l.all validS = true)∧Hid (formR v = .tuple #[.string ⟨(91 :: (joinC (v.l.map quoteS) ++ [93])).toArray⟩,.int .i64 0])):=by
  have hk:=kind_of h
  have hs:=shape_of h
  have e0 : formR v = .tuple #[.string ⟨(formS v).toArray⟩,.int .i64 0]:=by rw [formR,if_pos h]
  rcases (show v.k = 1∨v.k = 2∨v.k = 3∨v.k = 4∨v.k = 5 by omega) with k | k | k | k | k
  · rw [c_1 hs k] at h
    by_cases hn : v.n = 0
    · exact Or.inl ⟨k,hn,by show _ = _; rw [e0]; simp [formS,k,hn]⟩
    · by_cases h1 : v.n = 1
      · exact Or.inr (Or.inl ⟨k,h1,by show _ = _; rw [e0]; simp [formS,k,h1]⟩)
      · rw [if_pos ⟨hn,h1⟩] at h; cases h
  · rw [c_2 hs k] at h
    by_cases hn : v.n < -1099511627776∨1099511627776 < v.n
    · rw [if_pos hn] at h; cases h
    · exact Or.inr (Or.inr (Or.inl ⟨k,by show _∧_; omega,by show _ = _; rw [e0]; simp [formS,k]⟩))
  · rw [c_3 hs k] at h
    cases hv : validS v.t with
    | false=>rw [hv] at h; cases h
    | true=>exact Or.inr (Or.inr (Or.inr (Or.inl ⟨k,by show _ = _; rw [e0]; simp [formS,k,quoteV,hv]⟩)))
  · exact Or.inr (Or.inr (Or.inr (Or.inr (Or.inl ⟨k,by show _ = _; rw [e0]; simp only [formS,k,← ht]; rw [← bytes_str t]; simp⟩))))
  · rw [c_5 hs k] at h
    by_cases hl : 20 < v.l.length
    · rw [l_long hl] at h; cases h
    · cases hv : v.l.all validS with
      | false=>rw [l_bad hl hv] at h; cases h
      | true=>exact Or.inr (Or.inr (Or.inr (Or.inr (Or.inr ⟨k,by show _≤_; omega,by first | exact hv | exact rfl,by show _ = _; rw [e0]; simp [formS,k]⟩))))
theorem infoStr : (Tryz.prog.info? 9).map (fun i=>(i.zero,i.size,i.bytes)) = some (some (.string ⟨#[]⟩),1,16):=by kernel_rfl
def quL (ls : List ByteArray) : List ByteArray:=ls.map fun s=>⟨(quoteS s.data.toList).toArray⟩
def FRel (ls : List ByteArray) (wr : World) (va : Option Addr) (k vc : Nat) : Prop :=
  (k = 0∧va = none∧vc = 0)∨∃ g,va = some ⟨g,0,none⟩∧g < wr.heap.size∧k≤vc∧∀ j u,(((quL ls).take k).map Value.string)[j]? = some u→wr.cell? ⟨g,0 + j,none⟩ = some u
theorem FRel.below {ls : List ByteArray} {w w' : World} {va : Option Addr} {k vc : Nat} (h : FRel ls w va k vc) (hb : Below w.heap.size w w') : FRel ls w' va k vc:=by
  rcases h with h | ⟨g,h1,h2,h3,h4⟩
  · exact Or.inl h
  · exact Or.inr ⟨g,h1,Nat.lt_of_lt_of_le h2 hb.size,h3,fun j u hj=>sub_of_below hb _ _ (h4 j u hj)⟩
theorem take_q {ls : List ByteArray} {k : Nat} (h : k < ls.length) : ((quL ls).take (k + 1)).map Value.string = ((quL ls).take k).map Value.string ++ [.string ⟨(quoteS ls[k].data.toList).toArray⟩]:=by
  have hl : k < (quL ls).length:=by simpa [quL] using h
  rw [List.take_succ_eq_append_getElem hl,List.map_append]
  simp [quL]
theorem FRel.next {ls : List ByteArray} {w w' : World} {v : Value} {k : Nat} (h : k < ls.length) (ho : w'.ownsRow w.heap.size 9 1 v (k + 1) (((quL ls).take k).map Value.string ++ [.string ⟨(quoteS ls[k].data.toList).toArray⟩])) : ∃ va vc,v = .slice va ((k + 1 : Nat)) vc∧FRel ls w' va (k + 1) vc:=by
  rcases ho with ⟨h0,⟨-,h1⟩ | ⟨g,cap,cur,rfl,h2,h3,h4,h5,h6,h7⟩⟩
  · cases h1
  · refine ⟨_,_,rfl,Or.inr ⟨g,rfl,?_,h4,?_⟩⟩
    · exact (Array.getElem?_eq_some_iff.1 h3).1
    · intro j u hj
      rw [take_q h,← h7] at hj
      have hj2 : cur[j]? = some u:=by
        rw [List.getElem?_take] at hj
        split at hj
        · simpa using hj
        · cases hj
      simp [World.cell?,h3,hj2]
theorem quote_ok {l : List UInt8} (h : validS l = true) : quoteV l = .tuple #[.string ⟨(quoteS l).toArray⟩,.int .i64 0]:=by rw [quoteV,h]; rfl
set_option maxHeartbeats 1000000 in
theorem join_zero (va : Option Addr) (vc : Nat) (w : World) : Calls Tryz.prog 122 #[.slice va 0 vc,.string ⟨#[44,32]⟩] w fun e w'=>e = .returned (.string ⟨#[]⟩)∧w' = w:=by
  go_enter Tryz.func122,Tryz.ntmps122
  go_wp2
  go_ret
  exact ⟨rfl,rfl⟩
set_option maxHeartbeats 1000000 in
theorem join_one (blk off vc : Nat) (x : ByteArray) (w : World) (hc : w.cell? ⟨blk,off,none⟩ = some (.string x)) : Calls Tryz.prog 122 #[.slice (some ⟨blk,off,none⟩) 1 vc,.string ⟨#[44,32]⟩] w fun e w'=>e = .returned (.string x)∧w' = w:=by
  go_enter Tryz.func122,Tryz.ntmps122
  go_wp2
  go_ret
  exact ⟨rfl,rfl⟩
theorem sum_le (M : Nat) : ∀ l : List (List UInt8),(∀ x∈l,x.length≤M)→sumL l≤l.length * M
  | [],_=>by simp [sumL]
  | a :: r,h=>by
    have h1:=sum_le M r (fun x hx=>h x (List.mem_cons_of_mem _ hx))
    have h2:=h a List.mem_cons_self
    simp only [sumL,List.map_cons,List.sum_cons,List.length_cons] at *
    rw [Nat.add_mul]
    omega
theorem join_small (l : List (List UInt8)) (hl : l.length≤20) (hv : ∀ x∈l,(quoteS x).length≤1000) : (joinC (l.map quoteS)).length≤100000:=by
  by_cases h0 : l = []
  · subst h0; simp [joinC]
  · rw [joinC_len _ (by simpa using h0)]
    have h1:=sum_le 1000 (l.map quoteS) (by intro x hx; obtain ⟨y,hy,rfl⟩:=List.mem_map.1 hx; exact hv y hy)
    rw [List.length_map] at h1 ⊢
    omega
theorem bracket (J : List UInt8) : (⟨(91 :: (J ++ [93])).toArray⟩ : ByteArray) = ⟨#[91]⟩ ++ ⟨J.toArray⟩ ++ ⟨#[93]⟩:=by
  apply ByteArray.ext
  simp [ByteArray.data_append]
theorem lsL_quL (ls : List ByteArray) : lsL (quL ls) = (lsL ls).map quoteS:=by simp [lsL,quL]
theorem join_quoted (ls : List ByteArray) (va : Option Addr) (vc : Nat) (w : World) (hF : FRel ls w va ls.length vc) (hl : ls.length≤20) (hv : ∀ x∈lsL ls,(quoteS x).length≤1000) :
    Calls Tryz.prog 122 #[.slice va ls.length vc,.string ⟨#[44,32]⟩] w fun e w'=>e = .returned (.string ⟨(joinC ((lsL ls).map quoteS)).toArray⟩)∧Below w.heap.size w w':=by
  have hql : (quL ls).length = ls.length:=by simp [quL]
  rcases hF with ⟨h0,h1,h2⟩ | ⟨g,h1,h2,h3,h4⟩
  · have : ls = []:=List.eq_nil_of_length_eq_zero h0
    subst this h1
    refine (join_zero none vc w).mono ?_
    rintro e w' ⟨rfl,rfl⟩
    exact ⟨rfl,Below.refl _ _⟩
  · subst h1
    have hc : ∀ k (h : k < (quL ls).length),w.cell? ⟨g,0 + k,none⟩ = some (.string (quL ls)[k]):=by
      intro k h
      refine h4 k _ ?_
      rw [List.take_of_length_le (by omega)]
      simp [h]
    by_cases h5 : 2≤ls.length
    · have hsz : (joinC (lsL (quL ls))).length≤140737488355328:=by
        have hne : lsL (quL ls) ≠ []:=by intro e; have:=congrArg List.length e; simp only [lsL,List.length_map,List.length_nil] at this; omega
        rw [joinC_len _ hne]
        have:=sum_le 1000 (lsL (quL ls)) (by rw [lsL_quL]; intro x hx; obtain ⟨y,hy,rfl⟩:=List.mem_map.1 hx; exact hv y hy)
        have h9 : (lsL (quL ls)).length = ls.length:=by simp [lsL,quL]
        rw [h9] at this ⊢
        omega
      rw [← hql,← lsL_quL]
      exact join_any g 0 vc (quL ls) w hc (by omega) (by omega) h2 (by omega) hsz
    · match ls,hc,h5 with
      | [],_,_ =>
        refine (join_zero _ vc w).mono ?_
        rintro e w' ⟨rfl,rfl⟩
        exact ⟨rfl,Below.refl _ _⟩
      | [a],hc,_ =>
        refine (join_one g 0 vc _ w (hc 0 (by simp [quL]))).mono ?_
        rintro e w' ⟨rfl,rfl⟩
        exact ⟨by simp [quL,lsL,joinC],Below.refl _ _⟩
      | _ :: _ :: _,_,h=>simp at h
set_option maxRecDepth 100000 in
set_option maxHeartbeats 4000000 in
theorem format_any (v : VV) (t : ByteArray) (la : Option Addr) (lc : Nat) (ls : List ByteArray) (w : World) (hV : VOk w v t la ls) (hmax : ls.length≤9223372036854775807) (ht : t.size < 4294967281) (hT : Tabs w) :
    Calls Tryz.prog 123 #[.agg #[.int .i64 v.k,.int .i64 v.n,.string t,.slice la ls.length lc]] w fun e w'=>e = .returned (formR v)∧Below w.heap.size w w':=by
  replace hT:=Lib.hid hT
  replace hV:=Lib.hid hV
  have hO:=Lib.hid (Own.new w #[.int .i64 v.k,.int .i64 v.n,.string t,.slice la ls.length lc] 76)
  have hB:=Lib.hid (show Below w.heap.size w (w.alloc (.cells #[.int .i64 v.k,.int .i64 v.n,.string t,.slice la ls.length lc] 76)) from (Below.refl _ _).alloc (Nat.le_refl _) _)
  go_enter Tryz.func123,Tryz.ntmps123
  go_wp2_with fail
  refine (check_any v t la lc ls _ (hV.out.below hB.out) hmax ht (hT.out.below hB.out)).mono ?_
  rintro e w1 ⟨rfl,hb1⟩
  have hO1:=Lib.hid (hO.out.below hb1 hO.out.lt)
  have hB1:=Lib.hid (hB.out.trans (hb1.mono hB.out.size))
  clear hO hB hb1
  obtain ⟨a0,a1,a2,a3⟩:=box4 hO1.out
  by_cases ea : checkS v = 0
  case neg =>
    have hQ:=Lib.hid (formR_bad ea)
    have e1 : (checkS v != 0) = true:=by simp [ea]
    clear ea
    generalize checkS v = c at e1 hQ ⊢
    go_wp2
    go_ret2
    exact ⟨ret_v hQ.out,hB1.out⟩
  rw [ea]
  have hways:=form_ways hV.out.text ea
  clear ea
  rcases hways with ⟨hk,hn,hQ⟩ | ⟨hk,hn,hQ⟩ | ⟨hk,hn,hQ⟩ | ⟨hk,hQ⟩ | ⟨hk,hQ⟩ | ⟨hk,h20,hval,hQ⟩
  · rw [hk] at a0
    rw [hn] at a1
    have hi0 : (Instr.index 247 (.agg #[.string ⟨#[102,97,108,115,101]⟩,.string ⟨#[116,114,117,101]⟩]) (.int .i64 0)).run Tryz.prog w1 = .ok (.string ⟨#[102,97,108,115,101]⟩) w1:=by kernel_rfl
    go_wp2
    go_ret2
    exact ⟨ret_v hQ.out,hB1.out⟩
  · rw [hk] at a0
    rw [hn] at a1
    have hi0 : (Instr.index 247 (.agg #[.string ⟨#[102,97,108,115,101]⟩,.string ⟨#[116,114,117,101]⟩]) (.int .i64 1)).run Tryz.prog w1 = .ok (.string ⟨#[116,114,117,101]⟩) w1:=by kernel_rfl
    go_wp2
    go_ret2
    exact ⟨ret_v hQ.out,hB1.out⟩
  · rw [hk] at a0
    go_wp2_with fail
    refine (number_any v.n _ (by have:=hn.out; omega) (by have:=hn.out; omega) (hT.out.below hB1.out)).mono ?_
    rintro e w2 ⟨rfl,hb2⟩
    replace hb2:=Lib.hid (hB1.out.trans (hb2.mono hB1.out.size))
    go_wp2
    go_ret2
    exact ⟨ret_v hQ.out,hb2.out⟩
  · rw [hk] at a0
    go_wp2_with fail
    refine (quote_any t _ (hT.out.below hB1.out).runes).mono ?_
    rintro e w2 ⟨rfl,hb2⟩
    rw [hV.out.text]
    replace hb2:=Lib.hid (hB1.out.trans (hb2.mono hB1.out.size))
    have hqv : ∃ x y,quoteV v.t = .tuple #[.string x,.int .i64 y]:=by unfold quoteV; split <;> exact ⟨_,_,rfl⟩
    obtain ⟨x,y,hq⟩:=hqv
    rw [hq] at hQ ⊢
    clear hq
    go_wp2
    go_ret2
    exact ⟨ret_v hQ.out,hb2.out⟩
  · rw [hk] at a0
    go_wp2
    go_ret2
    exact ⟨ret_v hQ.out,hB1.out⟩
  · rw [hk] at a0
    have hLin:=Lib.hid (hV.out.below hB1.out).rows
    have hls:=hV.out.list
    have hvs:=Lib.hid (show ∀ k (h : k < ls.length),validS ls[k].data.toList = true by
      intro k h
      have:=hval.out
      rw [← hls,List.all_eq_true] at this
      exact this _ (by simp [lsL]; exact ⟨ls[k],List.getElem_mem _,rfl⟩))
    have hl20 : ls.length≤20:=by have:=h20.out; rw [← hls] at this; simpa [lsL] using this
    replace hls:=Lib.hid hls
    clear h20 hval
    obtain ⟨i0,hi,hz0,hz1,hz2⟩:=info_parts infoStr
    go_wp2
    go_loopw [5,42] (fun u i wr=>∃ (k : Nat) (va : Option Addr) (vc : Nat),k≤ls.length∧i = .int .i64 k∧u = .slice va k vc∧Hid (FRel ls wr va k vc)∧Hid (Below w1.heap.size w1 wr)) (fun _ i _=>ls.length - (intOf i).toNat)
    case atStart=>exact ⟨0,none,0,Nat.zero_le _,rfl,rfl,Or.inl ⟨rfl,rfl,rfl⟩,Below.refl _ _⟩
    case round =>
      obtain ⟨k,va,vc,hk,rfl,rfl,hF,hB⟩:=hrel
      by_cases hkl : k < ls.length
      · have hL1:=hLin.out.below hB.out
        rcases hL1 with hnil | ⟨blk,off,hla,hcell⟩
        · rw [hnil] at hkl; simp at hkl
        subst hla
        have hc:=hcell k hkl
        clear hcell
        go_wp2_with fail
        refine (quote_any ls[k] _ (hT.out.below (hB1.out.trans (hB.out.mono hB1.out.size))).runes).mono ?_
        rintro e w2 ⟨rfl,hb2⟩
        rw [quote_ok (hvs.out k hkl)]
        have hF2:=hF.out.below hb2
        have hB2:=Lib.hid (hB.out.trans (hb2.mono hB.out.size))
        clear hF hB hc hb2
        have hnx:=Lib.hid (fun (w' w'' : World) (v' : Value) (ho : w''.ownsRow w'.heap.size 9 1 v' (k + 1) (((quL ls).take k).map Value.string ++ [.string ⟨(quoteS ls[k].data.toList).toArray⟩]))=>FRel.next hkl ho)
        generalize (⟨(quoteS ls[k].data.toList).toArray⟩ : ByteArray) = q at hnx ⊢
        have hol : (((quL ls).take k).map Value.string).length = k:=by simp [quL]; omega
        rcases hF2 with ⟨h0,hva,hvc⟩ | ⟨g,hva,hg,hkc,hcells⟩
        · subst h0 hva hvc
          go_wp2_with (at_builtin; refine wpList_append_cut rfl _ _ _ rfl 9 i0 (.string ⟨#[]⟩) 16 Tryz.underlying38 hi hz0 hz1 hz2 (by decide) none 0 _ hol (Or.inl ⟨rfl,rfl⟩) ⟨w2.heap.size,0,none⟩ 1 (.string q) rfl rfl ((Own.new w2 #[.string q] 9).cell 0) rfl (by unfold maxLen; omega) (by omega) ?_; intro v' w3 hown hgrow; obtain ⟨va',vc',hv',hF3⟩:=hnx.out _ _ _ hown; subst hv'; replace hF3:=Lib.hid hF3; have hB3:=Lib.hid ((hB2.out.alloc hB2.out.size _).grown hgrow (by simp; exact Nat.le_succ_of_le hB2.out.size) (fun k hk=>by cases hk)); clear hown hgrow)
          go_roundw
          case rel=>exact ⟨1,va',vc',by omega,rfl,rfl,hF3.out,hB3.out⟩
          case measure=>simp [intOf]; omega
        · subst hva
          have hcl:=Lib.hid (fun j u hj=>sub_of_below (((Below.refl w2.heap.size w2).alloc (Nat.le_refl _) (.cells #[.string q] 9))) _ _ (hcells j u hj))
          have hA:=Lib.hid (show ∀ j u,(((quL ls).take k).map Value.string)[j]? = some u→(w2.alloc (.cells #[.string q] 9)).cell? ((⟨g,0,none⟩ : Addr).add j) = some u from fun j u hj=>by have h9:=hcl.out j u hj; rw [Nat.zero_add] at h9; cases j <;> simpa [Addr.add] using h9)
          clear hcells hcl
          go_wp2_with (at_builtin; refine wpList_append_cut rfl _ _ _ rfl 9 i0 (.string ⟨#[]⟩) 16 Tryz.underlying38 hi hz0 hz1 hz2 (by decide) (some ⟨g,0,none⟩) k _ hol (Or.inr ⟨⟨g,0,none⟩,rfl,hA.out⟩) ⟨w2.heap.size,0,none⟩ 1 (.string q) rfl rfl ((Own.new w2 #[.string q] 9).cell 0) rfl (by unfold maxLen; omega) (by omega) ?_; intro v' w3 hown hgrow; obtain ⟨va',vc',hv',hF3⟩:=hnx.out _ _ _ hown; subst hv'; replace hF3:=Lib.hid hF3; have hB3:=Lib.hid ((hB2.out.alloc hB2.out.size _).grown hgrow (by simp; exact Nat.le_succ_of_le hB2.out.size) (fun k hk=>by cases hk)); clear hown hgrow)
          go_roundw
          case rel=>exact ⟨k + 1,va',vc',by omega,by simp,rfl,hF3.out,hB3.out⟩
          case measure=>simp [intOf]; omega
      · have hkk : k = ls.length:=by omega
        subst hkk
        clear hkl
        have hq1 : ∀ x∈lsL ls,(quoteS x).length≤1000:=by
          intro x hx
          obtain ⟨n,hn,rfl⟩:=List.mem_iff_getElem.1 hx
          have hn2 : n < ls.length:=by simpa [lsL] using hn
          have h7:=hvs.out n hn2
          have e7 : (lsL ls)[n] = ls[n].data.toList:=by simp [lsL]
          rw [e7]
          have h8 : ls[n].data.toList.length≤200:=by
            unfold validS at h7
            simp only [Bool.and_eq_true,decide_eq_true_eq] at h7
            omega
          have h9:=escL_len ls[n].data.toList
          simp only [quoteS,List.length_cons,List.length_append,List.length_nil]
          omega
        replace hq1:=Lib.hid hq1
        go_wp2_with fail
        refine (join_quoted ls va vc _ hF.out hl20 hq1.out).mono ?_
        rintro e w3 ⟨rfl,hb3⟩
        have hB3:=Lib.hid (hB1.out.trans ((hB.out.trans (hb3.mono hB.out.size)).mono hB1.out.size))
        have hJ:=join_small (lsL ls) (by simpa [lsL] using hl20) hq1.out
        rw [hls.out] at hJ ⊢
        clear hF hB hb3
        generalize joinC (v.l.map quoteS) = J at hQ hJ ⊢
        have hJ1 : ¬ 9223372036854775807 < 1 + J.length:=by omega
        have hJ2 : ¬ 9223372036854775807 < 1 + J.length + 1:=by omega
        clear hJ
        go_wp2
        go_ret2
        refine ⟨ret_v (hQ.out.trans ?_),hB3.out⟩
        all_goals rw [bracket]
        all_goals simp
end Go.Proofs.YtfffpflflggonaaGreatDoor.value
