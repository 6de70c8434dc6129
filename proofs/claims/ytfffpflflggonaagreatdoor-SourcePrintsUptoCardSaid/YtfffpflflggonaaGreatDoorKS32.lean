/- Reading an empty text, comparing empty environments; the chapter's example. The text of a condition is read as the condition. No program in sight. The text of a condition is read as the condition: the tokens are parsed. No program in sight. -/
import Derived.Test.YtfffpflflggonaaGreatDoorKS30
import Derived.Test.YtfffpflflggonaaGreatDoorKS31
import Derived.Laws.StructEq
import Derived.Test.YtfffpflflggonaaGreatDoorKS4
namespace Go.Proofs.YtfffpflflggonaaGreatDoor.src
open Go.RowKit lex value text schema draw clause
theorem toks_zero : startS (⟨#[]⟩ : ByteArray).data.toList = .ok [⟨6,[],0,1⟩]:=by kernel_rfl
set_option maxRecDepth 100000 in
set_option maxHeartbeats 8000000 in
theorem parse_zero (w : World) (hT : Tabs w) (hsp : SpaceTab w) :
    Calls Tryz.prog 16 #[.string ⟨#[]⟩] w fun e w'=>e = .returned (.tuple #[.agg #[.string ⟨#[]⟩,.string ⟨#[]⟩,.int .i64 0,.slice none 0 0,.slice none 0 0,.slice none 0 0,.slice none 0 0,.slice none 0 0],.int .i64 0,.int .i64 0])∧Below w.heap.size w w':=by
  have hz:=Lib.hid (Own.new w #[.string ⟨#[]⟩,.string ⟨#[]⟩,.int .i64 0,.slice none 0 0,.slice none 0 0,.slice none 0 0,.slice none 0 0,.slice none 0 0] 51)
  have hB0:=(Below.refl w.heap.size w).alloc (Nat.le_refl _) (.cells #[.string ⟨#[]⟩,.string ⟨#[]⟩,.int .i64 0,.slice none 0 0,.slice none 0 0,.slice none 0 0,.slice none 0 0,.slice none 0 0] 51)
  have hT0:=Lib.hid (hT.below hB0)
  replace hB0:=Lib.hid hB0
  replace hT:=Lib.hid hT
  replace hsp:=Lib.hid hsp
  go_enter Tryz.func16,Tryz.ntmps16
  go_wp2_with fail
  generalize w.alloc (.cells #[.string ⟨#[]⟩,.string ⟨#[]⟩,.int .i64 0,.slice none 0 0,.slice none 0 0,.slice none 0 0,.slice none 0 0,.slice none 0 0] 51) = w0 at hz hB0 hT0 ⊢
  obtain ⟨gz,hgz⟩ : ∃ z : Nat,Hid (z = w.heap.size):=⟨_,Lib.hid rfl⟩
  rw [← hgz.out] at hz ⊢
  have hgzw : w.heap.size≤gz:=Nat.le_of_eq hgz.out.symm
  refine (start_any ⟨#[]⟩ w0 (by decide) hT0.out).mono ?_
  rintro e w1 ⟨g,M,T,tb,to',tc,rfl,hK,hM,hP,hg,hb⟩
  rw [toks_zero] at hP
  have hzl0:=hz.out.lt
  have hwg : gz < g:=by omega
  have hz1:=Lib.hid (hz.out.below hb hzl0)
  have hB1:=Lib.hid (hB0.out.trans (hb.mono hB0.out.size))
  replace hK:=Lib.hid hK
  replace hM:=Lib.hid hM
  replace hP:=Lib.hid hP
  clear hb hB0 hT0 hz
  go_wp2_with fail
  refine (env_zero hK.out g w1 ⟨6,[],0,1⟩ rfl hM.out hP.out).mono ?_
  rintro e w2 ⟨rfl,hb⟩
  have hz2:=hz1.out.below hb hz1.out.lt
  have hP2:=hP.out.below hb
  have hB2:=hB1.out.trans (hb.mono hB1.out.size)
  have hz3:=Lib.hid (hz2.alloc (.cells #[.string ⟨#[]⟩,.string ⟨#[]⟩,.int .i64 0,.slice none 0 0,.slice none 0 0,.slice none 0 0,.slice none 0 0,.slice none 0 0] 51))
  have hP3:=Lib.hid (hP2.alloc (.cells #[.string ⟨#[]⟩,.string ⟨#[]⟩,.int .i64 0,.slice none 0 0,.slice none 0 0,.slice none 0 0,.slice none 0 0,.slice none 0 0] 51))
  have hB3:=Lib.hid (hB2.alloc hB2.size (.cells #[.string ⟨#[]⟩,.string ⟨#[]⟩,.int .i64 0,.slice none 0 0,.slice none 0 0,.slice none 0 0,.slice none 0 0,.slice none 0 0] 51))
  have hv3:=Lib.hid (Own.new w2 #[.string ⟨#[]⟩,.string ⟨#[]⟩,.int .i64 0,.slice none 0 0,.slice none 0 0,.slice none 0 0,.slice none 0 0,.slice none 0 0] 51)
  have hzl2:=hz2.lt
  clear hb hz1 hP hB1 hz2 hP2 hB2
  go_upto_region 3 with fail
  generalize w2.alloc (.cells #[.string ⟨#[]⟩,.string ⟨#[]⟩,.int .i64 0,.slice none 0 0,.slice none 0 0,.slice none 0 0,.slice none 0 0,.slice none 0 0] 51) = w3 at hz3 hP3 hB3 hv3 ⊢
  obtain ⟨gv,hgv⟩ : ∃ z : Nat,Hid (z = w2.heap.size):=⟨_,Lib.hid rfl⟩
  rw [← hgv.out] at hv3 hzl2 ⊢
  obtain ⟨p,hp,hd,hO⟩:=hP3.out
  have c4:=hO.cell 4
  have hgl3:=hO.lt
  simp only [List.getElem?_toArray,List.getElem?_cons_succ,List.getElem?_cons_zero] at c4
  replace hd:=Lib.hid hd
  replace hO:=Lib.hid hO
  obtain ⟨⟨v0,v1,v2,v3,v4,v5,v6,v7⟩,-⟩:=own8z hv3.out
  have hvl:=hv3.out.lt
  go_wp2_with fail
  refine (env_shape w3 (hT.out.below hB3.out) (show SpaceTab w3 from var_below hB3.out hsp.out)).mono ?_
  rintro e w4 ⟨rfl,hb⟩
  have hz4:=hz3.out.below hb hz3.out.lt
  have hv4:=hv3.out.below hb hvl
  have hB4:=Lib.hid (hB3.out.trans (hb.mono hB3.out.size))
  clear hb v0 v1 v2 v3 v4 v5 v6 v7 c4
  obtain ⟨⟨v0,v1,v2,v3,v4,v5,v6,v7⟩,-⟩:=own8z hv4
  obtain ⟨⟨z0,z1,z2,z3,z4,z5,z6,z7⟩,⟨f0,f1,f2,f3,f4,f5,f6,f7⟩⟩:=own8z hz4
  have hzl4:=hz4.lt
  have hF:=Lib.hid (hB4.out.grown (grown8 w4 gz (.string ⟨#[]⟩) (.string ⟨#[]⟩) (.int .i64 0) (.slice none 0 0) (.slice none 0 0) (.slice none 0 0) (.slice none 0 0) (.slice none 0 0)) hB4.out.size (fun k e=>by cases e; exact hgzw))
  go_wp2
  refine bodyPost_ret (v:=.tuple #[.agg #[.string ⟨#[]⟩,.string ⟨#[]⟩,.int .i64 0,.slice none 0 0,.slice none 0 0,.slice none 0 0,.slice none 0 0,.slice none 0 0],.int .i64 0,.int .i64 0]) (by simp [results,Tryz.results16,go_sem, *]) rfl ?_
  exact ⟨rfl,hF.out⟩
set_option maxRecDepth 100000 in
set_option maxHeartbeats 4000000 in
theorem same_zero (w : World) :
    Calls Tryz.prog 17 #[.agg #[.string ⟨#[]⟩,.string ⟨#[]⟩,.int .i64 0,.slice none 0 0,.slice none 0 0,.slice none 0 0,.slice none 0 0,.slice none 0 0],.agg #[.string ⟨#[]⟩,.string ⟨#[]⟩,.int .i64 0,.slice none 0 0,.slice none 0 0,.slice none 0 0,.slice none 0 0,.slice none 0 0]] w fun e w'=>e = .returned (.bool true)∧Below w.heap.size w w':=by
  have hal:=Lib.hid (show Below w.heap.size w ((w.alloc (.cells #[.string ⟨#[]⟩,.string ⟨#[]⟩,.int .i64 0,.slice none 0 0,.slice none 0 0,.slice none 0 0,.slice none 0 0,.slice none 0 0] 51)).alloc (.cells #[.string ⟨#[]⟩,.string ⟨#[]⟩,.int .i64 0,.slice none 0 0,.slice none 0 0,.slice none 0 0,.slice none 0 0,.slice none 0 0] 51)) from ((Below.refl _ _).alloc (Nat.le_refl _) _).alloc (by simp) _)
  have ha:=Lib.hid ((Own.new w #[.string ⟨#[]⟩,.string ⟨#[]⟩,.int .i64 0,.slice none 0 0,.slice none 0 0,.slice none 0 0,.slice none 0 0,.slice none 0 0] 51).alloc (.cells #[.string ⟨#[]⟩,.string ⟨#[]⟩,.int .i64 0,.slice none 0 0,.slice none 0 0,.slice none 0 0,.slice none 0 0,.slice none 0 0] 51))
  have hb:=Lib.hid (show Own ((w.alloc (.cells #[.string ⟨#[]⟩,.string ⟨#[]⟩,.int .i64 0,.slice none 0 0,.slice none 0 0,.slice none 0 0,.slice none 0 0,.slice none 0 0] 51)).alloc (.cells #[.string ⟨#[]⟩,.string ⟨#[]⟩,.int .i64 0,.slice none 0 0,.slice none 0 0,.slice none 0 0,.slice none 0 0,.slice none 0 0] 51)) (w.heap.size + 1) #[.string ⟨#[]⟩,.string ⟨#[]⟩,.int .i64 0,.slice none 0 0,.slice none 0 0,.slice none 0 0,.slice none 0 0,.slice none 0 0] 51 from Own.new' (by simp))
  go_enter Tryz.func17,Tryz.ntmps17
  go_upto_region 1 with fail
  generalize (w.alloc (.cells #[.string ⟨#[]⟩,.string ⟨#[]⟩,.int .i64 0,.slice none 0 0,.slice none 0 0,.slice none 0 0,.slice none 0 0,.slice none 0 0] 51)).alloc (.cells #[.string ⟨#[]⟩,.string ⟨#[]⟩,.int .i64 0,.slice none 0 0,.slice none 0 0,.slice none 0 0,.slice none 0 0,.slice none 0 0] 51) = w1 at hal ha hb ⊢
  obtain ⟨⟨q0,q1,q2,q3,q4,q5,q6,q7⟩,-⟩:=own8z ha.out
  obtain ⟨⟨p0,p1,p2,p3,p4,p5,p6,p7⟩,-⟩:=own8z hb.out
  have hl1:=ha.out.lt
  have hl2:=hb.out.lt
  go_wp2_with fail
  refine (sameDeclared_zero _).mono ?_
  rintro e wx ⟨rfl,hw⟩
  replace hw:=hw.symm
  subst hw
  go_wp2_with fail
  refine (sameSegments_zero _).mono ?_
  rintro e wx ⟨rfl,hw⟩
  replace hw:=hw.symm
  subst hw
  go_wp2_with fail
  refine (sameFlags_zero _).mono ?_
  rintro e wx ⟨rfl,hw⟩
  replace hw:=hw.symm
  subst hw
  go_wp2_with fail
  refine (sameLayers_zero _).mono ?_
  rintro e wx ⟨rfl,hw⟩
  replace hw:=hw.symm
  subst hw
  go_wp2_with fail
  refine (sameExperiments_zero _).mono ?_
  rintro e wx ⟨rfl,hw⟩
  replace hw:=hw.symm
  subst hw
  go_wp2
  go_ret
  exact ⟨rfl,hal.out⟩
def awE : PE:=.mk 3 [] [] [] [.mk 4 [] [] [] [.mk 12 sUser sAge [⟨2,18,[],[]⟩] []],.mk 5 [] [115,116,97,102,102] [] []]
theorem read_aw : readS (⟨#[110,111,116,32,117,115,101,114,46,97,103,101,32,60,32,49,56,32,111,114,32,109,101,109,98,101,114,32,115,116,97,102,102]⟩ : ByteArray).data.toList = .ok awE:=by kernel_rfl
theorem aw_at {M : Mem} {r : List Value} (h : ExAt M awE r) : ∃ (kd nm : ByteArray) (vs : Value) (blk off kc : Nat),r = [.int .i64 3,.string kd,.string nm,vs,.slice (some ⟨blk,off,none⟩) 2 kc]∧M ⟨blk,off,none⟩ = some (.int .i64 4)∧M ⟨blk,off + 5,none⟩ = some (.int .i64 5):=by
  obtain ⟨op,kd,nm,vals,va,vn,vc,ka,kn,kc,rows,rfl,hx,-,-,hk,hX⟩:=h.parts
  have hop : op = 3:=by injection hx with h1; exact h1.symm
  have hkl : awE.kids.length = 2:=rfl
  obtain ⟨blk,off,o1,kd1,nm1,va1,vn1,vc1,ka1,kn1,kc1,rfl,c0,-,-,-,-,hE⟩:=kids_get hk hX (k:=0) (by rw [hkl]; decide)
  obtain ⟨blk2,off2,o2,kd2,nm2,va2,vn2,vc2,ka2,kn2,kc2,e2,d0,-,-,-,-,hE2⟩:=kids_get hk hX (k:=1) (by rw [hkl]; decide)
  injection e2 with e2
  injection e2 with e2 e3
  subst e2; subst e3
  have h4 : o1 = 4:=((ex_kids hE).1).symm
  have h5 : o2 = 5:=((ex_kids hE2).1).symm
  have hn : kn = 2:=by have:=(rows_len hk).1; have h2:=hX.1; rw [hkl] at h2; omega
  subst hop; subst h4; subst h5; subst hn
  exact ⟨kd,nm,_,blk,off,kc,rfl,by simpa using c0,by simpa using d0⟩
set_option maxRecDepth 100000 in
set_option maxHeartbeats 8000000 in
theorem awake_any (w : World) (hT : Tabs w) (hsp : SpaceTab w) : Calls Tryz.prog 5 #[] w fun e w'=>e = .returned (.bool true)∧Below w.heap.size w w':=by
  go_enter Tryz.func5,Tryz.ntmps5
  go_wp2_with fail
  refine (parse_any ⟨#[110,111,116,32,117,115,101,114,46,97,103,101,32,60,32,49,56,32,111,114,32,109,101,109,98,101,114,32,115,116,97,102,102]⟩ w (by decide) hT hsp).mono ?_
  rintro e w1 ⟨hb,hm⟩
  rw [read_aw] at hm
  obtain ⟨r,rfl,hX⟩:=hm
  obtain ⟨kd,nm,vs,blk,off,kc,rfl,c0,c1⟩:=aw_at hX
  obtain ⟨va,vn,vc,rfl⟩ : ∃ va vn vc,vs = .slice va vn vc:=by
    obtain ⟨op,kd',nm',vals,va,vn,vc,ka,kn,kc',rows,e,-⟩:=hX.parts
    simp only [List.cons.injEq] at e
    exact ⟨va,vn,vc,e.2.2.2.1⟩
  have hT1:=Lib.hid (hT.below hb)
  have hsp1:=Lib.hid (show SpaceTab w1 from var_below hb hsp)
  have hx:=Lib.hid (Own.new w1 #[.int .i64 3,.string kd,.string nm,.slice va vn vc,.slice (some ⟨blk,off,none⟩) 2 kc] 31)
  have hb2:=(Below.refl w1.heap.size w1).alloc (Nat.le_refl _) (.cells #[.int .i64 3,.string kd,.string nm,.slice va vn vc,.slice (some ⟨blk,off,none⟩) 2 kc] 31)
  have hB2:=Lib.hid (hb.trans (hb2.mono hb.size))
  have d0:=Lib.hid (sub_of_below hb2 _ _ c0)
  have d1:=Lib.hid (sub_of_below hb2 _ _ c1)
  have hT2:=Lib.hid (hT1.out.below hb2)
  have hsp2:=Lib.hid (show SpaceTab _ from var_below hb2 hsp1.out)
  clear hX c0 c1 hb hb2 hT hsp
  go_upto_region 2 with fail
  generalize w1.alloc (.cells #[.int .i64 3,.string kd,.string nm,.slice va vn vc,.slice (some ⟨blk,off,none⟩) 2 kc] 31) = w2 at hx hB2 d0 d1 hT2 hsp2 ⊢
  obtain ⟨gx,hgx⟩ : ∃ z : Nat,Hid (z = w1.heap.size):=⟨_,Lib.hid rfl⟩
  rw [← hgx.out] at hx ⊢
  go_wp2_with fail
  refine (parse_zero w2 hT2.out hsp2.out).mono ?_
  rintro e w3 ⟨rfl,hb⟩
  have hx3:=hx.out.below hb hx.out.lt
  have hB3:=hB2.out.trans (hb.mono hB2.out.size)
  have e0':=sub_of_below hb _ _ d0.out
  have e1':=sub_of_below hb _ _ d1.out
  have hb4:=(Below.refl w3.heap.size w3).alloc (Nat.le_refl _) (.cells #[.string ⟨#[]⟩,.string ⟨#[]⟩,.int .i64 0,.slice none 0 0,.slice none 0 0,.slice none 0 0,.slice none 0 0,.slice none 0 0] 51)
  have hx4:=Lib.hid (hx3.alloc (.cells #[.string ⟨#[]⟩,.string ⟨#[]⟩,.int .i64 0,.slice none 0 0,.slice none 0 0,.slice none 0 0,.slice none 0 0,.slice none 0 0] 51))
  have hv4:=Lib.hid (Own.new w3 #[.string ⟨#[]⟩,.string ⟨#[]⟩,.int .i64 0,.slice none 0 0,.slice none 0 0,.slice none 0 0,.slice none 0 0,.slice none 0 0] 51)
  have hB4:=Lib.hid (hB3.trans (hb4.mono hB3.size))
  have k0:=Lib.hid (sub_of_below hb4 _ _ e0')
  have k1:=Lib.hid (sub_of_below hb4 _ _ e1')
  clear hb hb4 hx3 hB3 e0' e1'
  go_upto_region 3 with fail
  generalize w3.alloc (.cells #[.string ⟨#[]⟩,.string ⟨#[]⟩,.int .i64 0,.slice none 0 0,.slice none 0 0,.slice none 0 0,.slice none 0 0,.slice none 0 0] 51) = w4 at hx4 hv4 hB4 k0 k1 ⊢
  obtain ⟨x0,x1,x2,x3,x4,-⟩:=own5z hx4.out
  obtain ⟨⟨v0,v1,v2,v3,v4,v5,v6,v7⟩,-⟩:=own8z hv4.out
  have c0:=k0.out
  have c1:=k1.out
  have hbl : blk < w4.heap.size:=World.block_lt_of_cell? w4 _ c0
  have hxl:=hx4.out.lt
  have hvl:=hv4.out.lt
  go_wp2_with fail
  refine (same_zero _).mono ?_
  rintro e w5 ⟨rfl,hb⟩
  have hF:=Lib.hid (hB4.out.trans (hb.mono hB4.out.size))
  clear hb
  go_wp2
  go_ret
  exact ⟨rfl,hF.out⟩
end Go.Proofs.YtfffpflflggonaaGreatDoor.src
namespace Go.Proofs.YtfffpflflggonaaGreatDoor.src
open lex value text
def bindN (op : Int) : Nat:=if op = 3 then 1 else if op = 2 then 2 else if op = 4 then 3 else 4
def parB (o : Nat) (op : Int) (t : List UInt8) : List UInt8:=if bindN op < o then 40 :: (t ++ [41]) else t
def parT (o : Nat) (op : Int) (t : List Tok) : List Tok:=if bindN op < o then tkLp :: (t ++ [tkRp]) else t
def wordOf (op : Int) : List UInt8:=tests10.getD (op - 6).toNat []
def joinT : List (List Tok)→List Tok
  | []=>[]
  | [a]=>a
  | a :: b :: r=>a ++ ⟨5,sComma,0,1⟩ :: joinT (b :: r)
def tkT (t : List UInt8) : Tok:=⟨3,t,0,1⟩
def tkLb : Tok:=⟨5,sLb,0,1⟩
def tkRb : Tok:=⟨5,sRb,0,1⟩
def tkV (v : VV) : List Tok :=
  if v.k = 1 then [⟨1,if v.n = 0 then sFalse else sTrue,0,1⟩]
  else if v.k = 2 then [⟨2,[],v.n,1⟩]
  else if v.k = 3 then [tkT v.t]
  else if v.k = 4 then [⟨4,v.t,0,1⟩]
  else tkLb :: (joinT (v.l.map fun t=>[tkT t]) ++ [tkRb])
mutual
def printE : PE→List UInt8
  | .mk op kind name vals kids =>
    if op = 1 then sTrue
    else if op = 2 then printL 2 [32,97,110,100,32] kids
    else if op = 3 then printL 1 [32,111,114,32] kids
    else if op = 4 then [110,111,116,32] ++ printL 3 [] kids
    else if op = 5 then [109,101,109,98,101,114,32] ++ name
    else kind ++ (46 :: (name ++ (32 :: (wordOf op ++ (if op = 6 then [] else if op = 8 then 32 :: 91 :: (joinC (vals.map value.formS) ++ [93]) else 32 :: joinC (vals.map value.formS))))))
def printL : Nat→List UInt8→List PE→List UInt8
  | _,_,[]=>[]
  | o,sep,k :: r=>parB o k.op (printE k) ++ printR o sep r
def printR : Nat→List UInt8→List PE→List UInt8
  | _,_,[]=>[]
  | o,sep,k :: r=>sep ++ (parB o k.op (printE k) ++ printR o sep r)
end
def tkW (op : Int) : Tok:=⟨if op < 12 then 1 else 5,wordOf op,0,1⟩
mutual
def tkE : PE→List Tok
  | .mk op kind name vals kids =>
    if op = 1 then [⟨1,sTrue,0,1⟩]
    else if op = 2 then tkL 2 ⟨1,sAnd,0,1⟩ kids
    else if op = 3 then tkL 1 ⟨1,sOr,0,1⟩ kids
    else if op = 4 then tkNot :: tkL 3 tkNot kids
    else if op = 5 then [⟨1,sMember,0,1⟩,⟨1,name,0,1⟩]
    else ⟨1,kind,0,1⟩ :: ⟨5,sDot,0,1⟩ :: ⟨1,name,0,1⟩ :: tkW op :: (if op = 6 then [] else if op = 8 then tkLb :: (joinT (vals.map tkV) ++ [tkRb]) else joinT (vals.map tkV))
def tkL : Nat→Tok→List PE→List Tok
  | _,_,[]=>[]
  | o,s,k :: r=>parT o k.op (tkE k) ++ tkR o s r
def tkR : Nat→Tok→List PE→List Tok
  | _,_,[]=>[]
  | o,s,k :: r=>s :: (parT o k.op (tkE k) ++ tkR o s r)
end
mutual
def OkE : PE→Prop
  | .mk op kind name vals kids=>partS op kind name vals (PE.ops kids) = 0∧OkL kids
def OkL : List PE→Prop
  | []=>True
  | k :: r=>OkE k∧OkL r
end
mutual
def hgtE : PE→Nat
  | .mk _ _ _ _ kids=>1 + hgtL kids
def hgtL : List PE→Nat
  | []=>0
  | k :: r=>max (hgtE k) (hgtL r)
end
mutual
theorem ok_walk : ∀ (x : PE) (d b : Nat),(walkS x d b).1 = 0→OkE x∧d + hgtE x≤10
  | .mk op kind name vals kids,d,b,h=>by
    rw [walkS] at h
    split at h
    · cases h
    · split at h
      · cases h
      · rename_i hd
        split at h
        · rename_i hp; exact absurd h hp
        · rename_i hp
          have:=ok_walkL kids (d + 1) (b + 1) h (by omega)
          rw [OkE,hgtE]
          exact ⟨⟨Classical.byContradiction hp,this.1⟩,by omega⟩
theorem ok_walkL : ∀ (l : List PE) (d b : Nat),(walkL l d b).1 = 0→d≤10→OkL l∧d + hgtL l≤10
  | [],d,b,_,hd=>by rw [OkL,hgtL]; exact ⟨trivial,by omega⟩
  | k :: r,d,b,h,hd=>by
    rw [walkL] at h
    split at h
    · rename_i h0
      have h1:=ok_walk k d b h0
      have h2:=ok_walkL r d _ h hd
      rw [OkL,hgtL]
      exact ⟨⟨h1.1,h2.1⟩,by omega⟩
    · rename_i h0; exact absurd h h0
end
theorem hgt_mem : ∀ {l : List PE} {k : PE},k∈l→hgtE k≤hgtL l
  | [],k,h=>by cases h
  | a :: r,k,h=>by
    rw [hgtL]
    rcases List.mem_cons.1 h with rfl | h
    · omega
    · have:=hgt_mem h; omega
structure PartOk (op : Int) (kind name : List UInt8) (vals : List VV) (kids : List Int) : Prop where
  lo : 1≤op
  hi : op≤15
  form : formB op kind name vals.length kids.length = true
  few : kids.length≤12
  fewV : vals.length≤20
  alt : op = 2∨op = 3→∀ k∈kids,k ≠ op
  kkind : tstB op = true→keyS kind = true
  kname : tstB op = true∨op = 5→keyS name = true
  oks : valsE vals = 0
  text : textB op = true→headK vals = 3
theorem part_ok {op : Int} {kind name : List UInt8} {vals : List VV} {kids : List Int} (h : partS op kind name vals kids = 0) : PartOk op kind name vals kids:=by
  unfold partS at h
  split at h
  · cases h
  rename_i h1
  split at h
  · cases h
  rename_i h2
  split at h
  · cases h
  rename_i h3
  split at h
  · cases h
  rename_i h4
  split at h
  · cases h
  rename_i h5
  split at h
  · rename_i h6; exact absurd h h6
  rename_i h6
  split at h
  · cases h
  rename_i h7
  refine ⟨by omega,by omega,by simpa using h2,by omega,by omega,fun ho k hk e=>h4 ⟨ho,List.any_eq_true.2 ⟨k,hk,by simp [e]⟩⟩,fun ht=>?_,fun ht=>?_,Classical.byContradiction h6,fun ht=>Classical.byContradiction fun e=>h7 ⟨ht,e⟩⟩
  · cases hk : keyS kind with
    | true=>rfl
    | false=>exact absurd (by rw [ht,hk]; rfl) h5
  · cases hk : keyS name with
    | true=>rfl
    | false =>
      refine absurd ?_ h5
      rcases ht with ht | ht
      · rw [ht,hk]; simp
      · rw [decide_eq_true ht,hk]; simp
theorem vals_ok : ∀ {l : List VV},valsE l = 0→∀ v∈l,checkS v = 0
  | [],_,v,hv=>by cases hv
  | a :: r,h,v,hv=>by
    rw [valsE] at h
    split at h
    · rename_i h0
      rcases List.mem_cons.1 hv with rfl | hv
      · exact h0
      · exact vals_ok h v hv
    · rename_i h0; exact absurd h h0
theorem wordL_all : ∀ l : List UInt8,text.wordL false l = true→l.all wordB = true
  | [],_=>rfl
  | c :: r,h=>by
    rw [text.wordL,Bool.and_eq_true] at h
    rw [List.all_cons,wordL_all r h.2,Bool.and_true]
    have:=h.1
    unfold okB at this
    unfold wordB letB digB
    simp at this ⊢
    omega
theorem key_form {l : List UInt8} (h : keyS l = true) : ∃ c w,l = c :: w∧letB c = true∧w.all wordB = true∧inWords l = false:=by
  unfold keyS wordS at h
  simp only [Bool.and_eq_true,decide_eq_true_eq,Bool.not_eq_true'] at h
  obtain ⟨⟨⟨h1,h2⟩,h3⟩,h4⟩:=h
  cases l with
  | nil=>simp at h2
  | cons c w =>
    rw [text.wordL,Bool.and_eq_true] at h1
    refine ⟨c,w,rfl,?_,wordL_all w h1.2,h4⟩
    have:=h1.1
    unfold okB at this
    unfold letB
    simp at this ⊢
    omega
theorem key_not {l s : List UInt8} (h : keyS l = true) (hs : inWords s = true) : (l == s) = false:=by
  obtain ⟨c,w,-,-,-,hw⟩:=key_form h
  cases e : (l == s) with
  | false=>rfl
  | true =>
    have e2 : l = s:=by simpa using e
    rw [e2,hs] at hw
    cases hw
def StopB (r : List UInt8) : Prop:=hdN wordB r = true∧hdN numB r = true
theorem part_digs {a : List UInt8} {x : Int} (h : partN a = some x) : ∃ c w,a = c :: w∧digB c = true∧w.all digB = true:=by
  unfold partN at h
  split at h
  · rename_i hc
    obtain ⟨h0,h1,h2⟩:=hc
    obtain ⟨-,-,hi,-⟩:=number_form h0
    have hd:=dec_digits (parseS a).1.toNat
    rw [Lib.itoa,if_neg (by omega)] at hi
    rw [hi] at hd
    cases a with
    | nil=>exact absurd hi (dec_ne _)
    | cons c w =>
      rw [List.all_cons,Bool.and_eq_true] at hd
      exact ⟨c,w,rfl,hd.1,hd.2⟩
  · cases h
theorem ver_form {l : List UInt8} (h : (verS l).isSome = true) : ∃ c w,l = c :: w∧digB c = true∧w.all numB = true:=by
  cases hc : cutD l with
  | none=>unfold verS at h; rw [hc] at h; cases h
  | some x =>
    obtain ⟨a,q⟩:=x
    unfold verS at h
    rw [hc] at h
    simp only at h
    cases hc2 : cutD q with
    | none=>rw [hc2] at h; cases h
    | some y =>
      obtain ⟨b,c⟩:=y
      rw [hc2] at h
      simp only at h
      cases hc3 : cutD c with
      | some z=>rw [hc3] at h; cases h
      | none =>
        rw [hc3] at h
        simp only at h
        cases ha : partN a with
        | none=>rw [ha] at h; cases h
        | some x =>
          cases hb : partN b with
          | none=>rw [ha,hb] at h; cases h
          | some y =>
            cases hd : partN c with
            | none=>rw [ha,hb,hd] at h; cases h
            | some z =>
              obtain ⟨ca,wa,rfl,a1,a2⟩:=part_digs ha
              obtain ⟨cb,wb,rfl,b1,b2⟩:=part_digs hb
              obtain ⟨cc,wc,rfl,c1,c2⟩:=part_digs hd
              refine ⟨ca,wa ++ 46 :: (cb :: wb ++ 46 :: (cc :: wc)),by rw [cutD_eq hc,cutD_eq hc2]; simp,a1,?_⟩
              have n1:=num_all wa a2
              have n2:=num_all (cb :: wb) (by rw [List.all_cons,b1,b2]; rfl)
              have n3:=num_all (cc :: wc) (by rw [List.all_cons,c1,c2]; rfl)
              simp only [List.all_cons,Bool.and_eq_true] at n2 n3
              simp only [List.all_append,List.all_cons,List.cons_append,n1,n2,n3,Bool.and_true,Bool.and_eq_true]
              exact ⟨trivial,rfl,trivial,trivial,rfl⟩
theorem tok_quotes : ∀ (l : List (List UInt8)),(∀ t∈l,validS t = true)→∀ r,tokS (joinC (l.map quoteS) ++ 93 :: r) 1 = preT (joinT (l.map fun t=>[tkT t]) ++ [tkRb]) (tokS r 1)
  | [],_,r=>tok_sign (by decide) rfl
  | [a],h,r=>by
    show tokS (quoteS a ++ 93 :: r) 1 = preT ([tkT a] ++ [tkRb]) _
    rw [tok_text (h a (by simp)),tok_sign (by decide) rfl,preT_pre]
    rfl
  | a :: b :: l,h,r=>by
    have e : joinC ((a :: b :: l).map quoteS) ++ 93 :: r = quoteS a ++ (44 :: 32 :: (joinC ((b :: l).map quoteS) ++ 93 :: r)):=by
      show (quoteS a ++ 44 :: 32 :: joinC (quoteS b :: l.map quoteS)) ++ 93 :: r = _
      simp
    rw [e,tok_text (h a (by simp)),tok_sign (by decide) rfl,tokS_sp (Or.inl rfl),tok_quotes (b :: l) (fun t ht=>h t (List.mem_cons_of_mem _ ht)) r,preT_pre,preT_pre]
    rfl
theorem tok_V {v : VV} (h : checkS v = 0) {r : List UInt8} (hr : StopB r) : tokS (value.formS v ++ r) 1 = preT (tkV v) (tokS r 1):=by
  unfold checkS at h
  split at h
  · cases h
  rename_i h1
  split at h
  · cases h
  rename_i h2
  unfold value.formS tkV
  by_cases k1 : v.k = 1
  · rw [if_pos k1,if_pos k1]
    by_cases hn : v.n = 0
    · rw [if_pos hn,if_pos hn]
      exact tok_word (c:=102) (w:=[97,108,115,101]) (by decide) (by decide) hr.1
    · rw [if_neg hn,if_neg hn]
      exact tok_word (c:=116) (w:=[114,117,101]) (by decide) (by decide) hr.1
  rw [if_neg k1,if_neg k1]
  rw [if_neg k1] at h
  by_cases k2 : v.k = 2
  · rw [if_pos k2,if_pos k2]
    rw [if_pos k2] at h
    exact tok_num v.n (fun e=>by rw [if_pos e] at h; cases h) hr.2 1
  rw [if_neg k2,if_neg k2]
  rw [if_neg k2] at h
  by_cases k3 : v.k = 3
  · rw [if_pos k3,if_pos k3]
    rw [if_pos k3] at h
    refine tok_text ?_ r 1
    cases hv : validS v.t with
    | true=>rfl
    | false=>rw [hv] at h; cases h
  rw [if_neg k3,if_neg k3]
  rw [if_neg k3] at h
  by_cases k4 : v.k = 4
  · rw [if_pos k4,if_pos k4]
    rw [if_pos k4] at h
    have hv : (verS v.t).isSome = true:=by
      cases hv : (verS v.t).isSome with
      | true=>rfl
      | false=>rw [hv] at h; cases h
    obtain ⟨c,w,e,hc,hw⟩:=ver_form hv
    rw [e] at hv ⊢
    exact tok_ver hc hw hv hr.2
  rw [if_neg k4,if_neg k4]
  rw [if_neg k4] at h
  have hl:=(list_ok h).2
  have e : 91 :: (joinC (v.l.map quoteS) ++ [93]) ++ r = 91 :: (joinC (v.l.map quoteS) ++ 93 :: r):=by simp
  rw [e,tok_sign (by decide) rfl,tok_quotes v.l hl r,preT_pre]
  rfl
theorem tok_vals : ∀ (l : List VV),(∀ v∈l,checkS v = 0)→∀ r,StopB r→tokS (joinC (l.map value.formS) ++ r) 1 = preT (joinT (l.map tkV)) (tokS r 1)
  | [],_,r,_=>by rw [show joinT (([] : List VV).map tkV) = [] from rfl,preT_nil]; rfl
  | [a],h,r,hr=>tok_V (h a (by simp)) hr
  | a :: b :: l,h,r,hr=>by
    have e : joinC ((a :: b :: l).map value.formS) ++ r = value.formS a ++ (44 :: 32 :: (joinC ((b :: l).map value.formS) ++ r)):=by
      show (value.formS a ++ 44 :: 32 :: joinC (value.formS b :: l.map value.formS)) ++ r = _
      simp
    rw [e,tok_V (h a (by simp)) ⟨rfl,rfl⟩,tok_sign (by decide) rfl,tokS_sp (Or.inl rfl),tok_vals (b :: l) (fun t ht=>h t (List.mem_cons_of_mem _ ht)) r hr,preT_pre,preT_pre]
    show preT (tkV a ++ [_] ++ joinT ((b :: l).map tkV)) _ = preT (tkV a ++ _ :: joinT (tkV b :: l.map tkV)) _
    simp [sComma]
def SepB (sep : List UInt8) (s : Tok) : Prop:=∀ q,tokS (sep ++ q) 1 = preT [s] (tokS q 1)∧StopB (sep ++ q)
theorem sep_and : SepB [32,97,110,100,32] ⟨1,sAnd,0,1⟩:=fun q=>by
  refine ⟨?_,rfl,rfl⟩
  have e : [32,97,110,100,32] ++ q = 32 :: (97 :: [110,100] ++ (32 :: q)):=rfl
  rw [e,tokS_sp (Or.inl rfl),tok_word (by decide) (by decide) rfl,tokS_sp (Or.inl rfl)]
  rfl
theorem sep_or : SepB [32,111,114,32] ⟨1,sOr,0,1⟩:=fun q=>by
  refine ⟨?_,rfl,rfl⟩
  have e : [32,111,114,32] ++ q = 32 :: (111 :: [114] ++ (32 :: q)):=rfl
  rw [e,tokS_sp (Or.inl rfl),tok_word (by decide) (by decide) rfl,tokS_sp (Or.inl rfl)]
  rfl
theorem tok_par {o : Nat} {op : Int} {t : List UInt8} {ts : List Tok} (h : ∀ r,StopB r→tokS (t ++ r) 1 = preT ts (tokS r 1)) {r : List UInt8} (hr : StopB r) : tokS (parB o op t ++ r) 1 = preT (parT o op ts) (tokS r 1):=by
  unfold parB parT
  split
  · have e : 40 :: (t ++ [41]) ++ r = 40 :: (t ++ 41 :: r):=by simp
    rw [e,tok_sign (by decide) rfl,h _ ⟨rfl,rfl⟩,tok_sign (by decide) rfl,preT_pre,preT_pre]
    rfl
  · exact h r hr
theorem word_of {op : Int} (h1 : 6≤op) (h2 : op≤15) (r : List UInt8) (hr : hdN wordB r = true) (he : eqB r = false) : tokS (32 :: (wordOf op ++ r)) 1 = preT [tkW op] (tokS r 1):=by
  rw [tokS_sp (Or.inl rfl)]
  have : op = 6∨op = 7∨op = 8∨op = 9∨op = 10∨op = 11∨op = 12∨op = 13∨op = 14∨op = 15:=by omega
  rcases this with rfl | rfl | rfl | rfl | rfl | rfl | rfl | rfl | rfl | rfl
  · exact tok_word (c:=101) (w:=[120,105,115,116,115]) (by decide) (by decide) hr
  · exact tok_word (c:=105) (w:=[115]) (by decide) (by decide) hr
  · exact tok_word (c:=105) (w:=[110]) (by decide) (by decide) hr
  · exact tok_word (c:=115) (w:=[116,97,114,116,115]) (by decide) (by decide) hr
  · exact tok_word (c:=101) (w:=[110,100,115]) (by decide) (by decide) hr
  · exact tok_word (c:=99) (w:=[111,110,116,97,105,110,115]) (by decide) (by decide) hr
  · exact tok_sign (c:=60) (by decide) (by show (_ && eqB r) = false; rw [he]; rfl)
  · exact tok_sign2 (c:=60) (by decide) (by decide)
  · exact tok_sign (c:=62) (by decide) (by show (_ && eqB r) = false; rw [he]; rfl)
  · exact tok_sign2 (c:=62) (by decide) (by decide)
theorem tok_key {l : List UInt8} (h : keyS l = true) {r : List UInt8} (hr : hdN wordB r = true) : tokS (l ++ r) 1 = preT [⟨1,l,0,1⟩] (tokS r 1):=by
  obtain ⟨c,w,rfl,hc,hw,-⟩:=key_form h
  exact tok_word hc hw hr
theorem form_and {op : Int} {kind name : List UInt8} {v k : Nat} (h : formB op kind name v k = true) (ho : op = 2∨op = 3) : 2≤k∧kind = []∧name = []∧v = 0:=by
  unfold formB tstB at h
  rcases ho with rfl | rfl <;> simpa [and_assoc] using h
theorem form_not {kind name : List UInt8} {v k : Nat} (h : formB 4 kind name v k = true) : k = 1∧kind = []∧name = []∧v = 0:=by
  unfold formB tstB at h
  simpa [and_assoc] using h
theorem form_true {kind name : List UInt8} {v k : Nat} (h : formB 1 kind name v k = true) : k = 0∧kind = []∧name = []∧v = 0:=by
  unfold formB tstB at h
  simpa [and_assoc] using h
theorem form_seg {kind name : List UInt8} {v k : Nat} (h : formB 5 kind name v k = true) : k = 0∧kind = []∧v = 0:=by
  unfold formB tstB at h
  simpa using h
theorem form_tst {op : Int} {kind name : List UInt8} {v k : Nat} (h : formB op kind name v k = true) (h1 : 6≤op) (h2 : op≤15) : k = 0∧(op = 6→v = 0)∧(op = 8→0 < v)∧(op ≠ 6→op ≠ 8→v = 1):=by
  unfold formB tstB at h
  rw [if_neg (by omega),if_neg (by omega),decide_eq_true h1,decide_eq_true h2] at h
  simp only [Bool.and_true,Bool.true_or,Bool.true_and,Bool.and_eq_true,decide_eq_true_eq] at h
  refine ⟨h.1,fun e=>?_,fun e=>?_,fun e1 e2=>?_⟩
  · subst e; simpa using h.2
  · subst e; simpa using h.2
  · have:=h.2; rw [if_neg e2,if_pos ⟨trivial,e1⟩] at this; simpa using this
mutual
theorem tok_E : ∀ (x : PE),OkE x→∀ r,StopB r→tokS (printE x ++ r) 1 = preT (tkE x) (tokS r 1)
  | .mk op kind name vals kids,h,r,hr=>by
    rw [OkE] at h
    obtain ⟨hp,hk⟩:=h
    have P:=part_ok hp
    rw [printE,tkE]
    by_cases h1 : op = 1
    · rw [if_pos h1,if_pos h1]
      exact tok_word (c:=116) (w:=[114,117,101]) (by decide) (by decide) hr.1
    rw [if_neg h1,if_neg h1]
    by_cases h2 : op = 2
    · rw [if_pos h2,if_pos h2]
      exact tok_L kids hk 2 _ _ (fun _=>sep_and) r hr
    rw [if_neg h2,if_neg h2]
    by_cases h3 : op = 3
    · rw [if_pos h3,if_pos h3]
      exact tok_L kids hk 1 _ _ (fun _=>sep_or) r hr
    rw [if_neg h3,if_neg h3]
    by_cases h4 : op = 4
    · rw [if_pos h4,if_pos h4]
      have hf:=P.form
      rw [h4] at hf
      have h1k:=(form_not hf).1
      unfold PE.ops at h1k
      rw [List.length_map] at h1k
      have e : [110,111,116,32] ++ printL 3 [] kids ++ r = 110 :: [111,116] ++ (32 :: (printL 3 [] kids ++ r)):=rfl
      rw [e,tok_word (by decide) (by decide) rfl,tokS_sp (Or.inl rfl),tok_L kids hk 3 [] tkNot (fun h=>absurd h (by omega)) r hr,preT_pre]
      rfl
    rw [if_neg h4,if_neg h4]
    by_cases h5 : op = 5
    · rw [if_pos h5,if_pos h5]
      have e : [109,101,109,98,101,114,32] ++ name ++ r = 109 :: [101,109,98,101,114] ++ (32 :: (name ++ r)):=rfl
      rw [e,tok_word (by decide) (by decide) rfl,tokS_sp (Or.inl rfl),tok_key (P.kname (Or.inr h5)) hr.1,preT_pre]
      rfl
    rw [if_neg h5,if_neg h5]
    have o6 : 6≤op:=by have:=P.lo; omega
    have ht : tstB op = true:=by unfold tstB; rw [decide_eq_true o6,decide_eq_true P.hi]; rfl
    have hv:=vals_ok P.oks
    by_cases h6 : op = 6
    · rw [if_pos h6,if_pos h6]
      have e : kind ++ (46 :: (name ++ (32 :: (wordOf op ++ [])))) ++ r = kind ++ (46 :: (name ++ (32 :: (wordOf op ++ r)))):=by simp
      rw [e,tok_key (P.kkind ht) rfl,tok_sign (by decide) rfl,tok_key (P.kname (Or.inl ht)) rfl]
      rw [h6]
      rw [show tokS (32 :: (wordOf 6 ++ r)) 1 = preT [tkW 6] (tokS r 1) from by
        rw [tokS_sp (Or.inl rfl)]
        exact tok_word (c:=101) (w:=[120,105,115,116,115]) (by decide) (by decide) hr.1]
      rw [preT_pre,preT_pre,preT_pre]
      rfl
    rw [if_neg h6,if_neg h6]
    by_cases h8 : op = 8
    · rw [if_pos h8,if_pos h8]
      have e : kind ++ (46 :: (name ++ (32 :: (wordOf op ++ (32 :: 91 :: (joinC (vals.map value.formS) ++ [93])))))) ++ r = kind ++ (46 :: (name ++ (32 :: (wordOf op ++ (32 :: 91 :: (joinC (vals.map value.formS) ++ 93 :: r)))))):=by simp
      rw [e,tok_key (P.kkind ht) rfl,tok_sign (by decide) rfl,tok_key (P.kname (Or.inl ht)) rfl,word_of o6 P.hi _ rfl rfl,tokS_sp (Or.inl rfl),tok_sign (by decide) rfl,tok_vals vals hv _ ⟨rfl,rfl⟩,tok_sign (by decide) rfl]
      simp only [preT_pre]
      congr 1
    · rw [if_neg h8,if_neg h8]
      have e : kind ++ (46 :: (name ++ (32 :: (wordOf op ++ (32 :: joinC (vals.map value.formS)))))) ++ r = kind ++ (46 :: (name ++ (32 :: (wordOf op ++ (32 :: (joinC (vals.map value.formS) ++ r)))))):=by simp
      rw [e,tok_key (P.kkind ht) rfl,tok_sign (by decide) rfl,tok_key (P.kname (Or.inl ht)) rfl,word_of o6 P.hi _ rfl rfl,tokS_sp (Or.inl rfl),tok_vals vals hv r hr]
      simp only [preT_pre]
      congr 1
theorem tok_L : ∀ (l : List PE),OkL l→∀ (o : Nat) (sep : List UInt8) (s : Tok),(2≤l.length→SepB sep s)→∀ r,StopB r→tokS (printL o sep l ++ r) 1 = preT (tkL o s l) (tokS r 1)
  | [],_,o,sep,s,_,r,_=>by rw [printL,tkL,preT_nil]; rfl
  | k :: q,h,o,sep,s,hs,r,hr=>by
    rw [OkL] at h
    rw [printL,tkL,List.append_assoc]
    obtain ⟨h1,h2⟩:=tok_R q h.2 o sep s (fun hq=>hs (by rw [List.length_cons]; have : q.length ≠ 0:=fun e=>hq (List.eq_nil_of_length_eq_zero e); omega)) r hr
    rw [tok_par (tok_E k h.1) h2,h1,preT_pre]
theorem tok_R : ∀ (l : List PE),OkL l→∀ (o : Nat) (sep : List UInt8) (s : Tok),(l ≠ []→SepB sep s)→∀ r,StopB r→tokS (printR o sep l ++ r) 1 = preT (tkR o s l) (tokS r 1)∧StopB (printR o sep l ++ r)
  | [],_,o,sep,s,_,r,hr=>by rw [printR,tkR,preT_nil]; exact ⟨rfl,hr⟩
  | k :: q,h,o,sep,s,hs,r,hr=>by
    rw [OkL] at h
    have hs1:=hs (by simp)
    obtain ⟨h1,h2⟩:=tok_R q h.2 o sep s (fun _=>hs1) r hr
    rw [printR,tkR,List.append_assoc]
    refine ⟨?_,(hs1 _).2⟩
    rw [(hs1 _).1,List.append_assoc,tok_par (tok_E k h.1) h2,h1,preT_pre,preT_pre]
    rfl
end
end Go.Proofs.YtfffpflflggonaaGreatDoor.src
namespace Go.Proofs.YtfffpflflggonaaGreatDoor.src
open lex value text
theorem tkE_pos : ∀ x : PE,OkE x→tkE x ≠ []
  | .mk op kind name vals kids,h=>by
    rw [OkE] at h
    have P:=part_ok h.1
    rw [tkE]
    split
    · simp
    split
    · rename_i h2
      have hf:=form_and P.form (Or.inl h2)
      cases kids with
      | nil=>exact absurd hf.1 (by simp [PE.ops])
      | cons k r =>
        have:=tkE_pos k (by have:=h.2; rw [OkL] at this; exact this.1)
        rw [tkL]
        intro e
        have e1:=(List.append_eq_nil_iff.1 e).1
        unfold parT at e1
        split at e1
        · cases e1
        · exact this e1
    split
    · rename_i h2
      have hf:=form_and P.form (Or.inr h2)
      cases kids with
      | nil=>exact absurd hf.1 (by simp [PE.ops])
      | cons k r =>
        have:=tkE_pos k (by have:=h.2; rw [OkL] at this; exact this.1)
        rw [tkL]
        intro e
        have e1:=(List.append_eq_nil_iff.1 e).1
        unfold parT at e1
        split at e1
        · cases e1
        · exact this e1
    split
    · simp
    split
    · simp
    · simp
theorem parT_pos {o : Nat} {op : Int} {t : List Tok} (h : t ≠ []) : 1≤(parT o op t).length:=by
  unfold parT
  split
  · simp
  · cases t with
    | nil=>exact absurd rfl h
    | cons a b=>simp
theorem tkR_len : ∀ (l : List PE),OkL l→∀ (o : Nat) (s : Tok),2 * l.length≤(tkR o s l).length∧∀ k∈l,(parT o k.op (tkE k)).length≤(tkR o s l).length
  | [],_,o,s=>⟨Nat.zero_le _,fun k hk=>by cases hk⟩
  | a :: r,h,o,s=>by
    rw [OkL] at h
    have h1:=parT_pos (o:=o) (op:=a.op) (tkE_pos a h.1)
    have ih:=tkR_len r h.2 o s
    rw [tkR]
    simp only [List.length_cons,List.length_append]
    refine ⟨by omega,fun k hk=>?_⟩
    rcases List.mem_cons.1 hk with rfl | hk
    · omega
    · have:=ih.2 k hk; omega
theorem tkL_len (l : List PE) (h : OkL l) (o : Nat) (s : Tok) : l.length≤(tkL o s l).length∧∀ k∈l,(parT o k.op (tkE k)).length≤(tkL o s l).length:=by
  cases l with
  | nil=>exact ⟨Nat.zero_le _,fun k hk=>by cases hk⟩
  | cons a r =>
    rw [OkL] at h
    have h1:=parT_pos (o:=o) (op:=a.op) (tkE_pos a h.1)
    have ih:=tkR_len r h.2 o s
    rw [tkL]
    simp only [List.length_cons,List.length_append]
    refine ⟨by omega,fun k hk=>?_⟩
    rcases List.mem_cons.1 hk with rfl | hk
    · omega
    · have:=ih.2 k hk; omega
theorem texts_all : ∀ (l : List (List UInt8)) (r : List Tok),l ≠ []→isN sComma r = false→textsS (joinT (l.map fun t=>[tkT t]) ++ r) = .ok (l,r)
  | [],r,h,_=>absurd rfl h
  | [a],r,_,hr=>by
    show textsS (tkT a :: r) = _
    cases r with
    | nil=>rfl
    | cons c q =>
      rw [textsS,if_pos (show (tkT a).k = 3 from rfl),if_neg (by rw [show isT sComma c = false from hr]; decide)]
      rfl
  | a :: b :: l,r,_,hr=>by
    have ih:=texts_all (b :: l) r (by simp) hr
    show textsS (tkT a :: ⟨5,sComma,0,1⟩ :: (joinT ((b :: l).map fun t=>[tkT t]) ++ r)) = _
    rw [textsS,if_pos (show (tkT a).k = 3 from rfl),if_pos (show isT sComma ⟨5,sComma,0,1⟩ = true from rfl),ih]
    rfl
theorem value_all {v : VV} (h : checkS v = 0) (r : List Tok) : valueS (tkV v ++ r) = .ok (v,r):=by
  unfold checkS at h
  split at h
  · cases h
  rename_i h1
  split at h
  · cases h
  rename_i h2
  obtain ⟨k,n,t,l⟩:=v
  simp only at h h1 h2
  have hs : shapeS ⟨k,n,t,l⟩ = true:=by simpa using h2
  unfold shapeS at hs
  simp only at hs
  by_cases k1 : k = 1
  · subst k1
    rw [if_pos (Or.inl rfl)] at hs
    simp only [Bool.and_eq_true,List.isEmpty_iff] at hs
    obtain ⟨rfl,rfl⟩:=hs
    rw [if_pos rfl] at h
    have hn : n = 0∨n = 1:=by
      split at h
      · cases h
      · rename_i h3; omega
    rcases hn with rfl | rfl <;> rfl
  rw [if_neg k1] at h
  by_cases k2 : k = 2
  · subst k2
    rw [if_pos (Or.inr rfl)] at hs
    simp only [Bool.and_eq_true,List.isEmpty_iff] at hs
    obtain ⟨rfl,rfl⟩:=hs
    rfl
  rw [if_neg k2] at h
  by_cases k3 : k = 3
  · subst k3
    rw [if_neg (by omega),if_pos (Or.inl rfl)] at hs
    simp only [Bool.and_eq_true,List.isEmpty_iff,decide_eq_true_eq] at hs
    obtain ⟨rfl,rfl⟩:=hs
    rfl
  rw [if_neg k3] at h
  by_cases k4 : k = 4
  · subst k4
    rw [if_neg (by omega),if_pos (Or.inr rfl)] at hs
    simp only [Bool.and_eq_true,List.isEmpty_iff,decide_eq_true_eq] at hs
    obtain ⟨rfl,rfl⟩:=hs
    rfl
  have k5 : k = 5:=by omega
  subst k5
  rw [if_neg (by omega),if_neg (by omega)] at hs
  simp only [Bool.and_eq_true,List.isEmpty_iff,decide_eq_true_eq] at hs
  obtain ⟨rfl,rfl⟩:=hs
  have e : tkV ⟨5,0,[],l⟩ ++ r = tkLb :: (joinT (l.map fun t=>[tkT t]) ++ (tkRb :: r)):=by
    unfold tkV
    simp
  rw [e]
  cases l with
  | nil=>rfl
  | cons a q =>
    have ht:=texts_all (a :: q) (tkRb :: r) (by simp) rfl
    have hh : ∃ w,joinT ((a :: q).map fun t=>[tkT t]) ++ (tkRb :: r) = tkT a :: w:=by
      cases q with
      | nil=>exact ⟨_,rfl⟩
      | cons b q=>exact ⟨_,rfl⟩
    obtain ⟨w,hw⟩:=hh
    rw [hw] at ht ⊢
    rw [valueS.eq_def]
    simp only
    rw [if_neg (by decide),if_neg (by decide),if_neg (by decide),if_neg (by decide),if_neg (by decide),if_pos (by decide),if_pos (show (tkT a).k = 3 from rfl),ht]
    rfl
theorem values_all : ∀ (l : List VV) (f : Nat) (r : List Tok),l ≠ []→(∀ v∈l,checkS v = 0)→l.length≤f→isN sComma r = false→valuesF f (joinT (l.map tkV) ++ r) = .ok (l,r)
  | [],f,r,h,_,_,_=>absurd rfl h
  | a :: l,0,r,_,_,hf,_=>absurd hf (by simp)
  | [a],f + 1,r,_,hv,hf,hr=>by
    show valuesF (f + 1) (tkV a ++ r) = _
    rw [valuesF,value_all (hv a (by simp)),bnd_ok]
    cases r with
    | nil=>rfl
    | cons c q=>simp only; rw [if_neg (by rw [show isT sComma c = false from hr]; decide)]
  | a :: b :: l,f + 1,r,_,hv,hf,hr=>by
    have ih:=values_all (b :: l) f r (by simp) (fun v h=>hv v (List.mem_cons_of_mem _ h)) (by rw [List.length_cons] at hf; omega) hr
    have e : joinT ((a :: b :: l).map tkV) ++ r = tkV a ++ (⟨5,sComma,0,1⟩ :: (joinT ((b :: l).map tkV) ++ r)):=by
      show (tkV a ++ ⟨5,sComma,0,1⟩ :: joinT (tkV b :: l.map tkV)) ++ r = _
      simp
    rw [e,valuesF,value_all (hv a (by simp)),bnd_ok]
    simp only
    rw [if_pos (show isT sComma ⟨5,sComma,0,1⟩ = true from rfl),ih]
    rfl
theorem join_len : ∀ (l : List VV),(∀ v∈l,checkS v = 0)→l.length≤(joinT (l.map tkV)).length
  | [],_=>Nat.le_refl _
  | [a],h=>by
    show 1≤(tkV a).length
    unfold tkV
    split
    · simp
    split
    · simp
    split
    · simp
    split
    · simp
    · simp
  | a :: b :: l,h=>by
    have ih:=join_len (b :: l) (fun v hv=>h v (List.mem_cons_of_mem _ hv))
    show _≤(tkV a ++ ⟨5,sComma,0,1⟩ :: joinT ((b :: l).map tkV)).length
    simp only [List.length_append,List.length_cons] at ih ⊢
    omega
theorem choice_of {op : Int} (h1 : 6≤op) (h2 : op≤15) (r : List Tok) : choiceS tests10 (tkW op :: r) = .ok ((op - 6).toNat,r):=by
  have : op = 6∨op = 7∨op = 8∨op = 9∨op = 10∨op = 11∨op = 12∨op = 13∨op = 14∨op = 15:=by omega
  rcases this with rfl | rfl | rfl | rfl | rfl | rfl | rfl | rfl | rfl | rfl <;> rfl
theorem test_all {op : Int} {kind name : List UInt8} {vals : List VV} {kids : List PE} (h : OkE (.mk op kind name vals kids)) (h2 : op ≠ 2) (h3 : op ≠ 3) (h4 : op ≠ 4) (f o : Nat) (r : List Tok) : notF (f + 1) o (tkE (.mk op kind name vals kids) ++ r) = .ok (.mk op kind name vals kids,r):=by
  rw [OkE] at h
  have P:=part_ok h.1
  have hk0 : ∀ {l : List PE},(PE.ops l).length = 0→l = []:=fun {l} e=>by
    unfold PE.ops at e
    rw [List.length_map] at e
    exact List.eq_nil_of_length_eq_zero e
  rw [tkE]
  by_cases h1 : op = 1
  · subst h1
    obtain ⟨e1,rfl,rfl,e4⟩:=form_true P.form
    obtain rfl:=hk0 e1
    obtain rfl:=List.eq_nil_of_length_eq_zero e4
    rw [if_pos rfl]
    show notF (f + 1) o (⟨1,sTrue,0,1⟩ :: r) = _
    rw [notF,if_neg (by decide),if_neg (by decide)]
    rfl
  rw [if_neg h1,if_neg h2,if_neg h3,if_neg h4]
  by_cases h5 : op = 5
  · subst h5
    obtain ⟨e1,rfl,e4⟩:=form_seg P.form
    obtain rfl:=hk0 e1
    obtain rfl:=List.eq_nil_of_length_eq_zero e4
    rw [if_pos rfl]
    show notF (f + 1) o (⟨1,sMember,0,1⟩ :: ⟨1,name,0,1⟩ :: r) = _
    rw [notF,if_neg (by decide),if_neg (by decide)]
    rfl
  rw [if_neg h5]
  have o6 : 6≤op:=by have:=P.lo; omega
  have ht : tstB op = true:=by unfold tstB; rw [decide_eq_true o6,decide_eq_true P.hi]; rfl
  obtain ⟨e1,v6,v8,v1⟩:=form_tst P.form o6 P.hi
  obtain rfl:=hk0 e1
  have hkk:=P.kkind ht
  have n1 : isT sNot ⟨1,kind,0,1⟩ = false:=by unfold isT; simp only; rw [key_not hkk (by decide)]; rfl
  have n2 : isT sLp ⟨1,kind,0,1⟩ = false:=by
    obtain ⟨c,w,rfl,hc,-⟩:=key_form hkk
    unfold isT
    simp only
    have hne : ((c :: w) == sLp) = false:=by
      refine beq_eq_false_iff_ne.2 fun e=>?_
      injection e with e1 e2
      rw [e1] at hc
      exact absurd hc (by decide)
    rw [hne]
    rfl
  have n3 : isT sTrue ⟨1,kind,0,1⟩ = false:=by unfold isT; simp only; rw [key_not hkk (by decide)]; rfl
  have n4 : isT sMember ⟨1,kind,0,1⟩ = false:=by unfold isT; simp only; rw [key_not hkk (by decide)]; rfl
  have hvs:=vals_ok P.oks
  generalize hX : (if op = 6 then [] else if op = 8 then tkLb :: (joinT (vals.map tkV) ++ [tkRb]) else joinT (vals.map tkV)) = X
  show notF (f + 1) o (⟨1,kind,0,1⟩ :: (⟨5,sDot,0,1⟩ :: ⟨1,name,0,1⟩ :: tkW op :: (X ++ r))) = _
  rw [notF,if_neg (by rw [n1]; decide),if_neg (by rw [n2]; decide),testS,if_neg (by rw [n3]; decide),if_neg (by rw [n4]; decide)]
  rw [show takeS 1 (⟨1,kind,0,1⟩ :: (⟨5,sDot,0,1⟩ :: ⟨1,name,0,1⟩ :: tkW op :: (X ++ r))) = .ok (⟨1,kind,0,1⟩,⟨5,sDot,0,1⟩ :: ⟨1,name,0,1⟩ :: tkW op :: (X ++ r)) from rfl,bnd_ok]
  rw [show needS sDot (⟨5,sDot,0,1⟩ :: ⟨1,name,0,1⟩ :: tkW op :: (X ++ r)) = .ok ((),⟨1,name,0,1⟩ :: tkW op :: (X ++ r)) from rfl,bnd_ok]
  rw [show takeS 1 (⟨1,name,0,1⟩ :: tkW op :: (X ++ r)) = .ok (⟨1,name,0,1⟩,tkW op :: (X ++ r)) from rfl,bnd_ok,choice_of o6 P.hi,bnd_ok]
  have ha : argS (op - 6).toNat (X ++ r) = .ok (vals,r):=by
    unfold argS
    by_cases h6 : op = 6
    · subst h6
      obtain rfl:=List.eq_nil_of_length_eq_zero (v6 rfl)
      rw [if_pos rfl] at hX
      rw [← hX]
      rfl
    rw [if_neg (by omega)]
    rw [if_neg h6] at hX
    by_cases h8 : op = 8
    · subst h8
      rw [if_pos rfl] at hX
      rw [if_pos (by decide),← hX]
      have hne : vals ≠ []:=fun e=>by have:=v8 rfl; rw [e] at this; exact absurd this (by decide)
      have e : tkLb :: (joinT (vals.map tkV) ++ [tkRb]) ++ r = tkLb :: (joinT (vals.map tkV) ++ (tkRb :: r)):=by simp
      rw [e,show needS sLb (tkLb :: (joinT (vals.map tkV) ++ (tkRb :: r))) = .ok ((),joinT (vals.map tkV) ++ (tkRb :: r)) from rfl,bnd_ok,valuesS]
      rw [values_all vals _ (tkRb :: r) hne hvs (by have:=join_len vals hvs; rw [List.length_append]; omega) rfl,bnd_ok]
      rfl
    rw [if_neg (by omega)]
    rw [if_neg h8] at hX
    obtain ⟨v,rfl⟩:=List.length_eq_one_iff.1 (v1 h6 h8)
    have hv:=hvs v (by simp)
    have hX2 : X = tkV v:=hX.symm
    rw [hX2]
    by_cases h9 : op = 9∨op = 10∨op = 11
    · rw [if_pos (by omega)]
      have hk3 : v.k = 3:=P.text (by unfold textB; rcases h9 with rfl | rfl | rfl <;> rfl)
      have hva:=value_all hv r
      obtain ⟨k,n,t,l⟩:=v
      simp only at hk3
      subst hk3
      have hs : tkV ⟨3,n,t,l⟩ ++ r = tkT t :: r:=rfl
      rw [hs] at hva ⊢
      have e2 : valueS (tkT t :: r) = .ok (⟨3,0,t,[]⟩,r):=rfl
      rw [e2] at hva
      injection hva with hva
      injection hva with hva _
      rw [show takeS 3 (tkT t :: r) = .ok (tkT t,r) from rfl,bnd_ok,← hva]
      rfl
    · rw [if_neg (by omega),value_all hv,bnd_ok]
  rw [ha,bnd_ok]
  congr 3
  omega
theorem loop_all {part : List Tok→R PE} {op : Int} {word : List UInt8} {s : Tok} {b : Nat} {C : List Tok→Prop} (hs : isT word s = true) (hC : ∀ q,C (s :: q)) : ∀ (ks : List PE) (f : Nat) (acc : List PE) (x : PE) (r : List Tok),(∀ k∈ks,k.op ≠ op∧∀ q,C q→part (parT b k.op (tkE k) ++ q) = .ok (k,q))→x.op ≠ op→isN word r = false→C r→ks.length < f→loopF part op word f acc x (tkR b s ks ++ r) = .ok (.mk op [] [] [] (acc ++ x :: ks),r)
  | ks,0,acc,x,r,_,_,_,_,hf=>absurd hf (Nat.not_lt_zero _)
  | [],f + 1,acc,x,r,_,hx,hr,_,_=>by
    rw [tkR,List.nil_append,loopF,if_neg (by rw [hr]; decide)]
    unfold flatE
    rw [if_neg hx]
  | k :: ks,f + 1,acc,x,r,hk,hx,hr,hCr,hf=>by
    have h1:=hk k (by simp)
    have ih:=loop_all hs hC ks f (acc ++ flatE op x) k r (fun k' h=>hk k' (List.mem_cons_of_mem _ h)) h1.1 hr hCr (by rw [List.length_cons] at hf; omega)
    have hCq : C (tkR b s ks ++ r):=by
      cases ks with
      | nil=>rw [tkR]; exact hCr
      | cons k2 ks=>rw [tkR]; exact hC _
    rw [tkR]
    show loopF part op word (f + 1) acc x (s :: (parT b k.op (tkE k) ++ tkR b s ks ++ r)) = _
    rw [loopF,if_pos (show isN word (s :: (parT b k.op (tkE k) ++ tkR b s ks ++ r)) = true from hs),List.tail_cons,List.append_assoc,h1.2 _ hCq,bnd_ok,ih]
    unfold flatE
    rw [if_neg hx]
    simp
theorem chain_all {part : List Tok→R PE} {op : Int} {word : List UInt8} {s : Tok} {b : Nat} {C : List Tok→Prop} (hs : isT word s = true) (hC : ∀ q,C (s :: q)) (ks : List PE) (f : Nat) (r : List Tok) (hk : ∀ k∈ks,k.op ≠ op∧∀ q,C q→part (parT b k.op (tkE k) ++ q) = .ok (k,q)) (h2 : 2≤ks.length) (hr : isN word r = false) (hCr : C r) (hf : ks.length≤f) :
    chainF part op word f (tkL b s ks ++ r) = .ok (.mk op [] [] [] ks,r):=by
  match ks,h2 with
  | k :: k2 :: q,_ =>
    have h1:=hk k (by simp)
    rw [tkL,List.append_assoc,chainF,h1.2 _ (by rw [tkR]; exact hC _),bnd_ok]
    have hn : isN word (tkR b s (k2 :: q) ++ r) = true:=by rw [tkR]; exact hs
    rw [if_pos hn,loop_all hs hC (k2 :: q) f [] k r (fun k' h=>hk k' (List.mem_cons_of_mem _ h)) h1.1 hr hCr (by rw [List.length_cons] at hf; omega)]
    rfl
theorem bind_lt (op : Int) : (bindN op < 3 ↔ (op = 2∨op = 3))∧(bindN op < 2 ↔ op = 3)∧¬ bindN op < 1:=by
  unfold bindN
  split
  · omega
  split
  · omega
  split
  · omega
  · omega
theorem parT1 (op : Int) (t : List Tok) : parT 1 op t = t:=by unfold parT; rw [if_neg (bind_lt op).2.2]
theorem parT2 {op : Int} (h : op ≠ 3) (t : List Tok) : parT 2 op t = t:=by unfold parT; rw [if_neg (fun e=>h ((bind_lt op).2.1.1 e))]
theorem parT3 {op : Int} (h : op ≠ 2) (h3 : op ≠ 3) (t : List Tok) : parT 3 op t = t:=by unfold parT; rw [if_neg (fun e=>((bind_lt op).1.1 e).elim h h3)]
theorem parT23 {op : Int} (h : op ≠ 2) (t : List Tok) : parT 2 op t = parT 3 op t:=by
  unfold parT
  by_cases h3 : op = 3
  · rw [if_pos ((bind_lt op).2.1.2 h3),if_pos ((bind_lt op).1.2 (Or.inr h3))]
  · rw [if_neg (fun e=>h3 ((bind_lt op).2.1.1 e)),if_neg (fun e=>((bind_lt op).1.1 e).elim h h3)]
structure RdE (x : PE) : Prop where
  n : ∀ (f o : Nat) (r : List Tok),(parT 3 x.op (tkE x)).length≤f→o + 3 * hgtE x≤100→notF f o (parT 3 x.op (tkE x) ++ r) = .ok (x,r)
  a : ∀ (f o : Nat) (r : List Tok),(parT 2 x.op (tkE x)).length≤f→o + 3 * hgtE x≤100→isN sAnd r = false→chainF (notF f o) 2 sAnd f (parT 2 x.op (tkE x) ++ r) = .ok (x,r)
  o : ∀ (f o : Nat) (r : List Tok),(tkE x).length≤f→o + 3 * hgtE x≤101→isN sAnd r = false→isN sOr r = false→orF f o (tkE x ++ r) = .ok (x,r)
theorem par_all {x : PE} (ho : ∀ (f o : Nat) (r : List Tok),(tkE x).length≤f→o + 3 * hgtE x≤101→isN sAnd r = false→isN sOr r = false→orF f o (tkE x ++ r) = .ok (x,r)) (h : x.op = 2∨x.op = 3)
    (f o : Nat) (r : List Tok) (hf : (parT 3 x.op (tkE x)).length≤f) (hd : o + 3 * hgtE x≤100) : notF f o (parT 3 x.op (tkE x) ++ r) = .ok (x,r):=by
  have e : parT 3 x.op (tkE x) = tkLp :: (tkE x ++ [tkRp]):=by unfold parT; rw [if_pos ((bind_lt x.op).1.2 h)]
  rw [e] at hf ⊢
  simp only [List.length_cons,List.length_append,List.length_nil] at hf
  cases f with
  | zero=>omega
  | succ f =>
    have e2 : tkLp :: (tkE x ++ [tkRp]) ++ r = tkLp :: (tkE x ++ (tkRp :: r)):=by simp
    have h1:=ho f (o + 1) (tkRp :: r) (by omega) (by omega) rfl rfl
    unfold orF at h1
    rw [e2,notF,if_neg (by decide),if_pos (by decide),if_neg (by omega),h1,bnd_ok]
    rfl
theorem rd_test {op : Int} {kind name : List UInt8} {vals : List VV} {kids : List PE} (h : OkE (.mk op kind name vals kids)) (h2 : op ≠ 2) (h3 : op ≠ 3) (h4 : op ≠ 4) : RdE (.mk op kind name vals kids):=by
  have hn : ∀ (f o : Nat) (r : List Tok),(tkE (.mk op kind name vals kids)).length≤f→notF f o (tkE (.mk op kind name vals kids) ++ r) = .ok (.mk op kind name vals kids,r):=fun f o r hf=>by
    have:=List.length_pos_iff.2 (tkE_pos _ h)
    obtain ⟨f',rfl⟩ : ∃ f',f = f' + 1:=⟨f - 1,by omega⟩
    exact test_all h h2 h3 h4 f' o r
  refine ⟨fun f o r hf _=>?_,fun f o r hf _ hr=>?_,fun f o r hf _ hr hr2=>?_⟩
  · rw [show (PE.mk op kind name vals kids).op = op from rfl,parT3 h2 h3] at hf ⊢
    exact hn f o r hf
  · rw [show (PE.mk op kind name vals kids).op = op from rfl,parT2 h3] at hf ⊢
    exact chain_one (hn f o r hf) hr
  · exact chain_one (chain_one (hn f o r hf) hr) hr2
mutual
theorem read_E : ∀ x : PE,OkE x→RdE x
  | .mk op kind name vals kids,h=>by
    have hok:=h
    rw [OkE] at h
    have P:=part_ok h.1
    have hkids:=read_L kids h.2
    have hlen : (PE.ops kids).length = kids.length:=by unfold PE.ops; rw [List.length_map]
    have hgt : ∀ k∈kids,hgtE k + 1≤hgtE (.mk op kind name vals kids):=fun k hk=>by have:=hgt_mem hk; rw [hgtE.eq_1]; omega
    by_cases h2 : op = 2
    · subst h2
      obtain ⟨e1,rfl,rfl,e4⟩:=form_and P.form (Or.inl rfl)
      obtain rfl:=List.eq_nil_of_length_eq_zero e4
      rw [hlen] at e1
      have ht : tkE (.mk 2 [] [] [] kids) = tkL 2 ⟨1,sAnd,0,1⟩ kids:=by rw [tkE,if_neg (by decide),if_pos rfl]
      have hl:=tkL_len kids h.2 2 ⟨1,sAnd,0,1⟩
      have hne : ∀ k∈kids,k.op ≠ 2:=fun k hk=>P.alt (Or.inl rfl) k.op (by unfold PE.ops; exact List.mem_map_of_mem hk)
      have ha : ∀ (f o : Nat) (r : List Tok),(tkE (.mk 2 [] [] [] kids)).length≤f→o + 3 * hgtE (.mk 2 [] [] [] kids)≤101→isN sAnd r = false→chainF (notF f o) 2 sAnd f (tkE (.mk 2 [] [] [] kids) ++ r) = .ok (.mk 2 [] [] [] kids,r):=fun f o r hf hd hr=>by
        rw [ht] at hf ⊢
        refine chain_all (C:=fun _=>True) rfl (fun _=>trivial) kids f r (fun k hk=>⟨hne k hk,fun q _=>?_⟩) e1 hr trivial (by omega)
        have:=hl.2 k hk
        have:=hgt k hk
        rw [parT23 (hne k hk)] at *
        exact (hkids k hk).n f o q (by omega) (by omega)
      have ho : ∀ (f o : Nat) (r : List Tok),(tkE (.mk 2 [] [] [] kids)).length≤f→o + 3 * hgtE (.mk 2 [] [] [] kids)≤101→isN sAnd r = false→isN sOr r = false→orF f o (tkE (.mk 2 [] [] [] kids) ++ r) = .ok (.mk 2 [] [] [] kids,r):=fun f o r hf hd hr hr2=>chain_one (ha f o r hf hd hr) hr2
      exact ⟨par_all ho (Or.inl rfl),fun f o r hf hd hr=>by
        rw [show (PE.mk 2 [] [] [] kids).op = 2 from rfl,parT2 (by decide)] at hf ⊢
        exact ha f o r hf (by omega) hr,ho⟩
    by_cases h3 : op = 3
    · subst h3
      obtain ⟨e1,rfl,rfl,e4⟩:=form_and P.form (Or.inr rfl)
      obtain rfl:=List.eq_nil_of_length_eq_zero e4
      rw [hlen] at e1
      have ht : tkE (.mk 3 [] [] [] kids) = tkL 1 ⟨1,sOr,0,1⟩ kids:=by rw [tkE,if_neg (by decide),if_neg (by decide),if_pos rfl]
      have hl:=tkL_len kids h.2 1 ⟨1,sOr,0,1⟩
      have hne : ∀ k∈kids,k.op ≠ 3:=fun k hk=>P.alt (Or.inr rfl) k.op (by unfold PE.ops; exact List.mem_map_of_mem hk)
      have ho : ∀ (f o : Nat) (r : List Tok),(tkE (.mk 3 [] [] [] kids)).length≤f→o + 3 * hgtE (.mk 3 [] [] [] kids)≤101→isN sAnd r = false→isN sOr r = false→orF f o (tkE (.mk 3 [] [] [] kids) ++ r) = .ok (.mk 3 [] [] [] kids,r):=fun f o r hf hd hr hr2=>by
        rw [ht] at hf ⊢
        refine chain_all (C:=fun q=>isN sAnd q = false) rfl (fun _=>rfl) kids f r (fun k hk=>⟨hne k hk,fun q hq=>?_⟩) e1 hr2 hr (by omega)
        have h7:=hl.2 k hk
        have:=hgt k hk
        rw [parT1] at h7 ⊢
        have:=(hkids k hk).a f o q (by rw [parT2 (hne k hk)]; omega) (by omega) hq
        rw [parT2 (hne k hk)] at this
        exact this
      have hn:=par_all ho (Or.inr rfl)
      exact ⟨hn,fun f o r hf hd hr=>by
        rw [show (PE.mk 3 [] [] [] kids).op = 3 from rfl,parT23 (by decide)] at hf ⊢
        exact chain_one (hn f o r hf hd) hr,ho⟩
    by_cases h4 : op = 4
    · subst h4
      obtain ⟨e1,rfl,rfl,e4⟩:=form_not P.form
      obtain rfl:=List.eq_nil_of_length_eq_zero e4
      rw [hlen] at e1
      obtain ⟨k,rfl⟩:=List.length_eq_one_iff.1 e1
      have ht : tkE (.mk 4 [] [] [] [k]) = tkNot :: parT 3 k.op (tkE k):=by
        rw [tkE,if_neg (by decide),if_neg (by decide),if_neg (by decide),if_pos rfl,tkL,tkR,List.append_nil]
      have hk:=hkids k (by simp)
      have hg:=hgt k (by simp)
      have hn : ∀ (f o : Nat) (r : List Tok),(tkE (.mk 4 [] [] [] [k])).length≤f→o + 3 * hgtE (.mk 4 [] [] [] [k])≤101→notF f o (tkE (.mk 4 [] [] [] [k]) ++ r) = .ok (.mk 4 [] [] [] [k],r):=fun f o r hf hd=>by
        rw [ht] at hf ⊢
        rw [List.length_cons] at hf
        obtain ⟨f',rfl⟩ : ∃ f',f = f' + 1:=⟨f - 1,by omega⟩
        show notF (f' + 1) o (tkNot :: (parT 3 k.op (tkE k) ++ r)) = _
        rw [notF,if_pos (by decide),if_neg (by omega),hk.n f' (o + 1) r (by omega) (by omega),bnd_ok]
      exact ⟨fun f o r hf hd=>by
        rw [show (PE.mk 4 [] [] [] [k]).op = 4 from rfl,parT3 (by decide) (by decide)] at hf ⊢
        exact hn f o r hf (by omega),fun f o r hf hd hr=>by
        rw [show (PE.mk 4 [] [] [] [k]).op = 4 from rfl,parT2 (by decide)] at hf ⊢
        exact chain_one (hn f o r hf (by omega)) hr,fun f o r hf hd hr hr2=>chain_one (chain_one (hn f o r hf hd) hr) hr2⟩
    exact rd_test hok h2 h3 h4
theorem read_L : ∀ l : List PE,OkL l→∀ k∈l,RdE k
  | [],_,k,hk=>by cases hk
  | a :: r,h,k,hk=>by
    rw [OkL] at h
    rcases List.mem_cons.1 hk with e | hk
    · rw [e]; exact read_E a h.1
    · exact read_L r h.2 k hk
end
theorem print_read (x : PE) (h : formS x = 0) (hl : (printE x).length≤30000) : readS (printE x) = .ok x:=by
  obtain ⟨hok,hg⟩:=ok_walk x 0 0 h
  have ht : toksS (printE x) = .ok (tkE x ++ [tkEnd]):=by
    rw [toksS_ok (by omega)]
    have:=tok_E x hok [] ⟨rfl,rfl⟩
    rw [List.append_nil] at this
    rw [this]
    rfl
  have hc : condS (tkE x ++ [tkEnd]) = .ok (x,[]):=by
    rw [condS,(read_E x hok).o _ 0 [tkEnd] (by rw [List.length_append]; omega) (by omega) rfl rfl,bnd_ok]
    rfl
  rw [readS,ht]
  simp only
  rw [hc]
  simp only
  rw [if_pos h]
end Go.Proofs.YtfffpflflggonaaGreatDoor.src
