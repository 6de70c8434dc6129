/- The program reads an empty text: the empty environment. The empty environment is well-formed; the program's Parse of an empty text. -/
import Derived.Test.YtfffpflflggonaaGreatDoorKSrEv
import Derived.BigQuiet
import Derived.Test.YtfffpflflggonaaGreatDoorKS27
namespace Go.Proofs.YtfffpflflggonaaGreatDoor.src
open Go.RowKit lex value text schema draw clause
theorem own8z {w : World} {n : Nat} {x0 x1 x2 x3 x4 x5 x6 x7 : Value} {t : TypeId} (h : Own w n #[x0,x1,x2,x3,x4,x5,x6,x7] t) :
    (w.cell? ⟨n,0,none⟩ = some x0∧w.cell? ⟨n,1,none⟩ = some x1∧w.cell? ⟨n,2,none⟩ = some x2∧w.cell? ⟨n,3,none⟩ = some x3∧w.cell? ⟨n,4,none⟩ = some x4∧w.cell? ⟨n,5,none⟩ = some x5∧w.cell? ⟨n,6,none⟩ = some x6∧w.cell? ⟨n,7,none⟩ = some x7) ∧
    (w.frozen? ⟨n,0,none⟩ = false∧w.frozen? ⟨n,1,none⟩ = false∧w.frozen? ⟨n,2,none⟩ = false∧w.frozen? ⟨n,3,none⟩ = false∧w.frozen? ⟨n,4,none⟩ = false∧w.frozen? ⟨n,5,none⟩ = false∧w.frozen? ⟨n,6,none⟩ = false∧w.frozen? ⟨n,7,none⟩ = false) :=
  ⟨⟨h.cell 0,h.cell 1,h.cell 2,h.cell 3,h.cell 4,h.cell 5,h.cell 6,h.cell 7⟩,⟨h.free 0,h.free 1,h.free 2,h.free 3,h.free 4,h.free 5,h.free 6,h.free 7⟩⟩
theorem grown8 (w : World) (q : Nat) (a b c d e f x y : Value) : w.grownBy ((((((((w.setCell ⟨q,0,none⟩ a).setCell ⟨q,1,none⟩ b).setCell ⟨q,2,none⟩ c).setCell ⟨q,3,none⟩ d).setCell ⟨q,4,none⟩ e).setCell ⟨q,5,none⟩ f).setCell ⟨q,6,none⟩ x).setCell ⟨q,7,none⟩ y) (some q) :=
  g_call (g_call (g_call (grown5 w q a b c d e) (grown_setCell _ q 5 f)) (grown_setCell _ q 6 x)) (grown_setCell _ q 7 y)
section
variable {M : Mem} {T : List Tok} {tb to' tc : Nat}
set_option maxRecDepth 100000 in
set_option maxHeartbeats 8000000 in
theorem env_zero (hK : TokM M T tb to' tc) (g : Nat) (w : World) (t : Tok) (ht : t.k = 6) (hM : Sub M (but g w)) (h : PrP T tb to' tc g w 0 (.ok [t])) :
    Calls Tryz.prog 35 #[.pointer (some ⟨g,0,none⟩)] w fun e w'=>e = .returned (.agg #[.string ⟨#[]⟩,.string ⟨#[]⟩,.int .i64 0,.slice none 0 0,.slice none 0 0,.slice none 0 0,.slice none 0 0,.slice none 0 0])∧Below w.heap.size w w':=by
  have hal:=Lib.hid (show Below w.heap.size w ((w.alloc (.cells #[.string ⟨#[]⟩,.string ⟨#[]⟩,.int .i64 0,.slice none 0 0,.slice none 0 0,.slice none 0 0,.slice none 0 0,.slice none 0 0] 51)).alloc (.cells #[.string ⟨#[]⟩,.string ⟨#[]⟩,.int .i64 0,.slice none 0 0,.slice none 0 0,.slice none 0 0,.slice none 0 0,.slice none 0 0] 51)) from ((Below.refl _ _).alloc (Nat.le_refl _) _).alloc (by simp) _)
  have hz:=Lib.hid ((Own.new w #[.string ⟨#[]⟩,.string ⟨#[]⟩,.int .i64 0,.slice none 0 0,.slice none 0 0,.slice none 0 0,.slice none 0 0,.slice none 0 0] 51).alloc (.cells #[.string ⟨#[]⟩,.string ⟨#[]⟩,.int .i64 0,.slice none 0 0,.slice none 0 0,.slice none 0 0,.slice none 0 0,.slice none 0 0] 51))
  have he:=Lib.hid (show Own ((w.alloc (.cells #[.string ⟨#[]⟩,.string ⟨#[]⟩,.int .i64 0,.slice none 0 0,.slice none 0 0,.slice none 0 0,.slice none 0 0,.slice none 0 0] 51)).alloc (.cells #[.string ⟨#[]⟩,.string ⟨#[]⟩,.int .i64 0,.slice none 0 0,.slice none 0 0,.slice none 0 0,.slice none 0 0,.slice none 0 0] 51)) (w.heap.size + 1) #[.string ⟨#[]⟩,.string ⟨#[]⟩,.int .i64 0,.slice none 0 0,.slice none 0 0,.slice none 0 0,.slice none 0 0,.slice none 0 0] 51 from Own.new' (by simp))
  have hP:=Lib.hid (h.below hal.out)
  have hM1:=Lib.hid (sub_but_below hM hal.out)
  have hgl:=h.lt
  clear h hM
  go_enter Tryz.func35,Tryz.ntmps35
  go_wp2
  generalize (w.alloc (.cells #[.string ⟨#[]⟩,.string ⟨#[]⟩,.int .i64 0,.slice none 0 0,.slice none 0 0,.slice none 0 0,.slice none 0 0,.slice none 0 0] 51)).alloc (.cells #[.string ⟨#[]⟩,.string ⟨#[]⟩,.int .i64 0,.slice none 0 0,.slice none 0 0,.slice none 0 0,.slice none 0 0,.slice none 0 0] 51) = w1 at hal hz he hP hM1 ⊢
  obtain ⟨gz,hgz⟩ : ∃ z : Nat,Hid (z = w.heap.size):=⟨_,Lib.hid rfl⟩
  rw [← hgz.out] at hz he ⊢
  go_loopw [4] (fun s4 wr=>s4 = .bool false∧wr = w1) (fun _ _=>0)
  case atStart=>exact ⟨rfl,rfl⟩
  case round =>
    obtain ⟨rfl,hwr⟩:=hrel
    replace hwr:=hwr.symm
    subst hwr
    obtain ⟨p,hp,hd,hO⟩:=hP.out
    have c4:=hO.cell 4
    simp only [List.getElem?_toArray,List.getElem?_cons_succ,List.getElem?_cons_zero] at c4
    have hgl1:=hO.lt
    replace hO:=Lib.hid hO
    replace hd:=Lib.hid hd
    go_wp2_with fail
    refine (peek_any hK g 0 _ (.ok [t]) hM1.out hP.out).mono ?_
    rintro e w2 ⟨rfl,hb⟩
    rw [show headS (.ok [t]) = t from rfl,row_arr,ht]
    have hfd:=field_tok0 6 t.n t.line ⟨t.t.toArray⟩
    have hz2:=Lib.hid (hz.out.below hb hz.out.lt)
    have he2:=Lib.hid (he.out.below hb he.out.lt)
    have hB2:=Lib.hid (hal.out.trans (hb.mono hal.out.size))
    clear hb hz he c4 hO
    obtain ⟨⟨q0,q1,q2,q3,q4,q5,q6,q7⟩,-⟩:=own8z he2.out
    have hel:=he2.out.lt
    go_wp2_with fail
    refine (sort_Declared _ _).mono ?_
    rintro e wx ⟨rfl,hw⟩
    replace hw:=hw.symm
    subst hw
    go_wp2_with fail
    refine (sort_Segment _ _).mono ?_
    rintro e wx ⟨rfl,hw⟩
    replace hw:=hw.symm
    subst hw
    go_wp2_with fail
    refine (sort_Flag _ _).mono ?_
    rintro e wx ⟨rfl,hw⟩
    replace hw:=hw.symm
    subst hw
    go_wp2_with fail
    refine (sort_Layer _ _).mono ?_
    rintro e wx ⟨rfl,hw⟩
    replace hw:=hw.symm
    subst hw
    go_wp2_with fail
    refine (sort_Experiment _ _).mono ?_
    rintro e wx ⟨rfl,hw⟩
    replace hw:=hw.symm
    subst hw
    obtain ⟨⟨z0,z1,z2,z3,z4,z5,z6,z7⟩,⟨f0,f1,f2,f3,f4,f5,f6,f7⟩⟩:=own8z hz2.out
    have hzl:=hz2.out.lt
    have hF:=Lib.hid (hB2.out.grown (grown8 w2 gz (.string ⟨#[]⟩) (.string ⟨#[]⟩) (.int .i64 0) (.slice none 0 0) (.slice none 0 0) (.slice none 0 0) (.slice none 0 0) (.slice none 0 0)) hB2.out.size (fun k e=>by cases e; exact Nat.le_of_eq hgz.out.symm))
    go_wp2
    refine bodyPost_ret (v:=.agg #[.string ⟨#[]⟩,.string ⟨#[]⟩,.int .i64 0,.slice none 0 0,.slice none 0 0,.slice none 0 0,.slice none 0 0,.slice none 0 0]) (by simp [results,Tryz.results35,go_sem, *]) rfl ?_
    exact ⟨rfl,hF.out⟩
end
theorem first_zero (w : World) (b c : Nat) (hL : ∀ i,i < 4→w.cell? ⟨b,i,none⟩ = some (.int .i64 0)) : Calls Tryz.prog 85 #[.slice (some ⟨b,0,none⟩) 4 c] w fun e w'=>e = .returned (.int .i64 0)∧w' = w:=by
  have hO : Calls Tryz.prog 159 #[.slice (some ⟨b,0,none⟩) 4 c] w fun e w'=>e = .returned (.int .i64 0)∧w' = w:=by
    replace hL:=Lib.hid hL
    go_enter Tryz.func159,Tryz.ntmps159
    go_wp2
    go_loopw [8] (fun s wr=>∃ k : Nat,k≤4∧s = .int .i64 k∧wr = w) (fun s _=>4 - (intOf s).toNat)
    case atStart=>exact ⟨0,by omega,rfl,rfl⟩
    case round =>
      obtain ⟨k,hk,rfl,hwr⟩:=hrel
      replace hwr:=hwr.symm
      subst hwr
      by_cases hlt : k < 4
      · have n0 : (0 : Int)≤(k : Int):=by omega
        have n1 : (k : Int) < 4:=by omega
        have c0:=hL.out k hlt
        go_wp2
        go_roundw
        case rel=>first | exact ⟨k + 1,by omega,rfl⟩ | exact ⟨k + 1,by omega,rfl,rfl⟩ | exact ⟨k + 1,by omega,rfl,trivial⟩ | exact ⟨k + 1,by omega⟩
        case measure=>simp [intOf]; omega
      · have n1 : ¬ (k : Int) < 4:=by omega
        go_wp2
        go_ret
        first | exact ⟨rfl,rfl⟩ | exact ⟨rfl,trivial⟩
  go_enter Tryz.func85,Tryz.ntmps85
  go_wp2_with fail
  refine hO.mono ?_
  rintro e w' ⟨rfl,hw⟩
  replace hw:=hw.symm
  subst hw
  go_wp2
  go_ret
  first | exact ⟨rfl,rfl⟩ | exact ⟨rfl,trivial⟩
end Go.Proofs.YtfffpflflggonaaGreatDoor.src
namespace Go.Proofs.YtfffpflflggonaaGreatDoor.src
open Go.RowKit lex value text schema draw clause
def Beyond (w u : World) : Prop:=Below w.heap.size w u
theorem Beyond.refl (w : World) : Beyond w w:=Below.refl _ _
theorem Beyond.drew (w : World) : Beyond w w.drew:=(Below.refl w.heap.size w).grown (grown_drew w none) (Nat.le_refl _) (fun k e=>by cases e)
theorem Beyond.next {w u v : World} (k : Beyond u v) (h : Beyond w u) : Beyond w v:=h.trans (k.mono h.size)
theorem Beyond.alloc {w u : World} (h : Beyond w u) (o : Obj) : Beyond w (u.alloc o):=Below.alloc h h.size o
theorem first_lit (u : World) : Calls Tryz.prog 85 #[.slice (some ⟨u.heap.size,0,none⟩) 4 4] (u.alloc (.cells #[.int .i64 0,.int .i64 0,.int .i64 0,.int .i64 0] 32)) fun e w'=>e = .returned (.int .i64 0)∧Beyond u w':=by
  refine (first_zero _ u.heap.size 4 (fun i hi=>?_)).mono fun e w' h=>⟨h.1,by rw [h.2]; exact Beyond.alloc (Beyond.refl u) _⟩
  rw [(Own.new u #[.int .i64 0,.int .i64 0,.int .i64 0,.int .i64 0] 32).cell i]
  match i,hi with
  | 0,_=>rfl
  | 1,_=>rfl
  | 2,_=>rfl
  | 3,_=>rfl
theorem valid_zero : validS (⟨#[]⟩ : ByteArray).data.toList = true:=by kernel_rfl
theorem key_zero : keyS (⟨#[]⟩ : ByteArray).data.toList = false:=by kernel_rfl
set_option maxRecDepth 100000 in
set_option maxHeartbeats 8000000 in
theorem env_shape (w : World) (hT : Tabs w) (hsp : SpaceTab w) :
    Calls Tryz.prog 36 #[.agg #[.string ⟨#[]⟩,.string ⟨#[]⟩,.int .i64 0,.slice none 0 0,.slice none 0 0,.slice none 0 0,.slice none 0 0,.slice none 0 0]] w fun e w'=>e = .returned (.int .i64 0)∧Below w.heap.size w w':=by
  have hal:=Lib.hid (show Below w.heap.size w ((w.alloc (.cells #[.string ⟨#[]⟩,.string ⟨#[]⟩,.int .i64 0,.slice none 0 0,.slice none 0 0,.slice none 0 0,.slice none 0 0,.slice none 0 0] 51)).alloc (.cells #[.string ⟨#[]⟩,.string ⟨#[]⟩,.int .i64 0] 44)) from ((Below.refl _ _).alloc (Nat.le_refl _) _).alloc (by simp) _)
  have he:=Lib.hid ((Own.new w #[.string ⟨#[]⟩,.string ⟨#[]⟩,.int .i64 0,.slice none 0 0,.slice none 0 0,.slice none 0 0,.slice none 0 0,.slice none 0 0] 51).alloc (.cells #[.string ⟨#[]⟩,.string ⟨#[]⟩,.int .i64 0] 44))
  have hs:=Lib.hid (show Own ((w.alloc (.cells #[.string ⟨#[]⟩,.string ⟨#[]⟩,.int .i64 0,.slice none 0 0,.slice none 0 0,.slice none 0 0,.slice none 0 0,.slice none 0 0] 51)).alloc (.cells #[.string ⟨#[]⟩,.string ⟨#[]⟩,.int .i64 0] 44)) (w.heap.size + 1) #[.string ⟨#[]⟩,.string ⟨#[]⟩,.int .i64 0] 44 from Own.new' (by simp))
  have hT1:=Lib.hid (hT.below hal.out)
  have hsp1:=Lib.hid (show SpaceTab _ from var_below hal.out hsp)
  go_enter Tryz.func36,Tryz.ntmps36
  go_upto_region 2 with fail
  generalize (w.alloc (.cells #[.string ⟨#[]⟩,.string ⟨#[]⟩,.int .i64 0,.slice none 0 0,.slice none 0 0,.slice none 0 0,.slice none 0 0,.slice none 0 0] 51)).alloc (.cells #[.string ⟨#[]⟩,.string ⟨#[]⟩,.int .i64 0] 44) = w1 at hal he hs hT1 hsp1 ⊢
  obtain ⟨eb,heb⟩ : ∃ z : Nat,Hid (z = w.heap.size):=⟨_,Lib.hid rfl⟩
  rw [← heb.out] at he hs ⊢
  obtain ⟨⟨q0,q1,q2,q3,q4,q5,q6,q7⟩,-⟩:=own8z he.out
  have s0:=hs.out.cell 0
  have s1:=hs.out.cell 1
  have s2:=hs.out.cell 2
  have hel:=he.out.lt
  have hsl:=hs.out.lt
  simp only [List.getElem?_toArray,List.getElem?_cons_succ,List.getElem?_cons_zero] at s0 s1 s2
  have cV:=Lib.hid (fun (u : World) (hb : Beyond w1 u)=>(show Calls Tryz.prog 87 #[.string ⟨#[]⟩] u fun e u'=>e = .returned (.bool true)∧Beyond u u' from (valid_any ⟨#[]⟩ u (hT1.out.below hb).runes).mono fun e u' h=>⟨by rw [h.1,valid_zero],h.2⟩))
  have cK:=Lib.hid (fun (u : World) (hb : Beyond w1 u)=>(show Calls Tryz.prog 88 #[.string ⟨#[]⟩] u fun e u'=>e = .returned (.bool false)∧Beyond u u' from (key_any ⟨#[]⟩ u (show SpaceTab u from var_below hb hsp1.out)).mono fun e u' h=>⟨by rw [h.1,key_zero],h.2⟩))
  have cW:=fun (n : Int)=>Lib.hid (fun (u : World) (_ : Beyond w1 u)=>(show Calls Tryz.prog 86 #[.bool false,.int .i64 n] u fun e u'=>e = .returned (.int .i64 0)∧Beyond u u' from (when_any false n u).mono fun e u' h=>⟨h.1,by rw [h.2]; exact Beyond.refl _⟩))
  have cA:=Lib.hid (fun (u : World) (_ : Beyond w1 u)=>(show Calls Tryz.prog 89 #[.slice none 0 0] u fun e u'=>e = .returned (.int .i64 0)∧Beyond u u' from (attributes_zero u).mono fun e u' h=>⟨h.1,by rw [h.2]; exact Beyond.refl _⟩))
  have hKp : Hid (∀ u,Beyond w1 u→u.cell? ⟨eb + 1,0,none⟩ = some (.string ⟨#[]⟩)∧u.cell? ⟨eb + 1,1,none⟩ = some (.string ⟨#[]⟩)∧u.cell? ⟨eb + 1,2,none⟩ = some (.int .i64 0)∧u.cell? ⟨eb,3,none⟩ = some (.slice none 0 0)) :=
    Lib.hid fun u hb=>⟨cell_later hb s0,cell_later hb s1,cell_later hb s2,cell_later hb q3⟩
  have hy0:=Beyond.drew w1
  have w2':=cW 2
  have w3':=cW 3
  have w6':=cW 6
  clear cW
  go_cut [4] (fun s4 wy=>s4 = .int .i64 0∧Hid (Beyond w1 wy))
  case first =>
    go_region_held3 (fun u=>u.cell? ⟨eb + 1,0,none⟩ = some (.string ⟨#[]⟩)∧u.cell? ⟨eb + 1,1,none⟩ = some (.string ⟨#[]⟩)∧u.cell? ⟨eb + 1,2,none⟩ = some (.int .i64 0)∧u.cell? ⟨eb,3,none⟩ = some (.slice none 0 0))
      (exact hKp.out _ (by first | assumption | exact Beyond.alloc (by assumption) _))
      ((first
        | (go_at_call 87; refine (cV.out _ (by assumption)).mono ?_; rintro e u1 ⟨rfl,hy⟩; have hz:=Beyond.next hy (by assumption))
        | (go_at_call 88; refine (cK.out _ (by assumption)).mono ?_; rintro e u1 ⟨rfl,hy⟩; have hz:=Beyond.next hy (by assumption))
        | (go_at_call 86; (first | (with_reducible refine (w2'.out _ (by assumption)).mono ?_) | (with_reducible refine (w3'.out _ (by assumption)).mono ?_) | (with_reducible refine (w6'.out _ (by assumption)).mono ?_)); rintro e u1 ⟨rfl,hy⟩; have hz:=Beyond.next hy (by assumption))
        | (go_at_call 89; refine (cA.out _ (by assumption)).mono ?_; rintro e u1 ⟨rfl,hy⟩; have hz:=Beyond.next hy (by assumption))
        | (go_at_call 85; refine (first_lit _).mono ?_; rintro e u2 ⟨rfl,hy⟩; have hz:=Beyond.next hy (by assumption))))
    all_goals
      go_wp2
      go_meet
      exact ⟨rfl,Lib.hid (by assumption)⟩
  case rest =>
  obtain ⟨rfl,hB⟩:=hcut
  have r0:=cell_later hB.out q4
  have r1:=cell_later hB.out q5
  have r2:=cell_later hB.out q6
  have r3:=cell_later hB.out q7
  have hBw:=Lib.hid (hal.out.trans (hB.out.mono hal.out.size))
  clear cV cK cA w2' w3' w6' hKp hy0 q0 q1 q2 q3 q4 q5 q6 q7 s0 s1 s2 hal he hs hT1 hsp1 hB
  go_wp2_with fail
  refine (list_Segment _ _ 20 (by decide) _).mono ?_
  rintro e wx ⟨rfl,hw⟩
  replace hw:=hw.symm
  subst hw
  go_wp2_with fail
  refine (list_Flag _ _ 30 (by decide) _).mono ?_
  rintro e wx ⟨rfl,hw⟩
  replace hw:=hw.symm
  subst hw
  go_wp2_with fail
  refine (list_Layer _ _ 6 (by decide) _).mono ?_
  rintro e wx ⟨rfl,hw⟩
  replace hw:=hw.symm
  subst hw
  go_wp2_with fail
  refine (list_Experiment _ _ 16 (by decide) _).mono ?_
  rintro e wx ⟨rfl,hw⟩
  replace hw:=hw.symm
  subst hw
  go_wp2
  go_ret
  exact ⟨rfl,hBw.out⟩
end Go.Proofs.YtfffpflflggonaaGreatDoor.src
