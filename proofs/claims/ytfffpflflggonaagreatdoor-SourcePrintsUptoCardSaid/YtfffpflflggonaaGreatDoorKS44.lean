/- What the drawing package's three tables hold, read off their given values. The table of the tests' words out of its given value; names of bounded conditions. -/
import Derived.Test.YtfffpflflggonaaGreatDoorKS43
import Derived.Test.YtfffpflflggonaaGreatDoorRows
import Derived.Test.YtfffpflflggonaaGreatDoorKS27
import Derived.Test.YtfffpflflggonaaGreatDoorKS31
import Derived.Lib.LaidTab
import Derived.Test.YtfffpflflggonaaGreatDoorKS34
import Derived.Test.YtfffpflflggonaaGreatDoorKRfU
namespace Go.Proofs.YtfffpflflggonaaGreatDoor.draw
open Go.ChangeShapes Go.WideShapes Go.ChangeAt Go.RowKit Go.WideMaps Go.WideElems Go.Deep Go.Lib text value
theorem lit_inj : ∀ (L : List (List UInt8)) (ss : List ByteArray),L.map (fun l=>(DataW.lit (.string l) : DataW Unit)) = ss.map (fun s=>.lit (.string s.data.toList))→ss = L.map (fun l=>⟨l.toArray⟩)
  | [],[],_=>rfl
  | [],_ :: _,h=>by cases h
  | _ :: _,[],h=>by cases h
  | l :: L,s :: ss,h=>by
    rw [List.map_cons,List.map_cons] at h
    injection h with h1 h2
    injection h1 with h1
    injection h1 with h1
    rw [List.map_cons,← lit_inj L ss h2,h1]
def textsL : List (List UInt8):=[[115,101],[100,101],[117,115],[112,114,111],[102,114,101,101],[],[97,34,98],[99,92],[195,169],[112,114,111,115,101],[120,32,121]]
def versionsL : List (List UInt8):=[[49,46,48,46,48],[49,46,50,46,51],[49,46,49,48,46,48],[50,46,48,46,49],[48,46,48,46,48],[57,57,57,57,57,57,46,48,46,57,57,57,57,57,57]]
def versionsN : List (Int × Int × Int):=[(1,0,0),(1,2,3),(1,10,0),(2,0,1),(0,0,0),(999999,0,999999)]
def listsL : List (List (List UInt8)):=[[],[[112,114,111]],[[100,101],[115,101]],[[],[102,114,101,101],[117,115]],[[120,32,121]]]
set_option maxRecDepth 100000 in
theorem strs_at {w : World} {nm : String} {g t n : Nat} {d : DataW Unit} {L : List (List UInt8)} (hn : VarReads Tryz.prog w nm d) (hg : Tryz.prog.globalNamed nm = some g) (ht : (Tryz.prog.globals[g]?).map (·.type) = some t)
    (hu : Tryz.prog.underlying t = some (.array n 9)) (hd0 : d = .agg (L.map fun l=>.lit (.string l))) (j : Nat) (hj : j < L.length) : w.cell? ⟨g,j,none⟩ = some (.string ⟨L[j].toArray⟩):=by
  obtain ⟨g',t',cs,fuel,p,hg',ht',hvar,hd⟩:=hn
  obtain rfl:=Option.some.inj (hg.symm.trans hg')
  obtain rfl:=Option.some.inj (ht.symm.trans ht')
  obtain ⟨ss,hl,hd2,hc⟩:=tab_strs hg' hvar hu Tryz.underlying9 (by kernel_rfl) hd
  rw [hd0] at hd2
  injection hd2 with hd2
  have hss:=lit_inj L ss hd2
  refine hc j _ ?_
  rw [hss,List.getElem?_map,List.getElem?_eq_getElem hj]
  rfl
theorem lists_data : (Rows.laid_flagstone_flagstonedraw_lists : DataW Unit) = .agg (listsL.map fun L=>.slice (L.map fun l=>.lit (.string l)) []):=rfl
set_option maxRecDepth 100000 in
theorem lists_of_reads {w : World} (h : VarReads Tryz.prog w "flagstone/flagstonedraw.lists" (Rows.laid_flagstone_flagstonedraw_lists : DataW Unit)) (j : Nat) (hj : j < 5) :
    ∃ (ad : Addr) (c : Nat) (l : List ByteArray),w.cell? ⟨2,j,none⟩ = some (.slice (some ad) l.length c)∧l.length≤20∧∀ (i : Nat) (s : ByteArray),l[i]? = some s→w.cell? (ad.add i) = some (.string s):=by
  obtain ⟨g',t',cs,fuel,p,hg',ht',hvar,hd⟩:=h
  obtain rfl:=Option.some.inj ((show Tryz.prog.globalNamed "flagstone/flagstonedraw.lists" = some 2 by kernel_rfl).symm.trans hg')
  obtain rfl:=Option.some.inj ((show (Tryz.prog.globals[2]?).map (·.type) = some 176 by kernel_rfl).symm.trans ht')
  obtain ⟨xs,hx,h3⟩:=tab_lists hg' hvar Tryz.underlying176 Tryz.underlying38 Tryz.underlying9 (by kernel_rfl) (by kernel_rfl) hd j hj
  rw [lists_data] at hx
  injection hx with hx
  have hjl : j < listsL.length:=hj
  have hxj : xs[j]? = some (.slice (listsL[j].map fun l=>.lit (.string l)) []):=by
    rw [← hx,List.getElem?_map,List.getElem?_eq_getElem hjl]; rfl
  rcases h3 with ⟨_,h4⟩ | ⟨a,cap,l,sp,h4,h5,h6,h7,h8⟩
  · rw [hxj] at h4; cases h4
  · rw [hxj] at h7
    injection h7 with h7
    injection h7 with h7 _
    have hl:=lit_inj listsL[j] l h7
    have hok : ∀ L∈listsL,L.length≤20:=by decide
    have : l.length = listsL[j].length:=by rw [hl]; simp
    exact ⟨a,cap,l,h4,by rw [this]; exact hok _ (List.getElem_mem hjl),h8⟩
structure CmpTabs (m : Mem) : Prop where
  texts : ∀ j,j < 11→∃ s : ByteArray,m ⟨3,j,none⟩ = some (.string s)∧validS s.data.toList = true∧s.size≤200
  versions : ∀ j,j < 6→∃ (s : ByteArray) (x y z : Int),m ⟨1,j,none⟩ = some (.string s)∧s.data.toList = ver3 x y z∧(0≤x∧x≤999999)∧(0≤y∧y≤999999)∧(0≤z∧z≤999999)∧s.size≤200
theorem CmpTabs.mono {m m' : Mem} (hs : Sub m m') (h : CmpTabs m) : CmpTabs m' :=
  ⟨fun j hj=>let ⟨s,h1,h2⟩:=h.texts j hj; ⟨s,hs _ _ h1,h2⟩,fun j hj=>let ⟨s,x,y,z,h1,h2⟩:=h.versions j hj; ⟨s,x,y,z,hs _ _ h1,h2⟩⟩
theorem texts_ok : ∀ l∈textsL,validS l = true∧l.length≤200:=by
  have hb : (textsL.all fun l=>validS l && decide (l.length≤200)) = true:=by kernel_rfl
  intro l hl
  have:=List.all_eq_true.1 hb l hl
  rw [Bool.and_eq_true,decide_eq_true_eq] at this
  exact this
theorem versions_eq : versionsL = versionsN.map fun v=>ver3 v.1 v.2.1 v.2.2:=by kernel_rfl
theorem cmp_of_reads {w : World} (h1 : VarReads Tryz.prog w "flagstone/flagstonedraw.texts" (Rows.laid_flagstone_flagstonedraw_texts : DataW Unit)) (h2 : VarReads Tryz.prog w "flagstone/flagstonedraw.versions" (Rows.laid_flagstone_flagstonedraw_versions : DataW Unit)) : CmpTabs w.cell?:=by
  have k1:=strs_at (g:=3) (t:=238) (n:=11) (L:=textsL) h1 (by kernel_rfl) (by kernel_rfl) Tryz.underlying238 rfl
  have k2:=strs_at (g:=1) (t:=175) (n:=6) (L:=versionsL) h2 (by kernel_rfl) (by kernel_rfl) Tryz.underlying175 rfl
  have hN : ∀ v∈versionsN,(0≤v.1∧v.1≤999999)∧(0≤v.2.1∧v.2.1≤999999)∧(0≤v.2.2∧v.2.2≤999999):=by decide
  have hZ : ∀ l∈versionsL,l.length≤200:=by decide
  refine ⟨fun j hj=>?_,fun j hj=>?_⟩
  · have hl : j < textsL.length:=hj
    have:=texts_ok _ (List.getElem_mem hl)
    exact ⟨_,k1 j hl,this.1,by show (textsL[j].toArray).size≤200; simpa using this.2⟩
  · have hl : j < versionsL.length:=hj
    have hn : j < versionsN.length:=hj
    have e : versionsL[j] = ver3 versionsN[j].1 versionsN[j].2.1 versionsN[j].2.2:=by
      have : versionsL[j]? = (versionsN.map fun v=>ver3 v.1 v.2.1 v.2.2)[j]?:=by rw [versions_eq]
      rw [List.getElem?_eq_getElem hl,List.getElem?_map,List.getElem?_eq_getElem hn] at this
      exact Option.some.inj this
    have h3:=hN _ (List.getElem_mem hn)
    exact ⟨_,versionsN[j].1,versionsN[j].2.1,versionsN[j].2.2,k2 j hl,(show versionsL[j].toArray.toList = _ by rw [← e]),h3.1,h3.2.1,h3.2.2,by have hz:=hZ _ (List.getElem_mem hl); show (versionsL[j].toArray).size≤200; rw [List.size_toArray]; exact hz⟩
theorem glob_of_reads {w : World} (h1 : VarReads Tryz.prog w "flagstone/flagstonedraw.texts" (Rows.laid_flagstone_flagstonedraw_texts : DataW Unit)) (h2 : VarReads Tryz.prog w "flagstone/flagstonedraw.versions" (Rows.laid_flagstone_flagstonedraw_versions : DataW Unit))
    (h3 : VarReads Tryz.prog w "flagstone/flagstonedraw.lists" (Rows.laid_flagstone_flagstonedraw_lists : DataW Unit)) : Glob w.cell? :=
  have hc:=cmp_of_reads h1 h2
  ⟨fun j hj=>let ⟨s,_,_,_,k1,_,_,_,_,k2⟩:=hc.versions j hj; ⟨s,k1,k2⟩,fun j hj=>let ⟨s,k1,_,k2⟩:=hc.texts j hj; ⟨s,k1,k2⟩,fun j hj=>lists_of_reads h3 j hj⟩
end Go.Proofs.YtfffpflflggonaaGreatDoor.draw
namespace Go.Proofs.YtfffpflflggonaaGreatDoor.src
open Go.ChangeShapes Go.WideShapes Go.ChangeAt Go.RowKit Go.Lib lex value text schema draw clause
theorem tests_data : (Rows.laid_flagstone_source_tests : DataW Unit) = .agg (tests10.map fun l=>.lit (.string l)):=by kernel_rfl
theorem tests_of_reads {w : World} (h : VarReads Tryz.prog w "flagstone/source.tests" (Rows.laid_flagstone_source_tests : DataW Unit)) : TestsAt w.cell?:=by
  have k:=draw.strs_at (g:=0) (t:=105) (n:=10) (L:=tests10) h (by kernel_rfl) (by kernel_rfl) Tryz.underlying105 tests_data
  intro j hj
  have hl : j < tests10.length:=hj
  exact ⟨_,k j hl,by rw [List.getD_eq_getElem?_getD,List.getElem?_eq_getElem hl]; rfl⟩
theorem TestsAt.mono {m m' : Mem} (h : TestsAt m) (hs : Sub m m') : TestsAt m':=fun j hj=>let ⟨s,h1,h2⟩:=h j hj; ⟨s,hs _ _ h1,h2⟩
mutual
theorem nm_few {N : Nat} : ∀ d : ED,fewE N d→NmD d
  | .mk _ kd nm _ ks,h=>by
    rw [NmD]
    have h1:=h.2.1.2.1
    have h2:=h.2.1.2.2
    exact ⟨by unfold maxLen; omega,by unfold maxLen; omega,nm_fewL ks h.2.2⟩
theorem nm_fewL {N : Nat} : ∀ l : List ED,fewL N l→NmDL l
  | [],_=>by rw [NmDL]; trivial
  | k :: r,h=>by rw [NmDL]; exact ⟨nm_few k h.1,nm_fewL r h.2⟩
end
end Go.Proofs.YtfffpflflggonaaGreatDoor.src
