/- How two values compare: the reference's Compare. Whether a test holds: the program's Test. Walks of the drawing functions that give one text, number or value. Walks of the drawing functions that give one value of a kind. Walks of the drawing functions Declared and Test: a test that fits the declared attributes. Memory that only grows: what a changed condition leads to while own boxes and rows are written beside it. Whether a condition holds: the program's Eval. -/
import Derived.Test.YtfffpflflggonaaGreatDoorKS15
import Derived.Test.YtfffpflflggonaaGreatDoorKS14
import Derived.Laws.AppendOwn
import Derived.Deep.RegionLaw
import Derived.Deep.RegionLawGrows
import Derived.Deep.RegionHeld3
import Derived.Deep.AppendLies
import Derived.Deep.DrawnRows
import Derived.Test.YtfffpflflggonaaGreatDoorKS16
namespace Go.Proofs.YtfffpflflggonaaGreatDoor.value
open Go.RowKit text
end Go.Proofs.YtfffpflflggonaaGreatDoor.value
namespace Go.Proofs.YtfffpflflggonaaGreatDoor.clause
open Go.RowKit schema value text draw
theorem lin_of_rows {w : World} {a : Option Addr} {n c : Nat} {ls : List ByteArray} (h : RowsAt w.cell? 1 (.slice a n c) (ls.map strRow)) : LIn w a ls:=by
  obtain ⟨a0,c0,h1,h2,h3,h4⟩:=h
  injection h1 with e1 e2 e3
  subst e1
  rcases h4 with h4 | ⟨blk,off,rfl,hc⟩
  · exact Or.inl (by simpa using h4)
  · refine Or.inr ⟨blk,off,rfl,fun k hk=>?_⟩
    have:=hc k (strRow ls[k]) (by simp [hk]) 0 (.string ls[k]) rfl
    rw [Nat.mul_one,Nat.add_zero] at this
    exact this
theorem vd_len {m : Mem} {d : VD} (h : LAt m d) : d.len = d.ls.length:=by have:=(len_of h.rows).1; simpa using this
theorem lenI {d : VD} {m : Mem} (h : LAt m d) : d.ls.length≤9223372036854775807:=by have:=h.few; omega
structure VBox (w : World) (B : Nat) (a : VD) : Prop where
  own : Own w B #[.int .i64 a.kind,.int .i64 a.num,.string a.text,.slice a.ptr a.len a.cap] 76
  lat : LAt w.cell? a
theorem VBox.below {w w' : World} {B : Nat} {a : VD} (h : VBox w B a) (hb : Below w.heap.size w w') : VBox w' B a:=⟨h.own.below hb h.own.lt,h.lat.mono (sub_of_below hb)⟩
def AnyR (v : VD) (l : List VD) (k : Nat) : Prop:=(l.drop k).any (eqV v) = l.any (eqV v)
theorem any_hit {v : VD} {l : List VD} {k : Nat} (h : k < l.length) (h1 : eqV v l[k] = true) (T : AnyR v l k) : l.any (eqV v) = true:=by
  unfold AnyR at T
  rw [← T,List.drop_eq_getElem_cons h,List.any_cons,h1]; rfl
theorem ret_to {a b : Bool} (h : a = b) : Ending.returned (.bool b) = .returned (.bool a):=by rw [h]
structure TX (w : World) (E V : Nat) (op : Int) (kind name : ByteArray) (va : Option Addr) (vn vc : Nat) (ks : Value) (d : VD) (vals : List VD) (W : World) : Prop where
  low : Below W.heap.size W w
  box : Own w E #[.int .i64 op,.string kind,.string name,.slice va vn vc,ks] 31
  val : VBox w V d
  rows : RowsAt w.cell? 4 (.slice va vn vc) (vals.map VD.row)
  each : ∀ v∈vals,LAt w.cell? v
  tabs : Tabs w
theorem TX.below {w w' : World} {E V : Nat} {op : Int} {kind name : ByteArray} {va : Option Addr} {vn vc : Nat} {ks : Value} {d : VD} {vals : List VD} {W : World} (h : TX w E V op kind name va vn vc ks d vals W) (hb : Below w.heap.size w w') : TX w' E V op kind name va vn vc ks d vals W :=
  ⟨h.low.trans (hb.mono h.low.size),h.box.below hb h.box.lt,h.val.below hb,h.rows.mono (sub_of_below hb),fun v hv=>(h.each v hv).mono (sub_of_below hb),h.tabs.below hb⟩
end Go.Proofs.YtfffpflflggonaaGreatDoor.clause
namespace Go.Proofs.YtfffpflflggonaaGreatDoor.draw
open Go.RowKit schema
structure Glob (m : Mem) : Prop where
  versions : ∀ j,j < 6→∃ s,m ⟨1,j,none⟩ = some (.string s)∧s.size≤200
  texts : ∀ j,j < 11→∃ s,m ⟨3,j,none⟩ = some (.string s)∧s.size≤200
  lists : ∀ j,j < 5→∃ (ad : Addr) (c : Nat) (l : List ByteArray),m ⟨2,j,none⟩ = some (.slice (some ad) l.length c)∧l.length≤20∧∀ (i : Nat) (s : ByteArray),l[i]? = some s→m (ad.add i) = some (.string s)
theorem Glob.mono {m m' : Mem} (hs : Sub m m') (h : Glob m) : Glob m':=by
  refine ⟨fun j hj=>?_,fun j hj=>?_,fun j hj=>?_⟩
  · obtain ⟨s,h,hz⟩:=h.versions j hj
    exact ⟨s,hs _ _ h,hz⟩
  · obtain ⟨s,h,hz⟩:=h.texts j hj
    exact ⟨s,hs _ _ h,hz⟩
  · obtain ⟨ad,c,l,h1,h2,h3⟩:=h.lists j hj
    exact ⟨ad,c,l,hs _ _ h1,h2,fun i s hi=>hs _ _ (h3 i s hi)⟩
def IsTxt (e : Ending) : Prop:=∃ s : ByteArray,e = .returned (.string s)∧s.size≤200
def IsInt (e : Ending) : Prop:=∃ n : Int,e = .returned (.int .i64 n)
def intB : Value→Bool | .int .i64 _=>true | _=>false
theorem all_int {A : List Value} (h : A.all intB = true) {j : Nat} (hj : j < A.length) : ∃ s,A[j]? = some (.int .i64 s):=by
  have h1 : intB A[j] = true:=List.all_eq_true.1 h _ (List.getElem_mem hj)
  rw [List.getElem?_eq_getElem hj]
  cases hA : A[j] <;> rw [hA] at h1 <;> try cases h1
  rename_i k n
  cases k <;> first | exact ⟨_,rfl⟩ | cases h1
set_option maxHeartbeats 400000 in
theorem text_any (b : Nat) (a : Option Addr) (n c : Nat) (w : World) (h : Codes b a n c w) (hg : Glob (but b w)) :
    Calls Tryz.prog 121 #[.pointer (some ⟨b,0,none⟩)] w (Drawn b a n c w fun e _=>IsTxt e):=by
  have hg0:=Lib.hid hg
  have hC:=Lib.hid h
  clear hg h
  go_enter Tryz.func121,Tryz.ntmps121
  go_wp2_with fail
  refine (next_any b a n c _ 11 (by omega) (by omega) hC.out).mono ?_
  rintro e w' ⟨⟨m,rfl,hm0,hm1⟩,hH,hG⟩
  obtain ⟨j,rfl⟩:=Int.eq_ofNat_of_zero_le hm0
  obtain ⟨s,hs,hz⟩:=(hg0.out.mono (sub_of_grown hG)).texts j (by omega)
  have hs:=but_sub _ _ _ _ hs
  have hH1:=Lib.hid hH
  clear hH
  go_wp2
  go_ret
  exact ⟨⟨_,rfl,hz⟩,hH1.out,hG⟩
set_option maxHeartbeats 400000 in
theorem key_any (b : Nat) (a : Option Addr) (n c : Nat) (w : World) (h : Codes b a n c w) :
    Calls Tryz.prog 56 #[.pointer (some ⟨b,0,none⟩)] w (Drawn b a n c w fun e _=>IsTxt e):=by
  have hC:=Lib.hid h
  clear h
  go_enter Tryz.func56,Tryz.ntmps56
  go_wp2_with fail
  refine (next_any b a n c _ 10 (by omega) (by omega) hC.out).mono ?_
  rintro e w' ⟨⟨m,rfl,hm0,hm1⟩,hH,hG⟩
  have hH1:=Lib.hid hH
  clear hH
  have hz:=encode_size_le (48 + m)
  go_wp2
  go_ret
  exact ⟨⟨_,rfl,by have e1 : (⟨#[107]⟩ : ByteArray).size = 1:=rfl; rw [ByteArray.size_append]; omega⟩,hH1.out,hG⟩
def names : Array Value:=#[.string ⟨#[]⟩,.string ⟨#[66,97,100]⟩,.string ⟨#[57,97]⟩,.string ⟨#[111,110]⟩,.string ⟨#[107,101,121]⟩,.string ⟨#[122,122]⟩,.string ⟨#[97]⟩,
  .string ⟨#[97,108,112,104,97]⟩,.string ⟨#[102,97]⟩,.string ⟨#[102,98]⟩,.string ⟨#[108,97]⟩,.string ⟨#[120,97]⟩,
  .string ⟨#[97,98,99,100,101,102,103,104,105,106,107,108,109,110,111,112,113,114,115,116,117,118,119,120,121,122,48,49,50,51,52,53,54]⟩,
  .string ⟨#[117,115,101,114]⟩,.string ⟨#[97,46,98]⟩]
def shortV : Value→Bool
  | .string s=>decide (s.size≤1048576)
  | _=>false
theorem all_short {A : List Value} (h : A.all shortV = true) {j : Nat} (hj : j < A.length) : ∃ s : ByteArray,A[j]? = some (.string s)∧s.size≤1048576:=by
  have h1:=List.all_eq_true.1 h A[j] (List.getElem_mem hj)
  cases hv : A[j] with
  | string s=>rw [hv] at h1; exact ⟨s,by rw [List.getElem?_eq_getElem hj,hv],of_decide_eq_true h1⟩
  | _=>rw [hv] at h1; exact absurd h1 (by simp [shortV])
set_option maxHeartbeats 400000 in
theorem name_few (b : Nat) (a : Option Addr) (n c : Nat) (w : World) (h : Codes b a n c w) :
    Calls Tryz.prog 30 #[.pointer (some ⟨b,0,none⟩)] w (Drawn b a n c w fun e _=>∃ s : ByteArray,e = .returned (.string s)∧s.size≤1048576):=by
  have hC:=Lib.hid h
  clear h
  go_enter Tryz.func30,Tryz.ntmps30
  go_wp2_with fail
  refine (next_any b a n c _ 15 (by omega) (by omega) (hC.out.alloc (.cells names 9))).mono ?_
  rintro e w' ⟨⟨m,rfl,hm0,hm1⟩,hH,hG⟩
  obtain ⟨j,rfl⟩:=Int.eq_ofNat_of_zero_le hm0
  obtain ⟨s,hs,hz⟩:=all_short (A:=names.toList) (by decide) (j:=j) (show _ < 15 by omega)
  have hs:=(((Own.new w names 9).kept hG (by have:=hC.out.lt; simp; omega)).cell j).trans (show names[j]? = _ by simpa using hs)
  have hH1:=Lib.hid hH
  have hG1:=Lib.hid (g_call (g_alloc (grown_refl w _) _) hG)
  clear hH hG
  go_wp2
  go_ret
  exact ⟨⟨_,rfl,hz⟩,hH1.out,hG1.out⟩
def numbers : Array Value:=#[.int .i64 0,.int .i64 (-1),.int .i64 1,.int .i64 2,.int .i64 8,.int .i64 9,.int .i64 10000,.int .i64 10001,.int .i64 1099511627776,.int .i64 1099511627777,.int .i64 (-1099511627777),.int .i64 1099511627777,.int .i64 4,.int .i64 5,.int .i64 6]
set_option maxHeartbeats 400000 in
theorem number_any (b : Nat) (a : Option Addr) (n c : Nat) (w : World) (h : Codes b a n c w) :
    Calls Tryz.prog 32 #[.pointer (some ⟨b,0,none⟩)] w (Drawn b a n c w fun e _=>IsInt e):=by
  have hC:=Lib.hid h
  clear h
  go_enter Tryz.func32,Tryz.ntmps32
  go_wp2_with fail
  refine (next_any b a n c _ 15 (by omega) (by omega) (hC.out.alloc (.cells numbers 3))).mono ?_
  rintro e w' ⟨⟨m,rfl,hm0,hm1⟩,hH,hG⟩
  obtain ⟨j,rfl⟩:=Int.eq_ofNat_of_zero_le hm0
  obtain ⟨s,hs⟩:=all_int (A:=numbers.toList) (by decide) (j:=j) (show _ < 15 by omega)
  have hs:=(((Own.new w numbers 3).kept hG (by have:=hC.out.lt; simp; omega)).cell j).trans (show numbers[j]? = _ by simpa using hs)
  have hH1:=Lib.hid hH
  have hG1:=Lib.hid (g_call (g_alloc (grown_refl w _) _) hG)
  clear hH hG
  go_wp2
  go_ret
  exact ⟨⟨_,rfl⟩,hH1.out,hG1.out⟩
end Go.Proofs.YtfffpflflggonaaGreatDoor.draw
namespace Go.Proofs.YtfffpflflggonaaGreatDoor.draw
open Go.RowKit schema
def ValIs (B b : Nat) (k : Int) (e : Ending) (w : World) : Prop:=∃ d : VD,e = .returned (.agg d.row.toArray)∧d.kind = k∧LAt (newM B b w) d
def zeroV : Array Value:=#[.int .i64 0,.int .i64 0,.string ⟨#[]⟩,.slice none 0 0]
theorem own4 {w : World} {n : Nat} {x0 x1 x2 x3 : Value} {t : TypeId} (h : Own w n #[x0,x1,x2,x3] t) :
    w.cell? ⟨n,0,none⟩ = some x0∧w.cell? ⟨n,1,none⟩ = some x1∧w.cell? ⟨n,2,none⟩ = some x2∧w.cell? ⟨n,3,none⟩ = some x3 ∧
    w.frozen? ⟨n,0,none⟩ = false∧w.frozen? ⟨n,1,none⟩ = false∧w.frozen? ⟨n,2,none⟩ = false∧w.frozen? ⟨n,3,none⟩ = false :=
  ⟨h.cell 0,h.cell 1,h.cell 2,h.cell 3,h.free 0,h.free 1,h.free 2,h.free 3⟩
set_option maxHeartbeats 400000 in
theorem value_bool (b : Nat) (a : Option Addr) (n c : Nat) (w : World) (h : Codes b a n c w) :
    Calls Tryz.prog 57 #[.pointer (some ⟨b,0,none⟩),.int .i64 1] w (Drawn b a n c w fun e w'=>ValIs w.heap.size b 1 e w'):=by
  have hC:=Lib.hid h
  have hlt:=h.lt
  clear h
  go_enter Tryz.func57,Tryz.ntmps57
  go_wp2_with fail
  refine (next_any b a n c _ 2 (by omega) (by omega) (hC.out.alloc (.cells zeroV 76))).mono ?_
  rintro e w' ⟨⟨m,rfl,hm0,hm1⟩,hH,hG⟩
  obtain ⟨c0,c1,c2,c3,f0,f1,f2,f3⟩:=own4 ((Own.new w zeroV 76).kept hG (by simp; omega))
  have hH1:=Lib.hid hH
  have hG1:=Lib.hid (g_call (g_alloc (grown_refl w _) _) hG)
  clear hH hG
  go_wp2
  refine bodyPost_ret (v:=.agg #[.int .i64 1,.int .i64 m,.string ⟨#[]⟩,.slice none 0 0]) (by simp [results,Tryz.results57,go_sem,c0,c1,c2,c3]) rfl ?_
  refine ⟨⟨⟨1,m,⟨#[]⟩,none,0,0,[]⟩,rfl,rfl,LAt.flat _ _ _ _ (by decide)⟩,?_,?_⟩
  · exact (((hH1.out.set (by simp; omega) _).set (by simp; omega) _).set (by simp; omega) _).set (by simp; omega) _
  · exact g_setCell (g_setCell (g_setCell (g_setCell hG1.out (by simp) _) (by simp) _) (by simp) _) (by simp) _
def numbers9 : Array Value:=#[.int .i64 0,.int .i64 1,.int .i64 17,.int .i64 18,.int .i64 19,.int .i64 (-5),.int .i64 64,.int .i64 1099511627776,.int .i64 (-1099511627776)]
set_option maxHeartbeats 400000 in
theorem value_number (b : Nat) (a : Option Addr) (n c : Nat) (w : World) (h : Codes b a n c w) :
    Calls Tryz.prog 57 #[.pointer (some ⟨b,0,none⟩),.int .i64 2] w (Drawn b a n c w fun e w'=>ValIs w.heap.size b 2 e w'):=by
  have hC:=Lib.hid h
  have hlt:=h.lt
  clear h
  go_enter Tryz.func57,Tryz.ntmps57
  go_wp2_with fail
  refine (next_any b a n c _ 9 (by omega) (by omega) ((hC.out.alloc (.cells zeroV 76)).alloc (.cells numbers9 3))).mono ?_
  rintro e w' ⟨⟨m,rfl,hm0,hm1⟩,hH,hG⟩
  obtain ⟨j,rfl⟩:=Int.eq_ofNat_of_zero_le hm0
  obtain ⟨s,hs⟩:=all_int (A:=numbers9.toList) (by decide) (j:=j) (show _ < 9 by omega)
  have hs:=(((Own.new (w.alloc (.cells zeroV 76)) numbers9 3).kept hG (by simp; omega)).cell j).trans (show numbers9[j]? = _ by simpa using hs)
  simp only [World.size_alloc] at hs
  obtain ⟨c0,c1,c2,c3,f0,f1,f2,f3⟩:=own4 (((Own.new w zeroV 76).alloc _).kept hG (by simp; omega))
  have hH1:=Lib.hid hH
  have hG1:=Lib.hid (g_call (g_alloc (g_alloc (grown_refl w _) _) _) hG)
  clear hH hG
  go_wp2
  refine bodyPost_ret (v:=.agg #[.int .i64 2,.int .i64 s,.string ⟨#[]⟩,.slice none 0 0]) (by simp [results,Tryz.results57,go_sem,c0,c1,c2,c3]) rfl ?_
  refine ⟨⟨⟨2,s,⟨#[]⟩,none,0,0,[]⟩,rfl,rfl,LAt.flat _ _ _ _ (by decide)⟩,?_,?_⟩
  · exact (((hH1.out.set (by simp; omega) _).set (by simp; omega) _).set (by simp; omega) _).set (by simp; omega) _
  · exact g_setCell (g_setCell (g_setCell (g_setCell hG1.out (by simp) _) (by simp) _) (by simp) _) (by simp) _
set_option maxHeartbeats 400000 in
theorem value_text (b : Nat) (a : Option Addr) (n c : Nat) (w : World) (h : Codes b a n c w) (hg : Glob (but b w)) :
    Calls Tryz.prog 57 #[.pointer (some ⟨b,0,none⟩),.int .i64 3] w (Drawn b a n c w fun e w'=>ValIs w.heap.size b 3 e w'):=by
  have hC:=Lib.hid h
  have hg0:=Lib.hid (hg.mono (sub_of_grown (World.grownBy_alloc w (.cells zeroV 76) (some b))))
  have hlt:=h.lt
  clear h hg
  go_enter Tryz.func57,Tryz.ntmps57
  go_wp2_with fail
  refine (text_any b a n c _ (hC.out.alloc (.cells zeroV 76)) hg0.out).mono ?_
  rintro e w' ⟨⟨s,rfl,hz⟩,hH,hG⟩
  have hz1:=Lib.hid hz
  clear hz
  obtain ⟨c0,c1,c2,c3,f0,f1,f2,f3⟩:=own4 ((Own.new w zeroV 76).kept hG (by simp; omega))
  have hH1:=Lib.hid hH
  have hG1:=Lib.hid (g_call (g_alloc (grown_refl w _) _) hG)
  clear hH hG
  go_wp2
  refine bodyPost_ret (v:=.agg #[.int .i64 3,.int .i64 0,.string s,.slice none 0 0]) (by simp [results,Tryz.results57,go_sem,c0,c1,c2,c3]) rfl ?_
  refine ⟨⟨⟨3,0,s,none,0,0,[]⟩,rfl,rfl,LAt.flat _ _ _ _ (by have:=hz1.out; omega)⟩,?_,?_⟩
  · exact (((hH1.out.set (by simp; omega) _).set (by simp; omega) _).set (by simp; omega) _).set (by simp; omega) _
  · exact g_setCell (g_setCell (g_setCell (g_setCell hG1.out (by simp) _) (by simp) _) (by simp) _) (by simp) _
set_option maxHeartbeats 400000 in
theorem value_version (b : Nat) (a : Option Addr) (n c : Nat) (w : World) (h : Codes b a n c w) (hg : Glob (but b w)) :
    Calls Tryz.prog 57 #[.pointer (some ⟨b,0,none⟩),.int .i64 4] w (Drawn b a n c w fun e w'=>ValIs w.heap.size b 4 e w'):=by
  have hC:=Lib.hid h
  have hg0:=Lib.hid (hg.mono (sub_of_grown (World.grownBy_alloc w (.cells zeroV 76) (some b))))
  have hlt:=h.lt
  clear h hg
  go_enter Tryz.func57,Tryz.ntmps57
  go_wp2_with fail
  refine (next_any b a n c _ 6 (by omega) (by omega) (hC.out.alloc (.cells zeroV 76))).mono ?_
  rintro e w' ⟨⟨m,rfl,hm0,hm1⟩,hH,hG⟩
  obtain ⟨j,rfl⟩:=Int.eq_ofNat_of_zero_le hm0
  obtain ⟨s,hs,hz⟩:=(hg0.out.mono (sub_of_grown hG)).versions j (by omega)
  have hz1:=Lib.hid hz
  clear hz
  have hs:=but_sub _ _ _ _ hs
  obtain ⟨c0,c1,c2,c3,f0,f1,f2,f3⟩:=own4 ((Own.new w zeroV 76).kept hG (by simp; omega))
  have hH1:=Lib.hid hH
  have hG1:=Lib.hid (g_call (g_alloc (grown_refl w _) _) hG)
  clear hH hG
  go_wp2
  refine bodyPost_ret (v:=.agg #[.int .i64 4,.int .i64 0,.string s,.slice none 0 0]) (by simp [results,Tryz.results57,go_sem,c0,c1,c2,c3]) rfl ?_
  refine ⟨⟨⟨4,0,s,none,0,0,[]⟩,rfl,rfl,LAt.flat _ _ _ _ (by have:=hz1.out; omega)⟩,?_,?_⟩
  · exact (((hH1.out.set (by simp; omega) _).set (by simp; omega) _).set (by simp; omega) _).set (by simp; omega) _
  · exact g_setCell (g_setCell (g_setCell (g_setCell hG1.out (by simp) _) (by simp) _) (by simp) _) (by simp) _
theorem info9 : (Tryz.prog.info? 9).map (fun i=>(i.zero,i.size,i.bytes)) = some (some (.string ⟨#[]⟩),1,16):=by kernel_rfl
set_option maxHeartbeats 400000 in
theorem value_list (b : Nat) (a : Option Addr) (n c : Nat) (w : World) (h : Codes b a n c w) (hg : Glob (but b w)) (k : Int) (hk : (k == 1) = false∧(k == 2) = false∧(k == 3) = false∧(k == 4) = false) :
    Calls Tryz.prog 57 #[.pointer (some ⟨b,0,none⟩),.int .i64 k] w (Drawn b a n c w fun e w'=>ValIs w.heap.size b 5 e w'):=by
  obtain ⟨k1,k2,k3,k4⟩:=hk
  have hC:=Lib.hid h
  have hg0:=Lib.hid (hg.mono (sub_of_grown (World.grownBy_alloc w (.cells zeroV 76) (some b))))
  have hlt:=h.lt
  clear h hg
  obtain ⟨i0,hi,hz0,hz1,hz2⟩:=info_parts info9
  go_enter Tryz.func57,Tryz.ntmps57
  go_wp2_with fail
  refine (next_any b a n c _ 5 (by omega) (by omega) (hC.out.alloc (.cells zeroV 76))).mono ?_
  rintro e w' ⟨⟨m,rfl,hm0,hm1⟩,hH,hG⟩
  obtain ⟨j,rfl⟩:=Int.eq_ofNat_of_zero_le hm0
  obtain ⟨ad,cc,l,hs,hl,hls⟩:=(hg0.out.mono (sub_of_grown hG)).lists j (by omega)
  have hs:=but_sub _ _ _ _ hs
  have hls1 : ∀ i u,(l.map Value.string)[i]? = some u→w'.cell? (ad.add i) = some u:=by
    intro i u hu
    rw [List.getElem?_map] at hu
    cases hq : l[i]? with
    | none=>rw [hq] at hu; cases hu
    | some s=>rw [hq] at hu; cases hu; exact but_sub _ _ _ _ (hls i s hq)
  have hls2:=Lib.hid hls1
  obtain ⟨c0,c1,c2,c3,f0,f1,f2,f3⟩:=own4 ((Own.new w zeroV 76).kept hG (by simp; omega))
  have hO:=Lib.hid ((Own.new w zeroV 76).kept hG (by simp; omega))
  have hH1:=Lib.hid hH
  have hG1:=Lib.hid (g_call (g_alloc (grown_refl w _) _) hG)
  have hone : ∀ u∈l.map Value.string,u.oneCell' = true:=by
    intro u hu
    obtain ⟨s,-,rfl⟩:=List.mem_map.1 hu
    rfl
  have hone1:=Lib.hid hone
  clear hH hG hls hls1 hone c0 c1 c2 c3 f0 f1 f2 f3
  go_wp2_with (at_builtin; refine wpList_append_own _ rfl _ _ 38 rfl w'.heap.size 9 i0 (.string ⟨#[]⟩) 1 16 Tryz.underlying38 hi hz0 hz1 hz2 rfl (by decide) _ _ _ rfl (World.ownsRow_nil _ _ _ _) ad l.length cc (l.map Value.string) rfl (by simp) hls2.out hone1.out (by unfold maxLen; omega) (by omega) (Nat.le_refl _) ?_)
  intro v' w1 hown hgrow hiff
  clear hiff
  have hwB : w.heap.size < w'.heap.size:=hO.out.lt
  have hown1:=Lib.hid hown
  obtain ⟨va,vc,hv⟩:=owns_slice hown
  have hgrow1 : w'.grownBy w1 none:=hgrow
  have hO1:=hO.out.kept hgrow1 (by simp)
  obtain ⟨c0,c1,c2,c3,f0,f1,f2,f3⟩:=own4 hO1
  have hH2:=Lib.hid (hH1.out.kept hgrow1 (by simp))
  have hG2:=Lib.hid (g_call hG1.out (grown_none hgrow1 _))
  clear hgrow hgrow1 hown
  rw [hv]
  rw [hv] at hown1
  clear hv
  go_wp2
  refine bodyPost_ret (v:=.agg #[.int .i64 5,.int .i64 0,.string ⟨#[]⟩,.slice va l.length vc]) (by simp [results,Tryz.results57,go_sem,c0,c1,c2,c3]) rfl ?_
  have hbB : b < w'.heap.size:=by omega
  refine ⟨⟨⟨5,0,⟨#[]⟩,va,l.length,vc,l⟩,rfl,rfl,?_⟩,?_,?_⟩
  · have h1:=rows_of_owns_new (B:=w'.heap.size) (b:=b) hown1.out (Nat.le_refl _) hbB (l.map strRow) (by simp) (by simp [strRow]) (by rw [strRow_flat])
    have h2 : LAt (newM w'.heap.size b w1) ⟨5,0,⟨#[]⟩,va,l.length,vc,l⟩:=⟨by simpa using h1,(show (⟨#[]⟩ : ByteArray).size < 4294967281 by decide),by simp only; omega⟩
    exact LAtLow (LAtSet (LAtSet (LAtSet (LAtSet h2 (by simp <;> omega) _) (by simp <;> omega) _) (by simp <;> omega) _) (by simp <;> omega) _) (by omega)
  · exact (((hH2.out.set (by simp; omega) _).set (by simp; omega) _).set (by simp; omega) _).set (by simp; omega) _
  · exact g_setCell (g_setCell (g_setCell (g_setCell hG2.out (by simp) _) (by simp) _) (by simp) _) (by simp) _
def kindOf (k : Int) : Int:=if 1≤k∧k≤4 then k else 5
theorem value_any (b : Nat) (a : Option Addr) (n c : Nat) (w : World) (h : Codes b a n c w) (hg : Glob (but b w)) (k : Int) :
    Calls Tryz.prog 57 #[.pointer (some ⟨b,0,none⟩),.int .i64 k] w (Drawn b a n c w fun e w'=>ValIs w.heap.size b (kindOf k) e w'):=by
  by_cases h1 : k = 1
  · subst h1; exact value_bool b a n c w h
  by_cases h2 : k = 2
  · subst h2; exact value_number b a n c w h
  by_cases h3 : k = 3
  · subst h3; exact value_text b a n c w h hg
  by_cases h4 : k = 4
  · subst h4; exact value_version b a n c w h hg
  have e : kindOf k = 5:=by unfold kindOf; rw [if_neg (by omega)]
  rw [e]
  exact value_list b a n c w h hg k (by simp [h1,h2,h3,h4])
set_option maxHeartbeats 400000 in
theorem any_any (b : Nat) (a : Option Addr) (n c : Nat) (w : World) (h : Codes b a n c w) (hg : Glob (but b w)) :
    Calls Tryz.prog 31 #[.pointer (some ⟨b,0,none⟩)] w (Drawn b a n c w fun e w'=>∃ k,ValIs w.heap.size b k e w'):=by
  have hC:=Lib.hid h
  have hg0:=Lib.hid (hg.mono (sub_of_grown (World.grownBy_alloc w (.cells zeroV 76) (some b))))
  have hlt:=h.lt
  clear h hg
  go_enter Tryz.func31,Tryz.ntmps31
  go_wp2_with fail
  refine (next_any b a n c _ 5 (by omega) (by omega) (hC.out.alloc (.cells zeroV 76))).mono ?_
  rintro e w' ⟨⟨m,rfl,hm0,hm1⟩,hH,hG⟩
  have hC2:=Lib.hid ((hC.out.alloc (.cells zeroV 76)).still hG hH)
  have hg2:=Lib.hid (hg0.out.mono (sub_of_grown hG))
  have hO:=Lib.hid ((Own.new w zeroV 76).kept hG (by simp; omega))
  have hG1:=Lib.hid (g_call (g_alloc (grown_refl w _) _) hG)
  clear hH hG
  go_wp2_with fail
  refine (value_any b a n c _ hC2.out hg2.out _).mono ?_
  rintro e w2 ⟨⟨d,rfl,hd,hLd⟩,hH,hG⟩
  have hwB : w.heap.size < w'.heap.size:=hO.out.lt
  have hL1:=Lib.hid hLd
  obtain ⟨c0,c1,c2,c3,f0,f1,f2,f3⟩:=own4 (hO.out.kept hG (by simp; omega))
  have hH1:=Lib.hid hH
  have hG2:=Lib.hid (g_call hG1.out hG)
  clear hH hG hd hLd
  unfold VD.row
  go_wp2
  refine bodyPost_ret (v:=.agg d.row.toArray) (by simp [results,Tryz.results31,go_sem,c0,c1,c2,c3,VD.row]) rfl ?_
  refine ⟨⟨_,d,rfl,rfl,LAtLow (LAtSet (LAtSet (LAtSet (LAtSet hL1.out (by simp <;> omega) _) (by simp <;> omega) _) (by simp <;> omega) _) (by simp <;> omega) _) (by omega)⟩,?_,?_⟩
  · exact (((hH1.out.set (by simp; omega) _).set (by simp; omega) _).set (by simp; omega) _).set (by simp; omega) _
  · exact g_setCell (g_setCell (g_setCell (g_setCell hG2.out (by simp) _) (by simp) _) (by simp) _) (by simp) _
end Go.Proofs.YtfffpflflggonaaGreatDoor.draw
namespace Go.Proofs.YtfffpflflggonaaGreatDoor.draw
open Go.RowKit schema
attribute [local go_sem ↓] Go.wp_at_zero Go.wp_at_succ
def sDevice : ByteArray:=⟨#[100,101,118,105,99,101]⟩
def sUser : ByteArray:=⟨#[117,115,101,114]⟩
def sKey : ByteArray:=⟨#[107,101,121]⟩
def declD : List DD:=[⟨sDevice,⟨#[99,111,114,101,115]⟩,2⟩,⟨sDevice,⟨#[111,115]⟩,3⟩,⟨sUser,⟨#[97,103,101]⟩,2⟩,⟨sUser,⟨#[97,112,112]⟩,4⟩,
  ⟨sUser,⟨#[98,101,116,97]⟩,1⟩,⟨sUser,⟨#[99,111,117,110,116,114,121]⟩,3⟩,⟨sUser,⟨#[112,108,97,110]⟩,3⟩,⟨sUser,⟨#[116,97,103,115]⟩,5⟩]
def declArr : Array Value:=(declD.map DD.row).flatten.toArray
set_option maxHeartbeats 400000 in
theorem declared_any (w : World) :
    Calls Tryz.prog 55 #[] w fun e w'=>e = .returned (.slice (some ⟨w.heap.size,0,none⟩) 8 8)∧w' = w.alloc (.cells declArr 100):=by
  go_enter Tryz.func55,Tryz.ntmps55
  go_wp2
  go_ret
  exact ⟨rfl,rfl⟩
theorem decl_types : ∀ j,(h : j < 8)→typeOf (declD[j]'h).kind.toList (declD[j]'h).name.toList declD = (declD[j]'h).type∧1≤(declD[j]'h).type∧(declD[j]'h).type≤5:=by
  intro j h
  have : ∀ j : Fin 8,typeOf (declD[j.val]'j.isLt).kind.toList (declD[j.val]'j.isLt).name.toList declD = (declD[j.val]'j.isLt).type∧1≤(declD[j.val]'j.isLt).type∧(declD[j.val]'j.isLt).type≤5:=by decide +kernel
  exact this ⟨j,h⟩
theorem key_type : typeOf sUser.toList sKey.toList declD = 3:=by kernel_rfl
end Go.Proofs.YtfffpflflggonaaGreatDoor.draw
namespace Go.Proofs.YtfffpflflggonaaGreatDoor.draw
open Go.RowKit schema
structure Ext (M M' : Mem) (B : Nat) : Prop where
  sub : Sub M M'
  new : ∀ p v,M' p = some v→M p = some v∨B≤p.block
theorem Ext.refl (M : Mem) (B : Nat) : Ext M M B:=⟨Sub.refl M,fun _ _ h=>Or.inl h⟩
theorem Ext.trans {M M' M2 : Mem} {B B' : Nat} (h : Ext M M' B) (k : Ext M' M2 B') (hB : B≤B') : Ext M M2 B :=
  ⟨h.sub.trans k.sub,fun p v hp=>by
    rcases k.new p v hp with h1 | h1
    · exact h.new p v h1
    · exact Or.inr (by omega)⟩
theorem Ext.low {M M' : Mem} {B B' : Nat} (h : Ext M M' B') (hB : B≤B') : Ext M M' B:=(Ext.refl M B).trans h hB
def Off (k : Nat) (M : Mem) : Prop:=∀ p v,M p = some v→p.block ≠ k
theorem Off.ext {k B : Nat} {M M' : Mem} (h : Off k M) (e : Ext M M' B) (hk : k < B) : Off k M':=by
  intro p v hp
  rcases e.new p v hp with h1 | h1
  · exact h p v h1
  · omega
theorem off_new {M : Mem} {u : World} (h : Sub M u.cell?) {k : Nat} (hk : u.heap.size≤k) : Off k M:=by
  intro p v hp
  have:=World.block_lt_of_cell? u p (h p v hp)
  omega
theorem sub_setCell {M : Mem} {u : World} (h : Sub M u.cell?) {q : Addr} (ho : Off q.block M) (x : Value) : Sub M (u.setCell q x).cell?:=by
  intro p v hp
  rw [World.cell?_of_block (Below.heap_setCell u q x p.block (ho p v hp))]
  exact h p v hp
theorem sub_grow {M : Mem} {u u' : World} (h : Sub M u.cell?) {r : Option Nat} (g : u.grownBy u' r) (ho : ∀ k,r = some k→Off k M) : Sub M u'.cell?:=by
  intro p v hp
  exact g.cell (h p v hp) (by intro e; exact ho _ e.symm p v hp rfl)
theorem sub_alloc {M : Mem} {u : World} (h : Sub M u.cell?) (o : Obj) : Sub M (u.alloc o).cell?:=sub_grow h (World.grownBy_alloc u o none) (fun k e=>by cases e)
def addB (M : Mem) (g : Nat) (u : World) : Mem:=fun p=>if p.block = g then u.cell? p else M p
theorem addB_ext {M : Mem} {g B : Nat} {u : World} (ho : Off g M) (hB : B≤g) : Ext M (addB M g u) B:=by
  refine ⟨fun p v hp=>?_,fun p v hp=>?_⟩
  · unfold addB
    rw [if_neg (ho p v hp)]
    exact hp
  · unfold addB at hp
    split at hp
    · exact Or.inr (by omega)
    · exact Or.inl hp
theorem addB_sub {M : Mem} {g : Nat} {u : World} (h : Sub M u.cell?) : Sub (addB M g u) u.cell?:=by
  intro p v hp
  unfold addB at hp
  split at hp
  · exact hp
  · exact h p v hp
theorem addB_off {M : Mem} {g k : Nat} {u : World} (h : Off k M) (hk : k ≠ g) : Off k (addB M g u):=by
  intro p v hp
  unfold addB at hp
  split at hp
  · omega
  · exact h p v hp
def joinN (M : Mem) (B b : Nat) (u : World) : Mem:=fun p=>if p.block < B∨p.block = b then M p else u.cell? p
theorem joinN_new (M : Mem) (B b : Nat) (u : World) : Sub (newM B b u) (joinN M B b u):=by
  intro p v hp
  unfold newM at hp
  unfold joinN
  split at hp
  · cases hp
  · rename_i h
    rw [if_neg h]
    exact hp
theorem joinN_ext {M : Mem} {B b : Nat} {u : World} (h : Sub M u.cell?) : Ext M (joinN M B b u) B:=by
  refine ⟨fun p v hp=>?_,fun p v hp=>?_⟩
  · unfold joinN
    split
    · exact hp
    · exact h p v hp
  · unfold joinN at hp
    split at hp
    · exact Or.inl hp
    · rename_i h2
      exact Or.inr (by omega)
theorem joinN_sub {M : Mem} {B b : Nat} {u : World} (h : Sub M u.cell?) : Sub (joinN M B b u) u.cell?:=by
  intro p v hp
  unfold joinN at hp
  split at hp
  · exact h p v hp
  · exact hp
theorem joinN_off {M : Mem} {B b : Nat} {u : World} (h : Off b M) : Off b (joinN M B b u):=by
  intro p v hp
  unfold joinN at hp
  split at hp
  · exact h p v hp
  · rename_i h2
    omega
theorem rows_in {M : Mem} {u : World} {sz : Nat} {v : Value} {rows : List (List Value)} (h : RowsAt u.cell? sz v rows) (hv : ∀ n,v.ownBlock = some n→∀ p : Addr,p.block = n→M p = u.cell? p) : RowsAt M sz v rows:=by
  obtain ⟨a,c,h1,h2,h3,h4⟩:=h
  refine ⟨a,c,h1,h2,h3,?_⟩
  rcases h4 with h4 | ⟨blk,off,h5,h6⟩
  · exact Or.inl h4
  · refine Or.inr ⟨blk,off,h5,fun i r hi j x hx=>?_⟩
    rw [hv blk (by rw [h1,h5]; rfl) _ rfl]
    exact h6 i r hi j x hx
def CondIs (M : Mem) (b : Nat) (w : World) (e : Ending) (w' : World) : Prop :=
  ∃ (M' : Mem) (d : ED) (op : Int) (kind name : ByteArray) (va : Option Addr) (vn vc : Nat) (ka : Option Addr) (kn kc : Nat),e = .returned (.agg #[.int .i64 op,.string kind,.string name,.slice va vn vc,.slice ka kn kc]) ∧
    Ext M M' w.heap.size∧Sub M' w'.cell?∧Off b M'∧EAt M' d [.int .i64 op,.string kind,.string name,.slice va vn vc,.slice ka kn kc]
theorem eat_five {m : Mem} {d : ED} {r : List Value} (h : EAt m d r) : ∃ (op : Int) (kind name : ByteArray) (va : Option Addr) (vn vc : Nat) (ka : Option Addr) (kn kc : Nat),r = [.int .i64 op,.string kind,.string name,.slice va vn vc,.slice ka kn kc]:=by
  cases h with
  | mk rows hv hk hl hL h =>
    obtain ⟨a,c,rfl,-⟩:=hv
    obtain ⟨a2,c2,rfl,-⟩:=hk
    exact ⟨_,_,_,_,_,_,_,_,_,rfl⟩
theorem eat_put {M : Mem} {op : Int} {kind name : ByteArray} {vals : List VD} {kids : List ED} {vs ks : Value} {rows : List (List Value)} {k : Nat} {d : ED} {r : List Value}
    (hv : RowsAt M 4 vs (vals.map VD.row)) (hk : RowsAt M 5 ks (rows.set k r)) (hl : rows.length = kids.length) (hL : ∀ v∈vals,LAt M v) (h : ∀ (i : Nat) (r : List Value) (k : ED),rows[i]? = some r→kids[i]? = some k→EAt M k r) (hd : EAt M d r) :
    EAt M (.mk op kind name vals (kids.set k d)) [.int .i64 op,.string kind,.string name,vs,ks] :=
  .mk (rows.set k r) hv hk (by simp [hl]) hL (fun i r' k' hi hk'=>by
    by_cases e : i = k
    · subst e
      have h1 : i < rows.length:=by have:=(List.getElem?_eq_some_iff.1 hi).1; simpa using this
      rw [List.getElem?_set_self h1] at hi
      rw [List.getElem?_set_self (by omega)] at hk'
      injection hi with hi
      injection hk' with hk'
      subst hi; subst hk'
      exact hd
    · rw [List.getElem?_set_ne (fun h=>e h.symm)] at hi hk'
      exact h i r' k' hi hk')
theorem eat_snoc {M : Mem} {op : Int} {kind name : ByteArray} {vals : List VD} {kids : List ED} {vs ks : Value} {rows : List (List Value)} {d : ED} {r : List Value}
    (hv : RowsAt M 4 vs (vals.map VD.row)) (hk : RowsAt M 5 ks (rows ++ [r])) (hl : rows.length = kids.length) (hL : ∀ v∈vals,LAt M v) (h : ∀ (i : Nat) (r : List Value) (k : ED),rows[i]? = some r→kids[i]? = some k→EAt M k r) (hd : EAt M d r) :
    EAt M (.mk op kind name vals (kids ++ [d])) [.int .i64 op,.string kind,.string name,vs,ks] :=
  .mk (rows ++ [r]) hv hk (by simp [hl]) hL (fun i r' k' hi hk'=>by
    rcases Nat.lt_trichotomy i rows.length with h1 | h1 | h1
    · rw [List.getElem?_append_left h1] at hi
      rw [List.getElem?_append_left (by omega)] at hk'
      exact h i r' k' hi hk'
    · rw [List.getElem?_append_right (by omega),h1,Nat.sub_self] at hi
      rw [List.getElem?_append_right (by omega),h1,hl,Nat.sub_self] at hk'
      simp at hi hk'
      subst hi; subst hk'
      exact hd
    · rw [List.getElem?_append_right (by omega),List.getElem?_singleton,if_neg (by omega)] at hi
      cases hi)
theorem eat_list {M : Mem} {op : Int} {kids : List ED} {ks : Value} {rows : List (List Value)} (hk : RowsAt M 5 ks rows) (hl : rows.length = kids.length) (h : ∀ (i : Nat) (r : List Value) (k : ED),rows[i]? = some r→kids[i]? = some k→EAt M k r) :
    EAt M (.mk op ⟨#[]⟩ ⟨#[]⟩ [] kids) [.int .i64 op,.string ⟨#[]⟩,.string ⟨#[]⟩,.slice none 0 0,ks]:=.mk rows (rows_nil _ _) hk hl (fun v hv=>by cases hv) h
theorem eat_parts {M : Mem} {op : Int} {kind name : ByteArray} {va : Option Addr} {vn vc : Nat} {ka : Option Addr} {kn kc : Nat} {d : ED} (h : EAt M d [.int .i64 op,.string kind,.string name,.slice va vn vc,.slice ka kn kc]) :
    ∃ (vals : List VD) (kids : List ED) (rows : List (List Value)),d = .mk op kind name vals kids∧RowsAt M 4 (.slice va vn vc) (vals.map VD.row)∧RowsAt M 5 (.slice ka kn kc) rows∧rows.length = kids.length∧(∀ v∈vals,LAt M v) ∧
      ∀ (i : Nat) (r : List Value) (k : ED),rows[i]? = some r→kids[i]? = some k→EAt M k r:=by
  cases h with
  | mk rows hv hk hl hL h=>exact ⟨_,_,rows,rfl,hv,hk,hl,hL,h⟩
theorem eat_head {M : Mem} {op : Int} {kind name : ByteArray} {vals : List VD} {kids : List ED} {vs ks : Value} (h : EAt M (.mk op kind name vals kids) [.int .i64 op,.string kind,.string name,vs,ks]) (op' : Int) (kind' name' : ByteArray) :
    EAt M (.mk op' kind' name' vals kids) [.int .i64 op',.string kind',.string name',vs,ks]:=by
  cases h with
  | mk rows hv hk hl hL h=>exact .mk rows hv hk hl hL h
theorem eat_vals {M : Mem} {op : Int} {kind name : ByteArray} {vals vals' : List VD} {kids : List ED} {vs vs' ks : Value} (h : EAt M (.mk op kind name vals kids) [.int .i64 op,.string kind,.string name,vs,ks]) (hv' : RowsAt M 4 vs' (vals'.map VD.row)) (hL' : ∀ v∈vals',LAt M v) :
    EAt M (.mk op kind name vals' kids) [.int .i64 op,.string kind,.string name,vs',ks]:=by
  cases h with
  | mk rows hv hk hl hL h=>exact .mk rows hv' hk hl hL' h
theorem rows5 {M : Mem} {rows : List (List Value)} {kids : List ED} (hl : rows.length = kids.length) (h : ∀ (i : Nat) (r : List Value) (k : ED),rows[i]? = some r→kids[i]? = some k→EAt M k r) : ∀ r∈rows,r.length = 5:=by
  intro r hr
  obtain ⟨i,hi,rfl⟩:=List.getElem_of_mem hr
  have h1:=h i rows[i] (kids[i]'(by omega)) (List.getElem?_eq_getElem hi) (List.getElem?_eq_getElem (by omega))
  obtain ⟨op,kind,name,va,vn,vc,ka,kn,kc,e⟩:=eat_five h1
  rw [e]
  rfl
theorem rows4 (l : List VD) : ∀ r∈l.map VD.row,r.length = 4:=by
  intro r hr
  obtain ⟨d,-,rfl⟩:=List.mem_map.1 hr
  rfl
theorem flat5_one {M : Mem} {rows : List (List Value)} {kids : List ED} (hl : rows.length = kids.length) (h : ∀ (i : Nat) (r : List Value) (k : ED),rows[i]? = some r→kids[i]? = some k→EAt M k r) : ∀ v∈rows.flatten,v.oneCell' = true:=by
  intro v hv
  obtain ⟨r,hr,hv⟩:=List.mem_flatten.1 hv
  obtain ⟨i,hi,rfl⟩:=List.getElem_of_mem hr
  have h1:=h i rows[i] (kids[i]'(by omega)) (List.getElem?_eq_getElem hi) (List.getElem?_eq_getElem (by omega))
  obtain ⟨op,kind,name,va,vn,vc,ka,kn,kc,e⟩:=eat_five h1
  rw [e] at hv
  simp only [List.mem_cons,List.not_mem_nil,or_false] at hv
  rcases hv with rfl | rfl | rfl | rfl | rfl <;> rfl
theorem flat4_one (l : List VD) : ∀ v∈(l.map VD.row).flatten,v.oneCell' = true:=by
  intro v hv
  obtain ⟨r,hr,hv⟩:=List.mem_flatten.1 hv
  obtain ⟨d,-,rfl⟩:=List.mem_map.1 hr
  simp only [VD.row,List.mem_cons,List.not_mem_nil,or_false] at hv
  rcases hv with rfl | rfl | rfl | rfl <;> rfl
end Go.Proofs.YtfffpflflggonaaGreatDoor.draw
namespace Go.Proofs.YtfffpflflggonaaGreatDoor.clause
open Go.RowKit schema value text draw
theorem kid_at {m m' : Mem} {rows : List (List Value)} {kids : List ED} {a : Option Addr} {n c : Nat} (hk : RowsAt m (5) (.slice a n c) rows) (hl : rows.length = kids.length)
    (hE : ∀ (i : Nat) (r : List Value) (k : ED),rows[i]? = some r→kids[i]? = some k→EAt m' k r) {k : Nat} (hlt : k < kids.length) :
    ∃ blk off op kind name va vn vc ka kn kc,a = some ⟨blk,off,none⟩∧m ⟨blk,off + k * 5,none⟩ = some (.int .i64 op)∧m ⟨blk,off + k * 5 + 1,none⟩ = some (.string kind)∧m ⟨blk,off + k * 5 + 2,none⟩ = some (.string name) ∧
      m ⟨blk,off + k * 5 + 3,none⟩ = some (.slice va vn vc)∧m ⟨blk,off + k * 5 + 4,none⟩ = some (.slice ka kn kc)∧rows[k]? = some [.int .i64 op,.string kind,.string name,.slice va vn vc,.slice ka kn kc]:=by
  obtain ⟨a0,c0,h1,h2,h3,h4⟩:=hk
  injection h1 with e1 e2 e3
  subst e1; subst e3
  rcases h4 with h4 | ⟨blk,off,rfl,hc⟩
  · rw [h4] at hl
    simp at hl
    omega
  · have hr : rows[k]? = some (rows[k]'(by omega)):=List.getElem?_eq_getElem (by omega)
    obtain ⟨op,kind,name,va,vn,vc,ka,kn,kc,e⟩:=eat_five (hE k _ kids[k] hr (List.getElem?_eq_getElem hlt))
    rw [e] at hr
    have hh:=hc k _ hr
    exact ⟨blk,off,op,kind,name,va,vn,vc,ka,kn,kc,rfl,hh 0 _ rfl,hh 1 _ rfl,hh 2 _ rfl,hh 3 _ rfl,hh 4 _ rfl,hr⟩
end Go.Proofs.YtfffpflflggonaaGreatDoor.clause
