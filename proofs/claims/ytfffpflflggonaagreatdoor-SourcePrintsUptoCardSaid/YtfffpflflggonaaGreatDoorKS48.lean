/- What the row sourcePrintsUptoRow gives the walks. Slices of rows that came in: what a reading of them says of the memory. Conditions that came in, as data. Chapter 5, plain: which subjects are valid, or the first error. Which attributes are valid, or the first error: the program's attributes and the reference's. Subjects, conditions and values that came in, with the sizes that the second form's bulk gives. A condition that came in, with its number of parts out of the second form's bulk. SourcePrints: the walk, with what the row gives it. -/
import Derived.Test.YtfffpflflggonaaGreatDoorKS6
import Derived.Test.YtfffpflflggonaaGreatDoorKTextB
import Derived.Test.YtfffpflflggonaaGreatDoorRows
import Derived.MakeChecks
import Derived.Stop.LaidErr
import Derived.Test.YtfffpflflggonaaGreatDoorKS0
import Derived.Deep.Slices
import Derived.Test.YtfffpflflggonaaGreatDoorKS15
import Derived.Test.YtfffpflflggonaaGreatDoorKValG
import Derived.BigQuiet
import Derived.IntWalk
import Derived.Test.YtfffpflflggonaaGreatDoorKS34
import Derived.Test.YtfffpflflggonaaGreatDoorKSrLp
import Derived.Test.YtfffpflflggonaaGreatDoorKS44
namespace Go.Proofs.YtfffpflflggonaaGreatDoor.sourcePrintsUptoRow
open Go.RowKit Go.Lib text
theorem pow_data : (Rows.laid_internal_strconv_uint64pow10 : DataW Unit) = tabData .u64 pow10Tab:=by kernel_rfl
theorem sp_data : (Rows.laid_strings_asciiSpace : DataW Unit) = tabData .u8 asciiSpaceTab:=by kernel_rfl
theorem first_data : (Rows.laid_unicode_utf8_first : DataW Unit) = firstData:=by kernel_rfl
theorem accept_data : (Rows.laid_unicode_utf8_acceptRanges : DataW Unit) = acceptData:=by kernel_rfl
theorem star : "*" ++ "errors.errorString" = "*errors.errorString":=by decide
theorem errRow (u : TypeId) (h : Tryz.prog.typeName? 3 u = some "*errors.errorString") : u = 368 :=
  typeName_ptr_named (nm:="errors.errorString") (by rw [star]; kernel_rfl) (by kernel_rfl) (by decide) u (by rw [star]; exact h)
theorem stabs_of_laid {w : World} (h : laidMetH Tryz.prog Rows.sourcePrintsUptoRow.laid w) (hsh : w.ShapedOpen Tryz.prog) : Tabs w∧SpaceTab w:=by
  rw [MakeChecks.laidMetH_plain _ _ _ (by kernel_rfl)] at h
  have hp:=Lib.laidMet.reads h (n:="internal/strconv.uint64pow10") (d:=Rows.laid_internal_strconv_uint64pow10) (by simp [Rows.sourcePrintsUptoRow])
  have hs:=Lib.laidMet.reads h (n:="strings.asciiSpace") (d:=Rows.laid_strings_asciiSpace) (by simp [Rows.sourcePrintsUptoRow])
  have h3:=Lib.laidMet.reads h (n:="unicode/utf8.first") (d:=Rows.laid_unicode_utf8_first) (by simp [Rows.sourcePrintsUptoRow])
  have h4:=Lib.laidMet.reads h (n:="unicode/utf8.acceptRanges") (d:=Rows.laid_unicode_utf8_acceptRanges) (by simp [Rows.sourcePrintsUptoRow])
  rw [pow_data] at hp
  rw [sp_data] at hs
  rw [first_data] at h3
  rw [accept_data] at h4
  refine ⟨⟨utf8Tabs_of_readsT (U8Types.of196 Tryz.laysValid) ⟨by kernel_rfl,by kernel_rfl,by kernel_rfl,by kernel_rfl,by kernel_rfl,by kernel_rfl,by kernel_rfl⟩ h3 h4,
    tab_of_reads (g:=11) (by kernel_rfl) (by kernel_rfl) Tryz.underlying372 Tryz.underlying266 (by kernel_rfl) (by kernel_rfl) hp,?_,?_⟩,
    tab_of_reads (g:=7) (by kernel_rfl) (by kernel_rfl) Tryz.underlying288 Tryz.underlying5 (by kernel_rfl) (by kernel_rfl) hs⟩
  · obtain ⟨a,s,hv,-,-,-⟩:=laid_sentinel (g:=10) h.tail.tail.tail.tail.tail.tail.tail (by kernel_rfl) (by kernel_rfl) Tryz.underlying244 errRow Tryz.underlying368 Tryz.underlying370 rfl rfl Tryz.underlying9 (by kernel_rfl) (by kernel_rfl)
    exact ⟨_,_,hv⟩
  · exact Tryz.laysM146.s1_3 w hsh
end Go.Proofs.YtfffpflflggonaaGreatDoor.sourcePrintsUptoRow
namespace Go.Proofs.YtfffpflflggonaaGreatDoor
open Go.ChangeShapes Go.WideShapes Go.RowKit Go.Deep
theorem spot_none {W : World} {x : Addr} {v : Value} {sz : Nat} (h : W.cell? ((x.add (0 * sz)).add 0) = some v) : x.spot = none:=by
  unfold World.cell? at h
  cases hsp : x.spot with
  | none=>rfl
  | some i =>
    exfalso
    have : (((x.add (0 * sz)).add 0).spot.isSome) = true:=by unfold Addr.add; split <;> simp_all
    split at h
    · rw [if_pos this] at h; cases h
    · cases h
theorem rows_map {α : Type} {f : α→List Value} : ∀ rows : List (List Value),(∀ r∈rows,∃ d,r = f d)→∃ l : List α,rows = l.map f
  | [],_=>⟨[],rfl⟩
  | r :: rows,h=>by
    obtain ⟨d,hd⟩:=h r (by simp)
    obtain ⟨l,hl⟩:=rows_map rows (fun r hr=>h r (by simp [hr]))
    exact ⟨d :: l,by rw [List.map_cons,hd,hl]⟩
end Go.Proofs.YtfffpflflggonaaGreatDoor
namespace Go.Proofs.YtfffpflflggonaaGreatDoor.schema
open Go.ChangeShapes Go.WideShapes Go.RowKit Go.Deep
theorem in_int {H : Type} {enc : TypeId × Value→H} {W : World} {base n : Nat} {sp : Nat→Bool} {held : Bool} {v : Value} {y : DataW H × List MemPlace} (h : DataW.trod enc Tryz.prog W base sp held n 3 [v] = some y) : ∃ k : Int,v = .int .i64 k:=by
  obtain ⟨k,hk,-,-⟩:=DataW.trod_int Tryz.underlying3 h
  injection hk with hk
  exact ⟨k,hk⟩
theorem in_text {H : Type} {enc : TypeId × Value→H} {W : World} {base n : Nat} {sp : Nat→Bool} {held : Bool} {v : Value} {y : DataW H × List MemPlace} (h : DataW.trod enc Tryz.prog W base sp held n 9 [v] = some y) : ∃ s : ByteArray,v = .string s:=by
  obtain ⟨s,hs,-,-⟩:=DataW.trod_string Tryz.underlying9 h
  injection hs with hs
  exact ⟨s,hs⟩
theorem in_slice {H : Type} {enc : TypeId × Value→H} {P : Program} {W : World} {base n : Nat} {sp : Nat→Bool} {held : Bool} {t e : TypeId} {v : Value} {y : DataW H × List MemPlace} (ht : P.underlying t = some (.slice e)) (h : DataW.trod enc P W base sp held n t [v] = some y) : ∃ a m c,v = .slice a m c:=by
  rcases DataW.trod_slice ht h with ⟨hcs,-⟩ | ⟨a,len,cap,elems,rest,n,hf,hcs,-⟩
  · injection hcs with hv
    exact ⟨_,_,_,hv⟩
  · injection hcs with hv
    exact ⟨_,_,_,hv⟩
theorem rows_map2 {α : Type} {f : α→List Value} {P : α→Prop} : ∀ rows : List (List Value),(∀ r∈rows,∃ d,r = f d∧P d)→∃ l : List α,rows = l.map f∧∀ d∈l,P d
  | [],_=>⟨[],rfl,fun d hd=>by cases hd⟩
  | r :: rows,h=>by
    obtain ⟨d,hd,hp⟩:=h r (by simp)
    obtain ⟨l,hl,hq⟩:=rows_map2 rows (fun r hr=>h r (by simp [hr]))
    refine ⟨d :: l,by rw [List.map_cons,hd,hl],fun e he=>?_⟩
    rcases List.mem_cons.1 he with rfl | he
    · exact hp
    · exact hq e he
end Go.Proofs.YtfffpflflggonaaGreatDoor.schema
namespace Go.Proofs.YtfffpflflggonaaGreatDoor.subj
open Go.RowKit schema value text clause
def lateS : Option (List UInt8)→List UInt8→Bool
  | none,_=>true
  | some q,n=>Op.bytesLess q n
def attrGo : Option (List UInt8)→List AD→Int
  | _,[]=>0
  | p,a :: r =>
    if keyS a.name.data.toList = false∨(a.name.data.toList == [107,101,121]) = true then 6
    else if lateS p a.name.data.toList = false then 9
    else if checkS (vv a.val) ≠ 0 then checkS (vv a.val)
    else attrGo (some a.name.data.toList) r
def attrS (l : List AD) : Int:=if 20 < l.length then 5 else attrGo none l
def subGo : Option (List UInt8)→List CT→Int
  | _,[]=>0
  | p,c :: r =>
    if keyS c.kind.data.toList = false then 6
    else if lateS p c.kind.data.toList = false then 9
    else if c.key.size = 0∨validS c.key.data.toList = false then 2
    else if attrS c.attrs ≠ 0 then attrS c.attrs
    else subGo (some c.kind.data.toList) r
def prevA (l : List AD) (k : Nat) : Option (List UInt8):=if k = 0 then none else (l[k - 1]?).map fun a=>a.name.data.toList
def prevC (l : List CT) (k : Nat) : Option (List UInt8):=if k = 0 then none else (l[k - 1]?).map fun c=>c.kind.data.toList
theorem prevA_succ {l : List AD} {k : Nat} (h : k < l.length) : prevA l (k + 1) = some l[k].name.data.toList:=by unfold prevA; simp [h]
theorem prevC_succ {l : List CT} {k : Nat} (h : k < l.length) : prevC l (k + 1) = some l[k].kind.data.toList:=by unfold prevC; simp [h]
def AtA (l : List AD) (k : Nat) : Prop:=attrGo (prevA l k) (l.drop k) = attrGo none l
def AtC (l : List CT) (k : Nat) : Prop:=subGo (prevC l k) (l.drop k) = subGo none l
theorem AtA.here {l : List AD} {k : Nat} (T : AtA l k) (h : k < l.length) : attrGo none l = attrGo (prevA l k) (l[k] :: l.drop (k + 1)):=by
  unfold AtA at T; rw [← T,List.drop_eq_getElem_cons h]
theorem AtC.here {l : List CT} {k : Nat} (T : AtC l k) (h : k < l.length) : subGo none l = subGo (prevC l k) (l[k] :: l.drop (k + 1)):=by
  unfold AtC at T; rw [← T,List.drop_eq_getElem_cons h]
theorem AtA.done {l : List AD} {k : Nat} (T : AtA l k) (h : ¬ k < l.length) : attrGo none l = 0:=by
  unfold AtA at T; rw [← T,List.drop_eq_nil_of_le (by omega)]; cases prevA l k <;> rfl
theorem AtC.done {l : List CT} {k : Nat} (T : AtC l k) (h : ¬ k < l.length) : subGo none l = 0:=by
  unfold AtC at T; rw [← T,List.drop_eq_nil_of_le (by omega)]; cases prevC l k <;> rfl
theorem AtA.key {l : List AD} {k : Nat} (T : AtA l k) (h : k < l.length) (h1 : keyS l[k].name.data.toList = false∨(l[k].name.data.toList == [107,101,121]) = true) : attrGo none l = 6:=by
  rw [T.here h,attrGo,if_pos h1]
theorem AtA.order {l : List AD} {k : Nat} (T : AtA l k) (h : k < l.length) (h1 : keyS l[k].name.data.toList = true) (h1' : (l[k].name.data.toList == [107,101,121]) = false) (h2 : lateS (prevA l k) l[k].name.data.toList = false) : attrGo none l = 9:=by
  rw [T.here h,attrGo,if_neg (by rw [h1,h1']; decide),if_pos h2]
theorem AtA.bad {l : List AD} {k : Nat} (T : AtA l k) (h : k < l.length) (h1 : keyS l[k].name.data.toList = true) (h1' : (l[k].name.data.toList == [107,101,121]) = false) (h2 : lateS (prevA l k) l[k].name.data.toList = true) (h3 : checkS (vv l[k].val) ≠ 0) : attrGo none l = checkS (vv l[k].val):=by
  rw [T.here h,attrGo,if_neg (by rw [h1,h1']; decide),if_neg (by rw [h2]; decide),if_pos h3]
theorem AtA.next {l : List AD} {k : Nat} (T : AtA l k) (h : k < l.length) (h1 : keyS l[k].name.data.toList = true) (h1' : (l[k].name.data.toList == [107,101,121]) = false) (h2 : lateS (prevA l k) l[k].name.data.toList = true) (h3 : checkS (vv l[k].val) = 0) : AtA l (k + 1):=by
  unfold AtA
  rw [T.here h,attrGo,if_neg (by rw [h1,h1']; decide),if_neg (by rw [h2]; decide),if_neg (by rw [h3]; decide),prevA_succ h]
theorem AtC.key {l : List CT} {k : Nat} (T : AtC l k) (h : k < l.length) (h1 : keyS l[k].kind.data.toList = false) : subGo none l = 6:=by
  rw [T.here h,subGo,if_pos h1]
theorem AtC.order {l : List CT} {k : Nat} (T : AtC l k) (h : k < l.length) (h1 : keyS l[k].kind.data.toList = true) (h2 : lateS (prevC l k) l[k].kind.data.toList = false) : subGo none l = 9:=by
  rw [T.here h,subGo,if_neg (by rw [h1]; decide),if_pos h2]
theorem AtC.text {l : List CT} {k : Nat} (T : AtC l k) (h : k < l.length) (h1 : keyS l[k].kind.data.toList = true) (h2 : lateS (prevC l k) l[k].kind.data.toList = true) (h3 : l[k].key.size = 0∨validS l[k].key.data.toList = false) : subGo none l = 2:=by
  rw [T.here h,subGo,if_neg (by rw [h1]; decide),if_neg (by rw [h2]; decide),if_pos h3]
theorem AtC.bad {l : List CT} {k : Nat} (T : AtC l k) (h : k < l.length) (h1 : keyS l[k].kind.data.toList = true) (h2 : lateS (prevC l k) l[k].kind.data.toList = true) (h3 : ¬ l[k].key.size = 0) (h4 : validS l[k].key.data.toList = true) (h5 : attrS l[k].attrs ≠ 0) : subGo none l = attrS l[k].attrs:=by
  rw [T.here h,subGo,if_neg (by rw [h1]; decide),if_neg (by rw [h2]; decide),if_neg (by rw [h4]; simp [h3]),if_pos h5]
theorem AtC.next {l : List CT} {k : Nat} (T : AtC l k) (h : k < l.length) (h1 : keyS l[k].kind.data.toList = true) (h2 : lateS (prevC l k) l[k].kind.data.toList = true) (h3 : ¬ l[k].key.size = 0) (h4 : validS l[k].key.data.toList = true) (h5 : attrS l[k].attrs = 0) : AtC l (k + 1):=by
  unfold AtC
  rw [T.here h,subGo,if_neg (by rw [h1]; decide),if_neg (by rw [h2]; decide),if_neg (by rw [h4]; simp [h3]),if_neg (by rw [h5]; decide),prevC_succ h]
end Go.Proofs.YtfffpflflggonaaGreatDoor.subj
namespace Go.Proofs.YtfffpflflggonaaGreatDoor.subj
open Go.RowKit schema value text clause draw
structure STabs (w : World) : Prop where
  tabs : Tabs w
  space : SpaceTab w
theorem STabs.below {w w' : World} (h : STabs w) (hb : Below w.heap.size w w') : STabs w':=⟨h.tabs.below hb,var_below hb h.space⟩
theorem lin_rows {w : World} {a : Option Addr} {n c : Nat} {ls : List ByteArray} (h : RowsAt w.cell? 1 (.slice a n c) (ls.map strRow)) : LIn w a ls:=by
  obtain ⟨a0,c0,h1,h2,h3,h4⟩:=h
  injection h1 with e1 e2 e3
  subst e1
  rcases h4 with h4 | ⟨blk,off,rfl,hc⟩
  · exact Or.inl (by simpa using h4)
  · refine Or.inr ⟨blk,off,rfl,fun k hk=>?_⟩
    have:=hc k (strRow ls[k]) (by simp [hk]) 0 (.string ls[k]) rfl
    rw [Nat.mul_one,Nat.add_zero] at this
    exact this
theorem ls_len {m : Mem} {d : VD} (h : LAt m d) : d.len = d.ls.length:=by have:=(len_of h.rows).1; simpa using this
structure Step (l : List AD) (k : Nat) (a : AD) (late : Bool) : Prop where
  key : keyS a.name.data.toList = false∨(a.name.data.toList == [107,101,121]) = true→attrGo none l = 6
  order : keyS a.name.data.toList = true→(a.name.data.toList == [107,101,121]) = false→late = false→attrGo none l = 9
  bad : keyS a.name.data.toList = true→(a.name.data.toList == [107,101,121]) = false→late = true→checkS (vv a.val) ≠ 0→attrGo none l = checkS (vv a.val)
  next : keyS a.name.data.toList = true→(a.name.data.toList == [107,101,121]) = false→late = true→checkS (vv a.val) = 0→AtA l (k + 1)
theorem AtA.step {l : List AD} {k : Nat} (T : AtA l k) (h : k < l.length) : Step l k l[k] (lateS (prevA l k) l[k].name.data.toList) :=
  ⟨T.key h,T.order h,T.bad h,T.next h⟩
end Go.Proofs.YtfffpflflggonaaGreatDoor.subj
namespace Go.Proofs.YtfffpflflggonaaGreatDoor.clause
open Go.ChangeShapes Go.WideShapes Go.RowKit Go.Deep schema subj
theorem bulk_mem {H : Type} : ∀ (l : List (DataW H)) (d : DataW H),d∈l→Rows.uptoBulk d≤Rows.uptoBulkAll l
  | [],d,h=>by cases h
  | x :: r,d,h=>by
    unfold Rows.uptoBulkAll
    rcases List.mem_cons.1 h with rfl | h
    · omega
    · have:=bulk_mem r d h; omega
theorem bulk_part {H : Type} {xs : List (DataW H × List MemPlace)} {x : DataW H × List MemPlace} {p : List MemPlace} {B : Nat} (hx : x = (.agg (xs.map (·.1)),p)) (hB : Rows.uptoBulk x.1≤B) : ∀ y∈xs,Rows.uptoBulk y.1≤B:=by
  intro y hy
  subst hx
  have:=bulk_mem (xs.map (·.1)) y.1 (List.mem_map.2 ⟨y,hy,rfl⟩)
  simp only [Rows.uptoBulk] at hB
  omega
theorem rows_of_trodB {H : Type} {enc : TypeId × Value→H} {P : Program} {W : World} {base fuel sz B : Nat} {sp : Nat→Bool} {held : Bool} {t e : TypeId} {v : Value} {x : DataW H × List MemPlace}
    (ht : P.underlying t = some (.slice e)) (ce : P.cellsOf e = sz) (hsz : 0 < sz) (Q : List Value→Prop)
    (hQ : ∀ (n : Nat) (cs : List Value) (y : DataW H × List MemPlace),n < fuel→cs.length = sz→Rows.uptoBulk y.1≤B→DataW.trod enc P W base sp held n e cs = some y→Q cs)
    (hB : Rows.uptoBulk x.1≤B)
    (h : DataW.trod enc P W base sp held fuel t [v] = some x) : ∃ rows,RowsAt W.cell? sz v rows∧rows.length≤B∧∀ r∈rows,r.length = sz∧Q r:=by
  rcases DataW.trod_slice ht h with ⟨hcs,-⟩ | ⟨a,len,cap,elems,rest,n,hf,hcs,hx,hb,hl,hm,hlen,hel,-,-⟩
  · injection hcs with hv
    subst hv
    exact ⟨[],rows_nil _ _,by simp,fun r hr=>by cases hr⟩
  · injection hcs with hv
    subst hv
    have hsm : ∀ y∈elems,Rows.uptoBulk y.1≤B:=by
      intro y hy
      subst hx
      have:=bulk_mem (elems.map (·.1)) y.1 (List.mem_map.2 ⟨y,hy,rfl⟩)
      simp only [Rows.uptoBulk] at hB
      omega
    have hcount : ∀ l : List (DataW H),l.length≤Rows.uptoBulkAll l:=by
      intro l
      induction l with
      | nil=>simp
      | cons d r ih =>
        have : 1≤Rows.uptoBulk d:=by
          cases d with
          | lit b=>cases b <;> simp [Rows.uptoBulk]
          | _=>simp [Rows.uptoBulk]
        simp only [Rows.uptoBulkAll,List.length_cons]
        omega
    have hlB : len≤B:=by
      subst hx
      have:=hcount (elems.map (·.1))
      simp only [Rows.uptoBulk] at hB
      simp at this
      omega
    have each : ∀ i,i < len→∃ cs : List Value,cs.length = sz∧Q cs∧∀ j,j < sz→W.cell? ((a.add (i * sz)).add j) = cs[j]?:=by
      intro i hi
      have key:=hel i hi
      rw [List.getElem?_eq_getElem (by omega),ce] at key
      obtain ⟨cs,h1,h2⟩:=Option.bind_eq_some_iff.1 key
      obtain ⟨-,hln,hcell⟩:=World.cells?_some h1
      exact ⟨cs,hln,hQ n cs _ (by omega) hln (hsm _ (List.getElem_mem _)) h2,hcell⟩
    obtain ⟨F,hF⟩:=choose_lt (α:=List Value) (p:=fun i cs=>cs.length = sz∧Q cs∧∀ j,j < sz→W.cell? ((a.add (i * sz)).add j) = cs[j]?) each
    refine ⟨(List.range len).map F,⟨some a,cap,by simp,by simpa using hl,hm,?_⟩,by simpa using hlB,fun r hr=>?_⟩
    · by_cases h0 : len = 0
      · exact Or.inl (by rw [h0]; rfl)
      · obtain ⟨h1,-,h3⟩:=hF 0 (by omega)
        have h4:=h3 0 hsz
        rw [List.getElem?_eq_getElem (by omega)] at h4
        have hs:=spot_none h4
        obtain ⟨blk,off,s⟩:=a
        simp only at hs
        subst hs
        refine Or.inr ⟨blk,off,rfl,fun i r hi j y hj=>?_⟩
        have hin : i < len:=by have:=(List.getElem?_eq_some_iff.1 hi).1; simpa using this
        rw [List.getElem?_map,List.getElem?_range hin] at hi
        injection hi with hi
        subst hi
        obtain ⟨k1,-,k3⟩:=hF i hin
        have hjs : j < sz:=by have:=(List.getElem?_eq_some_iff.1 hj).1; omega
        have h5:=k3 j hjs
        have e1 : ((⟨blk,off,none⟩ : Addr).add (i * sz)).add j = ⟨blk,off + i * sz + j,none⟩:=by
          unfold Addr.add
          split <;> split <;> simp_all
        rw [e1,hj] at h5
        exact h5
    · obtain ⟨i,hi,rfl⟩:=List.mem_map.1 hr
      have:=hF i (List.mem_range.1 hi)
      exact ⟨this.1,this.2.1⟩
theorem in_textB {H : Type} {enc : TypeId × Value→H} {W : World} {base n B : Nat} {sp : Nat→Bool} {held : Bool} {v : Value} {y : DataW H × List MemPlace} (hB : Rows.uptoBulk y.1≤B) (h : DataW.trod enc Tryz.prog W base sp held n 9 [v] = some y) : ∃ s : ByteArray,v = .string s∧s.size≤B:=by
  obtain ⟨s,hs,hy,-⟩:=DataW.trod_string Tryz.underlying9 h
  injection hs with hs
  subst hy
  simp only [Rows.uptoBulk] at hB
  have e : s.data.toList.length = s.size:=by rw [Array.length_toList]; rfl
  exact ⟨s,hs,by omega⟩
set_option maxRecDepth 100000 in
theorem open_lsB {H : Type} {enc : TypeId × Value→H} {W : World} {base n B : Nat} {sp : Nat→Bool} {held : Bool} {v : Value} {y : DataW H × List MemPlace} (hB : Rows.uptoBulk y.1≤B) (h : DataW.trod enc Tryz.prog W base sp held n 38 [v] = some y) : ∃ ls : List ByteArray,RowsAt W.cell? 1 v (ls.map strRow)∧ls.length≤B:=by
  obtain ⟨lr,hlr,hB,hlq⟩:=rows_of_trodB Tryz.underlying38 (by kernel_rfl) (show 0 < 1 by omega) (fun cs=>∃ s : ByteArray,cs = strRow s) (fun n cs y _ hl hB h=>by
    match cs,hl with
    | [v],_ =>
      obtain ⟨s,rfl⟩:=in_text h
      exact ⟨s,rfl⟩) hB h
  obtain ⟨ls,rfl⟩:=rows_map lr (fun r hr=>(hlq r hr).2)
  exact ⟨ls,hlr,by simpa using hB⟩
set_option maxRecDepth 100000 in
theorem open_vdB {H : Type} {enc : TypeId × Value→H} {W : World} {base n B : Nat} {sp : Nat→Bool} {held : Bool} {cs : List Value} {y : DataW H × List MemPlace} (hs : B≤1048576) (hl : cs.length = 4) (hB : Rows.uptoBulk y.1≤B) (h : DataW.trod enc Tryz.prog W base sp held n 76 cs = some y) : ∃ d : VD,cs = d.row∧LAt W.cell? d:=by
  obtain ⟨xs,k,hk,hxy,_,hxl,hf⟩:=DataW.trod_struct Tryz.underlying76 h
  have hP:=bulk_part hxy hB
  match xs,hxl,cs,hl,hP with
  | [y0,y1,y2,y3],_,[v0,v1,v2,v3],_,hP =>
    have g0:=hf 0 _ rfl
    have g1:=hf 1 _ rfl
    have g2:=hf 2 _ rfl
    have g3:=hf 3 _ rfl
    simp only [List.getElem?_cons_succ,List.getElem?_cons_zero] at g0 g1 g2 g3
    obtain ⟨s0,rfl⟩:=in_int g0
    obtain ⟨s1,rfl⟩:=in_int g1
    obtain ⟨s2,rfl,hz⟩:=in_textB (hP y2 (by simp)) g2
    obtain ⟨ls,hls,hlen⟩:=open_lsB (hP y3 (by simp)) g3
    obtain ⟨a,m,c,rfl⟩:=in_slice Tryz.underlying38 g3
    exact ⟨⟨s0,s1,s2,a,m,c,ls⟩,rfl,hls,by show s2.size < 4294967281; omega,by show ls.length≤8796093022208; omega⟩
end Go.Proofs.YtfffpflflggonaaGreatDoor.clause
namespace Go.Proofs.YtfffpflflggonaaGreatDoor.clause
open Go.ChangeShapes Go.WideShapes Go.RowKit Go.Deep schema draw
theorem cntE_pos : ∀ d : ED,1≤cntE d
  | .mk _ _ _ _ ks=>by rw [cntE]; omega
theorem len_cntL : ∀ l : List ED,l.length≤cntL l
  | []=>by simp [cntL]
  | k :: r=>by have h1:=cntE_pos k; have h2:=len_cntL r; rw [cntL,List.length_cons]; omega
theorem bulk_all {H : Type} (l : List (DataW H × List MemPlace)) : (l.map fun y=>Rows.uptoBulk y.1).sum = Rows.uptoBulkAll (l.map (·.1)):=by
  induction l with
  | nil=>simp [Rows.uptoBulkAll]
  | cons x r ih=>simp [Rows.uptoBulkAll,ih]
theorem rows_of_trodC {H : Type} {enc : TypeId × Value→H} {P : Program} {W : World} {base fuel sz : Nat} {sp : Nat→Bool} {held : Bool} {t e : TypeId} {v : Value} {x : DataW H × List MemPlace}
    (ht : P.underlying t = some (.slice e)) (ce : P.cellsOf e = sz) (hsz : 0 < sz) (Q : Nat→List Value→Prop)
    (hQ : ∀ (n : Nat) (cs : List Value) (y : DataW H × List MemPlace),n < fuel→cs.length = sz→DataW.trod enc P W base sp held n e cs = some y→Q (Rows.uptoBulk y.1) cs)
    (h : DataW.trod enc P W base sp held fuel t [v] = some x) : ∃ (rows : List (List Value)) (bs : List Nat),RowsAt W.cell? sz v rows∧rows.length = bs.length∧bs.sum≤Rows.uptoBulk x.1∧∀ (i : Nat) (r : List Value) (b : Nat),rows[i]? = some r→bs[i]? = some b→Q b r:=by
  rcases DataW.trod_slice ht h with ⟨hcs,-⟩ | ⟨a,len,cap,elems,rest,n,hf,hcs,hx,hb,hl,hm,hlen,hel,-,-⟩
  · injection hcs with hv
    subst hv
    exact ⟨[],[],rows_nil _ _,rfl,by simp,fun i r b hr=>by simp at hr⟩
  · injection hcs with hv
    subst hv
    have each : ∀ i,i < len→∃ cs : List Value,cs.length = sz∧(∀ b,(elems.map fun y=>Rows.uptoBulk y.1)[i]? = some b→Q b cs)∧∀ j,j < sz→W.cell? ((a.add (i * sz)).add j) = cs[j]?:=by
      intro i hi
      have key:=hel i hi
      rw [List.getElem?_eq_getElem (by omega),ce] at key
      obtain ⟨cs,h1,h2⟩:=Option.bind_eq_some_iff.1 key
      obtain ⟨-,hln,hcell⟩:=World.cells?_some h1
      refine ⟨cs,hln,fun b hb=>?_,hcell⟩
      rw [List.getElem?_map,List.getElem?_eq_getElem (by omega)] at hb
      injection hb with hb
      rw [← hb]
      exact hQ n cs _ (by omega) hln h2
    obtain ⟨F,hF⟩:=choose_lt (α:=List Value) (p:=fun i cs=>cs.length = sz∧(∀ b,(elems.map fun y=>Rows.uptoBulk y.1)[i]? = some b→Q b cs)∧∀ j,j < sz→W.cell? ((a.add (i * sz)).add j) = cs[j]?) each
    refine ⟨(List.range len).map F,elems.map fun y=>Rows.uptoBulk y.1,⟨some a,cap,by simp,by simpa using hl,hm,?_⟩,by simp; omega,?_,fun i r b hr hb=>?_⟩
    · by_cases h0 : len = 0
      · exact Or.inl (by rw [h0]; rfl)
      · obtain ⟨h1,-,h3⟩:=hF 0 (by omega)
        have h4:=h3 0 hsz
        rw [List.getElem?_eq_getElem (by omega)] at h4
        have hs:=spot_none h4
        obtain ⟨blk,off,s⟩:=a
        simp only at hs
        subst hs
        refine Or.inr ⟨blk,off,rfl,fun i r hi j y hj=>?_⟩
        have hin : i < len:=by have:=(List.getElem?_eq_some_iff.1 hi).1; simpa using this
        rw [List.getElem?_map,List.getElem?_range hin] at hi
        injection hi with hi
        subst hi
        obtain ⟨k1,-,k3⟩:=hF i hin
        have hjs : j < sz:=by have:=(List.getElem?_eq_some_iff.1 hj).1; omega
        have h5:=k3 j hjs
        have e1 : ((⟨blk,off,none⟩ : Addr).add (i * sz)).add j = ⟨blk,off + i * sz + j,none⟩:=by
          unfold Addr.add
          split <;> split <;> simp_all
        rw [e1,hj] at h5
        exact h5
    · rw [bulk_all]
      subst hx
      simp only [Rows.uptoBulk]
      omega
    · have hin : i < len:=by have:=(List.getElem?_eq_some_iff.1 hr).1; simpa using this
      rw [List.getElem?_map,List.getElem?_range hin] at hr
      injection hr with hr
      subst hr
      exact (hF i hin).2.1 b hb
theorem rows_listC {m : Mem} {B : Nat} : ∀ (rows : List (List Value)) (bs : List Nat),rows.length = bs.length→(∀ (i : Nat) (r : List Value) (b : Nat),rows[i]? = some r→bs[i]? = some b→∃ d : ED,EAt m d r∧cntE d≤b∧fewE B d) →
    ∃ kids : List ED,rows.length = kids.length∧(∀ (i : Nat) (r : List Value) (k : ED),rows[i]? = some r→kids[i]? = some k→EAt m k r)∧cntL kids≤bs.sum∧fewL B kids
  | [],_,_,_=>⟨[],rfl,fun i r k h=>by simp at h,by simp [cntL],trivial⟩
  | r :: rs,[],h,_=>by simp at h
  | r :: rs,b :: bs,h,hp=>by
    obtain ⟨d,h1,h2,h3⟩:=hp 0 r b rfl rfl
    obtain ⟨kids,k1,k2,k3,k4⟩:=rows_listC rs bs (by simpa using h) (fun i r' b' hr hb=>hp (i + 1) r' b' (by simpa using hr) (by simpa using hb))
    refine ⟨d :: kids,by simp [k1],fun i r' k hi hk=>?_,by rw [cntL,List.sum_cons]; omega,h3,k4⟩
    cases i with
    | zero=>simp at hi hk; subst hi; subst hk; exact h1
    | succ i=>exact k2 i r' k (by simpa using hi) (by simpa using hk)
theorem sum_mem : ∀ (l : List Nat) (i b : Nat),l[i]? = some b→b≤l.sum
  | [],_,_,h=>by simp at h
  | x :: r,0,b,h=>by simp at h; subst h; simp
  | x :: r,i + 1,b,h=>by have:=sum_mem r i b (by simpa using h); simp; omega
set_option maxRecDepth 100000 in
theorem open_edC {H : Type} {enc : TypeId × Value→H} {W : World} {base B : Nat} {sp : Nat→Bool} {held : Bool} (hs : B≤1048576) (fuel : Nat) : ∀ (cs : List Value) (y : DataW H × List MemPlace),cs.length = 5→Rows.uptoBulk y.1≤B→DataW.trod enc Tryz.prog W base sp held fuel 31 cs = some y→∃ d : ED,EAt W.cell? d cs∧cntE d≤Rows.uptoBulk y.1∧fewE B d:=by
  induction fuel using Nat.strongRecOn with
  | ind fuel ih =>
    intro cs y hl hB h
    obtain ⟨xs,k,hk,hxy,_,hxl,hf⟩:=DataW.trod_struct Tryz.underlying31 h
    have hP:=bulk_part hxy hB
    have hy : Rows.uptoBulk y.1 = Rows.uptoBulkAll (xs.map (·.1)) + 1:=by rw [hxy]; simp only [Rows.uptoBulk]
    match xs,hxl,cs,hl,hP,hy with
    | [y0,y1,y2,y3,y4],_,[v0,v1,v2,v3,v4],_,hP,hy =>
      have g0:=hf 0 _ rfl
      have g1:=hf 1 _ rfl
      have g2:=hf 2 _ rfl
      have g3:=hf 3 _ rfl
      have g4:=hf 4 _ rfl
      simp only [List.getElem?_cons_succ,List.getElem?_cons_zero] at g0 g1 g2 g3 g4
      obtain ⟨s0,rfl⟩:=in_int g0
      obtain ⟨s1,rfl,hz1⟩:=in_textB (hP y1 (by simp)) g1
      obtain ⟨s2,rfl,hz2⟩:=in_textB (hP y2 (by simp)) g2
      obtain ⟨vr,hvr,hvl,hvq⟩:=rows_of_trodB Tryz.underlying28 (by kernel_rfl) (show 0 < 4 by omega) (fun cs=>∃ d : VD,cs = d.row∧LAt W.cell? d) (fun n cs y _ hl hB h=>open_vdB hs hl hB h) (hP y3 (by simp)) g3
      obtain ⟨l,rfl,hL⟩:=rows_map2 vr (fun r hr=>(hvq r hr).2)
      obtain ⟨kr,bs,hkr,hlb,hsum,hkq⟩:=rows_of_trodC Tryz.underlying29 (by kernel_rfl) (show 0 < 5 by omega) (fun b cs=>b≤B→∃ d : ED,EAt W.cell? d cs∧cntE d≤b∧fewE B d) (fun n cs y hn hl h hB=>ih n (by omega) cs y hl hB h) g4
      have hB4:=hP y4 (by simp)
      obtain ⟨kids,hlen,hp,hc,hfw⟩:=rows_listC kr bs hlb (fun i r b hr hb=>hkq i r b hr hb (by have:=sum_mem bs i b hb; omega))
      have h5 : Rows.uptoBulk y4.1≤Rows.uptoBulkAll ([y0,y1,y2,y3,y4].map (·.1)):=bulk_mem _ _ (by simp)
      refine ⟨.mk s0 s1 s2 l kids,EAt.mk kr hvr hkr hlen hL hp,by rw [cntE]; omega,by simpa using hvl,⟨?_,by omega,by omega⟩,hfw⟩
      have:=len_cntL kids
      omega
set_option maxRecDepth 100000 in
theorem open_exprC {H : Type} {enc : TypeId × Value→H} {W : World} {base b0 : Nat} {sp : Nat→Bool} {held : Bool} {v : Value} {d : DataW H} {p : List MemPlace}
    (hv : Value.okWide Tryz.prog W .any b0 31 v) (hB : Rows.uptoBulk d≤1048576) (h : DataW.Trod enc Tryz.prog W base sp held 31 v d p) : ∃ (d : ED) (r : List Value),v = .agg r.toArray∧EAt W.cell? d r∧cntE d≤1048576∧fewE 1048576 d:=by
  obtain ⟨cs,rfl,hsz⟩:=okWide_struct Tryz.underlying31 hv
  obtain ⟨l⟩:=cs
  obtain ⟨fuel,hf⟩:=h
  obtain ⟨d,hd,hc,hfw⟩:=open_edC (Nat.le_refl _) fuel l _ (hsz.trans (by kernel_rfl)) hB hf
  exact ⟨d,l,rfl,hd,Nat.le_trans hc hB,hfw⟩
end Go.Proofs.YtfffpflflggonaaGreatDoor.clause
namespace Go.Proofs.YtfffpflflggonaaGreatDoor.law
open Go.ChangeShapes Go.WideShapes Go.RowKit Go.Lib schema text value draw clause src
set_option maxRecDepth 100000 in
theorem sourcePrints_final (W : World) (hL : laidMetH Tryz.prog Rows.sourcePrintsUptoRow.laid W) (hsh : W.ShapedOpen Tryz.prog) (a0 : Option Addr) (len0 cap0 : Nat) (z0 : List Int) (w0 : IsRow .u8 W a0 len0 cap0 z0)
    {H : Type} {enc : TypeId × Value→H} {base b0 : Nat} {sp : Nat→Bool} {held : Bool} {d1 : DataW H} {p1 : List MemPlace}
    (v1 : Value) (o1 : Value.okWide Tryz.prog W .any b0 31 v1) (k1 : DataW.Trod enc Tryz.prog W base sp held 31 v1 d1 p1) (b1 : Rows.uptoBulk d1≤1048576) :
    Calls Tryz.prog 4 #[.slice a0 len0 cap0,v1] W fun e W'=>e = .returned (.bool true)∧Below W.heap.size W W':=by
  have hT:=sourcePrintsUptoRow.stabs_of_laid hL hsh
  rw [MakeChecks.laidMetH_plain _ _ _ (by kernel_rfl)] at hL
  have hG:=glob_of_reads (Lib.laidMet.reads hL (n:="flagstone/flagstonedraw.texts") (d:=Rows.laid_flagstone_flagstonedraw_texts) (by simp [Rows.sourcePrintsUptoRow])) (Lib.laidMet.reads hL (n:="flagstone/flagstonedraw.versions") (d:=Rows.laid_flagstone_flagstonedraw_versions) (by simp [Rows.sourcePrintsUptoRow])) (Lib.laidMet.reads hL (n:="flagstone/flagstonedraw.lists") (d:=Rows.laid_flagstone_flagstonedraw_lists) (by simp [Rows.sourcePrintsUptoRow]))
  have ht:=tests_of_reads (Lib.laidMet.reads hL (n:="flagstone/source.tests") (d:=Rows.laid_flagstone_source_tests) (by simp [Rows.sourcePrintsUptoRow]))
  obtain ⟨de,re,rfl,hE,-,hfe⟩:=open_exprC o1 b1 k1
  exact prints_walk a0 len0 cap0 de re W (draw.bytes_of_row w0) hE (nm_few de hfe) (fun b hb=>hG.mono (sub_but W b hb)) ht hT.1 hT.2
end Go.Proofs.YtfffpflflggonaaGreatDoor.law
