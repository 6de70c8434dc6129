/- SourcePrints: the law returns true for every input, and each argument reads as before: the row and its card out of the walk. -/
import Derived.Test.YtfffpflflggonaaGreatDoorKS48
import Derived.Test.YtfffpflflggonaaGreatDoorCards
import Derived.Test.YtfffpflflggonaaGreatDoorTie
import Derived.WalkKit
import Derived.ProofKit
import Derived.OpenShut
import Derived.ShutString
import Derived.ChangeOld
import Derived.Below
import Derived.JoinedCond
import Derived.Deep.DeepHandedRow
import Derived.Deep.DeepWitnessRowRef
import Derived.Lib.LaidTab
import Derived.LaidMore
import Derived.Lay
import Derived.MakeChecks
namespace Go.Proofs.YtfffpflflggonaaGreatDoor.sourcePrints
open Go.ChangeShapes Go.WideShapes Go.ChangeAt Go.RowKit
open Go.ChangeMaps (open_string shut_string)
set_option linter.unusedVariables false
theorem own : ownKnob Tryz.prog.godebug = none:=by kernel_rfl
theorem laidOut : laidOutB Tryz.prog = true:=by kernel_rfl
set_option maxRecDepth 100000 in
theorem contract (H : Type) (enc : TypeId × Value→H) (W : World) (base : Nat) (args : Array Value) (ds gs : List (DataW H)) (before : List MemPlace)
    (hval0 : ∀ (j : Nat) t v,Tryz.f4.params[j]? = some t→args[j]? = some v→Value.okWide Tryz.prog W .any base t v)
    (hW : DataW.Whole enc Tryz.prog Tryz.f4.params.toList Rows.sourcePrintsSpec.vars false W args.toList ds gs before)
    (hL : laidMetH Tryz.prog Rows.sourcePrintsUptoRow.laid W)
    (hsh : W.ShapedOpen Tryz.prog)
    (hk : Rows.uptoSmall H (ds ++ gs) = true)
    (hsz : (DataW.weightsEach Tryz.prog (Tryz.f4.params.toList ++ (Rows.OpenSpec.upto Rows.sourcePrintsSpec).bare.plain.varTypes Tryz.prog) (ds ++ gs)).all (·≤reachBytes) = true) :
    Calls Tryz.prog 4 args W fun e W'=>∃ v,e = .returned v∧Rows.sourcePrintsSpec.post enc Tryz.prog Tryz.f4 false true false false W args v W':=by
  have hval : ∀ (j : Nat) t v,Tryz.f4.params[j]? = some t→args[j]? = some v→Value.okWide Tryz.prog W .any base t v:=hval0
  have hW':=hW
  obtain ⟨p,q,hA0,hV,rfl,hfz,hnd⟩:=hW
  have hA : DataW.TrodAll enc Tryz.prog W 0 (fun _=>true) true Tryz.f4.params.toList args.toList ds p:=hA0
  rw [Tryz.params4] at hA hval
  obtain ⟨v0,vs0,d0,ds0,p0,q0,hargs,rfl,rfl,h0,r0⟩:=trodAll_cons hA
  obtain ⟨v1,vs1,d1,ds1,p1,q1,rfl,rfl,rfl,h1,r1⟩:=trodAll_cons r0
  obtain ⟨rfl,rfl,rfl⟩:=trodAll_nil r1
  obtain rfl : args = #[v0,v1]:=by cases args; simp_all
  obtain ⟨rfl,rfl⟩:=trodVars_none hV
  obtain ⟨a0,len0,cap0,rfl⟩:=okWide_slice Tryz.underlying22 (hval 0 22 v0 rfl rfl)
  have k0:=h0
  have lt0 : ∀ x∈p0,x.block < W.heap.size:=by obtain ⟨m,hm⟩:=k0; exact DataW.trod_lt m _ _ _ hm
  obtain ⟨z0,w0⟩ : ∃ zs,IsRow .u8 W a0 len0 cap0 zs:=by
    obtain ⟨fuel,hf⟩:=h0
    rcases open_ints Tryz.underlying22 Tryz.underlying5 (by kernel_rfl) hf with ⟨hcs,_⟩ | ⟨x,l,c,zs,hcs,_,hl,hm,hz,_,hcell,hwz⟩
    · simp [Value.cells] at hcs
      obtain ⟨rfl,rfl,rfl⟩:=hcs
      exact ⟨[],.inl ⟨rfl,rfl,rfl,rfl⟩⟩
    · simp [Value.cells] at hcs
      obtain ⟨rfl,rfl,rfl⟩:=hcs
      exact ⟨zs,.inr ⟨_,rfl,hl,hm,by simpa using hz,hcell,hwz⟩⟩
  have k1:=h1
  have lt1 : ∀ x∈p1,x.block < W.heap.size:=by obtain ⟨m,hm⟩:=k1; exact DataW.trod_lt m _ _ _ hm
  have o1:=hval 1 31 v1 rfl rfl
  have b1 : Rows.uptoBulk d1≤1048576:=by
    have hb : Rows.uptoBulkAll _≤1048576:=of_decide_eq_true hk
    simp only [Rows.uptoBulkAll,List.cons_append,List.nil_append] at hb
    omega
  clear hA0 hval0
  refine (law.sourcePrints_final W hL hsh a0 len0 cap0 z0 w0 v1 o1 k1 b1).mono fun e W' ⟨he,bel⟩=>?_
  subst he
  exact ⟨_,rfl,_,_,_,[],_,[],hW',trodAll_mk1 (shut_bool Tryz.underlying4 _),(trodAll_cons_mk (Below.trod laidOut (by kernel_rfl) (of_decide_eq_true (by kernel_rfl)) k0 bel lt0) (trodAll_cons_mk (Below.trod laidOut (by kernel_rfl) (of_decide_eq_true (by kernel_rfl)) k1 bel lt1) trodAll_mk0)),rfl,bel.frame _,fun h=>by cases h⟩
theorem laid_met (os : Os) : laidMet Tryz.prog Rows.sourcePrintsUptoRow.laid ((World.laidAll Tryz.prog os Rows.sourcePrintsUptoRow.laid).forCall (fun _ _=>0) ⟨#[],#[.slice none 0 0,.agg #[.int .i64 0,.string ⟨#[]⟩,.string ⟨#[]⟩,.slice none 0 0,.slice none 0 0]],[]⟩).memory :=
  laidMet_laidAll _ (by kernel_rfl) (by kernel_rfl)
theorem reads (os : Os) {H : Type} (enc : TypeId × Value→H) : ∃ places,DataW.whole enc Tryz.prog ((World.laidAll Tryz.prog os Rows.sourcePrintsUptoRow.laid).forCall (fun _ _=>0) ⟨#[],#[.slice none 0 0,.agg #[.int .i64 0,.string ⟨#[]⟩,.string ⟨#[]⟩,.slice none 0 0,.slice none 0 0]],[]⟩).memory Tryz.f4.params.toList Rows.sourcePrintsSpec.vars false (#[.slice none 0 0,.agg #[.int .i64 0,.string ⟨#[]⟩,.string ⟨#[]⟩,.slice none 0 0,.slice none 0 0]] : Array Value).toList 8 = some ([.nil,.agg [.lit (.int .i64 0),.lit (.string []),.lit (.string []),.nil,.nil]],[],places) :=
  ⟨[],by kernel_rfl⟩
set_option maxRecDepth 100000 in
theorem lifted (os : Os) (started : os.Started) (H : Type) (enc : TypeId × Value→H) (F : Stop.Interp) :
    ReturnsInHanded {} Tryz.checked os 4 .any ((Rows.OpenSpec.upto Rows.sourcePrintsSpec).preRow enc Tryz.prog Tryz.f4 Rows.sourcePrintsUptoRow.domain false Rows.sourcePrintsUptoRow.laid) (((Rows.OpenSpec.upto Rows.sourcePrintsSpec).at F).post enc Tryz.prog Tryz.f4 false true false false):=by
  obtain ⟨places,hx⟩:=reads os enc
  refine returnsInHanded_of_row (C:=Tryz.checked) (s:=Rows.OpenSpec.upto Rows.sourcePrintsSpec) own started (by kernel_rfl) Tryz.func4
    (witness_row_atRef (enc:=enc) (C:=Tryz.checked) false (World.laidAll Tryz.prog os Rows.sourcePrintsUptoRow.laid) #[.slice none 0 0,.agg #[.int .i64 0,.string ⟨#[]⟩,.string ⟨#[]⟩,.slice none 0 0,.slice none 0 0]] rfl (by kernel_rfl) (by kernel_rfl) (by kernel_rfl)
      (OpenSpec.preRow_of_cond 8 hx (by kernel_rfl) (fun k hk=>by cases hk; kernel_rfl) (by kernel_rfl) (laid_met os))) ?_
  intro W base args ds gs before hval hW _ hcond hsz hL hsh _
  exact contract H enc W base args ds gs before hval hW hL hsh (hcond _ rfl) hsz
theorem fact0 : (Rows.sourcePrintsUptoRow.wf (OpenSpec.ofChange ((Rows.OpenSpec.upto Rows.sourcePrintsSpec).bare))) = true:=by kernel_rfl
theorem fact1 : (laidOutB Tryz.pinned.checked.prog) = true:=by kernel_rfl
theorem fact2 : (mapsRowed Tryz.pinned.checked.prog) = true:=by kernel_rfl
theorem fact3 : (Tryz.f4.params.all (Tryz.pinned.checked.prog.readableRec ·)) = true:=by kernel_rfl
theorem fact4 : (namedTie Tryz.pinned.checked.prog Rows.sourcePrintsUptoRow.named ((Rows.OpenSpec.upto Rows.sourcePrintsSpec).bare).vars) = true:=by kernel_rfl
theorem fact5 : ((Rows.sourcePrintsUptoRow.stops == [])) = true:=by kernel_rfl
theorem fact6 : ((Tryz.pinned.checked.prog.stops == [])) = true:=by kernel_rfl
theorem fact7 : ((Rows.sourcePrintsUptoRow.knobs == [])) = true:=by kernel_rfl
theorem fact8 : ((Tryz.pinned.checked.prog.stopKnobs == [])) = true:=by kernel_rfl
theorem fact9 : ((Rows.sourcePrintsUptoRow.inPlace == Tryz.pinned.checked.prog.inPlace 4)) = true:=by kernel_rfl
theorem fact10 : ((Rows.sourcePrintsUptoRow.unfollowed == Tryz.pinned.checked.prog.unfollowed 4)) = true:=by kernel_rfl
theorem fact11 : ((Rows.sourcePrintsUptoRow.recurses == Tryz.pinned.checked.prog.recurses 4)) = true:=by kernel_rfl
theorem fact12 : ((Rows.sourcePrintsUptoRow.named == Tryz.pinned.checked.prog.varsNamed 4)) = true:=by kernel_rfl
theorem fact13 : ((Rows.sourcePrintsUptoRow.maps == (Tryz.f4.params.toList ++ ((Rows.OpenSpec.upto Rows.sourcePrintsSpec).bare).plain.varTypes Tryz.pinned.checked.prog).any (Tryz.pinned.checked.prog.mapsRec ·))) = true:=by kernel_rfl
theorem fact14 : ((Rows.sourcePrintsUptoRow.ifaces == (Tryz.f4.params.toList ++ ((Rows.OpenSpec.upto Rows.sourcePrintsSpec).bare).plain.varTypes Tryz.pinned.checked.prog).any (Tryz.pinned.checked.prog.ifacesRec ·))) = true:=by kernel_rfl
theorem fact15 : ((Rows.sourcePrintsUptoRow.mapsOut == Tryz.pinned.checked.prog.mapsAmong Tryz.f4.resultTypes.toList)) = true:=by kernel_rfl
theorem fact16 : ((Rows.sourcePrintsUptoRow.loops == (Tryz.f4.params.toList ++ ((Rows.OpenSpec.upto Rows.sourcePrintsSpec).bare).plain.varTypes Tryz.pinned.checked.prog).any (Tryz.pinned.checked.prog.loopsFrom ·))) = true:=by kernel_rfl
theorem fact17 : ((Rows.sourcePrintsUptoRow.wideKeys == (Tryz.f4.params.toList ++ ((Rows.OpenSpec.upto Rows.sourcePrintsSpec).bare).plain.varTypes Tryz.pinned.checked.prog ++ Tryz.f4.resultTypes.toList).any (Tryz.pinned.checked.prog.wideKeysFrom ·))) = true:=by kernel_rfl
theorem fact18 : (((Rows.OpenSpec.upto Rows.sourcePrintsSpec).bare).vars.all (Tryz.pinned.checked.prog.varReadable ·)) = true:=by kernel_rfl
theorem fact19 : (Tryz.f4.resultTypes.all (fun t=>Tryz.pinned.checked.prog.readableRec t && decide (t < Tryz.pinned.checked.prog.types.size))) = true:=by kernel_rfl
theorem fact20 : ((Rows.sourcePrintsUptoRow.ifacesOut == Tryz.f4.resultTypes.toList.any (Tryz.pinned.checked.prog.ifacesRec ·))) = true:=by kernel_rfl
theorem fact21 : ((Rows.sourcePrintsUptoRow.loopsOut == Tryz.f4.resultTypes.toList.any (Tryz.pinned.checked.prog.loopsFrom ·))) = true:=by kernel_rfl
theorem fact22 : ((Rows.sourcePrintsUptoRow.plainKeys == Tryz.pinned.checked.prog.plainKeys)) = true:=by kernel_rfl
theorem fact23 : (Rows.sourcePrintsUptoRow.shortTexts.isNone) = true:=by kernel_rfl
theorem fact24 : (Tryz.pinned.checked.prog.stopsHeard) = true:=by kernel_rfl
theorem fact25 : (Tryz.pinned.checked.prog.mayEnter) = true:=by kernel_rfl
theorem fact26 : ((Rows.sourcePrintsUptoRow.lifted == Tryz.pinned.checked.prog.liftsFinal)) = true:=by kernel_rfl
theorem fact27 : ((Tryz.pinned.checked.prog.make == some Rows.sourcePrintsUptoRow.make)) = true:=by kernel_rfl
theorem fact28 : ((Rows.sourcePrintsUptoRow.kinds == (if Rows.sourcePrintsUptoRow.domain.isEmpty then [] else Tryz.f4.params.toList.map fun t=>match Tryz.pinned.checked.prog.underlying t with | some (.int k)=>some k | _=>none))) = true:=by kernel_rfl
theorem fact29 : ((Rows.sourcePrintsUptoRow.pinned == Rows.sourcePrintsUptoRow.pinnedBy)) = true:=by kernel_rfl
theorem fact30 : ((Rows.sourcePrintsUptoRow.veiled == (Tryz.f4.params.toList ++ ((Rows.OpenSpec.upto Rows.sourcePrintsSpec).bare).plain.varTypes Tryz.pinned.checked.prog ++ Tryz.f4.resultTypes.toList).any (Tryz.pinned.checked.prog.veiledRec ·))) = true:=by kernel_rfl
theorem fact31 : (Rows.sourcePrintsUptoRow.veiledFits Tryz.pinned.checked.prog Tryz.f4.params.toList (Tryz.f4.params.toList ++ ((Rows.OpenSpec.upto Rows.sourcePrintsSpec).bare).plain.varTypes Tryz.pinned.checked.prog ++ Tryz.f4.resultTypes.toList)) = true:=by kernel_rfl
theorem and_t {a b : Bool} (h : a = true) (g : b = true) : (a && b) = true:=by rw [h,g]; rfl
set_option maxRecDepth 100000 in
theorem facts : joinedFacts Tryz.pinned.checked.prog 4 Tryz.f4 ((Rows.OpenSpec.upto Rows.sourcePrintsSpec).bare) Rows.sourcePrintsUptoRow = true:=(and_t (and_t (and_t (and_t (and_t (and_t (and_t (and_t (and_t (and_t (and_t (and_t (and_t (and_t (and_t (and_t (and_t (and_t (and_t (and_t (and_t (and_t (and_t (and_t (and_t (and_t (and_t (and_t (and_t (and_t (and_t fact0 fact1) fact2) fact3) fact4) fact5) fact6) fact7) fact8) fact9) fact10) fact11) fact12) fact13) fact14) fact15) fact16) fact17) fact18) fact19) fact20) fact21) fact22) fact23) fact24) fact25) fact26) fact27) fact28) fact29) fact30) fact31)
theorem said : Rows.SourcePrintsUptoSaid :=
  OpenClaim.holds_of_cond 4 Tryz.f4 rfl rfl rfl rfl rfl rfl rfl ⟨rfl,rfl,rfl,rfl,rfl⟩ rfl rfl rfl rfl rfl (by kernel_rfl) Tryz.func4 facts
    (of_decide_eq_true (by kernel_rfl)) (by unfold Func.isWrapper; first | (rw [if_pos (by decide +kernel)]; kernel_rfl) | (rw [if_neg (by decide +kernel)]; exact ⟨rfl,rfl⟩))
    (fun os started H enc _ F=>by rw [OpenClaim.pre_eq_preRow]; exact lifted os started H enc F)
theorem plain (f : FuncId) (fn : Func) (hf : Tryz.pinned.checked.prog.funcNamed "flagstone/flagstonelaw8.SourcePrints" = some f) (hfn : Tryz.pinned.checked.prog.funcs[f]? = some fn) :
    true = Tryz.pinned.checked.prog.looks []∧∀ (j : Nat) t,fn.params[j]? = some t→Tryz.pinned.checked.prog.wantsStandIn t = false:=by
  obtain rfl : f = 4:=Option.some.inj ((show Tryz.prog.funcNamed "flagstone/flagstonelaw8.SourcePrints" = some 4 by kernel_rfl).symm.trans hf) |>.symm
  obtain rfl : fn = Tryz.f4:=(Option.some.inj (Tryz.func4.symm.trans hfn)).symm
  refine ⟨by kernel_rfl,fun j t ht=>?_⟩
  rw [Tryz.params4] at ht
  have hm : t∈[22,31]:=by simpa using Array.mem_of_getElem? ht
  have hall : ([22,31].all fun u=>!Tryz.prog.wantsStandIn u) = true:=by kernel_rfl
  exact (show Tryz.prog.wantsStandIn t = false by simpa using List.all_eq_true.1 hall t hm)
theorem proved : Rows.SourcePrintsUptoCardSaid :=
  Claim7.holds_tied_plain_at .later [] _ _ _ _ said (fun _ h=>by cases h) (by kernel_rfl) (fun _ h=>by cases h) sourcePrintsUpto_row_tie rfl ⟨rfl,rfl⟩ (by kernel_rfl) rfl plain (by kernel_rfl)
end Go.Proofs.YtfffpflflggonaaGreatDoor.sourcePrints
