/- slices.SortFunc of a few contexts by their kinds. What the walks of Join hold. Contexts of the call's own, appended to, be they none; what the reference's Join holds while it goes over the second subject. -/
import Derived.Test.YtkglejfkfeahcaaGreatDoorKShelf2
import Derived.Test.YtkglejfkfeahcaaGreatDoorKSuJp
import Derived.Test.YtkglejfkfeahcaaGreatDoorKSuWb
import Derived.Test.YtkglejfkfeahcaaGreatDoorKSuX
import Derived.Shelf.SlSortFuncK.ComposeK
import Derived.Test.YtkglejfkfeahcaaGreatDoorKJ20
import Derived.Test.YtkglejfkfeahcaaGreatDoorKApp0
import Derived.Test.YtkglejfkfeahcaaGreatDoorKSuE
import Derived.Test.YtkglejfkfeahcaaGreatDoorKClL
import Derived.Deep.AppendLies
namespace Go.Proofs.YtkglejfkfeahcaaGreatDoor.subj
open Go.RowKit Go.Sort Go.Proofs.YtkglejfkfeahcaaGreatDoor Go.Proofs.YtkglejfkfeahcaaGreatDoor.schema Go.Proofs.YtkglejfkfeahcaaGreatDoor.value Go.Proofs.YtkglejfkfeahcaaGreatDoor.text Go.Proofs.YtkglejfkfeahcaaGreatDoor.clause Go.Proofs.YtkglejfkfeahcaaGreatDoor.draw

def zC : CT := ⟨⟨#[]⟩, ⟨#[]⟩, none, 0, 0, []⟩
instance inhC : Inhabited CT := ⟨zC⟩
def cmpC (a b : CT) : Int := Lib.compareBytes a.kind.data.toList b.kind.data.toList

set_option maxHeartbeats 1000000 in
theorem join_cmp (x y : CT) (w : World) :
    Calls Tryz.prog 23 #[.agg #[.string x.kind, .string x.key, .slice x.ptr x.len x.cap], .agg #[.string y.kind, .string y.key, .slice y.ptr y.len y.cap]] w fun e w' => e = .returned (.int .i64 (cmpC x y)) ∧ ∃ q os', w' = grow (w.drewN q) os' := by
  go_enter Tryz.func23, Tryz.ntmps23
  go_wp2_with (go_at_call 24; refine (Tryz.strings_Compare x.kind y.kind _).mono ?_; rintro e w1 ⟨rfl, rfl⟩)
  go_ret
  exact ⟨rfl, 0, _, by rw [alloc_eq_grow, alloc_eq_grow, grow_grow]; rfl⟩

theorem fk (d : List CT) {t : Nat} (ht : t < d.length * 3) : (d.map CT.row).flatten[t]? = some ((flatK CT.row 3 d.toArray)[t]!) := by
  have h1 : t / 3 < d.length := by omega
  have h2 : t % 3 < 3 := by omega
  rw [get_flatK _ _ _ _ (by simpa using ht)]
  have e := flat_get 3 (d.map CT.row) (rows3c d) (t / 3) (CT.row d[t / 3]) (by simp [h1]) (t % 3) _ (List.getElem?_eq_getElem (by exact h2))
  rw [show t / 3 * 3 + t % 3 = t by omega] at e
  rw [e]
  have e1 : d.toArray[t / 3]! = d[t / 3] := by rw [getElem!_pos d.toArray (t / 3) (by simpa using h1)]; rfl
  rw [e1, getElem!_pos (CT.row d[t / 3]) (t % 3) (by exact h2)]
theorem holds_of (d : List CT) {w : World} {base g cap : Nat} (h : w.ownsRow base 41 3 (.slice (some ⟨g, 0, none⟩) d.length cap) d.length (d.map CT.row).flatten) : HoldsK CT.row 3 w g 0 d.toArray := by
  intro j hj
  rw [size_flatK] at hj
  have hj' : j < d.length * 3 := by simpa using hj
  rw [Nat.zero_add]
  exact ⟨by rw [h.cellAt j hj', fk d hj']; rfl, h.frozenAt j⟩
theorem rows_of_holds {d : List CT} {w : World} {g cap : Nat} (h : HoldsK CT.row 3 w g 0 d.toArray) (hc : d.length ≤ cap) (hm : cap ≤ maxLen) : RowsAt w.cell? 3 (.slice (some ⟨g, 0, none⟩) d.length cap) (d.map CT.row) := by
  refine ⟨_, cap, by rw [List.length_map], by rw [List.length_map]; exact hc, hm, Or.inr ⟨g, 0, rfl, fun i r hr j x hx => ?_⟩⟩
  have hi : i < d.length := by have := (List.getElem?_eq_some_iff.1 hr).1; simpa using this
  have hr3 := rows3c d r (List.mem_of_getElem? hr)
  have hj : j < 3 := by rw [← hr3]; exact (List.getElem?_eq_some_iff.1 hx).1
  have ht : i * 3 + j < d.length * 3 := by omega
  have h1 := (h (i * 3 + j) (by rw [size_flatK]; simpa using ht)).1
  have h2 := flat_get 3 (d.map CT.row) (rows3c d) i r hr j x hx
  rw [fk d ht] at h2
  injection h2 with h2
  rw [Nat.add_assoc, h1, ← h2]
  rfl
theorem grown_sorted (w : World) (g n : Nat) (d : Array CT) (os : Array Obj) : w.grownBy (sortWorldK CT.row 3 w g 0 n d os) (some g) := by
  refine ⟨rfl, rfl, rfl, ?_, fun k hk hne => ?_⟩
  · simp [sortWorldK, grow, putRowK, putRow, mapBlock, Sort.ahead]
  · have hkg : ¬ g = k := fun e => hne (by rw [e])
    have e1 : k < (putRowK CT.row 3 (Sort.ahead w n) g 0 d).heap.size := by rw [size_putRowK]; exact hk
    show ((putRowK CT.row 3 (Sort.ahead w n) g 0 d).heap ++ os)[k]? = w.heap[k]?
    rw [Array.getElem?_append_left e1]
    show (w.heap.modify g _)[k]? = _
    rw [Array.getElem?_modify, if_neg hkg]
theorem swoC : SWO (ltOf cmpC) := by
  have e : ∀ a b : CT, ltOf cmpC a b = Op.bytesLess a.kind.data.toList b.kind.data.toList := fun a b => by
    unfold ltOf cmpC
    rw [Bool.eq_iff_iff, decide_eq_true_iff]
    exact compare_lt _ _
  refine ⟨fun x => by rw [e, less_irrefl], fun x y z h1 h2 => ?_, fun x y z h1 h2 => ?_⟩
  · rw [e] at *
    exact less_trans h1 h2
  · rw [e] at *
    cases h3 : Op.bytesLess x.kind.data.toList z.kind.data.toList with
    | false => rfl
    | true =>
      by_cases hyz : y.kind.data.toList = z.kind.data.toList
      · rw [hyz, h3] at h1; cases h1
      · have h4 := less_of_not (a := z.kind.data.toList) (b := y.kind.data.toList) h2 hyz
        rw [less_trans h3 h4] at h1
        cases h1

set_option maxRecDepth 100000 in
set_option maxHeartbeats 1000000 in
/-- Contexts sorted by their kinds. -/
theorem sort_any (d : List CT) (N : Nat) (hN : d.length = N) (g cap base : Nat) (w : World) (hown : w.ownsRow base 41 3 (.slice (some ⟨g, 0, none⟩) N cap) N (d.map CT.row).flatten) (h12 : N ≤ 12) :
    Calls Tryz.prog 22 #[.slice (some ⟨g, 0, none⟩) N cap, .func (.func 23) #[] #[]] w fun e w' => e = .returned (.tuple #[]) ∧ (∃ d' : List CT, d'.Perm d ∧ (d'.Pairwise fun a b => Op.bytesLess b.kind.data.toList a.kind.data.toList = false) ∧ RowsAt w'.cell? 3 (.slice (some ⟨g, 0, none⟩) N cap) (d'.map CT.row)) ∧ w.grownBy w' (some g) := by
  subst hN
  have hH := holds_of d hown
  have hl := hown.lt g rfl
  have hcap : d.length ≤ cap ∧ cap ≤ maxLen := (rows_len (rows_of_owns hown (d.map CT.row) (by simp) (rows3c d) rfl)).2
  have eg : ∀ args w, (callFunc 23 args).run Tryz.prog w = .ok (.enter 23 args) w := enters_of Tryz.func23 (by kernel_rfl) rfl
  have hcmp : CmpLays Tryz.prog 23 #[] CT.row 3 cmpC g 0 d.toArray.size w := fun m os dk _ x y => join_cmp x y _
  have hlen : ∀ (n : Nat) (W : World), n ≤ 12 → Calls Tryz.prog 41 #[.int .u64 n] W fun e w' => (∃ l : Int, e = .returned (.int .i64 l)) ∧ w' = W := fun n W h =>
    (Any.bits_Len Tryz.bitsLen2 n W (by omega) (by omega)).mono fun _ _ ⟨he, hw⟩ => ⟨⟨_, he⟩, hw⟩
  have hcon := AnyQ.slices_SortFunc_small_sorted Tryz.sortCt 3 Tryz.isAgg41 Tryz.sizeOf41 CT.row (fun _ => rfl) ct_one' cmpC 23 #[] swoC g 0 cap d.toArray w eg hcmp hH hl.2 (by simpa using h12) hlen
  rw [show d.toArray.size = d.length by simp] at hcon
  change Calls Tryz.prog 22 _ _ _ at hcon
  refine hcon.mono ?_
  rintro e w' ⟨rfl, d', n, os, hp, hs, rfl⟩
  have hsz : d'.size = d.length := by simpa using hp.1
  have hz := holdsK_sortWorldK CT.row 3 w g 0 n d.toArray d' os hl.2 hH hp.1
  have e1 : d' = d'.toList.toArray := by simp
  rw [e1] at hz
  have hR := rows_of_holds (cap := cap) hz (by rw [Array.length_toList, hsz]; exact hcap.1) hcap.2
  rw [Array.length_toList, hsz] at hR
  refine ⟨rfl, ⟨d'.toList, ?_, ?_, hR⟩, grown_sorted w g n d' os⟩
  · have hpp := hp.2.2
    have x1 : d'.extract 0 d.length = d' := by rw [← hsz]; simp
    have x2 : d.toArray.extract 0 d.length = d.toArray := by simp
    rw [x1, x2] at hpp
    simpa using hpp
  · refine List.pairwise_iff_getElem.2 fun i j hi hj hij => ?_
    rw [Array.length_toList] at hi hj
    have := hs i j (Nat.zero_le _) hij (by omega)
    rw [getElem!_pos d' j hj, getElem!_pos d' i hi] at this
    unfold ltOf cmpC at this
    rw [decide_eq_false_iff_not, compare_lt] at this
    simpa using this

end Go.Proofs.YtkglejfkfeahcaaGreatDoor.subj

namespace Go.Proofs.YtkglejfkfeahcaaGreatDoor.subj
open Go.RowKit Go.Deep Go.Proofs.YtkglejfkfeahcaaGreatDoor Go.Proofs.YtkglejfkfeahcaaGreatDoor.schema Go.Proofs.YtkglejfkfeahcaaGreatDoor.value Go.Proofs.YtkglejfkfeahcaaGreatDoor.text Go.Proofs.YtkglejfkfeahcaaGreatDoor.clause Go.Proofs.YtkglejfkfeahcaaGreatDoor.draw

/-- What Join gives. -/
def JoinIs (la lb : List CT) (e : Ending) (w : World) : Prop :=
  ∃ (a : Option Addr) (n c : Nat) (l' : List CT), e = .returned (.tuple #[.agg #[.slice a n c], .int .i64 (joinE la lb)]) ∧ Joined la lb l' ∧ SAt w.cell? (.slice a n c) l'
theorem join_err {la lb : List CT} {w : World} {x : Int} (h : joinE la lb = x) (hx : x ≠ 0) : JoinIs la lb (.returned (.tuple #[.agg #[.slice none 0 0], .int .i64 x])) w :=
  ⟨none, 0, 0, [], by rw [h], ⟨fun h0 => absurd (h.symm.trans h0) hx, fun _ => rfl⟩, ⟨rows_nil _ _, fun c hc => (List.not_mem_nil hc).elim⟩⟩
theorem joinE_a {la lb : List CT} (h : subS la ≠ 0) : joinE la lb = subS la := by unfold joinE; rw [if_pos h]
theorem joinE_b {la lb : List CT} (h : subS la = 0) (h2 : subS lb ≠ 0) : joinE la lb = subS lb := by unfold joinE; rw [if_neg (by rw [h]; decide), if_pos h2]
theorem joinE_dup {la lb : List CT} (h : subS la = 0) (h2 : subS lb = 0) (h3 : dupB la lb = true) : joinE la lb = 10 := by unfold joinE; rw [if_neg (by rw [h]; decide), if_neg (by rw [h2]; decide), if_pos h3]
theorem joinE_many {la lb : List CT} (h : subS la = 0) (h2 : subS lb = 0) (h3 : dupB la lb = false) (h4 : 4 < la.length + lb.length) : joinE la lb = 5 := by unfold joinE; rw [if_neg (by rw [h]; decide), if_neg (by rw [h2]; decide), if_neg (by rw [h3]; decide), if_pos h4]
theorem dup_at {la lb : List CT} {k : Nat} (hk : k < lb.length) (h : (findS lb[k].kind.toList la).isSome = true) : dupB la lb = true := List.any_eq_true.2 ⟨_, List.getElem_mem hk, h⟩
theorem dup_none {la lb : List CT} (h : ∀ (j : Nat) (hj : j < lb.length), findS lb[j].kind.toList la = none) : dupB la lb = false := by
  cases hd : dupB la lb with
  | false => rfl
  | true =>
    obtain ⟨b, hb, h2⟩ := List.any_eq_true.1 hd
    obtain ⟨j, hj, rfl⟩ := List.getElem_of_mem hb
    rw [h j hj] at h2
    cases h2

/-- The boxes of Join. -/
structure JX (w wr : World) (pa : Option Addr) (na ca : Nat) (pb : Option Addr) (nb cb : Nat) : Prop where
  low : Below w.heap.size w wr
  a : Own wr w.heap.size #[.slice pa na ca] 25
  b : Own wr (w.heap.size + 1) #[.slice pb nb cb] 25
  z : Own wr (w.heap.size + 1 + 1) #[.slice none 0 0] 25
section
variable {w wr u : World} {pa pb : Option Addr} {na ca nb cb : Nat}
theorem JX.call (h : JX w wr pa na ca pb nb cb) (hb : Below wr.heap.size wr u) : JX w u pa na ca pb nb cb :=
  ⟨h.low.trans (hb.mono h.low.size), h.a.below hb h.a.lt, h.b.below hb h.b.lt, h.z.below hb h.z.lt⟩
theorem JX.start (w : World) (pa : Option Addr) (na ca : Nat) (pb : Option Addr) (nb cb : Nat) : JX w (((w.alloc (.cells #[.slice pa na ca] 25)).alloc (.cells #[.slice pb nb cb] 25)).alloc (.cells #[.slice none 0 0] 25)) pa na ca pb nb cb :=
  ⟨(((Below.refl _ _).alloc (Nat.le_refl _) _).alloc (by simp) _).alloc (by simp; omega) _, ((Own.new _ _ _).alloc _).alloc _, (Own.new' (by simp)).alloc _, Own.new' (by simp)⟩
theorem JX.grown {r : Nat} (h : JX w wr pa na ca pb nb cb) (g : wr.grownBy u (some r)) (hr : w.heap.size + 1 + 1 < r) : JX w u pa na ca pb nb cb :=
  ⟨h.low.grown g h.low.size (fun k e => by cases e; omega), h.a.kept g (by simp; omega), h.b.kept g (by simp; omega), h.z.kept g (by simp; omega)⟩
theorem JX.res (h : JX w wr pa na ca pb nb cb) (x : Value) : (wr.setCell ⟨w.heap.size + 1 + 1, 0, none⟩ x).cell? ⟨w.heap.size + 1 + 1, 0, none⟩ = some x := by
  have := (h.z.set 0 x).cell 0
  simpa using this
theorem JX.low' (h : JX w wr pa na ca pb nb cb) : w.heap.size + 1 + 1 < wr.heap.size := h.z.lt
end

/-- 'append(l, m...)' of contexts to a row of the call's own in block gv, be they none, at a step of a region that draws its order. -/
theorem step_append_ctx {ops : Array Oper} {o : Oper} {a : Act} {K : Act → World → Prop} {Q : Exit → Act → World → Prop} {E : Prop} {w : World} (hgd : o.guard = none) (s x : Operand)
    (ho : o.op = .call { callee := .builtin .append, args := #[s, x], argTypes := #[23, 23] })
    (B gv n vc : Nat) (L : List CT) (hs : a.eval s = .slice (some ⟨gv, 0, none⟩) n vc) (hown : w.ownsRow B 41 3 (.slice (some ⟨gv, 0, none⟩) n vc) n (L.map CT.row).flatten) (hn : n = L.length)
    (sb m c : Nat) (L2 : List CT) (hx : a.eval x = .slice (some ⟨sb, 0, none⟩) m c) (hR : RowsAt w.cell? 3 (.slice (some ⟨sb, 0, none⟩) m c) (L2.map CT.row))
    (hl : n + m ≤ 1099511627776) (hB : B ≤ w.heap.size)
    (h : ∀ gr vc' w', w'.ownsRow B 41 3 (.slice (some ⟨gr, 0, none⟩) (n + m) vc') (n + m) ((L ++ L2).map CT.row).flatten → w.grownBy w' (some gv) → (gr = gv ∨ gr = w.heap.size) → K (a.put o.dst (.slice (some ⟨gr, 0, none⟩) (n + m) vc')) w') :
    if Region.wanted o (yielded ops a.tmps) = true then Oper.wp Tryz.prog o a w K Q else E := by
  have hw : Region.wanted o (yielded ops a.tmps) = true := by simp [Region.wanted, hgd]
  rw [if_pos hw]
  subst hn
  have hm := (rows_len hR).1
  rw [List.length_map] at hm
  subst hm
  obtain ⟨i0, hi, hz0, hz1, hz2⟩ := info_parts info3
  have e1 : (L.map CT.row).flatten ++ (L2.map CT.row).flatten = ((L ++ L2).map CT.row).flatten := by rw [List.map_append, List.flatten_append]
  rcases Nat.eq_zero_or_pos L2.length with h0 | h0
  · have hL2 : L2 = [] := List.eq_nil_of_length_eq_zero h0
    subst hL2
    refine wp_append_own_zero s x _ ho B 41 i0 3 Tryz.underlying23 hi (.slice (some ⟨gv, 0, none⟩) L.length vc) L.length (L.map CT.row).flatten hs hown (some ⟨sb, 0, none⟩) c hx ?_
    exact h gv vc w (by simpa using hown) (grown_refl _ _) (Or.inl rfl)
  · obtain ⟨a0, c0, e, h2, h3, h4⟩ := hR
    rcases h4 with h4 | ⟨blk, off, h5, h6⟩
    · have : L2.length = 0 := by have := congrArg List.length h4; simpa using this
      omega
    injection e with ea en ec
    subst ea
    injection h5 with h5
    injection h5 with h5 h7
    subst h5
    subst h7
    refine wp_append_lies w s x _ ho B 41 i0 (.agg #[.string ⟨#[]⟩, .string ⟨#[]⟩, .slice none 0 0]) 3 56 Tryz.underlying23 hi hz0 hz1 hz2 rfl (by decide) (.slice (some ⟨gv, 0, none⟩) L.length vc) L.length (L.map CT.row).flatten hs hown ⟨sb, 0, none⟩ L2.length c (L2.map CT.row).flatten hx (by rw [flat_len 3 _ (rows3c L2), List.length_map]) (fun j u hj => ?_) (flat3c L2) h0 (by unfold maxLen; omega) (by omega) hB w.heap.size rfl ?_
    · rw [Addr.add_lit]
      exact flat_at (rows3c L2) h6 j u hj
    · intro gr cap w' hown' hgr hat _
      rw [e1] at hown'
      exact h gr cap w' hown' hgr (hat.imp (fun e => (Option.some.inj e).symm) id)

theorem owns_kept2 {w u : World} {B e gr sz n cap r : Nat} {xs : List Value} (h : w.ownsRow B e sz (.slice (some ⟨gr, 0, none⟩) n cap) n xs) (g : w.grownBy u (some r)) (hr : gr ≠ r) : u.ownsRow B e sz (.slice (some ⟨gr, 0, none⟩) n cap) n xs :=
  h.kept g (Or.inr (fun e => hr (Option.some.inj e)))

/-- Contexts sorted, whose kinds are all different, are in order. -/
theorem sort_strict {la lb la' lb' d : List CT} (ha : subS la = 0) (hb : subS lb = 0) (hd : dupB la lb = false) (hla : Alike SameC la' la) (hlb : Alike SameC lb' lb) (hp : d.Perm (la' ++ lb'))
    (hs : d.Pairwise fun a b => Op.bytesLess b.kind.data.toList a.kind.data.toList = false) : SortC d ∧ (d.map nC).Perm ((la ++ lb).map nC) := by
  have hpn : (d.map nC).Perm ((la ++ lb).map nC) := by
    have := hp.map nC
    rw [List.map_append, (alikeC _ _).1 hla, (alikeC _ _).1 hlb, ← List.map_append] at this
    exact this
  refine ⟨?_, hpn⟩
  have hne : ((la ++ lb).map nC).Pairwise fun a b => a.1 ≠ b.1 := by
    rw [List.pairwise_map, List.pairwise_append]
    have hlt : ∀ l : List CT, subS l = 0 → l.Pairwise fun a b => (nC a).1 ≠ (nC b).1 := fun l h => (subS_asc h).1.imp fun hab e => by
      rw [show (_ : CT).kind = (_ : CT).kind from e, less_irrefl] at hab
      cases hab
    refine ⟨hlt la ha, hlt lb hb, fun a ha' b hb' e => ?_⟩
    have : dupB la lb = true := dupB_iff.2 ⟨a, ha', b, hb', by rw [show a.kind = b.kind from e]⟩
    rw [hd] at this
    cases this
  have hnd : (d.map nC).Pairwise fun a b => a.1 ≠ b.1 := (hpn.pairwise_iff (fun h => fun e => h e.symm)).2 hne
  rw [List.pairwise_map] at hnd
  exact (List.Pairwise.and hs hnd).imp fun {a b} h => less_of_not h.1 (fun e => h.2 (show a.kind = b.kind from by
    have e1 : b.kind.data = a.kind.data := Array.toList_inj.1 e
    have : b.kind = a.kind := by cases hx : b.kind; cases hy : a.kind; rw [hx, hy] at e1; simp only at e1; rw [e1]
    exact this.symm))

end Go.Proofs.YtkglejfkfeahcaaGreatDoor.subj

namespace Go.Proofs.YtkglejfkfeahcaaGreatDoor.subj
open Go.RowKit Go.Deep Go.Proofs.YtkglejfkfeahcaaGreatDoor Go.Proofs.YtkglejfkfeahcaaGreatDoor.schema Go.Proofs.YtkglejfkfeahcaaGreatDoor.value Go.Proofs.YtkglejfkfeahcaaGreatDoor.text Go.Proofs.YtkglejfkfeahcaaGreatDoor.clause Go.Proofs.YtkglejfkfeahcaaGreatDoor.draw

/-- Contexts in a row of the call's own. -/
def CS (B : Nat) (v : Value) (L : List CT) (w : World) : Prop := w.ownsRow B 41 3 v L.length (L.map CT.row).flatten
theorem CS.out {B : Nat} {v : Value} {L : List CT} {w : World} (h : CS B v L w) : w.ownsRow B 41 3 v L.length (L.map CT.row).flatten := h
theorem cs_nil (B : Nat) (w : World) : CS B (.slice none 0 0) [] w := World.ownsRow_nil w B _ _
theorem CS.kept {B : Nat} {v : Value} {L : List CT} {w u : World} {r : Option Nat} (h : CS B v L w) (g : w.grownBy u r) (hr : ∀ x, r = some x → x < B) : CS B v L u := by
  have ho := h.out
  refine ho.kept g ?_
  cases hv : v.ownBlock with
  | none => exact Or.inl rfl
  | some k => exact Or.inr (fun e => by have := (ho.lt k hv).1; have := hr k e.symm; omega)
theorem CS.below {B : Nat} {v : Value} {L : List CT} {w u : World} (h : CS B v L w) (hb : Below w.heap.size w u) : CS B v L u := h.kept (grown_of_below hb none) (fun x e => by cases e)
theorem CS.rows {B : Nat} {v : Value} {L : List CT} {w : World} (h : CS B v L w) : RowsAt w.cell? 3 v (L.map CT.row) := rows_of_owns h.out (L.map CT.row) (by simp) (rows3c L) rfl
theorem cs_form {B : Nat} {v : Value} {L : List CT} {w : World} (h : CS B v L w) : ∃ a c, v = .slice a L.length c := by
  obtain ⟨a, c, h1, -⟩ := h.rows
  rw [List.length_map] at h1
  exact ⟨a, c, h1⟩
theorem CS.below_own {B : Nat} {v : Value} {L : List CT} {w u : World} (h : CS B v L w) (hB : B ≤ w.heap.size) (g : w.grownBy u v.ownBlock) : Below B w u :=
  (Below.refl B w).grown g hB (fun k hk => (h.out.lt k hk).1)
/-- One context, written out. -/
theorem row_ctx {w : World} {g : Nat} {d : CT} (h : Own w g #[.string d.kind, .string d.key, .slice d.ptr d.len d.cap] 41) : RowsAt w.cell? 3 (.slice (some ⟨g, 0, none⟩) 1 1) ([d].map CT.row) := by
  refine ⟨_, 1, rfl, by simp, by decide, Or.inr ⟨g, 0, rfl, fun i r hr j x hx => ?_⟩⟩
  match i, hr with
  | 0, hr =>
    injection hr with hr
    subst hr
    rw [Nat.zero_mul, Nat.add_zero, Nat.zero_add, ← hx]
    exact (h.cell j).trans (by simp [CT.row])
  | i + 1, hr => simp at hr

/-- 'append(l, m...)' of contexts that lie somewhere, be they none, at a step of a region that draws its order. -/
theorem step_append_cs {ops : Array Oper} {o : Oper} {a : Act} {K : Act → World → Prop} {Q : Exit → Act → World → Prop} {E : Prop} {w : World} (hgd : o.guard = none) (s x : Operand)
    (ho : o.op = .call { callee := .builtin .append, args := #[s, x], argTypes := #[23, 23] })
    (B : Nat) (va : Option Addr) (n vc : Nat) (L : List CT) (hs : a.eval s = .slice va n vc) (hown : CS B (.slice va n vc) L w) (hn : n = L.length)
    (sa : Option Addr) (m c : Nat) (L2 : List CT) (hx : a.eval x = .slice sa m c) (hR : RowsAt w.cell? 3 (.slice sa m c) (L2.map CT.row))
    (hl : n + m ≤ 1099511627776) (hB : B ≤ w.heap.size)
    (h : ∀ va' vc' w', CS B (.slice va' (n + m) vc') (L ++ L2) w' → n + m = (L ++ L2).length → Below B w w' → w.grownBy w' (Value.slice va n vc).ownBlock → K (a.put o.dst (.slice va' (n + m) vc')) w') :
    if Region.wanted o (yielded ops a.tmps) = true then Oper.wp Tryz.prog o a w K Q else E := by
  have hw : Region.wanted o (yielded ops a.tmps) = true := by simp [Region.wanted, hgd]
  rw [if_pos hw]
  subst hn
  have hm := (rows_len hR).1
  rw [List.length_map] at hm
  subst hm
  obtain ⟨i0, hi, hz0, hz1, hz2⟩ := info_parts info3
  refine wp_append_rows s x _ ho B 41 i0 (.agg #[.string ⟨#[]⟩, .string ⟨#[]⟩, .slice none 0 0]) 3 56 Tryz.underlying23 hi hz0 hz1 hz2 rfl (by decide) (.slice va L.length vc) L.length (L.map CT.row).flatten hs hown.out sa L2.length c (L2.map CT.row) w.cell? hx hR (fun _ _ e => e) (rows3c L2) (flat3c L2) (by unfold maxLen; omega) (by omega) hB ?_
  intro v' w' h2 h3
  have e1 : (L.map CT.row).flatten ++ (L2.map CT.row).flatten = ((L ++ L2).map CT.row).flatten := by rw [List.map_append, List.flatten_append]
  have e2 : L.length + L2.length = (L ++ L2).length := by simp
  rw [e1] at h2
  have hbs : CS B v' (L ++ L2) w' := by
    show w'.ownsRow B _ 3 _ (L ++ L2).length _
    rw [← e2]
    exact h2
  obtain ⟨va', vc', rfl⟩ := cs_form hbs
  have hb := hown.below_own hB h3
  rw [← e2] at hbs ⊢
  exact h va' vc' w' hbs e2 hb h3
/-- The same, where one operation comes behind another. -/
theorem wpList_append_cs {ops : Array Oper} {rest : List Oper} {o : Oper} {a : Act} {Q : Exit → Act → World → Prop} {w : World} (hgd : o.guard = none) (s x : Operand)
    (ho : o.op = .call { callee := .builtin .append, args := #[s, x], argTypes := #[23, 23] })
    (B : Nat) (va : Option Addr) (n vc : Nat) (L : List CT) (hs : a.eval s = .slice va n vc) (hown : CS B (.slice va n vc) L w) (hn : n = L.length)
    (sa : Option Addr) (m c : Nat) (L2 : List CT) (hx : a.eval x = .slice sa m c) (hR : RowsAt w.cell? 3 (.slice sa m c) (L2.map CT.row))
    (hl : n + m ≤ 1099511627776) (hB : B ≤ w.heap.size)
    (h : ∀ va' vc' w', CS B (.slice va' (n + m) vc') (L ++ L2) w' → n + m = (L ++ L2).length → Below B w w' → w.grownBy w' (Value.slice va n vc).ownBlock → wpList Tryz.prog ops Q rest (a.put o.dst (.slice va' (n + m) vc')) w') :
    wpList Tryz.prog ops Q (o :: rest) a w := by
  subst hn
  have hm := (rows_len hR).1
  rw [List.length_map] at hm
  subst hm
  obtain ⟨i0, hi, hz0, hz1, hz2⟩ := info_parts info3
  refine wpList_append_rows hgd s x _ ho B 41 i0 (.agg #[.string ⟨#[]⟩, .string ⟨#[]⟩, .slice none 0 0]) 3 56 Tryz.underlying23 hi hz0 hz1 hz2 rfl (by decide) (.slice va L.length vc) L.length (L.map CT.row).flatten hs hown.out sa L2.length c (L2.map CT.row) w.cell? hx hR (fun _ _ e => e) (rows3c L2) (flat3c L2) (by unfold maxLen; omega) (by omega) hB ?_
  intro v' w' h2 h3
  have e1 : (L.map CT.row).flatten ++ (L2.map CT.row).flatten = ((L ++ L2).map CT.row).flatten := by rw [List.map_append, List.flatten_append]
  have e2 : L.length + L2.length = (L ++ L2).length := by simp
  rw [e1] at h2
  have hbs : CS B v' (L ++ L2) w' := by
    show w'.ownsRow B _ 3 _ (L ++ L2).length _
    rw [← e2]
    exact h2
  obtain ⟨va', vc', rfl⟩ := cs_form hbs
  have hb := hown.below_own hB h3
  rw [← e2] at hbs ⊢
  exact h va' vc' w' hbs e2 hb h3

/-- Rows from a place on, as a slice expression gives them. -/
theorem rows_from {m : Mem} {sz : Nat} {a : Option Addr} {n c k : Nat} {rows : List (List Value)} (h : RowsAt m sz (.slice a n c) rows) (hk : k ≤ rows.length) : RowsAt m sz (.slice (if c = k then a else Option.map (fun x => x.add (k * sz)) a) (n - k) (c - k)) (rows.drop k) := by
  obtain ⟨h1, h2, h3⟩ := rows_len h
  by_cases hz : rows.length ≤ k
  · rw [show n - k = 0 by omega]
    exact ⟨_, _, by rw [List.length_drop]; congr 1; omega, by rw [List.length_drop]; omega, by omega, Or.inl (List.drop_eq_nil_of_le hz)⟩
  · obtain ⟨a0, c0, e, -, -, h4⟩ := h
    injection e with e1 e2 e3
    subst e1; subst e3
    rcases h4 with rfl | ⟨blk, off, rfl, h5⟩
    · simp at hz
    · rw [if_neg (by omega), Option.map_some, show (⟨blk, off, none⟩ : Addr).add (k * sz) = ⟨blk, off + k * sz, none⟩ by unfold Addr.add; split <;> simp only [*, Nat.add_zero]]
      refine ⟨_, _, by rw [List.length_drop, ← h1], by rw [List.length_drop]; omega, by omega, Or.inr ⟨blk, off + k * sz, rfl, fun i r hr j x hx => ?_⟩⟩
      rw [List.getElem?_drop] at hr
      have := h5 (k + i) r hr j x hx
      rw [show off + k * sz + i * sz + j = off + (k + i) * sz + j by rw [Nat.add_mul]; omega]
      exact this

/-- Where a context belongs. -/
def StopK (c : CT) (L : List CT) (k : Nat) : Prop := ∀ h : k < L.length, befC c.kind.data.toList L[k] = false ∧ L[k].kind.data.toList ≠ c.kind.data.toList
/-- What the reference's Join holds behind i contexts of the second subject. -/
structure RJ (w wr : World) (pa : Option Addr) (na ca : Nat) (pb : Option Addr) (nb cb : Nat) (la lb : List CT) (i E : Nat) (v : Value) (L : List CT) : Prop where
  x : JX w wr pa na ca pb nb cb
  row : CS E v L wr
  low : w.heap.size + 1 + 1 < E
  le : E ≤ wr.heap.size
  perm : L.Perm (la ++ lb.take i)
  sort : SortC L
  no : ∀ (j : Nat) (hj : j < lb.length), j < i → findS lb[j].kind.toList la = none
section
variable {w wr u : World} {pa pb : Option Addr} {na ca nb cb i E : Nat} {la lb L : List CT} {v : Value}
theorem RJ.call (h : RJ w wr pa na ca pb nb cb la lb i E v L) (hb : Below wr.heap.size wr u) : RJ w u pa na ca pb nb cb la lb i E v L :=
  ⟨h.x.call hb, h.row.below hb, h.low, Nat.le_trans h.le hb.size, h.perm, h.sort, h.no⟩
theorem RJ.len (h : RJ w wr pa na ca pb nb cb la lb i E v L) (hi : i ≤ lb.length) : L.length = la.length + i := by
  have := h.perm.length_eq
  rw [List.length_append, List.length_take, Nat.min_eq_left hi] at this
  exact this
theorem RJ.mem (h : RJ w wr pa na ca pb nb cb la lb i E v L) (ha : ∀ c ∈ la, CAt w.cell? c) (hb : ∀ c ∈ lb, CAt w.cell? c) : ∀ c ∈ L, CAt w.cell? c := by
  intro c hc
  rcases List.mem_append.1 (h.perm.mem_iff.1 hc) with h1 | h1
  · exact ha c h1
  · exact hb c (List.mem_of_mem_take h1)
/-- The contexts are handed back. -/
theorem RJ.done (h : RJ w wr pa na ca pb nb cb la lb i E v L) (ha : ∀ c ∈ la, CAt w.cell? c) (hb : ∀ c ∈ lb, CAt w.cell? c) (x : Value) : SAt (wr.setCell ⟨w.heap.size + 1 + 1, 0, none⟩ x).cell? v L ∧ Below w.heap.size w (wr.setCell ⟨w.heap.size + 1 + 1, 0, none⟩ x) := by
  have hl := h.low
  have hbb := h.x.low.setCell (p := ⟨w.heap.size + 1 + 1, 0, none⟩) (by simp; omega) x
  refine ⟨⟨CS.rows (B := E) (h.row.kept (grown_setCell wr (w.heap.size + 1 + 1) 0 x) (fun k e => by cases e; omega)), fun c hc => (h.mem ha hb c hc).mono (sub_of_below hbb)⟩, hbb⟩
/-- A context of one of the kinds that are there already is one of the first subject. -/
theorem RJ.dup (h : RJ w wr pa na ca pb nb cb la lb i E v L) (hb : subS lb = 0) (hi : i < lb.length) {k : Nat} (hk : k < L.length) (he : L[k].kind.toList = lb[i].kind.toList) : dupB la lb = true := by
  rcases List.mem_append.1 (h.perm.mem_iff.1 (List.getElem_mem hk)) with h1 | h1
  · exact dupB_iff.2 ⟨_, h1, _, List.getElem_mem hi, he⟩
  · obtain ⟨j, hj, e⟩ := List.getElem_of_mem h1
    rw [List.length_take] at hj
    rw [List.getElem_take] at e
    have h2 := List.pairwise_iff_getElem.1 (subS_asc hb).1 j i (by omega) hi (by omega)
    rw [e] at h2
    simp only [ByteArray.toList_eq] at he
    rw [he, less_irrefl] at h2
    cases h2
/-- One more context, put in where its kind belongs. -/
theorem RJ.next (h : RJ w wr pa na ca pb nb cb la lb i E v L) (hi : i < lb.length) {k F : Nat} {v' : Value} (hx : JX w u pa na ca pb nb cb) (hrow : CS F v' (putK k lb[i] L) u) (hF : w.heap.size + 1 + 1 < F) (hu : F ≤ u.heap.size) (h1 : ∀ (j : Nat) (hj : j < L.length), j < k → befC lb[i].kind.data.toList L[j] = true)
    (h2 : ∀ hk : k < L.length, befC lb[i].kind.data.toList L[k] = false ∧ L[k].kind.data.toList ≠ lb[i].kind.data.toList) : RJ w u pa na ca pb nb cb la lb (i + 1) F v' (putK k lb[i] L) := by
  have hs := putK_sort h.sort h1 h2
  refine ⟨hx, hrow, hF, hu, ?_, hs, fun j hj hji => ?_⟩
  · have e : lb.take (i + 1) = lb.take i ++ [lb[i]] := by rw [List.take_add_one, List.getElem?_eq_getElem hi]; rfl
    rw [e, ← List.append_assoc]
    exact (putK_perm k _ L).trans (List.Perm.append_right _ h.perm)
  · rcases Nat.lt_or_ge j i with hlt | hge
    · exact h.no j hj hlt
    · obtain rfl : j = i := by omega
      cases hf : findS lb[j].kind.toList la with
      | none => rfl
      | some c =>
        exfalso
        obtain ⟨q, hq, e⟩ := findS_some hf
        have hcL : c ∈ L := h.perm.mem_iff.2 (List.mem_append_left _ (e ▸ List.getElem_mem hq))
        have hck := eq_of_beq (findS_kind hf)
        simp only [ByteArray.toList_eq] at hck
        unfold putK SortC at hs
        obtain ⟨-, hs2, hs3⟩ := List.pairwise_append.1 hs
        have hs4 := (List.pairwise_cons.1 hs2).1
        rw [← List.take_append_drop k L] at hcL
        rcases List.mem_append.1 hcL with hc | hc
        · have := hs3 c hc lb[j] (by simp)
          rw [hck, less_irrefl] at this
          cases this
        · have := hs4 c hc
          rw [hck, less_irrefl] at this
          cases this
end

end Go.Proofs.YtkglejfkfeahcaaGreatDoor.subj
