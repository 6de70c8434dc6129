/- The reference's parser: parts are put together. Decimal numbers and versions of three numbers, said plainly. No program in sight. The tokens of a quoted text and of a number. No program in sight. The tokens of texts that are put together of words, signs, quoted texts, numbers and versions. No program in sight. Conditions within negations and parentheses, up to the limit of nesting. No program in sight. -/
import Derived.Test.YtfffpflflggonaaGreatDoorKSrH
import Derived.Test.YtfffpflflggonaaGreatDoorKS2
import Derived.Lib.ItoaNum
import Derived.Test.YtfffpflflggonaaGreatDoorKS16
import Derived.Lib.ItoaLen
import Derived.Test.YtfffpflflggonaaGreatDoorKS12
import Derived.Test.YtfffpflflggonaaGreatDoorKSrS
namespace Go.Proofs.YtfffpflflggonaaGreatDoor.src
open Go.RowKit Go.Proofs.YtfffpflflggonaaGreatDoor Go.Proofs.YtfffpflflggonaaGreatDoor.lex Go.Proofs.YtfffpflflggonaaGreatDoor.value Go.Proofs.YtfffpflflggonaaGreatDoor.text Go.Proofs.YtfffpflflggonaaGreatDoor.schema Go.Proofs.YtfffpflflggonaaGreatDoor.draw Go.Proofs.YtfffpflflggonaaGreatDoor.clause

/-- Parts put together. -/
def flatL (op : Int) (l : List PE) : List PE := l.flatMap (flatE op)
def joinE (op : Int) : List PE → PE
  | [x] => x
  | l => .mk op [] [] [] (flatL op l)
theorem flat_step {op : Int} {l : List PE} {k : Nat} (h : k < l.length) : flatL op (l.take (k + 1)) = flatL op (l.take k) ++ flatE op l[k] := by
  unfold flatL
  rw [List.take_succ_eq_append_getElem h, List.flatMap_append]
  simp
theorem flat_le {op : Int} {l : List PE} (k : Nat) : (flatL op (l.take k)).length ≤ (flatL op l).length := by
  have : flatL op l = flatL op (l.take k) ++ flatL op (l.drop k) := by
    unfold flatL
    rw [← List.flatMap_append, List.take_append_drop]
  rw [this, List.length_append]
  omega
/-- What comes out of putting parts together, wherever the parts and the new memory are known. -/
def JoinIs (m : Mem) (op : Int) (xs : List PE) (w : World) (e : Ending) (w' : World) : Prop := Below w.heap.size w w' ∧ ∃ r, e = .returned (.agg r.toArray) ∧ ∀ N, Sub m N → Sub (nex w.heap.size [] w') N → ExAt N (joinE op xs) r
/-- A part as it lies. -/
theorem kids_get {m : Mem} {xs : List PE} {rows : List (List Value)} {a : Option Addr} {n c : Nat} (hR : RowsAt m 5 (.slice a n c) rows) (hX : KidsAt m xs rows) {k : Nat} (hk : k < xs.length) :
    ∃ blk off op kd nm va vn vc ka kn kc, a = some ⟨blk, off, none⟩ ∧ m ⟨blk, off + k * 5, none⟩ = some (.int .i64 op) ∧ m ⟨blk, off + k * 5 + 1, none⟩ = some (.string kd) ∧ m ⟨blk, off + k * 5 + 2, none⟩ = some (.string nm) ∧
      m ⟨blk, off + k * 5 + 3, none⟩ = some (.slice va vn vc) ∧ m ⟨blk, off + k * 5 + 4, none⟩ = some (.slice ka kn kc) ∧ ExAt m xs[k] [.int .i64 op, .string kd, .string nm, .slice va vn vc, .slice ka kn kc] := by
  have hk' : k < rows.length := by rw [hX.1]; exact hk
  have h1 : rows[k]? = some rows[k] := List.getElem?_eq_getElem hk'
  have hE := hX.2 k _ _ h1 (List.getElem?_eq_getElem hk)
  obtain ⟨op, kd, nm, vals, va, vn, vc, ka, kn, kc, rws, e, -⟩ := hE.parts
  rw [e] at h1 hE
  obtain ⟨a0, c0, e1, -, -, h4⟩ := hR
  injection e1 with e1 e2 e3
  subst e1; subst e3
  rcases h4 with h4 | ⟨blk, off, rfl, hc⟩
  · rw [h4] at hk'; exact absurd hk' (Nat.not_lt_zero _)
  have h := hc k _ h1
  exact ⟨blk, off, op, kd, nm, va, vn, vc, ka, kn, kc, rfl, h 0 _ rfl, h 1 _ rfl, h 2 _ rfl, h 3 _ rfl, h 4 _ rfl, hE⟩

set_option maxRecDepth 100000 in
set_option maxHeartbeats 8000000 in
theorem join_any (op : Int) (xs : List PE) (rows : List (List Value)) (a : Option Addr) (c : Nat) (m : Mem) (w : World) (hR : RowsAt m 5 (.slice a xs.length c) rows) (hX : KidsAt m xs rows) (hs : Sub m w.cell?) (h1 : 1 ≤ xs.length) (hn : xs.length ≤ 30001) (hK : (flatL op xs).length ≤ 4000000000) :
    Calls Tryz.prog 50 #[.int .i64 op, .slice a xs.length c] w (JoinIs m op xs w) := by
  have hz := Lib.hid (Own.new w #[.int .i64 0, .string ⟨#[]⟩, .string ⟨#[]⟩, .slice none 0 0, .slice none 0 0] 31)
  have hB0 := Lib.hid ((Below.refl w.heap.size w).alloc (Nat.le_refl _) (.cells #[.int .i64 0, .string ⟨#[]⟩, .string ⟨#[]⟩, .slice none 0 0, .slice none 0 0] 31))
  have hs0 := Lib.hid (hs.trans (sub_of_below hB0.out))
  replace hR := Lib.hid hR
  replace hX := Lib.hid hX
  replace hs := Lib.hid hs
  go_enter Tryz.func50, Tryz.ntmps50
  go_upto_region 1 with fail
  generalize w.alloc (.cells #[.int .i64 0, .string ⟨#[]⟩, .string ⟨#[]⟩, .slice none 0 0, .slice none 0 0] 31) = w0 at hz hB0 hs0 ⊢
  obtain ⟨gz, hgz⟩ : ∃ z : Nat, Hid (z = w.heap.size) := ⟨_, Lib.hid rfl⟩
  rw [← hgz.out] at hz ⊢
  have hgz' : w.heap.size ≤ gz := Nat.le_of_eq hgz.out.symm
  have hzl := hz.out.lt
  by_cases hone : xs.length = 1
  · obtain ⟨blk, off, o1, kd, nm, va, vn, vc, ka, kn, kc, rfl, c0, c1, c2, c3, c4, hE⟩ := kids_get hR.out hX.out (k := 0) (by omega)
    have hx1 : joinE op xs = xs[0]'(by omega) := by
      obtain ⟨x, rfl⟩ := List.length_eq_one_iff.1 hone
      rfl
    simp only [Nat.zero_mul, Nat.add_zero] at c0 c1 c2 c3 c4
    replace c0 := hs0.out _ _ c0
    replace c1 := hs0.out _ _ c1
    replace c2 := hs0.out _ _ c2
    replace c3 := hs0.out _ _ c3
    replace c4 := hs0.out _ _ c4
    have hb1 : ((xs.length : Int) == 1) = true := by rw [hone]; rfl
    have hn0 : (0 : Int) < (xs.length : Int) := by omega
    obtain ⟨z0, z1, z2, z3, z4, f0, f1, f2, f3, f4⟩ := own5z hz.out
    have hF := Lib.hid (show JoinIs m op xs w (.returned (.agg #[.int .i64 o1, .string kd, .string nm, .slice va vn vc, .slice ka kn kc])) (((((w0.setCell ⟨gz, 0, none⟩ (.int .i64 o1)).setCell ⟨gz, 1, none⟩ (.string kd)).setCell ⟨gz, 2, none⟩ (.string nm)).setCell ⟨gz, 3, none⟩ (.slice va vn vc)).setCell ⟨gz, 4, none⟩ (.slice ka kn kc)) from
      ⟨hB0.out.grown (grown5 w0 gz _ _ _ _ _) hB0.out.size (fun k e => by cases e; exact hgz'), _, rfl, fun N h2 _ => by rw [hx1]; exact hE.mono h2⟩)
    clear hE hx1 hone
    go_wp2
    refine bodyPost_ret (v := .agg #[.int .i64 o1, .string kd, .string nm, .slice va vn vc, .slice ka kn kc]) (by simp [results, Tryz.results50, go_sem, *]) rfl ?_
    exact hF.out
  have hb1 : ((xs.length : Int) == 1) = false := beq_eq_false_iff_ne.2 (by omega)
  have hx1 := Lib.hid (show joinE op xs = .mk op [] [] [] (flatL op xs) from by
    match xs, hone with
    | [], _ => rfl
    | [x], h => exact absurd rfl h
    | x :: y :: r, _ => rfl)
  clear hone
  have he1 := Lib.hid (Own.new w0 #[.int .i64 op, .string ⟨#[]⟩, .string ⟨#[]⟩, .slice none 0 0, .slice none 0 0] 31)
  have hz1 := Lib.hid (hz.out.alloc (.cells #[.int .i64 op, .string ⟨#[]⟩, .string ⟨#[]⟩, .slice none 0 0, .slice none 0 0] 31))
  have hB1 := Lib.hid (hB0.out.alloc hB0.out.size (.cells #[.int .i64 op, .string ⟨#[]⟩, .string ⟨#[]⟩, .slice none 0 0, .slice none 0 0] 31))
  clear hz hB0 hs0
  go_wp2_with fail
  generalize w0.alloc (.cells #[.int .i64 op, .string ⟨#[]⟩, .string ⟨#[]⟩, .slice none 0 0, .slice none 0 0] 31) = w1 at he1 hz1 hB1 ⊢
  obtain ⟨eb, heb⟩ : ∃ z : Nat, Hid (z = w0.heap.size) := ⟨_, Lib.hid rfl⟩
  rw [← heb.out] at he1 hzl ⊢
  go_loopw [6] (fun s6 wr => ∃ (k : Nat) (rk : List (List Value)) (kva : Option Addr) (kvc : Nat), k ≤ xs.length ∧ s6 = .int .i64 k ∧ Hid (Own wr eb #[.int .i64 op, .string ⟨#[]⟩, .string ⟨#[]⟩, .slice none 0 0, .slice kva rk.length kvc] 31) ∧ Hid (Own wr gz #[.int .i64 0, .string ⟨#[]⟩, .string ⟨#[]⟩, .slice none 0 0, .slice none 0 0] 31) ∧
    Hid (RO 31 5 (eb + 1) (.slice kva rk.length kvc) rk wr) ∧ Hid (KidsAt m (flatL op (xs.take k)) rk) ∧ Hid (Below w.heap.size w wr)) (fun s6 _ => xs.length - (intOf s6).toNat)
  case atStart => exact ⟨0, [], none, 0, Nat.zero_le _, rfl, he1, hz1, Lib.hid (ro_nil _ _ _ _), Lib.hid (KidsAt.nil _), hB1⟩
  case round =>
    clear he1 hz1 hB1
    obtain ⟨k, rk, kva, kvc, hk1, rfl, he, hz, hRO, hA, hB⟩ := hrel
    obtain ⟨e0, e1, e2, e3, e4, -, -, -, -, ef4⟩ := own5z he.out
    have hel := he.out.lt
    have h5 := Lib.hid hA.out.five
    have hal : (flatL op (xs.take k)).length = rk.length := hA.out.1.symm
    have hfl := flat_le (op := op) (l := xs) k
    by_cases hlt : k < xs.length
    case neg =>
      have n1 : ¬ (k : Int) < (xs.length : Int) := by omega
      have hk2 : xs.take k = xs := List.take_of_length_le (by omega)
      rw [hk2] at hA
      obtain ⟨z0, z1, z2, z3, z4, f0, f1, f2, f3, f4⟩ := own5z hz.out
      have hzl' := hz.out.lt
      have hF := Lib.hid (show JoinIs m op xs w (.returned (.agg #[.int .i64 op, .string ⟨#[]⟩, .string ⟨#[]⟩, .slice none 0 0, .slice kva rk.length kvc])) (((((wr.setCell ⟨gz, 0, none⟩ (.int .i64 op)).setCell ⟨gz, 1, none⟩ (.string ⟨#[]⟩)).setCell ⟨gz, 2, none⟩ (.string ⟨#[]⟩)).setCell ⟨gz, 3, none⟩ (.slice none 0 0)).setCell ⟨gz, 4, none⟩ (.slice kva rk.length kvc)) from by
        refine ⟨hB.out.grown (grown5 wr gz _ _ _ _ _) hB.out.size (fun k e => by cases e; exact hgz'), _, rfl, fun N h2 h3 => ?_⟩
        rw [hx1.out]
        have hgr := grown5 wr gz (.int .i64 op) (.string ⟨#[]⟩) (.string ⟨#[]⟩) (.slice none 0 0) (.slice kva rk.length kvc)
        have hRO2 := hRO.out.kept hgr (fun y e => by cases e; omega)
        refine ExAt.make (op := op) (kd := ⟨#[]⟩) (nm := ⟨#[]⟩) (vals := []) (rows_nil _ _) (fun _ hv => (List.not_mem_nil hv).elim) ((hRO2.new (g := eb) h5.out (by omega)).mono ?_) (hA.out.mono h2)
        refine Sub.trans ?_ h3
        intro p v hp
        have h4 := nex_some hp
        exact nex_mk (by have := h4.1; omega) (by simp) h4.2.2)
      clear hRO hA hB hal hfl h5 hk2
      go_wp2
      refine bodyPost_ret (v := .agg #[.int .i64 op, .string ⟨#[]⟩, .string ⟨#[]⟩, .slice none 0 0, .slice kva rk.length kvc]) (by simp [results, Tryz.results50, go_sem, *]) rfl ?_
      exact hF.out
    obtain ⟨blk, off, o1, kd, nm, va, vn, vc, ka, kn, kc, rfl, c0, c1, c2, c3, c4, hE⟩ := kids_get hR.out hX.out hlt
    have hfs := flat_step (op := op) hlt
    have hfl2 := flat_le (op := op) (l := xs) (k + 1)
    rw [hfs, List.length_append] at hfl2
    have n0 : (0 : Int) ≤ (k : Int) := by omega
    have n1 : (k : Int) < (xs.length : Int) := by omega
    have hsub := Lib.hid (hs.out.trans (sub_of_below hB.out))
    obtain ⟨hxop, RK, hRK, hKK⟩ := ex_kids hE
    have hkn := (rows_len hRK).1
    have hxl := hKK.1
    generalize xs[k] = x at *
    replace c0 := hsub.out _ _ c0
    replace c1 := hsub.out _ _ c1
    replace c2 := hsub.out _ _ c2
    replace c3 := hsub.out _ _ c3
    replace c4 := hsub.out _ _ c4
    have hbl : blk < wr.heap.size := World.block_lt_of_cell? wr _ c0
    cases ho : (o1 == op) with
    | true =>
      have hflx : flatE op x = x.kids := by unfold flatE; rw [if_pos (by rw [hxop]; exact eq_of_beq ho)]
      have hA' := Lib.hid (show KidsAt m (flatL op (xs.take (k + 1))) (rk ++ RK) by rw [hfs, hflx]; exact hA.out.append hKK)
      have hsum : rk.length + kn ≤ 1099511627776 := by rw [hflx] at hfl2; omega
      have hRKd := Lib.hid (show RowsAt wr.drew.cell? 5 (.slice ka kn kc) RK from hRK.mono hsub.out)
      have h5k := Lib.hid hKK.five
      have h1k := Lib.hid hKK.flat1
      have hRd := Lib.hid (hRO.out.kept (grown_drew wr none) (fun y e => by cases e))
      have hed := Lib.hid (show Own wr.drew eb #[.int .i64 op, .string ⟨#[]⟩, .string ⟨#[]⟩, .slice none 0 0, .slice kva rk.length kvc] 31 from he.out.kept (grown_drew wr none) (by simp))
      have hzd := Lib.hid (hz.out.kept (grown_drew wr none) (by simp))
      have hBd := Lib.hid (hB.out.grown (grown_drew wr none) hB.out.size (fun k e => by cases e))
      have hsz : eb + 1 ≤ wr.drew.heap.size := hel
      have hown := Lib.hid hRd.out.out.lt
      clear hRK hKK hxop hflx hE hRO he hz hB hA hfs hfl hfl2 hal
      go_wp2_with fail
      go_region_law ((first
        | (refine step_append_exp rfl _ _ rfl (eb + 1) kva rk.length kvc rk rfl hRd.out h5.out rfl ka kn kc RK rfl hRKd.out h5k.out h1k.out hsum hsz ?_; intro va' vc' w5 hR5 hn5 hg5 hat5; replace hR5 := Lib.hid hR5; replace hn5 := Lib.hid hn5; clear hat5; have hO5 := Lib.hid (hed.out.kept hg5 (fun e => by have := (hown.out eb e).1; omega)); have hz5 := Lib.hid (hzd.out.kept hg5 (fun e => by have := (hown.out gz e).1; omega)); have hB5 := Lib.hid (hBd.out.grown hg5 hBd.out.size (fun i e => by have := (hown.out i e).1; omega)); replace hg5 := Lib.hid hg5; have o45 := hO5.out.cell 4; have of45 := hO5.out.free 4; have ol5 := hO5.out.lt; simp only [List.getElem?_toArray, List.getElem?_cons_succ, List.getElem?_cons_zero] at o45)
        | go_simp))
      all_goals
        have h5n := Lib.hid (show ∀ r ∈ rk ++ RK, r.length = 5 from fun r hr => (List.mem_append.1 hr).elim (h5.out r) (h5k.out r))
        generalize hrw : rk ++ RK = rows' at hR5 hA' hn5 h5n
        clear hrw
        rw [hn5.out] at hR5
        have hO6 := Lib.hid (show Own (w5.setCell ⟨eb, 4, none⟩ (.slice va' (rk.length + kn) vc')) eb #[.int .i64 op, .string ⟨#[]⟩, .string ⟨#[]⟩, .slice none 0 0, .slice va' rows'.length vc'] 31 from by have := hO5.out.set 4 (.slice va' (rk.length + kn) vc'); rw [hn5.out] at this ⊢; exact this)
        have hz6 := Lib.hid (hz5.out.setOther (p := ⟨eb, 4, none⟩) (by simp; omega) (.slice va' (rk.length + kn) vc'))
        have hR6 := Lib.hid (hR5.out.set (q := eb) (i := 4) (by omega) (.slice va' (rk.length + kn) vc'))
        have hB6 := Lib.hid (hB5.out.grown (grown_setCell w5 eb 4 (.slice va' (rk.length + kn) vc')) hB5.out.size (fun i e => by cases e; omega))
        clear hO5 hz5 hR5 hB5 hRd hed hzd hBd hown hg5 hRKd h5k h1k
        go_wp2
        go_roundw
        case rel => exact ⟨k + 1, rows', va', vc', by omega, by go_num, hO6, hz6, hR6, hA', hB6⟩
        case measure => simp [intOf]; omega
    | false =>
      have hflx : flatE op x = [x] := by unfold flatE; rw [if_neg (by rw [hxop]; intro e; rw [e] at ho; simp at ho)]
      have hA' := Lib.hid (show KidsAt m (flatL op (xs.take (k + 1))) (rk ++ [[Value.int .i64 o1, .string kd, .string nm, .slice va vn vc, .slice ka kn kc]]) by rw [hfs, hflx]; exact hA.out.append (KidsAt.one hE))
      have hsum : rk.length + 1 ≤ 1099511627776 := by rw [hflx, List.length_singleton] at hfl2; omega
      have h1k := Lib.hid (show ∀ u ∈ ([[Value.int .i64 o1, .string kd, .string nm, .slice va vn vc, .slice ka kn kc]] : List (List Value)).flatten, u.oneCell' = true from fun u hu => (KidsAt.one hE).flat1 u hu)
      have hrow := Lib.hid (lit_rows (sz := 5) (w := wr.drew.alloc (.cells #[Value.int .i64 o1, .string kd, .string nm, .slice va vn vc, .slice ka kn kc] 31)) (g := wr.heap.size) (cs := [Value.int .i64 o1, .string kd, .string nm, .slice va vn vc, .slice ka kn kc]) (fun j => by rw [show wr.heap.size = wr.drew.heap.size from rfl, (Own.new wr.drew #[Value.int .i64 o1, .string kd, .string nm, .slice va vn vc, .slice ka kn kc] 31).cell j]; simp))
      have hgd := g_call (grown_drew wr none) (World.grownBy_alloc wr.drew (.cells #[Value.int .i64 o1, .string kd, .string nm, .slice va vn vc, .slice ka kn kc] 31) none)
      have hRd := Lib.hid (hRO.out.kept hgd (fun y e => by cases e))
      have hed := Lib.hid (he.out.kept hgd (by simp))
      have hzd := Lib.hid (hz.out.kept hgd (by simp))
      have hBd := Lib.hid (hB.out.grown hgd hB.out.size (fun k e => by cases e))
      have hsz : eb + 1 ≤ (wr.drew.alloc (.cells #[Value.int .i64 o1, .string kd, .string nm, .slice va vn vc, .slice ka kn kc] 31)).heap.size := by rw [World.size_alloc]; show eb + 1 ≤ wr.heap.size + 1; omega
      clear hgd
      have hown := Lib.hid hRd.out.out.lt
      clear hRK hKK hxop hflx hE hRO he hz hB hA hfs hfl hfl2 hal
      go_wp2_with fail
      go_region_law ((first
        | (refine step_append_exp rfl _ _ rfl (eb + 1) kva rk.length kvc rk rfl hRd.out h5.out rfl _ 1 1 [[Value.int .i64 o1, .string kd, .string nm, .slice va vn vc, .slice ka kn kc]] rfl hrow.out (by intro r hr; rw [List.mem_singleton.1 hr]; rfl) h1k.out hsum hsz ?_; intro va' vc' w5 hR5 hn5 hg5 hat5; replace hR5 := Lib.hid hR5; replace hn5 := Lib.hid hn5; clear hat5; have hO5 := Lib.hid (hed.out.kept hg5 (fun e => by have := (hown.out eb e).1; omega)); have hz5 := Lib.hid (hzd.out.kept hg5 (fun e => by have := (hown.out gz e).1; omega)); have hB5 := Lib.hid (hBd.out.grown hg5 hBd.out.size (fun i e => by have := (hown.out i e).1; omega)); replace hg5 := Lib.hid hg5; have o45 := hO5.out.cell 4; have of45 := hO5.out.free 4; have ol5 := hO5.out.lt; simp only [List.getElem?_toArray, List.getElem?_cons_succ, List.getElem?_cons_zero] at o45)
        | go_simp))
      all_goals
        have h5n := Lib.hid (show ∀ r ∈ rk ++ [[Value.int .i64 o1, .string kd, .string nm, .slice va vn vc, .slice ka kn kc]], r.length = 5 from fun r hr => (List.mem_append.1 hr).elim (h5.out r) (fun h => by rw [List.mem_singleton.1 h]; rfl))
        generalize hrw : rk ++ [[Value.int .i64 o1, .string kd, .string nm, .slice va vn vc, .slice ka kn kc]] = rows' at hR5 hA' hn5 h5n
        clear hrw
        rw [hn5.out] at hR5
        have hO6 := Lib.hid (show Own (w5.setCell ⟨eb, 4, none⟩ (.slice va' (rk.length + 1) vc')) eb #[.int .i64 op, .string ⟨#[]⟩, .string ⟨#[]⟩, .slice none 0 0, .slice va' rows'.length vc'] 31 from by have := hO5.out.set 4 (.slice va' (rk.length + 1) vc'); rw [hn5.out] at this ⊢; exact this)
        have hz6 := Lib.hid (hz5.out.setOther (p := ⟨eb, 4, none⟩) (by simp; omega) (.slice va' (rk.length + 1) vc'))
        have hR6 := Lib.hid (hR5.out.set (q := eb) (i := 4) (by omega) (.slice va' (rk.length + 1) vc'))
        have hB6 := Lib.hid (hB5.out.grown (grown_setCell w5 eb 4 (.slice va' (rk.length + 1) vc')) hB5.out.size (fun i e => by cases e; omega))
        clear hO5 hz5 hR5 hB5 hRd hed hzd hBd hown hg5 hrow h1k
        go_wp2
        go_roundw
        case rel => exact ⟨k + 1, rows', va', vc', by omega, by go_num, hO6, hz6, hR6, hA', hB6⟩
        case measure => simp [intOf]; omega

end Go.Proofs.YtfffpflflggonaaGreatDoor.src

namespace Go.Proofs.YtfffpflflggonaaGreatDoor.text

end Go.Proofs.YtfffpflflggonaaGreatDoor.text
namespace Go.Proofs.YtfffpflflggonaaGreatDoor.value
open Go.Proofs.YtfffpflflggonaaGreatDoor.text

end Go.Proofs.YtfffpflflggonaaGreatDoor.value

namespace Go.Proofs.YtfffpflflggonaaGreatDoor.lex
open Go.Proofs.YtfffpflflggonaaGreatDoor.text Go.Proofs.YtfffpflflggonaaGreatDoor.value

end Go.Proofs.YtfffpflflggonaaGreatDoor.lex

namespace Go.Proofs.YtfffpflflggonaaGreatDoor.lex
open Go.Proofs.YtfffpflflggonaaGreatDoor.text Go.Proofs.YtfffpflflggonaaGreatDoor.value

/-- A text does not begin with a byte of a set. -/
def hdN (p : UInt8 → Bool) : List UInt8 → Bool
  | [] => true
  | c :: _ => !p c
theorem span_stop {p : UInt8 → Bool} : ∀ (l r : List UInt8), l.all p = true → hdN p r = true → spanN p (l ++ r) = l.length
  | [], [], _, _ => rfl
  | [], c :: r, _, h => by
    show spanN p (c :: r) = 0
    rw [spanN, if_neg (by unfold hdN at h; simpa using h)]
  | c :: l, r, h, h2 => by
    rw [List.all_cons, Bool.and_eq_true] at h
    show spanN p (c :: (l ++ r)) = _
    rw [spanN, if_pos h.1, span_stop l r h.2 h2, List.length_cons]
    omega
theorem take_one_len (c : UInt8) (l r : List UInt8) : (c :: (l ++ r)).take (1 + l.length) = c :: l := by
  rw [Nat.add_comm, List.take_succ_cons, List.take_left]
theorem drop_one_len (c : UInt8) (l r : List UInt8) : (c :: (l ++ r)).drop (1 + l.length) = r := by
  rw [Nat.add_comm, List.drop_succ_cons, List.drop_left]
theorem let_tokB {c : UInt8} (h : letB c = true) : tokB c := by
  unfold letB at h
  simp only [Bool.and_eq_true, decide_eq_true_eq] at h
  exact ⟨by omega, by omega, by omega, by omega⟩
theorem sign_mem {c : UInt8} (h : signB c = true) : c.toNat = 123 ∨ c.toNat = 125 ∨ c.toNat = 40 ∨ c.toNat = 41 ∨ c.toNat = 91 ∨ c.toNat = 93 ∨ c.toNat = 44 ∨ c.toNat = 46 ∨ c.toNat = 60 ∨ c.toNat = 62 := by
  unfold signB at h; simpa using h
theorem sign_tokB {c : UInt8} (h : signB c = true) : tokB c := by
  have := sign_mem h
  exact ⟨by omega, by omega, by omega, by omega⟩
theorem tok_word {c : UInt8} {w r : List UInt8} {L : Int} (h : letB c = true) (hw : w.all wordB = true) (hr : hdN wordB r = true) : tokS (c :: w ++ r) L = preT [⟨1, c :: w, 0, L⟩] (tokS r L) := by
  show tokS (c :: (w ++ r)) L = _
  have hx := nx_word (c := c) (r := w ++ r) h
  rw [span_stop w r hw hr, take_one_len] at hx
  rw [tokS_tok (let_tokB h) hx, drop_one_len]
theorem tok_sign {c : UInt8} {r : List UInt8} {L : Int} (h : signB c = true) (hn : ((decide (c.toNat = 60) || decide (c.toNat = 62)) && eqB r) = false) : tokS (c :: r) L = preT [⟨5, [c], 0, L⟩] (tokS r L) := by
  have hx := nx_sign (c := c) (r := r) h
  rw [if_neg (by rw [hn]; decide)] at hx
  rw [tokS_tok (sign_tokB h) hx]
  rfl
end Go.Proofs.YtfffpflflggonaaGreatDoor.lex

namespace Go.Proofs.YtfffpflflggonaaGreatDoor.src
open Go.Proofs.YtfffpflflggonaaGreatDoor.lex Go.Proofs.YtfffpflflggonaaGreatDoor.value Go.Proofs.YtfffpflflggonaaGreatDoor.text

def tkNot : Tok := ⟨1, sNot, 0, 1⟩
def tkLp : Tok := ⟨5, sLp, 0, 1⟩
def tkRp : Tok := ⟨5, sRp, 0, 1⟩
def tkEnd : Tok := ⟨6, [], 0, 1⟩
def tkOf (b : Bool) : Tok := if b then tkNot else tkLp
def sUser : List UInt8 := [117, 115, 101, 114]
def sAge : List UInt8 := [97, 103, 101]
def sExists : List UInt8 := [101, 120, 105, 115, 116, 115]
def baseT : List Tok := [⟨1, sUser, 0, 1⟩, ⟨5, sDot, 0, 1⟩, ⟨1, sAge, 0, 1⟩, ⟨1, sExists, 0, 1⟩]
/-- How many parentheses are to be closed. -/
def closeN : List Bool → Nat
  | [] => 0
  | b :: l => (if b then 0 else 1) + closeN l
/-- The negations and parentheses ahead. -/
def preN : List Bool → List UInt8
  | [] => []
  | b :: l => (if b then [110, 111, 116, 32] else [40]) ++ preN l
def userAge : List UInt8 := [117, 115, 101, 114, 46, 97, 103, 101, 32, 101, 120, 105, 115, 116, 115]
def nestS (l : List Bool) : List UInt8 := preN l ++ (userAge ++ List.replicate (closeN l) 41)
theorem preN_add : ∀ (l : List Bool) (b : Bool), preN (l ++ [b]) = preN l ++ (if b then [110, 111, 116, 32] else [40])
  | [], b => by show _ ++ [] = _; rw [List.append_nil]; rfl
  | a :: l, b => by show _ ++ preN (l ++ [b]) = (_ ++ preN l) ++ _; rw [preN_add l b, List.append_assoc]
theorem closeN_add : ∀ (l : List Bool) (b : Bool), closeN (l ++ [b]) = closeN l + (if b then 0 else 1)
  | [], b => by show _ + 0 = 0 + _; omega
  | a :: l, b => by show _ + closeN (l ++ [b]) = (_ + closeN l) + _; rw [closeN_add l b]; omega
theorem preN_len : ∀ l : List Bool, (preN l).length ≤ 4 * l.length
  | [] => Nat.le_refl _
  | b :: l => by
    have := preN_len l
    show ((if b then _ else _) ++ preN l).length ≤ 4 * (l.length + 1)
    cases b <;> simp <;> omega
theorem closeN_le : ∀ l : List Bool, closeN l ≤ l.length
  | [] => Nat.le_refl _
  | b :: l => by
    have := closeN_le l
    show (if b then 0 else 1) + closeN l ≤ l.length + 1
    cases b <;> simp <;> omega
theorem nestS_len (l : List Bool) : (nestS l).length ≤ 5 * l.length + 15 := by
  have h1 := preN_len l
  have h2 := closeN_le l
  unfold nestS userAge
  simp only [List.length_append, List.length_cons, List.length_nil, List.length_replicate]
  omega

theorem tok_close : ∀ k : Nat, tokS (List.replicate k 41) 1 = .ok (List.replicate k tkRp ++ [tkEnd])
  | 0 => rfl
  | k + 1 => by
    rw [List.replicate_succ, tok_sign (by decide) rfl, tok_close k]
    rfl
theorem tok_base {x : List UInt8} (h : hdN wordB x = true) {ts : List Tok} (hx : tokS x 1 = .ok ts) : tokS (userAge ++ x) 1 = .ok (baseT ++ ts) := by
  have e : userAge ++ x = 117 :: [115, 101, 114] ++ (46 :: (97 :: [103, 101] ++ (32 :: (101 :: [120, 105, 115, 116, 115] ++ x)))) := rfl
  rw [e, tok_word (by decide) (by decide) rfl, tok_sign (by decide) rfl, tok_word (by decide) (by decide) rfl, tokS_sp (Or.inl rfl), tok_word (by decide) (by decide) h, hx]
  rfl
theorem tok_pre {x : List UInt8} {ts : List Tok} (hx : tokS x 1 = .ok ts) : ∀ l : List Bool, tokS (preN l ++ x) 1 = .ok (l.map tkOf ++ ts)
  | [] => hx
  | true :: l => by
    have e : preN (true :: l) ++ x = 110 :: [111, 116] ++ (32 :: (preN l ++ x)) := rfl
    rw [e, tok_word (by decide) (by decide) rfl, tokS_sp (Or.inl rfl), tok_pre hx l]
    rfl
  | false :: l => by
    have e : preN (false :: l) ++ x = 40 :: (preN l ++ x) := rfl
    rw [e, tok_sign (by decide) rfl, tok_pre hx l]
    rfl
theorem hd_close (k : Nat) : hdN wordB (List.replicate k 41) = true := by cases k <;> rfl
theorem nest_toks (l : List Bool) (hl : l.length ≤ 1000) : toksS (nestS l) = .ok (l.map tkOf ++ (baseT ++ (List.replicate (closeN l) tkRp ++ [tkEnd]))) := by
  rw [toksS_ok (by have := nestS_len l; omega)]
  exact tok_pre (tok_base (hd_close _) (tok_close _)) l

/-- The condition. -/
def nestE : List Bool → PE
  | [] => .mk 6 sUser sAge [] []
  | true :: l => .mk 4 [] [] [] [nestE l]
  | false :: l => nestE l
theorem not_base (f o : Nat) (r : List Tok) : notF (f + 1) o (baseT ++ r) = .ok (.mk 6 sUser sAge [] [], r) := by
  show notF (f + 1) o (⟨1, sUser, 0, 1⟩ :: (⟨5, sDot, 0, 1⟩ :: ⟨1, sAge, 0, 1⟩ :: ⟨1, sExists, 0, 1⟩ :: r)) = _
  rw [notF, if_neg (by decide), if_neg (by decide)]
  rfl
theorem not_go {f o : Nat} {l : List Bool} {r : List Tok} {x : R PE} (h : notF f (o + 1) (l.map tkOf ++ r) = x) (ho : ¬ 100 < o) :
    notF (f + 1) o ((true :: l).map tkOf ++ r) = bnd x fun y q => .ok (.mk 4 [] [] [] [y], q) := by
  show notF (f + 1) o (tkNot :: (l.map tkOf ++ r)) = _
  rw [notF, if_pos (by decide), if_neg ho, h]
theorem par_go {f o : Nat} {l : List Bool} {r : List Tok} (ho : ¬ 100 < o) :
    notF (f + 1) o ((false :: l).map tkOf ++ r) = bnd (chainF (chainF (notF f (o + 1)) 2 sAnd f) 3 sOr f (l.map tkOf ++ r)) fun x r' => bnd (needS sRp r') fun _ r'' => .ok (x, r'') := by
  show notF (f + 1) o (tkLp :: (l.map tkOf ++ r)) = _
  rw [notF, if_neg (by decide), if_pos (by decide), if_neg ho]
theorem over {f o : Nat} (b : Bool) {l : List Bool} {r : List Tok} (ho : 100 < o) : notF (f + 1) o ((b :: l).map tkOf ++ r) = .error (18, 1) := by
  cases b with
  | true =>
    show notF (f + 1) o (tkNot :: (l.map tkOf ++ r)) = _
    rw [notF, if_pos (by decide), if_pos ho]
    rfl
  | false =>
    show notF (f + 1) o (tkLp :: (l.map tkOf ++ r)) = _
    rw [notF, if_neg (by decide), if_pos (by decide), if_pos ho]
    rfl
/-- Neither word follows. -/
def plainT (r : List Tok) : Prop := isN sAnd r = false ∧ isN sOr r = false
theorem chain_one {part : List Tok → R PE} {op : Int} {word : List UInt8} {f : Nat} {ts : List Tok} {x : PE} {r : List Tok} (h : part ts = .ok (x, r)) (hw : isN word r = false) : chainF part op word f ts = .ok (x, r) := by
  rw [chainF, h, bnd_ok, if_neg (by rw [hw]; decide)]
theorem chain_bad {part : List Tok → R PE} {op : Int} {word : List UInt8} {f : Nat} {ts : List Tok} {e : Int × Int} (h : part ts = .error e) : chainF part op word f ts = .error e := by
  rw [chainF, h, bnd_err]
theorem nest_not : ∀ (l : List Bool) (f o : Nat) (r : List Tok), l.length < f → o + l.length ≤ 101 → plainT r → notF f o (l.map tkOf ++ (baseT ++ (List.replicate (closeN l) tkRp ++ r))) = .ok (nestE l, r)
  | [], 0, o, r, hf, _, _ => absurd hf (Nat.not_lt_zero _)
  | [], f + 1, o, r, _, _, _ => not_base f o r
  | b :: l, 0, o, r, hf, _, _ => absurd hf (Nat.not_lt_zero _)
  | true :: l, f + 1, o, r, hf, ho, hr => by
    rw [List.length_cons] at hf ho
    have ih := nest_not l f (o + 1) r (by omega) (by omega) hr
    have e : closeN (true :: l) = closeN l := Nat.zero_add _
    rw [e, not_go ih (by omega), bnd_ok]
    rfl
  | false :: l, f + 1, o, r, hf, ho, hr => by
    rw [List.length_cons] at hf ho
    have ih := nest_not l f (o + 1) (tkRp :: r) (by omega) (by omega) ⟨rfl, rfl⟩
    have e : List.replicate (closeN (false :: l)) tkRp ++ r = List.replicate (closeN l) tkRp ++ (tkRp :: r) := by
      rw [show closeN (false :: l) = closeN l + 1 from Nat.add_comm _ _, List.replicate_succ', List.append_assoc]
      rfl
    rw [e, par_go (by omega), chain_one (chain_one ih rfl) rfl, bnd_ok]
    rfl
theorem nest_over : ∀ (l : List Bool) (f o : Nat) (r : List Tok), l.length < f → o ≤ 101 → 101 < o + l.length → notF f o (l.map tkOf ++ r) = .error (18, 1)
  | [], f, o, r, _, h1, h2 => absurd h2 (by simp; omega)
  | b :: l, 0, o, r, hf, _, _ => absurd hf (Nat.not_lt_zero _)
  | b :: l, f + 1, o, r, hf, h1, h2 => by
    rw [List.length_cons] at hf h2
    by_cases ho : 100 < o
    · exact over b ho
    · have ih := nest_over l f (o + 1) r (by omega) (by omega) (by omega)
      cases b with
      | true => rw [not_go ih ho, bnd_err]
      | false => rw [par_go ho, chain_bad (chain_bad ih), bnd_err]
/-- What reading such a text gives. -/
theorem nest_read (l : List Bool) (hl : l.length ≤ 1000) : (l.length ≤ 101 → readS (nestS l) = if formS (nestE l) = 0 then .ok (nestE l) else .error (formS (nestE l), 0)) ∧ (101 < l.length → readS (nestS l) = .error (18, 1)) := by
  have hT := nest_toks l hl
  obtain ⟨ts, hts⟩ : ∃ ts, ts = l.map tkOf ++ (baseT ++ (List.replicate (closeN l) tkRp ++ [tkEnd])) := ⟨_, rfl⟩
  have hlen : l.length < ts.length := by
    rw [hts]
    simp only [List.length_append, List.length_map, baseT, List.length_cons, List.length_nil]
    omega
  rw [← hts] at hT
  refine ⟨fun h => ?_, fun h => ?_⟩
  · have h1 := nest_not l ts.length 0 [tkEnd] hlen (by omega) ⟨rfl, rfl⟩
    rw [← hts] at h1
    have hc : condS ts = .ok (nestE l, []) := by
      rw [condS, orF, chain_one (chain_one h1 rfl) rfl, bnd_ok]
      rfl
    rw [readS, hT]
    simp only
    rw [hc]
  · have h1 := nest_over l ts.length 0 (baseT ++ (List.replicate (closeN l) tkRp ++ [tkEnd])) hlen (by omega) (by omega)
    rw [← hts] at h1
    have hc : condS ts = .error (18, 1) := by rw [condS, orF, chain_bad (chain_bad h1), bnd_err]
    rw [readS, hT]
    simp only
    rw [hc]

end Go.Proofs.YtfffpflflggonaaGreatDoor.src
