/- The condition of a source text: the reference's ParseExpr. -/
import Derived.Test.YtfffpflflggonaaGreatDoorKRfJ
import Derived.Test.YtfffpflflggonaaGreatDoorKS42
import Derived.Test.YtfffpflflggonaaGreatDoorKS31
import Derived.Test.YtfffpflflggonaaGreatDoorKS42
import Derived.Test.YtfffpflflggonaaGreatDoorKLexG
namespace Go.Proofs.YtfffpflflggonaaGreatDoor.src
open Go.RowKit Go.Proofs.YtfffpflflggonaaGreatDoor Go.Proofs.YtfffpflflggonaaGreatDoor.lex Go.Proofs.YtfffpflflggonaaGreatDoor.value Go.Proofs.YtfffpflflggonaaGreatDoor.text Go.Proofs.YtfffpflflggonaaGreatDoor.schema Go.Proofs.YtfffpflflggonaaGreatDoor.draw Go.Proofs.YtfffpflflggonaaGreatDoor.clause

mutual
theorem nm_data : ∀ {d : ED}, NmE (pe d) → NmD d
  | .mk op kind name vals kids, h => by
    rw [pe, NmE] at h
    rw [NmD]
    have e1 : kind.data.toList.length = kind.size := by simp
    have e2 : name.data.toList.length = name.size := by simp
    refine ⟨?_, ?_, nm_dataL h.2.2⟩
    · have := h.1; unfold maxLen; omega
    · have := h.2.1; unfold maxLen; omega
theorem nm_dataL : ∀ {l : List ED}, NmEL (peL l) → NmDL l
  | [], _ => trivial
  | k :: r, h => by
    rw [peL, NmEL] at h
    exact ⟨nm_data h.1, nm_dataL h.2⟩
end
section
variable {M : Mem} {T : List Tok} {tb to' tc : Nat}
/-- What the parser's block says behind the end. -/
def REndIs (g : Nat) (r : R Tok) (w : World) : Prop := ∃ (p o : Int) (L q : Int) (tv : Value), Own w g #[tv, .int .i64 p, .int .i64 o, .int .i64 q, .int .i64 L, .string ⟨#[]⟩, .string ⟨#[]⟩, .int .i64 0, .slice none 0 0, .slice none 0 0, .slice none 0 0, .slice none 0 0, .slice none 0 0, .bool false] 71 ∧ match r with
  | .ok _ => L = 0 ∧ q = 0
  | .error e => e = (q, L) ∧ q ≠ 0

set_option maxRecDepth 100000 in
set_option maxHeartbeats 4000000 in
theorem rany_end (hK : TokM M T tb to' tc) (g o : Nat) (w : World) (s : PS) (hM : Sub M (but g w)) (h : RfP T tb to' tc g w o s) :
    Calls Tryz.prog 25 #[.pointer (some ⟨g, 0, none⟩), .int .i64 6] w fun e w' => (∃ v, e = .returned v) ∧ w.grownBy w' (some g) ∧ REndIs g (runS s (takeS 6)) w' := by
  have hz := Lib.hid (Own.new w #[.int .i64 0, .string ⟨#[]⟩, .int .i64 0, .int .i64 0] 61)
  have h0 := Lib.hid (h.alloc (.cells #[.int .i64 0, .string ⟨#[]⟩, .int .i64 0, .int .i64 0] 61))
  have hg0 := Lib.hid (World.grownBy_alloc w (.cells #[.int .i64 0, .string ⟨#[]⟩, .int .i64 0, .int .i64 0] 61) (some g))
  have hM0 := Lib.hid (sub_but_grown hM hg0.out)
  have hgl := h.lt
  clear h hM
  go_enter Tryz.func25, Tryz.ntmps25
  go_wp2_with fail
  generalize w.alloc (.cells #[.int .i64 0, .string ⟨#[]⟩, .int .i64 0, .int .i64 0] 61) = w0 at hz h0 hg0 hM0 ⊢
  obtain ⟨gz, hgz⟩ : ∃ z : Nat, Hid (z = w.heap.size) := ⟨_, Lib.hid rfl⟩
  rw [← hgz.out] at hz ⊢
  have hwz : w.heap.size ≤ gz := Nat.le_of_eq hgz.out.symm
  obtain ⟨p, q, L, hp, hO, hs⟩ := h0.out
  refine (rpeek_at hK g o _ hM0.out hp hO).mono ?_
  rintro e w1 ⟨rfl, hb⟩
  rw [row_arr]
  obtain ⟨t, ht⟩ : ∃ t, Hid (t = T[p]) := ⟨_, Lib.hid rfl⟩
  rw [← ht.out]
  have hba : Below w0.heap.size w0 (w1.alloc (.cells #[.int .i64 t.k, .string ⟨t.t.toArray⟩, .int .i64 t.n, .int .i64 t.line] 61)) := hb.alloc hb.size _
  have hO2 := Lib.hid (hO.below hba hO.lt)
  have hz2 := Lib.hid (hz.out.below hba hz.out.lt)
  have ht2 := Lib.hid (Own.new w1 #[.int .i64 t.k, .string ⟨t.t.toArray⟩, .int .i64 t.n, .int .i64 t.line] 61)
  have hg2 := Lib.hid (g_below hg0.out hba)
  have hzl : gz < w1.heap.size := Nat.lt_of_lt_of_le hz.out.lt hb.size
  clear hba hb h0 hz hM0 hg0 hO
  go_upto_region 2 with fail
  generalize w1.alloc (.cells #[.int .i64 t.k, .string ⟨t.t.toArray⟩, .int .i64 t.n, .int .i64 t.line] 61) = w2 at hO2 hz2 ht2 hg2 ⊢
  obtain ⟨gt, hgt⟩ : ∃ z : Nat, Hid (z = w1.heap.size) := ⟨_, Lib.hid rfl⟩
  rw [← hgt.out] at ht2 hzl ⊢
  have hgg : g < gt := by omega
  obtain ⟨t0, t1, t2, t3, -⟩ := own4z ht2.out
  have c1 := hO2.out.cell 1
  have c3 := hO2.out.cell 3
  have hl2 := hO2.out.lt
  simp only [List.getElem?_toArray, List.getElem?_cons_succ, List.getElem?_cons_zero] at c1 c3
  cases s with
  | error e =>
    obtain ⟨rfl, hq⟩ := hs
    have hq1 : (q == 0) = false := by simpa using hq
    have hq2 : (q != 0) = true := by simpa using hq
    obtain ⟨z0, z1, z2, z3, f0, f1, f2, f3⟩ := own4z hz2.out
    have hzl' := hz2.out.lt
    have hQ := Lib.hid (show (∃ v, (Ending.returned (.agg #[.int .i64 0, .string ⟨#[]⟩, .int .i64 0, .int .i64 0]) : Ending) = .returned v) ∧ w.grownBy ((((w2.setCell ⟨gz, 0, none⟩ (.int .i64 0)).setCell ⟨gz, 1, none⟩ (.string ⟨#[]⟩)).setCell ⟨gz, 2, none⟩ (.int .i64 0)).setCell ⟨gz, 3, none⟩ (.int .i64 0)) (some g) ∧ REndIs g (runS (.error (q, L)) (takeS 6)) ((((w2.setCell ⟨gz, 0, none⟩ (.int .i64 0)).setCell ⟨gz, 1, none⟩ (.string ⟨#[]⟩)).setCell ⟨gz, 2, none⟩ (.int .i64 0)).setCell ⟨gz, 3, none⟩ (.int .i64 0)) from
      ⟨⟨_, rfl⟩, g_setCell (g_setCell (g_setCell (g_setCell hg2.out (p := ⟨gz, 0, none⟩) (by simp; omega) _) (p := ⟨gz, 1, none⟩) (by simp; omega) _) (p := ⟨gz, 2, none⟩) (by simp; omega) _) (p := ⟨gz, 3, none⟩) (by simp; omega) _,
        p, o, L, q, _, (((hO2.out.setOther (p := ⟨gz, 0, none⟩) (by simp; omega) _).setOther (p := ⟨gz, 1, none⟩) (by simp; omega) _).setOther (p := ⟨gz, 2, none⟩) (by simp; omega) _).setOther (p := ⟨gz, 3, none⟩) (by simp; omega) _, rfl, hq⟩)
    clear hq
    go_wp2
    refine bodyPost_ret (v := .agg #[.int .i64 0, .string ⟨#[]⟩, .int .i64 0, .int .i64 0]) (by simp [results, Tryz.results25, go_sem, *]) rfl ?_
    exact hQ.out
  | ok ts =>
    obtain ⟨rfl, rfl, rfl⟩ := hs
    have hP2 := Lib.hid (show RfP T tb to' tc g w2 o (.ok (T.drop p)) from ⟨p, 0, 0, hp, hO2.out, rfl, rfl, rfl⟩)
    by_cases hk : t.k = 6
    case neg =>
      have hkn : (t.k != 6) = true := by simpa using hk
      have hr := Lib.hid (show runS (.ok (T.drop p)) (takeS 6) = .error (1, t.line) by rw [runS_ok, drop_at hp, takeS, ← ht.out, if_neg hk])
      clear hk
      go_wp2_with fail
      rw [← row_arr]
      refine (rfail_any g o _ _ hP2.out t 1 (by decide)).mono ?_
      rintro e w3 ⟨rfl, hg, hP⟩
      have hz3 := hz2.out.kept hg (by simp; omega)
      obtain ⟨p', q', L', hp', hO3, he, hq'⟩ := hP
      have hq1 : q' = 1 := by injection he with h1 h2; exact h1.symm
      subst hq1
      have d3 := hO3.cell 3
      have hl3 := hO3.lt
      simp only [List.getElem?_toArray, List.getElem?_cons_succ, List.getElem?_cons_zero] at d3
      obtain ⟨z0, z1, z2, z3, f0, f1, f2, f3⟩ := own4z hz3
      have hgz3 := hz3.lt
      have hQ := Lib.hid (show (∃ v, (Ending.returned (.agg #[.int .i64 0, .string ⟨#[]⟩, .int .i64 0, .int .i64 0]) : Ending) = .returned v) ∧ w.grownBy ((((w3.setCell ⟨gz, 0, none⟩ (.int .i64 0)).setCell ⟨gz, 1, none⟩ (.string ⟨#[]⟩)).setCell ⟨gz, 2, none⟩ (.int .i64 0)).setCell ⟨gz, 3, none⟩ (.int .i64 0)) (some g) ∧ REndIs g (runS (.ok (T.drop p)) (takeS 6)) ((((w3.setCell ⟨gz, 0, none⟩ (.int .i64 0)).setCell ⟨gz, 1, none⟩ (.string ⟨#[]⟩)).setCell ⟨gz, 2, none⟩ (.int .i64 0)).setCell ⟨gz, 3, none⟩ (.int .i64 0)) from by
        rw [hr.out]
        exact ⟨⟨_, rfl⟩, g_setCell (g_setCell (g_setCell (g_setCell (g_call hg2.out hg) (p := ⟨gz, 0, none⟩) (by simp; omega) _) (p := ⟨gz, 1, none⟩) (by simp; omega) _) (p := ⟨gz, 2, none⟩) (by simp; omega) _) (p := ⟨gz, 3, none⟩) (by simp; omega) _,
          p', o, L', 1, _, (((hO3.setOther (p := ⟨gz, 0, none⟩) (by simp; omega) _).setOther (p := ⟨gz, 1, none⟩) (by simp; omega) _).setOther (p := ⟨gz, 2, none⟩) (by simp; omega) _).setOther (p := ⟨gz, 3, none⟩) (by simp; omega) _, he, hq'⟩)
      clear hg hz3 hO3 he
      go_wp2
      refine bodyPost_ret (v := .agg #[.int .i64 0, .string ⟨#[]⟩, .int .i64 0, .int .i64 0]) (by simp [results, Tryz.results25, go_sem, *]) rfl ?_
      exact hQ.out
    case pos =>
      have hkf : (t.k != 6) = false := by simpa using hk
      have hr := Lib.hid (show runS (.ok (T.drop p)) (takeS 6) = .ok (t, T.drop (p + 1)) by rw [runS_ok, drop_at hp, takeS, ← ht.out, if_pos hk])
      have hw : IntKind.i64.wrap ((p : Int) + 1) = (p : Int) + 1 := by have := hK.few; rw [IntKind.wrap_i64]; omega
      have hgz' : g ≠ gz := by omega
      have hO3 := Lib.hid (hO2.out.set 1 (.int .i64 ((p : Int) + 1)))
      have hz3 := Lib.hid (hz2.out.setOther (p := ⟨g, 1, none⟩) (by simpa using hgz'.symm) (.int .i64 ((p : Int) + 1)))
      have ht3 := Lib.hid (ht2.out.setOther (p := ⟨g, 1, none⟩) (by simp; omega) (.int .i64 ((p : Int) + 1)))
      have hg3 := Lib.hid (g_call hg2.out (grown_setCell w2 g 1 (.int .i64 ((p : Int) + 1))))
      have f1 := hO2.out.free 1
      replace hk := Lib.hid hk
      clear hP2
      go_upto_region 7 with fail
      generalize w2.setCell ⟨g, 1, none⟩ (.int .i64 ((p : Int) + 1)) = w3 at hO3 hz3 ht3 hg3 ⊢
      clear t0 t1 t2 t3 c1 c3 f1
      obtain ⟨z0, z1, z2, z3, f0, f1, f2, f3⟩ := own4z hz3.out
      obtain ⟨t0, t1, t2, t3, -⟩ := own4z ht3.out
      have hgz3 := hz3.out.lt
      have hQ := Lib.hid (show (∃ v, (Ending.returned (.agg #[.int .i64 t.k, .string ⟨t.t.toArray⟩, .int .i64 t.n, .int .i64 t.line]) : Ending) = .returned v) ∧ w.grownBy ((((w3.setCell ⟨gz, 0, none⟩ (.int .i64 t.k)).setCell ⟨gz, 1, none⟩ (.string ⟨t.t.toArray⟩)).setCell ⟨gz, 2, none⟩ (.int .i64 t.n)).setCell ⟨gz, 3, none⟩ (.int .i64 t.line)) (some g) ∧ REndIs g (runS (.ok (T.drop p)) (takeS 6)) ((((w3.setCell ⟨gz, 0, none⟩ (.int .i64 t.k)).setCell ⟨gz, 1, none⟩ (.string ⟨t.t.toArray⟩)).setCell ⟨gz, 2, none⟩ (.int .i64 t.n)).setCell ⟨gz, 3, none⟩ (.int .i64 t.line)) from by
        rw [hr.out]
        exact ⟨⟨_, rfl⟩, g_setCell (g_setCell (g_setCell (g_setCell hg3.out (p := ⟨gz, 0, none⟩) (by simp; omega) _) (p := ⟨gz, 1, none⟩) (by simp; omega) _) (p := ⟨gz, 2, none⟩) (by simp; omega) _) (p := ⟨gz, 3, none⟩) (by simp; omega) _,
          (p : Int) + 1, o, 0, 0, _, (((hO3.out.setOther (p := ⟨gz, 0, none⟩) (by simp; omega) _).setOther (p := ⟨gz, 1, none⟩) (by simp; omega) _).setOther (p := ⟨gz, 2, none⟩) (by simp; omega) _).setOther (p := ⟨gz, 3, none⟩) (by simp; omega) _, rfl, rfl⟩)
      go_wp2
      refine bodyPost_ret (v := .agg #[.int .i64 t.k, .string ⟨t.t.toArray⟩, .int .i64 t.n, .int .i64 t.line]) (by simp [results, Tryz.results25, go_sem, *]) rfl ?_
      exact hQ.out
end

set_option maxRecDepth 100000 in
set_option maxHeartbeats 8000000 in
theorem parse_ref (s : ByteArray) (w : World) (hs : s.size ≤ 140737488355328) (hT : Tabs w) (hsp : SpaceTab w) :
    Calls Tryz.prog 10 #[.string s] w (ParseIs s.data.toList w) := by
  have hz := Lib.hid (Own.new w #[.int .i64 0, .string ⟨#[]⟩, .string ⟨#[]⟩, .slice none 0 0, .slice none 0 0] 31)
  have hB0 := (Below.refl w.heap.size w).alloc (Nat.le_refl _) (.cells #[.int .i64 0, .string ⟨#[]⟩, .string ⟨#[]⟩, .slice none 0 0, .slice none 0 0] 31)
  have hT0 := Lib.hid (hT.below hB0)
  replace hB0 := Lib.hid hB0
  replace hT := Lib.hid hT
  replace hsp := Lib.hid hsp
  go_enter Tryz.func10, Tryz.ntmps10
  go_wp2_with fail
  generalize w.alloc (.cells #[.int .i64 0, .string ⟨#[]⟩, .string ⟨#[]⟩, .slice none 0 0, .slice none 0 0] 31) = w0 at hz hB0 hT0 ⊢
  obtain ⟨gz, hgz⟩ : ∃ z : Nat, Hid (z = w.heap.size) := ⟨_, Lib.hid rfl⟩
  rw [← hgz.out] at hz ⊢
  have hgzw : w.heap.size ≤ gz := Nat.le_of_eq hgz.out.symm
  refine (tokens_ref s w0 hs hT0.out).mono ?_
  rintro e w1 ⟨hb, hm⟩
  have hzl0 := hz.out.lt
  have hz1 := Lib.hid (hz.out.below hb hzl0)
  have hB1 := Lib.hid (hB0.out.trans (hb.mono hB0.out.size))
  have hsz1 := hb.size
  clear hb hB0 hT0 hz
  cases ht : toksS s.data.toList with
  | error q =>
    rw [ht] at hm
    obtain ⟨q, L⟩ := q
    obtain rfl := hm
    have hqb : (q != 0) = true := by have := toks_err ht; simpa using this
    obtain ⟨z0, z1, z2, z3, z4, f0, f1, f2, f3, f4⟩ := own5z hz1.out
    have hzl1 := hz1.out.lt
    have hF := Lib.hid (show ParseIs s.data.toList w (.returned (.tuple #[.agg #[.int .i64 0, .string ⟨#[]⟩, .string ⟨#[]⟩, .slice none 0 0, .slice none 0 0], .int .i64 L, .int .i64 q])) (((((w1.setCell ⟨gz, 0, none⟩ (.int .i64 0)).setCell ⟨gz, 1, none⟩ (.string ⟨#[]⟩)).setCell ⟨gz, 2, none⟩ (.string ⟨#[]⟩)).setCell ⟨gz, 3, none⟩ (.slice none 0 0)).setCell ⟨gz, 4, none⟩ (.slice none 0 0)) from by
      refine ⟨hB1.out.grown (grown5 w1 gz _ _ _ _ _) hB1.out.size (fun k e => by cases e; exact hgzw), ?_⟩
      unfold readS
      rw [ht])
    clear ht
    go_wp2
    refine bodyPost_ret (v := .tuple #[.agg #[.int .i64 0, .string ⟨#[]⟩, .string ⟨#[]⟩, .slice none 0 0, .slice none 0 0], .int .i64 L, .int .i64 q]) (by simp [results, Tryz.results10, go_sem, *]) rfl ?_
    exact hF.out
  | ok ts =>
    rw [ht] at hm
    obtain ⟨v, rfl, hown⟩ := hm
    have hgood := toks_good ht
    obtain ⟨gr, cap, rfl, -, hgl⟩ := hown.form hgood.pos
    have hfew := Lib.hid (few_toks ht)
    obtain ⟨M, hMd⟩ : ∃ M, M = w1.cell? := ⟨_, rfl⟩
    have hK := Lib.hid (show TokM M ts gr 0 cap from ⟨by rw [hMd]; exact rows_of_owns hown (ts.map Tok.row) (by simp) (fun r hr => by obtain ⟨d, -, rfl⟩ := List.mem_map.1 hr; rfl) rfl, fun p hp => hgood.at hp, toks_many ht⟩)
    have hP1 := Lib.hid (show RfP ts gr 0 cap w1.heap.size (w1.alloc (.cells #[.slice (some ⟨gr, 0, none⟩) ts.length cap, .int .i64 0, .int .i64 0, .int .i64 0, .int .i64 0, .string ⟨#[]⟩, .string ⟨#[]⟩, .int .i64 0, .slice none 0 0, .slice none 0 0, .slice none 0 0, .slice none 0 0, .slice none 0 0, .bool false] 71)) 0 (.ok ts) from ⟨0, 0, 0, hgood.pos, Own.new _ _ _, rfl, rfl, rfl⟩)
    have hM1 := Lib.hid (show Sub M (but w1.heap.size (w1.alloc (.cells #[.slice (some ⟨gr, 0, none⟩) ts.length cap, .int .i64 0, .int .i64 0, .int .i64 0, .int .i64 0, .string ⟨#[]⟩, .string ⟨#[]⟩, .int .i64 0, .slice none 0 0, .slice none 0 0, .slice none 0 0, .slice none 0 0, .slice none 0 0, .bool false] 71))) from fun p v h => by
      rw [hMd] at h
      have hl := World.block_lt_of_cell? w1 p h
      unfold but
      rw [if_neg (by omega)]
      exact (World.cell?_of_block (Below.heap_alloc w1 _ _ hl)).trans h)
    have hz2 := Lib.hid (hz1.out.alloc (.cells #[.slice (some ⟨gr, 0, none⟩) ts.length cap, .int .i64 0, .int .i64 0, .int .i64 0, .int .i64 0, .string ⟨#[]⟩, .string ⟨#[]⟩, .int .i64 0, .slice none 0 0, .slice none 0 0, .slice none 0 0, .slice none 0 0, .slice none 0 0, .bool false] 71))
    have hB2 := Lib.hid (hB1.out.alloc hB1.out.size (.cells #[.slice (some ⟨gr, 0, none⟩) ts.length cap, .int .i64 0, .int .i64 0, .int .i64 0, .int .i64 0, .string ⟨#[]⟩, .string ⟨#[]⟩, .int .i64 0, .slice none 0 0, .slice none 0 0, .slice none 0 0, .slice none 0 0, .slice none 0 0, .bool false] 71))
    have hlen : ts.length ≤ 30001 := toks_many ht
    have hgzl : gz < w1.heap.size := hz1.out.lt
    have hst : Hid (startS s.data.toList = .ok ts) := Lib.hid ht
    clear hMd hown hgood hz1 hB1 ht hgl
    go_wp2_with fail
    generalize w1.alloc (.cells #[.slice (some ⟨gr, 0, none⟩) ts.length cap, .int .i64 0, .int .i64 0, .int .i64 0, .int .i64 0, .string ⟨#[]⟩, .string ⟨#[]⟩, .int .i64 0, .slice none 0 0, .slice none 0 0, .slice none 0 0, .slice none 0 0, .slice none 0 0, .bool false] 71) = w2 at hP1 hM1 hz2 hB2 ⊢
    obtain ⟨g, hg⟩ : ∃ z : Nat, Hid (z = w1.heap.size) := ⟨_, Lib.hid rfl⟩
    rw [← hg.out] at hP1 hM1 hgzl ⊢
    refine (ror_all hK.out g 0 ts.length hlen (by decide) w2 (.ok ts) hM1.out hP1.out (Nat.le_refl _)).mono ?_
    rintro e w3 hr
    obtain ⟨x, o1, kd, nm, va, vn, vc, ka, kn, kc, rfl, hX, -, hxb⟩ := hr.ex
    have hz3 := hz2.out.kept hr.1 (by simp; omega)
    have hB3 := hB2.out.grown hr.1 hB2.out.size (fun k e => by cases e; omega)
    have hP3 : RfP ts gr 0 cap g w3 0 (aft (runS (.ok ts) (orF ts.length 0))) := hr.2.1
    have hend := Lib.hid (show readS s.data.toList = endS x (runS (aft (runS (.ok ts) (orF ts.length 0))) (takeS 6)) from by
      have h1 := read_end s.data.toList x (by rw [hst.out]; exact hxb)
      rw [hst.out] at h1
      exact h1)
    have hnm := Lib.hid (show ∀ v, aft (runS (.ok ts) (orF ts.length 0)) = .ok v → NmE x from fun v hv => by
      have hv' : aft (orF ts.length 0 ts) = .ok v := hv
      cases ho : orF ts.length 0 ts with
      | error e => rw [ho] at hv'; cases hv'
      | ok u =>
        have e1 : x = u.1 := hxb u.1 u.2 ho
        rw [e1]
        exact (good_or ts.length 0 _ _ _ hfew.out (show orF ts.length 0 ts = .ok (u.1, u.2) from ho)).1)
    have hx4 := Lib.hid (Own.new w3 #[.int .i64 o1, .string kd, .string nm, .slice va vn vc, .slice ka kn kc] 31)
    have hz4 := Lib.hid (hz3.alloc (.cells #[.int .i64 o1, .string kd, .string nm, .slice va vn vc, .slice ka kn kc] 31))
    have hP4 := Lib.hid (hP3.alloc (.cells #[.int .i64 o1, .string kd, .string nm, .slice va vn vc, .slice ka kn kc] 31))
    have hB4 := Lib.hid (hB3.alloc hB3.size (.cells #[.int .i64 o1, .string kd, .string nm, .slice va vn vc, .slice ka kn kc] 31))
    have hX4 := Lib.hid (hX.mono (nex_grown (World.grownBy_alloc w3 (.cells #[.int .i64 o1, .string kd, .string nm, .slice va vn vc, .slice ka kn kc] 31) none) (fun k e => by cases e)))
    have hM4 := Lib.hid ((sub_but_grown hM1.out hr.1).trans (sub_of_grown (World.grownBy_alloc w3 (.cells #[.int .i64 o1, .string kd, .string nm, .slice va vn vc, .slice ka kn kc] 31) (some g))))
    have hzx : gz < w3.heap.size := hz3.lt
    have hgx2 : g < w3.heap.size := hP3.lt
    have hz11 : gz < w2.heap.size := hz2.out.lt
    clear hr hX hxb hz3 hB3 hP3 hP1 hst hz2 hB2 hM1
    generalize aft (runS (.ok ts) (orF ts.length 0)) = s2 at hend hP4 hnm
    go_upto_region 6 with fail
    generalize w3.alloc (.cells #[.int .i64 o1, .string kd, .string nm, .slice va vn vc, .slice ka kn kc] 31) = w4 at hx4 hz4 hP4 hB4 hX4 hM4 ⊢
    obtain ⟨gx, hgx⟩ : ∃ z : Nat, Hid (z = w3.heap.size) := ⟨_, Lib.hid rfl⟩
    rw [← hgx.out] at hx4 hzx hgx2 ⊢
    go_wp2_with fail
    refine (rany_end hK.out g 0 w4 s2 hM4.out hP4.out).mono ?_
    rintro e w5 ⟨⟨v5, rfl⟩, hg5, hE⟩
    have hz5 := Lib.hid (hz4.out.kept hg5 (by simp; omega))
    have hx5 := Lib.hid (hx4.out.kept hg5 (by simp; omega))
    have hB5 := Lib.hid (hB4.out.grown hg5 hB4.out.size (fun k e => by cases e; omega))
    have hX5 := Lib.hid (hX4.out.mono (nex_grown hg5 (fun k e => by cases e; exact Or.inl (by simp))))
    clear hz4 hx4 hB4 hX4 hM4 hP4 hg5
    obtain ⟨p, o', L, q, tv, hO, hLq⟩ := hE
    have c3 := hO.cell 3
    have c4 := hO.cell 4
    have hgl := hO.lt
    simp only [List.getElem?_toArray, List.getElem?_cons_succ, List.getElem?_cons_zero] at c3 c4
    replace hO := Lib.hid hO
    obtain ⟨z0, z1, z2, z3, z4, f0, f1, f2, f3, f4⟩ := own5z hz5.out
    have hzl5 := hz5.out.lt
    cases hE : runS s2 (takeS 6) with
    | error e =>
      rw [hE] at hLq
      obtain ⟨rfl, hq⟩ := hLq
      have hqb : (q != 0) = true := by simpa using hq
      have hF : ∀ u, w5.grownBy u (some gz) → ParseIs s.data.toList w (.returned (.tuple #[.agg #[.int .i64 0, .string ⟨#[]⟩, .string ⟨#[]⟩, .slice none 0 0, .slice none 0 0], .int .i64 L, .int .i64 q])) u := fun u hu => by
        refine ⟨hB5.out.grown hu hB5.out.size (fun k e => by cases e; exact hgzw), ?_⟩
        rw [hend.out, hE]
        rfl
      replace hF := Lib.hid hF
      clear hend hE hq
      go_wp2_with fail
      go_region
      all_goals
        go_wp2
        refine bodyPost_ret (v := .tuple #[.agg #[.int .i64 0, .string ⟨#[]⟩, .string ⟨#[]⟩, .slice none 0 0, .slice none 0 0], .int .i64 L, .int .i64 q]) (by simp [results, Tryz.results10, go_sem, *]) rfl ?_
        exact hF.out _ (g_call (grown5 w5 gz _ _ _ _ _) (grown_drew _ _))
    | ok v6 =>
      rw [hE] at hLq
      obtain ⟨rfl, rfl⟩ := hLq
      have hNx : NmE x := by
        cases s2 with
        | error e => cases hE
        | ok u => exact hnm.out u rfl
      rw [hE] at hend
      clear hE
      obtain ⟨d, hd, hdx⟩ := hX5.out.mono (nex_in _ _ _)
      have hNd : NmD d := nm_data (by rw [hdx]; exact hNx)
      have hT5 := Lib.hid (hT.out.below hB5.out)
      have hsp5 := Lib.hid (show SpaceTab w5 from var_below hB5.out hsp.out)
      obtain ⟨x0, x1, x2, x3, x4, -⟩ := own5z hx5.out
      go_wp2_with fail
      refine (rshape_any w5.cell? d _ hd hNd w5 (Sub.refl _) hT5.out hsp5.out).mono ?_
      rintro e w6 ⟨rfl, hb6⟩
      rw [hdx]
      have hz6 := hz5.out.below hb6 hzl5
      have hx6 := hx5.out.below hb6 hx5.out.lt
      have hB6 := Lib.hid (hB5.out.trans (hb6.mono hB5.out.size))
      have hX6 := Lib.hid (hX5.out.mono (nex_grown (grown_of_below hb6 none) (fun k e => by cases e)))
      clear z0 z1 z2 z3 z4 f0 f1 f2 f3 f4 x0 x1 x2 x3 x4 hd hdx hb6 c3 c4 hNx hNd
      obtain ⟨z0, z1, z2, z3, z4, f0, f1, f2, f3, f4⟩ := own5z hz6
      obtain ⟨x0, x1, x2, x3, x4, -⟩ := own5z hx6
      have hzl6 := hz6.lt
      by_cases h0 : formS x = 0
      · have hF := Lib.hid (show ParseIs s.data.toList w (.returned (.tuple #[.agg #[.int .i64 o1, .string kd, .string nm, .slice va vn vc, .slice ka kn kc], .int .i64 0, .int .i64 0])) (((((w6.setCell ⟨gz, 0, none⟩ (.int .i64 o1)).setCell ⟨gz, 1, none⟩ (.string kd)).setCell ⟨gz, 2, none⟩ (.string nm)).setCell ⟨gz, 3, none⟩ (.slice va vn vc)).setCell ⟨gz, 4, none⟩ (.slice ka kn kc)) from by
          refine ⟨hB6.out.grown (grown5 w6 gz _ _ _ _ _) hB6.out.size (fun k e => by cases e; exact hgzw), ?_⟩
          rw [hend.out, show endS x (.ok v6) = .ok x from if_pos h0]
          exact ⟨_, rfl, hX6.out.mono ((nex_set5 (q := gz) hz11 _ _ _ _ _).trans (nex_in _ _ _))⟩)
        rw [h0]
        clear hend h0
        go_wp2
        refine bodyPost_ret (v := .tuple #[.agg #[.int .i64 o1, .string kd, .string nm, .slice va vn vc, .slice ka kn kc], .int .i64 0, .int .i64 0]) (by simp [results, Tryz.results10, go_sem, *]) rfl ?_
        exact hF.out
      · have hF := Lib.hid (show ParseIs s.data.toList w (.returned (.tuple #[.agg #[.int .i64 0, .string ⟨#[]⟩, .string ⟨#[]⟩, .slice none 0 0, .slice none 0 0], .int .i64 0, .int .i64 (formS x)])) (((((w6.setCell ⟨gz, 0, none⟩ (.int .i64 0)).setCell ⟨gz, 1, none⟩ (.string ⟨#[]⟩)).setCell ⟨gz, 2, none⟩ (.string ⟨#[]⟩)).setCell ⟨gz, 3, none⟩ (.slice none 0 0)).setCell ⟨gz, 4, none⟩ (.slice none 0 0)) from by
          refine ⟨hB6.out.grown (grown5 w6 gz _ _ _ _ _) hB6.out.size (fun k e => by cases e; exact hgzw), ?_⟩
          rw [hend.out, show endS x (.ok v6) = .error (formS x, 0) from if_neg h0])
        have hfb : (formS x != 0) = true := by simpa using h0
        clear hend h0
        generalize formS x = fx at hF hfb ⊢
        go_wp2
        refine bodyPost_ret (v := .tuple #[.agg #[.int .i64 0, .string ⟨#[]⟩, .string ⟨#[]⟩, .slice none 0 0, .slice none 0 0], .int .i64 0, .int .i64 fx]) (by simp [results, Tryz.results10, go_sem, *]) rfl ?_
        exact hF.out

end Go.Proofs.YtfffpflflggonaaGreatDoor.src

