/- A condition that came in, with its number of parts out of the second form's bulk. -/
import Derived.Test.YtlohdmghaeabjaaGreatDoorKJ9
import Derived.Test.YtlohdmghaeabjaaGreatDoorKDrawC
namespace Go.Proofs.YtlohdmghaeabjaaGreatDoor.clause
open Go.ChangeShapes Go.WideShapes Go.RowKit Go.Deep Go.Proofs.YtlohdmghaeabjaaGreatDoor Go.Proofs.YtlohdmghaeabjaaGreatDoor.schema Go.Proofs.YtlohdmghaeabjaaGreatDoor.draw

theorem cntE_pos : ∀ d : ED, 1 ≤ cntE d
  | .mk _ _ _ _ ks => by rw [cntE]; omega
theorem len_cntL : ∀ l : List ED, l.length ≤ cntL l
  | [] => by simp [cntL]
  | k :: r => by have h1 := cntE_pos k; have h2 := len_cntL r; rw [cntL, List.length_cons]; omega
theorem bulk_all {H : Type} (l : List (DataW H × List MemPlace)) : (l.map fun y => Rows.uptoBulk y.1).sum = Rows.uptoBulkAll (l.map (·.1)) := by
  induction l with
  | nil => simp [Rows.uptoBulkAll]
  | cons x r ih => simp [Rows.uptoBulkAll, ih]

/-- A slice, opened: its rows, and of each what Q says with its bulk. -/
theorem rows_of_trodC {H : Type} {enc : TypeId × Value → H} {P : Program} {W : World} {base fuel sz : Nat} {sp : Nat → Bool} {held : Bool} {t e : TypeId} {v : Value} {x : DataW H × List MemPlace}
    (ht : P.underlying t = some (.slice e)) (ce : P.cellsOf e = sz) (hsz : 0 < sz) (Q : Nat → List Value → Prop)
    (hQ : ∀ (n : Nat) (cs : List Value) (y : DataW H × List MemPlace), n < fuel → cs.length = sz → DataW.trod enc P W base sp held n e cs = some y → Q (Rows.uptoBulk y.1) cs)
    (h : DataW.trod enc P W base sp held fuel t [v] = some x) : ∃ (rows : List (List Value)) (bs : List Nat), RowsAt W.cell? sz v rows ∧ rows.length = bs.length ∧ bs.sum ≤ Rows.uptoBulk x.1 ∧ ∀ (i : Nat) (r : List Value) (b : Nat), rows[i]? = some r → bs[i]? = some b → Q b r := by
  rcases DataW.trod_slice ht h with ⟨hcs, -⟩ | ⟨a, len, cap, elems, rest, n, hf, hcs, hx, hb, hl, hm, hlen, hel, -, -⟩
  · injection hcs with hv
    subst hv
    exact ⟨[], [], rows_nil _ _, rfl, by simp, fun i r b hr => by simp at hr⟩
  · injection hcs with hv
    subst hv
    have each : ∀ i, i < len → ∃ cs : List Value, cs.length = sz ∧ (∀ b, (elems.map fun y => Rows.uptoBulk y.1)[i]? = some b → Q b cs) ∧ ∀ j, j < sz → W.cell? ((a.add (i * sz)).add j) = cs[j]? := by
      intro i hi
      have key := hel i hi
      rw [List.getElem?_eq_getElem (by omega), ce] at key
      obtain ⟨cs, h1, h2⟩ := Option.bind_eq_some_iff.1 key
      obtain ⟨-, hln, hcell⟩ := World.cells?_some h1
      refine ⟨cs, hln, fun b hb => ?_, hcell⟩
      rw [List.getElem?_map, List.getElem?_eq_getElem (by omega)] at hb
      injection hb with hb
      rw [← hb]
      exact hQ n cs _ (by omega) hln h2
    obtain ⟨F, hF⟩ := choose_lt (α := List Value) (p := fun i cs => cs.length = sz ∧ (∀ b, (elems.map fun y => Rows.uptoBulk y.1)[i]? = some b → Q b cs) ∧ ∀ j, j < sz → W.cell? ((a.add (i * sz)).add j) = cs[j]?) each
    refine ⟨(List.range len).map F, elems.map fun y => Rows.uptoBulk y.1, ⟨some a, cap, by simp, by simpa using hl, hm, ?_⟩, by simp; omega, ?_, fun i r b hr hb => ?_⟩
    · by_cases h0 : len = 0
      · exact Or.inl (by rw [h0]; rfl)
      · obtain ⟨h1, -, h3⟩ := hF 0 (by omega)
        have h4 := h3 0 hsz
        rw [List.getElem?_eq_getElem (by omega)] at h4
        have hs := spot_none h4
        obtain ⟨blk, off, s⟩ := a
        simp only at hs
        subst hs
        refine Or.inr ⟨blk, off, rfl, fun i r hi j y hj => ?_⟩
        have hin : i < len := by have := (List.getElem?_eq_some_iff.1 hi).1; simpa using this
        rw [List.getElem?_map, List.getElem?_range hin] at hi
        injection hi with hi
        subst hi
        obtain ⟨k1, -, k3⟩ := hF i hin
        have hjs : j < sz := by have := (List.getElem?_eq_some_iff.1 hj).1; omega
        have h5 := k3 j hjs
        have e1 : ((⟨blk, off, none⟩ : Addr).add (i * sz)).add j = ⟨blk, off + i * sz + j, none⟩ := by
          unfold Addr.add
          split <;> split <;> simp_all
        rw [e1, hj] at h5
        exact h5
    · rw [bulk_all]
      subst hx
      simp only [Rows.uptoBulk]
      omega
    · have hin : i < len := by have := (List.getElem?_eq_some_iff.1 hr).1; simpa using this
      rw [List.getElem?_map, List.getElem?_range hin] at hr
      injection hr with hr
      subst hr
      exact (hF i hin).2.1 b hb
theorem rows_listC {m : Mem} {B : Nat} : ∀ (rows : List (List Value)) (bs : List Nat), rows.length = bs.length → (∀ (i : Nat) (r : List Value) (b : Nat), rows[i]? = some r → bs[i]? = some b → ∃ d : ED, EAt m d r ∧ cntE d ≤ b ∧ fewE B d) →
    ∃ kids : List ED, rows.length = kids.length ∧ (∀ (i : Nat) (r : List Value) (k : ED), rows[i]? = some r → kids[i]? = some k → EAt m k r) ∧ cntL kids ≤ bs.sum ∧ fewL B kids
  | [], _, _, _ => ⟨[], rfl, fun i r k h => by simp at h, by simp [cntL], trivial⟩
  | r :: rs, [], h, _ => by simp at h
  | r :: rs, b :: bs, h, hp => by
    obtain ⟨d, h1, h2, h3⟩ := hp 0 r b rfl rfl
    obtain ⟨kids, k1, k2, k3, k4⟩ := rows_listC rs bs (by simpa using h) (fun i r' b' hr hb => hp (i + 1) r' b' (by simpa using hr) (by simpa using hb))
    refine ⟨d :: kids, by simp [k1], fun i r' k hi hk => ?_, by rw [cntL, List.sum_cons]; omega, h3, k4⟩
    cases i with
    | zero => simp at hi hk; subst hi; subst hk; exact h1
    | succ i => exact k2 i r' k (by simpa using hi) (by simpa using hk)
theorem sum_mem : ∀ (l : List Nat) (i b : Nat), l[i]? = some b → b ≤ l.sum
  | [], _, _, h => by simp at h
  | x :: r, 0, b, h => by simp at h; subst h; simp
  | x :: r, i + 1, b, h => by have := sum_mem r i b (by simpa using h); simp; omega
set_option maxRecDepth 100000 in
theorem open_edC {H : Type} {enc : TypeId × Value → H} {W : World} {base B : Nat} {sp : Nat → Bool} {held : Bool} (hs : B ≤ 1048576) (fuel : Nat) : ∀ (cs : List Value) (y : DataW H × List MemPlace), cs.length = 5 → Rows.uptoBulk y.1 ≤ B → DataW.trod enc Tryz.prog W base sp held fuel 29 cs = some y → ∃ d : ED, EAt W.cell? d cs ∧ cntE d ≤ Rows.uptoBulk y.1 ∧ fewE B d := by
  induction fuel using Nat.strongRecOn with
  | ind fuel ih =>
    intro cs y hl hB h
    obtain ⟨xs, k, hk, hxy, _, hxl, hf⟩ := DataW.trod_struct Tryz.underlying29 h
    have hP := bulk_part hxy hB
    have hy : Rows.uptoBulk y.1 = Rows.uptoBulkAll (xs.map (·.1)) + 1 := by rw [hxy]; simp only [Rows.uptoBulk]
    match xs, hxl, cs, hl, hP, hy with
    | [y0, y1, y2, y3, y4], _, [v0, v1, v2, v3, v4], _, hP, hy =>
      have g0 := hf 0 _ rfl
      have g1 := hf 1 _ rfl
      have g2 := hf 2 _ rfl
      have g3 := hf 3 _ rfl
      have g4 := hf 4 _ rfl
      simp only [List.getElem?_cons_succ, List.getElem?_cons_zero] at g0 g1 g2 g3 g4
      obtain ⟨s0, rfl⟩ := in_int g0
      obtain ⟨s1, rfl⟩ := in_text g1
      obtain ⟨s2, rfl⟩ := in_text g2
      obtain ⟨vr, hvr, hvl, hvq⟩ := rows_of_trodB Tryz.underlying26 (by kernel_rfl) (show 0 < 4 by omega) (fun cs => ∃ d : VD, cs = d.row ∧ LAt W.cell? d) (fun n cs y _ hl hB h => open_vdB hs hl hB h) (hP y3 (by simp)) g3
      obtain ⟨l, rfl, hL⟩ := rows_map2 vr (fun r hr => (hvq r hr).2)
      obtain ⟨kr, bs, hkr, hlb, hsum, hkq⟩ := rows_of_trodC Tryz.underlying27 (by kernel_rfl) (show 0 < 5 by omega) (fun b cs => b ≤ B → ∃ d : ED, EAt W.cell? d cs ∧ cntE d ≤ b ∧ fewE B d) (fun n cs y hn hl h hB => ih n (by omega) cs y hl hB h) g4
      have hB4 := hP y4 (by simp)
      obtain ⟨kids, hlen, hp, hc, hfw⟩ := rows_listC kr bs hlb (fun i r b hr hb => hkq i r b hr hb (by have := sum_mem bs i b hb; omega))
      have h5 : Rows.uptoBulk y4.1 ≤ Rows.uptoBulkAll ([y0, y1, y2, y3, y4].map (·.1)) := bulk_mem _ _ (by simp)
      refine ⟨.mk s0 s1 s2 l kids, EAt.mk kr hvr hkr hlen hL hp, by rw [cntE]; omega, by simpa using hvl, ?_, hfw⟩
      have := len_cntL kids
      omega
set_option maxRecDepth 100000 in
/-- An argument that is a condition, and how large it is. -/
theorem open_exprC {H : Type} {enc : TypeId × Value → H} {W : World} {base b0 : Nat} {sp : Nat → Bool} {held : Bool} {v : Value} {d : DataW H} {p : List MemPlace}
    (hv : Value.okWide Tryz.prog W .any b0 29 v) (hB : Rows.uptoBulk d ≤ 1048576) (h : DataW.Trod enc Tryz.prog W base sp held 29 v d p) : ∃ (d : ED) (r : List Value), v = .agg r.toArray ∧ EAt W.cell? d r ∧ cntE d ≤ 1048576 ∧ fewE 1048576 d := by
  obtain ⟨cs, rfl, hsz⟩ := okWide_struct Tryz.underlying29 hv
  obtain ⟨l⟩ := cs
  obtain ⟨fuel, hf⟩ := h
  obtain ⟨d, hd, hc, hfw⟩ := open_edC (Nat.le_refl _) fuel l _ (hsz.trans (by kernel_rfl)) hB hf
  exact ⟨d, l, rfl, hd, Nat.le_trans hc hB, hfw⟩

end Go.Proofs.YtlohdmghaeabjaaGreatDoor.clause

