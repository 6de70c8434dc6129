/- The kinds' map is ranged over: what the iterator holds, and its steps. The fields of a text by the program's own test. -/
import Derived.Test.YtnghpjijfdpmkaaDoorMetR
import Derived.Test.YtnghpjijfdpmkaaDoorMetQ
import Derived.Maps.RangeWalk
import Derived.Maps.RangeRun
import Derived.Laws.EntriesVeiled
namespace Go.Proofs.YtnghpjijfdpmkaaDoor.metric
open Go.RowKit Go.ChangeMaps Go.Proofs.YtnghpjijfdpmkaaDoor Go.Proofs.YtnghpjijfdpmkaaDoor.text

/-- An iterator over the kinds: left tells which are still to come. -/
def KIt (w : World) (b r : Nat) (left : Nat → Bool) (cnt : Nat) : Prop :=
  w.heap[b]? = some (.map kinds4 4) ∧ r ≠ b ∧ ∃ seen c0, w.heap[r]? = some (.mapIter (some b) 4 seen c0) ∧ 4 ≤ c0 ∧ (leftOf kinds4 seen).size = cnt ∧ ∀ j, 1 ≤ j → j ≤ 4 → left j = !seen.contains (j - 1)
theorem KIt.kept {w v : World} {b r : Nat} {left : Nat → Bool} {cnt : Nat} {q : Option Nat} (h : KIt w b r left cnt) (g : w.grownBy v q) (hb : some b ≠ q) (hr : some r ≠ q) : KIt v b r left cnt := by
  obtain ⟨h1, h2, seen, c0, h3, h4⟩ := h
  exact ⟨(g.block b (Array.getElem?_eq_some_iff.1 h1).1 hb).trans h1, h2, seen, c0, (g.block r (Array.getElem?_eq_some_iff.1 h3).1 hr).trans h3, h4⟩
theorem KIt.left_eq {w : World} {b r : Nat} {left : Nat → Bool} {cnt : Nat} (h : KIt w b r left cnt) : w.rangeLeft b r = cnt := by
  obtain ⟨h1, -, seen, c0, h2, -, h3, -⟩ := h
  simp only [World.rangeLeft, h1, h2]
  exact h3
theorem kinds_mem {e : MapEntry} (h : e ∈ kinds4.toList) : ∃ j : Nat, 1 ≤ j ∧ j ≤ 4 ∧ e = { key := .int .i64 j, val := kindV j, born := j - 1 } := by
  simp only [kinds4, List.mem_cons, List.not_mem_nil, or_false] at h
  rcases h with rfl | rfl | rfl | rfl
  · exact ⟨1, by omega, by omega, rfl⟩
  · exact ⟨2, by omega, by omega, rfl⟩
  · exact ⟨3, by omega, by omega, rfl⟩
  · exact ⟨4, by omega, by omega, rfl⟩
theorem kinds_has (j : Nat) (h1 : 1 ≤ j) (h4 : j ≤ 4) : ({ key := .int .i64 j, val := kindV j, born := j - 1 } : MapEntry) ∈ kinds4.toList := by
  rcases (show j = 1 ∨ j = 2 ∨ j = 3 ∨ j = 4 by omega) with rfl | rfl | rfl | rfl <;> simp [kinds4]
theorem kinds_old : ∀ x ∈ kinds4.toList, x.born < 4 := by
  intro x hx
  obtain ⟨j, h1, h4, rfl⟩ := kinds_mem hx
  show j - 1 < 4
  omega
theorem KIt.step {w : World} {b r : Nat} {left : Nat → Bool} {cnt : Nat} (h : KIt w b r left cnt) (ty : TypeId) :
    ((∀ j, 1 ≤ j → j ≤ 4 → left j = false) ∧ (Instr.next (.pointer (some ⟨r, 0, none⟩)) false ty).run Tryd.prog w = .ok (.tuple #[.bool false]) w) ∨
    ∃ (j : Nat) (w' : World) (cnt' : Nat), 1 ≤ j ∧ j ≤ 4 ∧ left j = true ∧ (Instr.next (.pointer (some ⟨r, 0, none⟩)) false ty).run Tryd.prog w = .ok (.tuple #[.bool true, .int .i64 j, kindV j]) w' ∧
      KIt w' b r (fun i => left i && i != j) cnt' ∧ cnt' < cnt ∧ w.grownBy w' (some r) ∧ w'.heap.size = w.heap.size ∧ (Instr.entry (.pointer (some ⟨r, 0, none⟩))).run Tryd.prog w' = .ok (.tuple #[.int .i64 j, kindV j]) w' := by
  obtain ⟨hb, hne, seen, c0, hr, hc, rfl, hl⟩ := h
  rcases run_next_at (P := Tryd.prog) w ty r b 4 c0 seen kinds4 4 hr hb kinds_old hc with ⟨h0, hrun⟩ | ⟨e, he, w1, hal, hrun⟩
  · refine Or.inl ⟨fun j h1 h4 => ?_, hrun⟩
    have := all_seen kinds4 seen h0 _ (kinds_has j h1 h4)
    rw [hl j h1 h4, this]
    rfl
  · obtain ⟨hem, hes⟩ := mem_left he
    obtain ⟨j, h1, h4, rfl⟩ := kinds_mem hem
    have hr1 : w1.heap[r]? = some (.mapIter (some b) 4 seen c0) := by rcases hal with rfl | rfl <;> exact hr
    have hb1 : w1.heap[b]? = some (.map kinds4 4) := by rcases hal with rfl | rfl <;> exact hb
    have hset := MapKept.heap_set (o' := .mapIter (some b) 4 (seen.push (j - 1)) 4) hr1
    have hb' : (setBlock w1 r (.mapIter (some b) 4 (seen.push (j - 1)) 4)).heap[b]? = some (.map kinds4 4) := (hset.2 b (fun e1 => hne e1.symm)).trans hb1
    have hnd : (kinds4.toList.map (·.born)).Nodup := by simp [kinds4]
    have hen := run_entry_at (P := Tryd.prog) _ r b 4 seen kinds4 4 _ hset.1 hb' hem hnd
    have hsh := left_shrinks kinds4 seen _ he
    refine Or.inr ⟨j, setBlock w1 r (.mapIter (some b) 4 (seen.push (j - 1)) 4), (leftOf kinds4 (seen.push (j - 1))).size, h1, h4, by rw [hl j h1 h4]; simpa using hes, hrun, ⟨hb', hne, seen.push (j - 1), 4, hset.1, Nat.le_refl _, rfl, fun i i1 i4 => ?_⟩, hsh, ?_, ?_, hen⟩
    · rw [contains_push]
      show (left i && i != j) = _
      rw [hl i i1 i4]
      by_cases hij : i = j
      · subst hij; simp
      · have e1 : (i != j) = true := by simp [hij]
        have e2 : (i - 1 == j - 1) = false := by simp; omega
        rw [e1, e2]
        simp
    · rcases hal with rfl | rfl <;> exact ⟨rfl, rfl, rfl, by simp [setBlock], fun i _ hi => hset.2 i (fun e1 => hi (by rw [e1]))⟩
    · rcases hal with rfl | rfl <;> simp [setBlock]

section
variable {w : World} {ops : Array Oper} {rest : List Oper} {o : Oper} {a : Act} {Q : Exit → Act → World → Prop}
theorem wpList_range_kinds (hg : o.guard = none) (m : Operand) (hop : o.op = Op.range 72 m) (b : Nat) (hm : a.eval m = .map (some b)) (hb : w.heap[b]? = some (.map kinds4 4))
    (hK : KIt (w.alloc (.mapIter (some b) 4 #[] 4)) b w.heap.size (fun _ => true) 4 → wpList Tryd.prog ops Q rest (a.put o.dst (.pointer (some ⟨w.heap.size, 0, none⟩))) (w.alloc (.mapIter (some b) 4 #[] 4))) :
    wpList Tryd.prog ops Q (o :: rest) a w := by
  refine wpList_plain hg fun K' hK' => ?_
  have hlt : b < w.heap.size := (Array.getElem?_eq_some_iff.1 hb).1
  have hrun := run_range_map (P := Tryd.prog) w 72 _ _ b kinds4 4 Tryd.underlying72 hb
  unfold Oper.wp
  simp [execOp, hop, hm, hrun, Result.andThen]
  exact hK' _ _ (hK ⟨((MapKept.heap_alloc w _).2 b hlt).trans hb, by omega, #[], 4, (MapKept.heap_alloc w _).1, Nat.le_refl _, by simp [leftOf, kinds4], fun j h1 h4 => by simp⟩)
theorem wpList_next_kinds (hg : o.guard = none) (it : Operand) (hop : o.op = Op.next it false) (b r : Nat) (left : Nat → Bool) (cnt : Nat) (hit : a.eval it = .pointer (some ⟨r, 0, none⟩)) (h : KIt w b r left cnt)
    (hDone : (∀ j, 1 ≤ j → j ≤ 4 → left j = false) → wpList Tryd.prog ops Q rest (a.put o.dst (.tuple #[.bool false])) w)
    (hMore : ∀ (j : Nat) (w' : World) (cnt' : Nat), 1 ≤ j → j ≤ 4 → left j = true → KIt w' b r (fun i => left i && i != j) cnt' → cnt' < cnt → w.grownBy w' (some r) → w'.heap.size = w.heap.size →
      (Instr.entry (.pointer (some ⟨r, 0, none⟩))).run Tryd.prog w' = .ok (.tuple #[.int .i64 j, kindV j]) w' → wpList Tryd.prog ops Q rest (a.put o.dst (.tuple #[.bool true, .int .i64 j, kindV j])) w') :
    wpList Tryd.prog ops Q (o :: rest) a w := by
  refine wpList_plain hg fun K' hK' => ?_
  unfold Oper.wp
  rcases h.step o.type with ⟨hl, hrun⟩ | ⟨j, w', cnt', h1, h4, hlj, hrun, hk, hlt, hgr, hsz, hen⟩
  · simp [execOp, hop, hit, hrun, Result.andThen]
    exact hK' _ _ (hDone hl)
  · simp [execOp, hop, hit, hrun, Result.andThen]
    exact hK' _ _ (hMore j w' cnt' h1 h4 hlj hk hlt hgr hsz hen)
end

theorem blank_any (x : Nat) (w : World) (hx : x ≤ 1114111) : Calls Tryd.prog 34 #[.int .i32 x] w fun e w' => e = .returned (.bool (blankR x)) ∧ w' = w := by
  by_cases h1 : x = 32
  · subst h1
    go_enter Tryd.func34, Tryd.ntmps34
    go_wp2
    go_ret
    exact ⟨rfl, rfl⟩
  · by_cases h2 : x = 9
    · subst h2
      go_enter Tryd.func34, Tryd.ntmps34
      go_wp2
      go_ret
      exact ⟨rfl, rfl⟩
    · have e1 : ((x : Int) == 32) = false := by simp; omega
      have e2 : ((x : Int) == 9) = false := by simp; omega
      have e3 : blankR x = ((x : Int) == 10) := by
        by_cases h3 : x = 10
        · subst h3; rfl
        · have q1 : ((x : Int) == 10) = false := by simp; omega
          rw [q1]
          simp [blankR, h1, h2, h3]
      replace e3 := Lib.hid e3
      go_enter Tryd.func34, Tryd.ntmps34
      go_wp2
      go_ret
      exact ⟨by rw [e3.out]; rfl, rfl⟩
/-- The fields of a text, in memory of the call's own. -/
theorem fields_m (s : ByteArray) (w : World) (hs : s.size ≤ 200) : Calls Tryd.prog 33 #[.string s, .func (.func 34) #[] #[]] w fun e w' =>
    ∃ A, e = .returned (.slice (some ⟨A, 0, none⟩) (Lib.goFieldsP blankR s).length (Lib.goFieldsP blankR s).length) ∧ w.heap.size ≤ A ∧ w'.ownsRow w.heap.size 9 1 (.slice (some ⟨A, 0, none⟩) (Lib.goFieldsP blankR s).length (Lib.goFieldsP blankR s).length) (Lib.goFieldsP blankR s).length ((Lib.goFieldsP blankR s).map Value.string) ∧ Below w.heap.size w w' := by
  refine Tryd.strings_FieldsFunc_runes 34 #[] (enters_of Tryd.func34 (by kernel_rfl) rfl) blankR s w (by omega) ?_
  intro W x hx hb
  exact (blank_any x W hx).mono fun e w' ⟨h1, h2⟩ => ⟨h1, 0, h2⟩

end Go.Proofs.YtnghpjijfdpmkaaDoor.metric

