/- The kinds and keys of a subject, in a row: the law's names. Two pairs of texts are compared. -/
import Derived.Test.YthnjgbjckggjhaaGreatDoorKSuX
import Derived.Test.YthnjgbjckggjhaaGreatDoorKSuN
import Derived.Deep.RegionWith
import Derived.Deep.RegionLaw
import Derived.Laws.StructEq
namespace Go.Proofs.YthnjgbjckggjhaaGreatDoor.subj
open Go.RowKit Go.Proofs.YthnjgbjckggjhaaGreatDoor Go.Proofs.YthnjgbjckggjhaaGreatDoor.schema Go.Proofs.YthnjgbjckggjhaaGreatDoor.value Go.Proofs.YthnjgbjckggjhaaGreatDoor.text Go.Proofs.YthnjgbjckggjhaaGreatDoor.clause Go.Proofs.YthnjgbjckggjhaaGreatDoor.draw

attribute [local go_sem ↓] Go.wp_at_zero Go.wp_at_succ

theorem owns_le {w : World} {base base' size n : Nat} {e : TypeId} {v : Value} {xs : List Value} (h : w.ownsRow base e size v n xs) (hb : base' ≤ base) : w.ownsRow base' e size v n xs :=
  ⟨h.1, h.2.imp id (fun ⟨g, cap, cur, e1, e2, e3⟩ => ⟨g, cap, cur, e1, Nat.le_trans hb e2, e3⟩)⟩
def nmRow (c : CT) : List Value := [.string c.kind, .string c.key]
end Go.Proofs.YthnjgbjckggjhaaGreatDoor.subj

namespace Go.Proofs.YthnjgbjckggjhaaGreatDoor.subj
open Go.RowKit Go.Proofs.YthnjgbjckggjhaaGreatDoor Go.Proofs.YthnjgbjckggjhaaGreatDoor.schema Go.Proofs.YthnjgbjckggjhaaGreatDoor.value Go.Proofs.YthnjgbjckggjhaaGreatDoor.text Go.Proofs.YthnjgbjckggjhaaGreatDoor.clause Go.Proofs.YthnjgbjckggjhaaGreatDoor.draw

theorem owns_belowS {w u : World} {base : Nat} {v : Value} {n : Nat} {xs : List Value} {e : TypeId} {sz : Nat} (h : w.ownsRow base e sz v n xs) (hb : Below w.heap.size w u) : u.ownsRow base e sz v n xs :=
  h.kept (grown_of_below hb none) (by cases v.ownBlock <;> simp)
/-- A made subject's first key is changed. -/
theorem key_set {B b : Nat} {w u : World} {va : Option Addr} {vn vc : Nat} {l : List CT} (h : OwnSub B b w (.slice va vn vc) l) (hl : l.length = vn) (hb : Below w.heap.size w u) (h0 : 0 < vn) (key : ByteArray) (hk : key.size < 4294967281) :
    ∃ (g : Nat) (c : CT) (r : List CT), va = some ⟨g, 0, none⟩ ∧ B ≤ g ∧ g < w.heap.size ∧ l = c :: r ∧ u.cell? ⟨g, 1, none⟩ = some (.string c.key) ∧ u.frozen? ⟨g, 1, none⟩ = false ∧
      SAt (u.setCell ⟨g, 1, none⟩ (.string key)).cell? (.slice va vn vc) (⟨c.kind, key, c.ptr, c.len, c.cap, c.attrs⟩ :: r) := by
  subst hl
  obtain ⟨B', hB, -, hr, hc⟩ := h
  obtain ⟨g, cap, e, hg⟩ := own_row hr h0
  cases e
  have hgl := (hr.lt g rfl).2
  have hr1 := owns_belowS hr hb
  cases l with
  | nil => exact absurd h0 (by simp)
  | cons c r =>
    have hst := (hr1.stored 1 (.string key)).1
    have he := ct_set (l := c :: r) (k := 0) (j := 1) (c := c) (c' := ⟨c.kind, key, c.ptr, c.len, c.cap, c.attrs⟩) (x := .string key) rfl (by decide) rfl
    simp only [Nat.zero_mul, Nat.zero_add, List.set_cons_zero] at he
    rw [he] at hst
    have hs : Sub (newG B' b (some g) w) (u.setCell ⟨g, 1, none⟩ (.string key)).cell? := by
      have h1 : Sub (newG B' b (some g) w) (excl [g] u) := fun p v hp => by
        unfold newG at hp
        split at hp
        · cases hp
        · rename_i hn
          refine excl_mk (fun e => ?_) (sub_of_below hb p v hp)
          exact hn (Or.inr (Or.inr (by rw [List.mem_singleton.1 e])))
      exact (h1.trans (excl_set (by simp) _)).trans (excl_sub _ _)
    refine ⟨g, c, r, rfl, Nat.le_trans hB hg, hgl, rfl, ?_, hr1.frozenAt 1, rows_of_owns hst _ (by simp) (rows3c _) rfl, ?_⟩
    · rw [hr1.cellAt 1 (by simp; omega)]
      rfl
    · intro y hy
      rcases List.mem_cons.1 hy with rfl | hy
      · have h1 := hc c (by simp)
        exact ⟨h1.rows.mono hs, fun a ha => (h1.each a ha).mono hs, hk⟩
      · exact (hc y (by simp [hy])).mono hs

theorem rows2n (l : List CT) : ∀ r ∈ l.map nmRow, r.length = 2 := by intro r hr; obtain ⟨d, -, rfl⟩ := List.mem_map.1 hr; rfl
/-- The k-th pair of names. -/
theorem nm_at {m : Mem} {l : List CT} {a : Option Addr} {n c : Nat} (h : RowsAt m 2 (.slice a n c) (l.map nmRow)) {k : Nat} (hk : k < l.length) :
    ∃ blk off, a = some ⟨blk, off, none⟩ ∧ m ⟨blk, off + k * 2, none⟩ = some (.string l[k].kind) ∧ m ⟨blk, off + k * 2 + 1, none⟩ = some (.string l[k].key) := by
  obtain ⟨a0, c0, h1, h2, h3, h4⟩ := h
  injection h1 with e1 e2 e3
  subst e1; subst e3
  rcases h4 with h4 | ⟨blk, off, rfl, hc⟩
  · simp only [List.map_eq_nil_iff] at h4
    rw [h4] at hk
    exact absurd hk (by simp)
  · have hr : (l.map nmRow)[k]? = some (nmRow l[k]) := by rw [List.getElem?_map, List.getElem?_eq_getElem hk]; rfl
    exact ⟨blk, off, rfl, hc k _ hr 0 _ rfl, hc k _ hr 1 _ rfl⟩

/-- The names so far are the same. -/
def SameR (l l' : List CT) (k : Nat) (b : Bool) : Prop := (b = true → l.length = l'.length ∧ (namesL l).take k = (namesL l').take k) ∧ (b = false → namesL l ≠ namesL l')
theorem SameR.start (l l' : List CT) : SameR l l' 0 (decide (l.length = l'.length)) :=
  ⟨fun h => ⟨of_decide_eq_true h, rfl⟩, fun h e => of_decide_eq_false h (by have := congrArg List.length e; simpa [namesL] using this)⟩
theorem SameR.next {l l' : List CT} {k : Nat} (h : SameR l l' k true) (h1 : k < l.length) (h2 : k < l'.length) :
    SameR l l' (k + 1) ((l[k].kind.toList == l'[k].kind.toList) && (l[k].key.toList == l'[k].key.toList)) := by
  obtain ⟨e1, e2⟩ := h.1 rfl
  have n1 : (namesL l)[k]? = some (l[k].kind.data.toList, l[k].key.data.toList) := by simp [namesL, h1]
  have n2 : (namesL l')[k]? = some (l'[k].kind.data.toList, l'[k].key.data.toList) := by simp [namesL, h2]
  simp only [ByteArray.toList_eq]
  refine ⟨fun hb => ⟨e1, ?_⟩, fun hb e => ?_⟩
  · rw [Bool.and_eq_true, beq_iff_eq, beq_iff_eq] at hb
    rw [List.take_add_one, List.take_add_one, e2, n1, n2, hb.1, hb.2]
  · rw [e, n2] at n1
    injection n1 with n1
    injection n1 with n3 n4
    rw [n3, n4] at hb
    simp at hb
theorem SameR.done {l l' : List CT} {k : Nat} {b : Bool} (h : SameR l l' k b) (hk : b = true → k = l.length) : b = decide (namesL l = namesL l') := by
  cases b with
  | false => exact (decide_eq_false (h.2 rfl)).symm
  | true =>
    obtain ⟨e1, e2⟩ := h.1 rfl
    have hk := hk rfl
    subst hk
    rw [List.take_of_length_le (by simp [namesL]), List.take_of_length_le (by simp [namesL, e1])] at e2
    exact (decide_eq_true e2).symm
theorem same_fin {l l' : List CT} (h : subS l = 0) (h' : subS l' = 0) {b : Bool} (hb : b = decide (namesL l = namesL l')) :
    (((⟨(canL l).toArray⟩ : ByteArray).toList == (⟨(canL l').toArray⟩ : ByteArray).toList) == b) = true := by
  rw [ByteArray.toList_eq, ByteArray.toList_eq]
  subst hb
  by_cases e : namesL l = namesL l'
  · rw [canL_names e]
    simp [e]
  · have : ¬ canL l = canL l' := fun e1 => e (canL_inj (sub_keys h) (sub_keys h') e1)
    simp [e, this]

theorem decl_nmR : ∀ d ∈ declD, d.name.size ≤ 1048576 := by decide +kernel
theorem okSub_eachR {l : List CT} (h : okSub l) : ∀ c ∈ l, (c.kind.size ≤ 1048576) ∧ okC c := by
  intro c hc
  have hm : ∀ K : List ByteArray, (∀ k ∈ K, k.size ≤ 1048576) → okL K l → (c.kind.size ≤ 1048576) ∧ okC c := fun K hK hl => ⟨hK _ (by rw [← hl.1]; exact List.mem_map_of_mem hc), hl.2 c hc⟩
  rcases h with h | h | h | h
  · exact hm _ (fun k hk => by cases hk) h
  · exact hm _ (fun k hk => by obtain rfl := List.mem_singleton.1 hk; decide) h
  · exact hm _ (fun k hk => by obtain rfl := List.mem_singleton.1 hk; decide) h
  · exact hm _ (fun k hk => by simp at hk; rcases hk with rfl | rfl <;> decide) h
theorem okSub_nmR {l : List CT} (h : okSub l) : Nm l := fun c hc => by
  have h1 := okSub_eachR h c hc
  refine ⟨h1.1, fun a ha => ?_⟩
  obtain ⟨-, d, hd, -, h3, -⟩ := h1.2.2.2 a ha
  rw [← h3]
  exact decl_nmR d hd

/-- A world behind another one. -/
def Aft (w u : World) : Prop := Below w.heap.size w u
theorem Aft.refl (w : World) : Aft w w := Below.refl _ _
theorem Aft.drew (w : World) : Aft w w.drew := (Below.refl w.heap.size w).grown (grown_drew w none) (Nat.le_refl _) (fun k e => by cases e)
theorem Aft.next {w u v : World} (k : Aft u v) (h : Aft w u) : Aft w v := h.trans (k.mono h.size)
theorem Aft.dr {w u : World} (h : Aft w u) : Aft w u.drew := Aft.next (Aft.drew u) h

end Go.Proofs.YthnjgbjckggjhaaGreatDoor.subj
