/- The program's Find: an own copy of a subject's context. Lookup of the program and of the reference, with where the value lies. Find and Lookup of the program and of the reference, in one form. -/
import Derived.Test.YtkglejfkfeahcaaGreatDoorKSuK
import Derived.Test.YtkglejfkfeahcaaGreatDoorKClL
import Derived.Test.YtkglejfkfeahcaaGreatDoorKClR
import Derived.Test.YtkglejfkfeahcaaGreatDoorKSuSm
import Derived.Test.YtkglejfkfeahcaaGreatDoorKSuX
namespace Go.Proofs.YtkglejfkfeahcaaGreatDoor.subj
open Go.RowKit Go.Proofs.YtkglejfkfeahcaaGreatDoor Go.Proofs.YtkglejfkfeahcaaGreatDoor.schema Go.Proofs.YtkglejfkfeahcaaGreatDoor.value Go.Proofs.YtkglejfkfeahcaaGreatDoor.text Go.Proofs.YtkglejfkfeahcaaGreatDoor.clause Go.Proofs.YtkglejfkfeahcaaGreatDoor.draw

attribute [local go_sem ↓] Go.wp_at_zero Go.wp_at_succ

def FoundIs : Option CT → Mem → Ending → Prop
  | none, _, e => e = .returned (.tuple #[.agg #[.string ⟨#[]⟩, .string ⟨#[]⟩, .slice none 0 0], .bool false])
  | some c, M, e => ∃ d : CT, e = .returned (.tuple #[.agg #[.string d.kind, .string d.key, .slice d.ptr d.len d.cap], .bool true]) ∧ SameC d c ∧ CAt M d

end Go.Proofs.YtkglejfkfeahcaaGreatDoor.subj

namespace Go.Proofs.YtkglejfkfeahcaaGreatDoor.subj
open Go.RowKit Go.Proofs.YtkglejfkfeahcaaGreatDoor Go.Proofs.YtkglejfkfeahcaaGreatDoor.schema Go.Proofs.YtkglejfkfeahcaaGreatDoor.value Go.Proofs.YtkglejfkfeahcaaGreatDoor.text Go.Proofs.YtkglejfkfeahcaaGreatDoor.clause Go.Proofs.YtkglejfkfeahcaaGreatDoor.draw

def LookN (o : Option VD) (M : Mem) (e : Ending) : Prop :=
  match o with
  | none => e = .returned (.tuple #[.agg #[.int .i64 0, .int .i64 0, .string ⟨#[]⟩, .slice none 0 0], .bool false])
  | some v => ∃ d : VD, e = .returned (.tuple #[.agg d.row.toArray, .bool true]) ∧ SameV d v ∧ LAt M d
def LookF (o : Option VD) (e : Ending) : Prop :=
  match o with
  | none => e = .returned (.tuple #[.agg #[.int .i64 0, .int .i64 0, .string ⟨#[]⟩, .slice none 0 0], .bool false])
  | some d => e = .returned (.tuple #[.agg d.row.toArray, .bool true])

end Go.Proofs.YtkglejfkfeahcaaGreatDoor.subj

namespace Go.Proofs.YtkglejfkfeahcaaGreatDoor.subj
open Go.RowKit Go.Sort Go.Proofs.YtkglejfkfeahcaaGreatDoor Go.Proofs.YtkglejfkfeahcaaGreatDoor.schema Go.Proofs.YtkglejfkfeahcaaGreatDoor.value Go.Proofs.YtkglejfkfeahcaaGreatDoor.text Go.Proofs.YtkglejfkfeahcaaGreatDoor.clause Go.Proofs.YtkglejfkfeahcaaGreatDoor.draw

theorem Aft.set {w u : World} (h : Aft w u) {p : Addr} (hp : w.heap.size ≤ p.block) (v : Value) : Aft w (u.setCell p v) := Below.setCell h hp v
def zeroC : CT := ⟨⟨#[]⟩, ⟨#[]⟩, none, 0, 0, []⟩
def zeroV : VD := ⟨0, 0, ⟨#[]⟩, none, 0, 0, []⟩
theorem SameV.refl (d : VD) : SameV d d := ⟨rfl, rfl, rfl, rfl⟩
theorem SameC.refl (c : CT) : SameC c c := ⟨rfl, rfl, rfl, fun _ _ _ => ⟨rfl, SameV.refl _⟩⟩
theorem zeroC_at (m : Mem) : CAt m zeroC := ⟨rows_nil _ _, fun a h => (List.not_mem_nil h).elim, by decide⟩
theorem zeroV_at (m : Mem) : LAt m zeroV := LAt.flat _ _ _ _ (by decide)
/-- The memory but for the blocks from lo up to hi. -/
def mOut (lo hi : Nat) (w : World) : Mem := fun p => if lo ≤ p.block ∧ p.block < hi then none else w.cell? p
theorem mOut_in (lo hi : Nat) (w : World) : Sub (mOut lo hi w) w.cell? := fun p v h => by
  unfold mOut at h
  split at h
  · cases h
  · exact h
theorem mOut_new (lo : Nat) {u u' : World} : Sub (newM u.heap.size 0 u') (mOut lo u.heap.size u') := fun p v h => by
  unfold newM at h
  split at h
  · cases h
  · rename_i hn
    unfold mOut
    rw [if_neg (fun hc => hn (Or.inl hc.2))]
    exact h
theorem mOut_old {w u' : World} (hb : Aft w u') (hi : Nat) : Sub w.cell? (mOut w.heap.size hi u') := fun p v h => by
  unfold mOut
  have := World.block_lt_of_cell? w _ h
  rw [if_neg (fun hc => by omega)]
  exact sub_of_below hb _ _ h
theorem mOut_set {lo hi : Nat} {w : World} {q : Addr} (h1 : lo ≤ q.block) (h2 : q.block < hi) (x : Value) : Sub (mOut lo hi w) (mOut lo hi (w.setCell q x)) := fun p v h => by
  unfold mOut at h ⊢
  split at h
  · cases h
  · rename_i hn
    rw [if_neg hn]
    exact (excl_sub [q.block] _) _ _ (excl_set (by simp) x _ _ (excl_mk (by simp; intro e; rw [e] at hn; exact hn ⟨h1, h2⟩) h))
/-- A context found, or the zero one. -/
def FndR (o : Option CT) (lo hi : Nat) (e : Ending) (w : World) : Prop := ∃ c : CT, e = .returned (.tuple #[.agg #[.string c.kind, .string c.key, .slice c.ptr c.len c.cap], .bool o.isSome]) ∧ SameC c (o.getD zeroC) ∧ CAt (mOut lo hi w) c
/-- A value looked up, or the zero one. -/
def LkR (o : Option VD) (lo hi : Nat) (e : Ending) (w : World) : Prop := ∃ d : VD, e = .returned (.tuple #[.agg #[.int .i64 d.kind, .int .i64 d.num, .string d.text, .slice d.ptr d.len d.cap], .bool o.isSome]) ∧ SameV d (o.getD zeroV) ∧ LAt (mOut lo hi w) d
theorem findA_at {m : Mem} {name : List UInt8} : ∀ {l : List AD} {x : VD}, (∀ a ∈ l, LAt m a.val) → findA name l = some x → LAt m x
  | [], x, _, ho => by cases ho
  | a :: r, x, h, ho => by
    rw [findA] at ho
    split at ho
    · injection ho with ho
      subst ho
      exact h a (by simp)
    · exact findA_at (fun b hb => h b (by simp [hb])) ho
/-- What is looked up lies where the subject lies. -/
theorem look_at {m : Mem} {v : Value} {l : List CT} (h : SAt m v l) {kind name : List UInt8} {x : VD} (ho : lookS l kind name = some x) : LAt m x := by
  unfold lookS at ho
  split at ho
  · cases ho
  · rename_i c hc
    have hC := h.each c (findS_mem hc)
    split at ho
    · injection ho with ho
      subst ho
      exact LAt.flat _ _ _ _ hC.key
    · exact findA_at hC.each ho
theorem eqV_two {x y z : VD} (h : SameV x y) (h' : SameV z y) : eqV x z = true := by
  obtain ⟨h1, h2, h3, h4⟩ := h
  obtain ⟨g1, g2, g3, g4⟩ := h'
  unfold eqV eqVV
  rw [h1, h2, h3, h4, g1, g2, g3, g4]
  simp
theorem ceq_two {x y z : CT} (h : SameC x y) (h' : SameC z y) : CEq x z := by
  obtain ⟨h1, h2, h3⟩ := h
  obtain ⟨g1, g2, g3⟩ := h'
  refine ⟨by rw [h1, g1]; simp, by rw [h2, g2]; simp, h3.1.trans g3.1.symm, fun i p q => ?_⟩
  have hy : i < y.attrs.length := by have := h3.1; omega
  obtain ⟨e1, e2⟩ := h3.2 i p hy
  obtain ⟨f1, f2⟩ := g3.2 i q hy
  exact ⟨by rw [e1, f1]; simp, eqV_two e2 f2⟩
/-- A subject of one context. -/
theorem one_at {w : World} {g : Nat} {c : CT} {t : TypeId} (h : Own w g #[.string c.kind, .string c.key, .slice c.ptr c.len c.cap] t) (hc : CAt w.cell? c) : SAt w.cell? (.slice (some ⟨g, 0, none⟩) 1 1) [c] := by
  refine ⟨⟨_, _, rfl, by simp, by unfold maxLen; simp, Or.inr ⟨g, 0, rfl, fun i r hi j x hx => ?_⟩⟩, fun y hy => by obtain rfl := List.mem_singleton.1 hy; exact hc⟩
  match i, hi with
  | 0, hi =>
    injection hi with hi
    subst hi
    rw [show 0 + 0 * 3 + j = j by omega, h.cell j]
    simpa [CT.row] using hx
  | i + 1, hi => simp at hi
theorem pairs_one {c d : CT} (h : CEq c d) : Pairs CEq [c] [d] := ⟨rfl, fun i p q => by
  obtain rfl : i = 0 := by simp at p; exact p
  exact h⟩

theorem okSub_fewR {l : List CT} (h : okSub l) : ∀ c ∈ l, c.attrs.length ≤ 8 := fun c hc => by
  have h1 := (okSub_eachR h c hc).2.2.1.length_le
  have h2 : (namesD c.kind 8).length ≤ 8 := by
    unfold namesD
    rw [List.length_map]
    exact Nat.le_trans (List.length_filter_le _ _) (by decide)
  simp at h1
  omega

end Go.Proofs.YtkglejfkfeahcaaGreatDoor.subj
