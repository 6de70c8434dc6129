/- Drawn contexts and subjects, plain: what they hold fits what is declared, in ascending order, and is valid. -/
import Derived.Test.YthnjgbjckggjhaaGreatDoorKJ5
import Derived.Test.YthnjgbjckggjhaaGreatDoorKSuS
namespace Go.Proofs.YthnjgbjckggjhaaGreatDoor.clause
open Go.RowKit Go.Proofs.YthnjgbjckggjhaaGreatDoor Go.Proofs.YthnjgbjckggjhaaGreatDoor.schema Go.Proofs.YthnjgbjckggjhaaGreatDoor.value Go.Proofs.YthnjgbjckggjhaaGreatDoor.text Go.Proofs.YthnjgbjckggjhaaGreatDoor.draw Go.Proofs.YthnjgbjckggjhaaGreatDoor.subj

theorem declArr_at (j : Nat) (h : j < 8) : declArr[j * 3]? = some (.string (declD[j]'h).kind) ∧ declArr[j * 3 + 1]? = some (.string (declD[j]'h).name) ∧ declArr[j * 3 + 2]? = some (.int .i64 (declD[j]'h).type) := by
  rcases (show j = 0 ∨ j = 1 ∨ j = 2 ∨ j = 3 ∨ j = 4 ∨ j = 5 ∨ j = 6 ∨ j = 7 by omega) with rfl | rfl | rfl | rfl | rfl | rfl | rfl | rfl
  all_goals exact ⟨rfl, rfl, rfl⟩
/-- The declared names of a kind. -/
def namesD (kind : ByteArray) (i : Nat) : List ByteArray := ((declD.take i).filter fun d => d.kind.toList == kind.toList).map (·.name)
/-- Attributes out of the first i declared ones: of the kind, in their order, of their types, valid. -/
def okA (kind : ByteArray) (l : List AD) (i : Nat) : Prop :=
  List.Sublist (l.map (·.name)) (namesD kind i) ∧ ∀ a ∈ l, okV a.val ∧ ∃ d ∈ declD, d.kind.toList = kind.toList ∧ d.name = a.name ∧ d.type = a.val.kind
theorem okA_nil (kind : ByteArray) (i : Nat) : okA kind [] i := ⟨List.nil_sublist _, fun a h => by cases h⟩
theorem namesD_up (kind : ByteArray) {i j : Nat} (h : i ≤ j) : List.Sublist (namesD kind i) (namesD kind j) :=
  ((List.take_sublist_take_left h).filter _).map _
theorem okA_up {kind : ByteArray} {l : List AD} {i j : Nat} (h : i ≤ j) (ho : okA kind l i) : okA kind l j := ⟨ho.1.trans (namesD_up kind h), ho.2⟩
theorem okA_more {kind : ByteArray} {l : List AD} {i : Nat} {dv : VD} (hi : i < 8) (ho : okA kind l i) (hk : ((declD[i]'hi).kind.toList == kind.toList) = true) (hd : dv.kind = kindOf (declD[i]'hi).type ∧ okV dv) : okA kind (l ++ [⟨(declD[i]'hi).name, dv⟩]) (i + 1) := by
  have hi' : i < declD.length := hi
  refine ⟨?_, fun a ha => ?_⟩
  · have e : namesD kind (i + 1) = namesD kind i ++ [(declD[i]'hi').name] := by
      have hk' : ((declD[i]'hi').kind.toList == kind.toList) = true := hk
      have h1 : List.filter (fun d => d.kind.toList == kind.toList) [declD[i]'hi'] = [declD[i]'hi'] := by rw [List.filter_cons, if_pos hk']; rfl
      unfold namesD
      rw [List.take_succ_eq_append_getElem hi', List.filter_append, List.map_append, h1]
      rfl
    rw [e, List.map_append]
    exact List.Sublist.append ho.1 (List.Sublist.refl _)
  · rcases List.mem_append.1 ha with ha | ha
    · exact ho.2 a ha
    · obtain rfl := List.mem_singleton.1 ha
      have ht := (decl_types i hi).2
      refine ⟨hd.2, declD[i]'hi, List.getElem_mem hi', by simpa using hk, rfl, ?_⟩
      rw [hd.1]
      unfold kindOf
      split <;> omega

/-- A drawn context. -/
def okC (c : CT) : Prop := ((c.key.size ≤ 200 ∧ validS c.key.data.toList = true) ∧ ¬ c.key.size = 0) ∧ okA c.kind c.attrs 8
/-- Drawn contexts of these kinds. -/
def okL (K : List ByteArray) (l : List CT) : Prop := l.map (·.kind) = K ∧ ∀ c ∈ l, okC c
theorem okL.len {K : List ByteArray} {l : List CT} (h : okL K l) : l.length = K.length := by rw [← h.1]; simp
theorem okL_nil : okL [] [] := ⟨rfl, fun c h => by cases h⟩
theorem okL_more {K : List ByteArray} {l : List CT} {c : CT} {k : ByteArray} (h : okL K l) (hk : c.kind = k) (hc : okC c) : okL (K ++ [k]) (l ++ [c]) := by
  refine ⟨by rw [List.map_append, h.1, ← hk]; rfl, fun d hd => ?_⟩
  rcases List.mem_append.1 hd with hd | hd
  · exact h.2 d hd
  · obtain rfl := List.mem_singleton.1 hd
    exact hc
def okSub (l : List CT) : Prop := okL [] l ∨ okL [sDevice] l ∨ okL [sUser] l ∨ okL [sDevice, sUser] l
theorem okSub.len {l : List CT} (h : okSub l) : l.length ≤ 2 := by
  rcases h with h | h | h | h
  all_goals exact Nat.le_trans (Nat.le_of_eq h.len) (by decide)

/-- Names in ascending order, each of which may be the name of an attribute. -/
def okN (l : List ByteArray) : Prop := l.Pairwise (fun a b => Op.bytesLess a.data.toList b.data.toList = true) ∧ ∀ n ∈ l, keyS n.data.toList = true ∧ (n.data.toList == [107, 101, 121]) = false
theorem okN_sub {l l' : List ByteArray} (h : okN l) (hs : List.Sublist l' l) : okN l' := ⟨h.1.sublist hs, fun n hn => h.2 n (hs.subset hn)⟩
theorem attrGo_ok : ∀ (l : List AD) (p : Option ByteArray), okN (l.map (·.name)) → (∀ q, p = some q → ∀ a ∈ l, Op.bytesLess q.data.toList a.name.data.toList = true) → (∀ a ∈ l, okV a.val) → attrGo (p.map (·.data.toList)) l = 0
  | [], p, _, _, _ => by cases p <;> rfl
  | a :: r, p, hN, hp, hv => by
    have h1 := hN.2 a.name (by simp)
    have h2 : lateS (p.map (·.data.toList)) a.name.data.toList = true := by
      cases p with
      | none => rfl
      | some q => exact hp q rfl a (by simp)
    have h3 : checkS (vv a.val) = 0 := hv a (by simp)
    have hN' : okN (r.map (·.name)) := okN_sub hN (by simp)
    have := attrGo_ok r (some a.name) hN' (fun q hq b hb => by
      cases hq
      have := (List.pairwise_cons.1 hN.1).1 b.name (List.mem_map_of_mem hb)
      exact this) (fun b hb => hv b (by simp [hb]))
    rw [attrGo.eq_def]
    simp only [h1.1, h1.2, h2, h3]
    simpa using this
theorem namesD_device : okN (namesD sDevice 8) := by
  refine ⟨?_, ?_⟩
  · have : (namesD sDevice 8).Pairwise (fun a b => Op.bytesLess a.data.toList b.data.toList = true) := by decide +kernel
    exact this
  · have : ∀ n ∈ namesD sDevice 8, keyS n.data.toList = true ∧ (n.data.toList == [107, 101, 121]) = false := by decide +kernel
    exact this
theorem namesD_user : okN (namesD sUser 8) := by
  refine ⟨?_, ?_⟩
  · have : (namesD sUser 8).Pairwise (fun a b => Op.bytesLess a.data.toList b.data.toList = true) := by decide +kernel
    exact this
  · have : ∀ n ∈ namesD sUser 8, keyS n.data.toList = true ∧ (n.data.toList == [107, 101, 121]) = false := by decide +kernel
    exact this
theorem attrS_ok {l : List AD} {kind : ByteArray} (h : okA kind l 8) (hN : okN (namesD kind 8)) : attrS l = 0 := by
  have hlen : l.length ≤ 8 := by
    have h1 := h.1.length_le
    have h2 : (namesD kind 8).length ≤ 8 := by
      unfold namesD
      rw [List.length_map]
      exact Nat.le_trans (List.length_filter_le _ _) (by decide)
    simp at h1
    omega
  unfold attrS
  rw [if_neg (by omega)]
  exact attrGo_ok l none (okN_sub hN h.1) (fun q hq => by cases hq) (fun a ha => (h.2 a ha).1)
theorem key_device : keyS sDevice.data.toList = true := by kernel_rfl
theorem key_user : keyS sUser.data.toList = true := by kernel_rfl
theorem less_du : Op.bytesLess sDevice.data.toList sUser.data.toList = true := by kernel_rfl
theorem subGo_one {c : CT} {p : Option (List UInt8)} {r : List CT} (hk : keyS c.kind.data.toList = true) (hp : lateS p c.kind.data.toList = true) (hc : okC c) (hN : okN (namesD c.kind 8)) : subGo p (c :: r) = subGo (some c.kind.data.toList) r := by
  have h1 := attrS_ok hc.2 hN
  have h2 := hc.1.2
  have h3 := hc.1.1.2
  rw [subGo.eq_def]
  simp [hk, hp, h1, h2, h3]
theorem sub_ok {l : List CT} (h : okSub l) : subS l = 0 := by
  have hlen := h.len
  unfold subS
  rw [if_neg (by omega)]
  rcases h with h | h | h | h
  · have : l = [] := by simpa using h.1
    rw [this]; rfl
  · match l, h with
    | [], h => exact absurd h.1 (by simp)
    | [c], h =>
      have e : c.kind = sDevice := by simpa using h.1
      rw [subGo_one (by rw [e]; exact key_device) rfl (h.2 c (by simp)) (by rw [e]; exact namesD_device)]; rfl
    | _ :: _ :: _, h => exact absurd h.1 (by simp)
  · match l, h with
    | [], h => exact absurd h.1 (by simp)
    | [c], h =>
      have e : c.kind = sUser := by simpa using h.1
      rw [subGo_one (by rw [e]; exact key_user) rfl (h.2 c (by simp)) (by rw [e]; exact namesD_user)]; rfl
    | _ :: _ :: _, h => exact absurd h.1 (by simp)
  · match l, h with
    | [], h => exact absurd h.1 (by simp)
    | [c], h => exact absurd h.1 (by simp)
    | [c, d], h =>
      have e : c.kind = sDevice ∧ d.kind = sUser := by simpa using h.1
      rw [subGo_one (by rw [e.1]; exact key_device) rfl (h.2 c (by simp)) (by rw [e.1]; exact namesD_device),
        subGo_one (by rw [e.2]; exact key_user) (by rw [e.1, e.2]; exact less_du) (h.2 d (by simp)) (by rw [e.2]; exact namesD_user)]; rfl
    | _ :: _ :: _ :: _, h => exact absurd h.1 (by simp)

end Go.Proofs.YthnjgbjckggjhaaGreatDoor.clause

