/- One element appended to a slice whose capacity is its length: a new block is made. -/
import Derived.Test.YtnghpjijfdpmkaaDoorTextJ
import Derived.Deep.Onto
namespace Go.Proofs.YtnghpjijfdpmkaaDoor.value
open Go.RowKit Go.Proofs.YtnghpjijfdpmkaaDoor.text

section
variable {P : Program}
theorem wpList_append_cut {ops : Array Oper} {rest : List Oper} {o : Oper} {a : Act} {Q : Exit → Act → World → Prop} {w : World} (hgd : o.guard = none) (s x : Operand) (t : TypeId)
    (ho : o.op = .call { callee := .builtin .append, args := #[s, x], argTypes := #[t, t] }) (e : TypeId) (i : TypeInfo) (z : Value) (bytes : Nat)
    (ht : P.underlying t = some (.slice e)) (hi : P.info? e = some i) (hz : i.zero = some z) (hsize : i.size = 1) (hby : i.bytes = bytes) (hzs : z.cells.size = 1)
    (va : Option Addr) (k : Nat) (olds : List Value) (hol : olds.length = k)
    (hva : (k = 0 ∧ va = none) ∨ ∃ b, va = some b ∧ ∀ j u, olds[j]? = some u → w.cell? (b.add j) = some u)
    (ad : Addr) (c : Nat) (u : Value) (hs : a.eval s = .slice va k k) (hx : a.eval x = .slice (some ad) 1 c) (hu : w.cell? (ad.add 0) = some u) (h1 : u.oneCell' = true)
    (h63 : k + 1 ≤ maxLen) (hbytes : (k + 1) * bytes ≤ 140737488355328)
    (hK : ∀ v' w', w'.ownsRow w.heap.size e 1 v' (k + 1) (olds ++ [u]) → w.grownBy w' none → wpList P ops Q rest (a.put o.dst v') w') : wpList P ops Q (o :: rest) a w := by
  have hnews : ∀ j v, [u][j]? = some v → w.cell? (ad.add j) = some v := by
    intro j v hj
    match j, hj with
    | 0, hj => simp at hj; subst hj; exact hu
  have hr : ∃ v' w', (Builtin.append_ #[t, t] o.type #[.slice va k k, .slice (some ad) 1 c]).run P w = .ok v' w' ∧ w'.ownsRow w.heap.size e 1 v' (k + 1) (olds ++ [u]) ∧ w.grownBy w' none := by
    rcases hva with ⟨rfl, rfl⟩ | ⟨b, rfl, hb⟩
    · have ho : olds = [] := List.eq_nil_of_length_eq_zero hol
      subst ho
      obtain ⟨v', w', hrun, r1, r2, _⟩ := run_append_own (P := P) w w.heap.size t o.type e i z 1 bytes ht hi hz hsize hby hzs (by decide) (.slice none 0 0) 0 [] ⟨rfl, Or.inl ⟨rfl, rfl⟩⟩ ad 1 c [u] rfl hnews (by simpa using h1) h63 hbytes (Nat.le_refl _)
      exact ⟨v', w', hrun, r1, r2⟩
    · exact run_append_arg_grows (P := P) w t o.type e i z 1 bytes ht hi hz hsize hby hzs (by decide) b k k olds (by omega) hb ad 1 c [u] rfl hnews (by omega) h63 hbytes
  refine wpList_plain hgd fun K hK' => ?_
  obtain ⟨v', w', hrun, r1, r2⟩ := hr
  unfold Oper.wp
  simp [execOp, ho, resolve, invoke, builtin, hs, hx, hrun, Result.andThen]
  exact hK' _ _ (hK v' w' r1 r2)
end

end Go.Proofs.YtnghpjijfdpmkaaDoor.value

