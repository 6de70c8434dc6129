/- Which attribute is found: the reference's Find and Lookup. -/
import Derived.Test.YtkglejfkfeahcaaGreatDoorKClL
namespace Go.Proofs.YtkglejfkfeahcaaGreatDoor.clause
open Go.RowKit Go.Proofs.YtkglejfkfeahcaaGreatDoor Go.Proofs.YtkglejfkfeahcaaGreatDoor.schema Go.Proofs.YtkglejfkfeahcaaGreatDoor.value Go.Proofs.YtkglejfkfeahcaaGreatDoor.text Go.Proofs.YtkglejfkfeahcaaGreatDoor.draw

def FindIs (o : Option CT) (e : Ending) : Prop :=
  match o with
  | none => e = .returned (.tuple #[.agg #[.string ⟨#[]⟩, .string ⟨#[]⟩, .slice none 0 0], .bool false])
  | some c => e = .returned (.tuple #[.agg #[.string c.kind, .string c.key, .slice c.ptr c.len c.cap], .bool true])
theorem own3z {w : World} {n : Nat} {x0 x1 x2 : Value} {t : TypeId} (h : Own w n #[x0, x1, x2] t) :
    w.cell? ⟨n, 0, none⟩ = some x0 ∧ w.cell? ⟨n, 1, none⟩ = some x1 ∧ w.cell? ⟨n, 2, none⟩ = some x2 ∧ w.frozen? ⟨n, 0, none⟩ = false ∧ w.frozen? ⟨n, 1, none⟩ = false ∧ w.frozen? ⟨n, 2, none⟩ = false :=
  ⟨h.cell 0, h.cell 1, h.cell 2, h.free 0, h.free 1, h.free 2⟩

end Go.Proofs.YtkglejfkfeahcaaGreatDoor.clause

