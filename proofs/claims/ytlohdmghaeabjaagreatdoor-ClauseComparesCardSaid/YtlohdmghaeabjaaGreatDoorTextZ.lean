/- Small words that all walks over texts share. -/
import Derived.Test.YtlohdmghaeabjaaGreatDoorChecked
import Derived.Test.YtlohdmghaeabjaaGreatDoorBase
import Derived.WalkKit
import Derived.WalkSpells
import Derived.WalkLawsBesides
import Derived.Deep.QuietTactic
import Derived.BigQuiet
import Derived.Lib.Hide
import Derived.LoopTactic
import Derived.Outline
namespace Go.Proofs.YtlohdmghaeabjaaGreatDoor.text
open Go.RowKit

theorem ret_int {k : IntKind} {a b : Int} (h : a = b) : Ending.returned (.int k a) = .returned (.int k b) := by rw [h]
theorem ret_bool {a b : Bool} (h : a = b) : Ending.returned (.bool a) = .returned (.bool b) := by rw [h]

theorem drop_byte (s : ByteArray) (k : Nat) (h : k < s.size) : s.data.toList.drop k = s[k] :: s.data.toList.drop (k + 1) := by
  rw [List.drop_eq_getElem_cons (by simpa using h)]; rfl

end Go.Proofs.YtlohdmghaeabjaaGreatDoor.text

