/- strings.Builder's copyCheck and WriteByte, walked over this program: a builder that the call itself has made holds one byte more. -/
import Derived.Test.YtlohdmghaeabjaaGreatDoorChecked
import Derived.Test.YtlohdmghaeabjaaGreatDoorBase
import Derived.WalkKit
import Derived.WalkSpells
import Derived.WalkLawsBesides
import Derived.Lib.Builder
import Derived.Lib.Hide
import Derived.Deep.AppendLies
import Derived.KernelRfl
namespace Go.Proofs.YtlohdmghaeabjaaGreatDoor.text
open Go.RowKit

theorem infoByte : (Tryz.prog.info? 5).map (fun i => (i.zero, i.size, i.bytes)) = some (some (.int .u8 0), 1, 1) := by kernel_rfl

end Go.Proofs.YtlohdmghaeabjaaGreatDoor.text

