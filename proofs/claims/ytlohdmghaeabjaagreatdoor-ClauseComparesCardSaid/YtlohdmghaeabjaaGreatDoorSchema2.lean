/- Walks of the schema's own check of a test and of conditions. -/
import Derived.Test.YtlohdmghaeabjaaGreatDoorSchema
namespace Go.Proofs.YtlohdmghaeabjaaGreatDoor.schema
open Go.RowKit

end Go.Proofs.YtlohdmghaeabjaaGreatDoor.schema

