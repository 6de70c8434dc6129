/- The program's search by halves among sorted attributes. -/
import Derived.Test.YtkglejfkfeahcaaGreatDoorKJ20
import Derived.Test.YtkglejfkfeahcaaGreatDoorKSuK
namespace Go.Proofs.YtkglejfkfeahcaaGreatDoor.subj
open Go.RowKit Go.Proofs.YtkglejfkfeahcaaGreatDoor Go.Proofs.YtkglejfkfeahcaaGreatDoor.schema Go.Proofs.YtkglejfkfeahcaaGreatDoor.value Go.Proofs.YtkglejfkfeahcaaGreatDoor.text Go.Proofs.YtkglejfkfeahcaaGreatDoor.clause Go.Proofs.YtkglejfkfeahcaaGreatDoor.draw

end Go.Proofs.YtkglejfkfeahcaaGreatDoor.subj

