/- Walks of the drawing functions Declared and Test: a test that fits the declared attributes. -/
import Derived.Test.YtlohdmghaeabjaaGreatDoorDraw3
import Derived.Test.YtlohdmghaeabjaaGreatDoorSchema3
import Derived.Deep.RegionLaw
import Derived.Deep.RegionLawGrows
import Derived.Deep.RegionHeld3
import Derived.Deep.AppendLies
import Derived.Deep.DrawnRows
namespace Go.Proofs.YtlohdmghaeabjaaGreatDoor.draw
open Go.RowKit Go.Proofs.YtlohdmghaeabjaaGreatDoor.schema

attribute [local go_sem ↓] Go.wp_at_zero Go.wp_at_succ

def sDevice : ByteArray := ⟨#[100, 101, 118, 105, 99, 101]⟩
def sUser : ByteArray := ⟨#[117, 115, 101, 114]⟩
def sKey : ByteArray := ⟨#[107, 101, 121]⟩
/-- The attributes that all drawn environments declare. -/
def declD : List DD := [⟨sDevice, ⟨#[99, 111, 114, 101, 115]⟩, 2⟩, ⟨sDevice, ⟨#[111, 115]⟩, 3⟩, ⟨sUser, ⟨#[97, 103, 101]⟩, 2⟩, ⟨sUser, ⟨#[97, 112, 112]⟩, 4⟩,
  ⟨sUser, ⟨#[98, 101, 116, 97]⟩, 1⟩, ⟨sUser, ⟨#[99, 111, 117, 110, 116, 114, 121]⟩, 3⟩, ⟨sUser, ⟨#[112, 108, 97, 110]⟩, 3⟩, ⟨sUser, ⟨#[116, 97, 103, 115]⟩, 5⟩]
def declArr : Array Value := (declD.map DD.row).flatten.toArray

set_option maxHeartbeats 400000 in
theorem declared_any (w : World) :
    Calls Tryz.prog 32 #[] w fun e w' => e = .returned (.slice (some ⟨w.heap.size, 0, none⟩) 8 8) ∧ w' = w.alloc (.cells declArr 76) := by
  go_enter Tryz.func32, Tryz.ntmps32
  go_wp2
  go_ret
  exact ⟨rfl, rfl⟩

theorem decl_types : ∀ j, (h : j < 8) → typeOf (declD[j]'h).kind.toList (declD[j]'h).name.toList declD = (declD[j]'h).type ∧ 1 ≤ (declD[j]'h).type ∧ (declD[j]'h).type ≤ 5 := by
  intro j h
  have : ∀ j : Fin 8, typeOf (declD[j.val]'j.isLt).kind.toList (declD[j.val]'j.isLt).name.toList declD = (declD[j.val]'j.isLt).type ∧ 1 ≤ (declD[j.val]'j.isLt).type ∧ (declD[j.val]'j.isLt).type ≤ 5 := by decide +kernel
  exact this ⟨j, h⟩
theorem key_type : typeOf sUser.toList sKey.toList declD = 3 := by kernel_rfl

end Go.Proofs.YtlohdmghaeabjaaGreatDoor.draw

