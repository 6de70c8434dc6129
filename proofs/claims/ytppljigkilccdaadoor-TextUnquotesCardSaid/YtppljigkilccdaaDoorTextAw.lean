/- The sanity check with which each law of the chapter begins. -/
import Derived.Test.YtppljigkilccdaaDoorTextH
import Derived.Test.YtppljigkilccdaaDoorTextV
import Derived.Deep.RegionHeld3
namespace Go.Proofs.YtppljigkilccdaaDoor.text
open Go.RowKit

def sAB : ByteArray := ⟨#[97, 34, 98]⟩
theorem aw1 : quoteV sAB.data.toList = .tuple #[.string ⟨#[34, 97, 92, 34, 98, 34]⟩, .int .i64 0] := by kernel_rfl
theorem aw2 : parseV (⟨#[48, 48, 55]⟩ : ByteArray).data.toList = .tuple #[.int .i64 0, .int .i64 1] := by kernel_rfl

def kNew : ByteArray := ⟨#[110, 101, 119, 45, 99, 104, 101, 99, 107, 111, 117, 116]⟩
theorem aw3 : keyS kNew.data.toList = true := by kernel_rfl
def kOn : ByteArray := ⟨#[111, 110]⟩
theorem aw4 : keyS kOn.data.toList = false := by kernel_rfl
def kTwo : ByteArray := ⟨#[50, 120]⟩
theorem aw5 : keyS kTwo.data.toList = false := by kernel_rfl
theorem aw6 : (⟨(Lib.itoa (-12)).toArray⟩ : ByteArray) = ⟨#[45, 49, 50]⟩ := by
  have h1 : Lib.decDigits (Int.natAbs (-12)) = [49, 50] := by
    show Lib.decDigits 12 = [49, 50]
    rw [Lib.decDigits_two (by decide) (by decide)]
    rfl
  rw [Lib.itoa, if_pos (by decide), h1]

set_option maxRecDepth 100000 in
set_option maxHeartbeats 1000000 in
theorem awake_any (w : World) (hT : Tabs w) : Calls Tryd.prog 10 #[] w fun e w' => e = .returned (.bool true) ∧ Below w.heap.size w w' := by
  replace hT := Lib.hid hT
  go_enter Tryd.func10, Tryd.ntmps10
  go_wp2_with fail
  refine (quote_any sAB _ hT.out.runes).mono ?_
  rintro e w1 ⟨rfl, hb1⟩
  rw [aw1]
  have hT1 := Lib.hid (hT.out.below hb1)
  replace hb1 := Lib.hid hb1
  go_wp2_with fail
  refine (parse_any _ _ (by decide) hT1.out).mono ?_
  rintro e w2 ⟨rfl, hb2⟩
  rw [aw2]
  have hT2 := Lib.hid (hT1.out.below hb2)
  replace hb2 := Lib.hid (hb1.out.trans (hb2.mono hb1.out.size))
  have hT3 := Lib.hid (hT2.out)
  go_wp2_with fail
  refine (key_any kNew _ hT2.out.space).mono ?_
  rintro e w3 ⟨rfl, hb3⟩
  rw [aw3]
  have hT3 := Lib.hid (hT2.out.below hb3)
  replace hb3 := Lib.hid (hb2.out.trans (hb3.mono hb2.out.size))
  go_wp2_with fail
  refine (key_any kOn _ hT3.out.space).mono ?_
  rintro e w4 ⟨rfl, hb4⟩
  rw [aw4]
  have hT4 := Lib.hid (hT3.out.below hb4)
  replace hb4 := Lib.hid (hb3.out.trans (hb4.mono hb3.out.size))
  go_wp2_with fail
  refine (key_any kTwo _ hT4.out.space).mono ?_
  rintro e w5 ⟨rfl, hb5⟩
  rw [aw5]
  have hT5 := Lib.hid (hT4.out.below hb5)
  replace hb5 := Lib.hid (hb4.out.trans (hb5.mono hb4.out.size))
  go_wp2_with fail
  refine (number_any (-12) _ (by decide) (by decide) hT5.out).mono ?_
  rintro e w6 ⟨rfl, hb6⟩
  rw [aw6]
  replace hb6 := Lib.hid (hb5.out.trans (hb6.mono hb5.out.size))
  go_wp2
  go_ret
  exact ⟨rfl, hb6.out⟩

end Go.Proofs.YtppljigkilccdaaDoor.text
