/- The parts of a version: the reference's Part. -/
import Derived.Test.YtpildefkhlejgaaDoorValM
namespace Go.Proofs.YtpildefkhlejgaaDoor.value
open Go.RowKit Go.Proofs.YtpildefkhlejgaaDoor.text

set_option maxRecDepth 100000 in
set_option maxHeartbeats 4000000 in
theorem part_ref (s : ByteArray) (i : Int) (w : World) (hs : s.size ≤ 140737488355328) :
    Calls Tryd.prog 27 #[.string s, .int .i64 i] w fun e w' => e = .returned (partR s.data.toList i) ∧ Below w.heap.size w w' := by
  have hways := part_ways3 s.data.toList i
  go_enter Tryd.func27, Tryd.ntmps27
  go_wp2_with fail
  refine (parts_ref s _ hs).mono ?_
  rintro e w1 ⟨rfl, hb1⟩
  rcases hways with ⟨hv, hQ⟩ | ⟨x, y, z, hv, hways⟩
  · rw [hv.out]
    have hB := Lib.hid (hb1.alloc hb1.size (.cells #[.int .i64 0, .int .i64 0, .int .i64 0] 45))
    clear hb1
    go_wp2
    go_ret2
    exact ⟨ret_v hQ.out, hB.out⟩
  · rw [hv.out]
    have hB := Lib.hid (hb1.alloc hb1.size (.cells #[.int .i64 x, .int .i64 y, .int .i64 z] 45))
    clear hb1
    rcases hways with ⟨h0, hQ⟩ | ⟨h0, h3, hQ⟩ | ⟨rfl, hQ⟩ | ⟨rfl, hQ⟩ | ⟨rfl, hQ⟩
    all_goals
      go_wp2
      go_ret2
      exact ⟨ret_v hQ.out, hB.out⟩

end Go.Proofs.YtpildefkhlejgaaDoor.value
