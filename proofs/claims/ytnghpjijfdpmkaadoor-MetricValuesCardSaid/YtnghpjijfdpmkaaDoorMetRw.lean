/- A list of bytes that came in, as the walks of chapter 34 want it. -/
import Derived.Test.YtnghpjijfdpmkaaDoorMetM
import Derived.WalkKit
import Derived.ProofKit
import Derived.OpenShut
namespace Go.Proofs.YtnghpjijfdpmkaaDoor.metric
open Go.RowKit Go.Proofs.YtnghpjijfdpmkaaDoor

theorem bytesIn_of_row {w : World} {a : Option Addr} {len cap : Nat} {zs : List Int} (h : IsRow .u8 w a len cap zs) : BytesIn w.cell? a len := by
  rcases h with ⟨rfl, rfl, rfl, -⟩ | ⟨x, rfl, hl, hm, hz, hc, hw⟩
  · exact ⟨by omega, Or.inl rfl⟩
  · refine ⟨by unfold maxLen at hm; omega, ?_⟩
    by_cases h0 : len = 0
    · exact Or.inl h0
    have hs : x.spot = none := by
      have h1 := hc 0 (by omega)
      unfold World.cell? at h1
      cases hsp : x.spot with
      | none => rfl
      | some i =>
        exfalso
        have : ((x.add 0).spot.isSome) = true := by unfold Addr.add; split <;> simp_all
        split at h1
        · rw [if_pos this] at h1; cases h1
        · cases h1
    obtain ⟨blk, off, sp⟩ := x
    simp only at hs
    subst hs
    refine Or.inr ⟨blk, off, rfl, fun i hi => ?_⟩
    have h1 := hc i (by omega)
    have h2 : (zs.getD i 0) ∈ zs := by rw [List.getD_eq_getElem?_getD, List.getElem?_eq_getElem (by omega)]; exact List.getElem_mem _
    have h3 := hw _ h2
    have h4 : 0 ≤ zs.getD i 0 ∧ zs.getD i 0 ≤ 255 := by simpa [Lit.wf, IntKind.min, IntKind.max, IntKind.signed, IntKind.bits] using h3
    have e : (⟨blk, off, none⟩ : Addr).add i = ⟨blk, off + i, none⟩ := by unfold Addr.add; split <;> simp_all
    rw [e] at h1
    exact ⟨_, h4.1, h4.2, h1⟩
theorem u8_bd {a : Int} (h : (Lit.int .u8 a).wf = true) : 0 ≤ a ∧ a ≤ 255 := by
  simpa [Lit.wf, IntKind.min, IntKind.max, IntKind.signed, IntKind.bits] using h

end Go.Proofs.YtnghpjijfdpmkaaDoor.metric

