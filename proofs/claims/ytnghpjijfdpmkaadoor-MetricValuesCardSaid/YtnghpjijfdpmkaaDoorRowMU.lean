/- What the row metricValuesRow gives the walks. -/
import Derived.Test.YtnghpjijfdpmkaaDoorMetN
import Derived.Test.YtnghpjijfdpmkaaDoorRows
import Derived.Lib.LaidTab
import Derived.LaidMore
import Derived.MakeChecks
import Derived.Stop.LaidErr
namespace Go.Proofs.YtnghpjijfdpmkaaDoor.metricValuesRow
open Go.RowKit Go.Lib Go.Proofs.YtnghpjijfdpmkaaDoor.text Go.Proofs.YtnghpjijfdpmkaaDoor.metric

theorem tabM_of_reads {name : String} {k : IntKind} {zs : List Int} {g : Nat} {t e : TypeId} {n : Nat} {w : World}
    (hg : Tryd.prog.globalNamed name = some g) (hty : (Tryd.prog.globals[g]?).map (·.type) = some t) (ht : Tryd.prog.underlying t = some (.array n e)) (he : Tryd.prog.underlying e = some (.int k)) (hce : Tryd.prog.cellsOf e = 1) (hct : Tryd.prog.cellsOf t = n)
    (h : VarReads Tryd.prog w name (tabData k zs)) : TabIs Tryd.prog w name k zs := by
  obtain ⟨g', t', cs, fuel, p, hg', ht', hvar, hd⟩ := h
  obtain rfl := Option.some.inj (hg.symm.trans hg')
  obtain rfl := Option.some.inj (hty.symm.trans ht')
  unfold TabIs
  rw [hvar, ← cells_of_tab ht he hce hct hd]
theorem sp_data : (Rows.laid_strings_asciiSpace : DataW Unit) = tabData .u8 asciiSpaceTab := by kernel_rfl
theorem pow_data : (Rows.laid_internal_strconv_uint64pow10 : DataW Unit) = tabData .u64 pow10Tab := by kernel_rfl
theorem star : "*" ++ "errors.errorString" = "*errors.errorString" := by decide
theorem errRow (u : TypeId) (h : Tryd.prog.typeName? 3 u = some "*errors.errorString") : u = 179 :=
  typeName_ptr_named (nm := "errors.errorString") (by rw [star]; kernel_rfl) (by kernel_rfl) (by decide) u (by rw [star]; exact h)
theorem ntabs_of_laid {w : World} (h : laidMetH Tryd.prog Rows.metricValuesRow.laid w) : NTabs w := by
  rw [MakeChecks.laidMetH_plain _ _ _ (by kernel_rfl)] at h
  have hs := Lib.laidMet.reads h (n := "strings.asciiSpace") (d := Rows.laid_strings_asciiSpace) (by simp [Rows.metricValuesRow])
  have hp := Lib.laidMet.reads h (n := "internal/strconv.uint64pow10") (d := Rows.laid_internal_strconv_uint64pow10) (by simp [Rows.metricValuesRow])
  rw [sp_data] at hs
  rw [pow_data] at hp
  refine ⟨tabM_of_reads (g := 7) (by kernel_rfl) (by kernel_rfl) Tryd.underlying175 Tryd.underlying158 (by kernel_rfl) (by kernel_rfl) hp, ?_,
    tabM_of_reads (g := 0) (by kernel_rfl) (by kernel_rfl) Tryd.underlying120 Tryd.underlying5 (by kernel_rfl) (by kernel_rfl) hs⟩
  obtain ⟨a, s, hv, -, -, -⟩ := laid_sentinel (g := 6) h.tail.tail.tail (by kernel_rfl) (by kernel_rfl) Tryd.underlying109 errRow Tryd.underlying179 Tryd.underlying181 rfl rfl Tryd.underlying9 (by kernel_rfl) (by kernel_rfl)
  exact ⟨_, _, hv⟩

end Go.Proofs.YtnghpjijfdpmkaaDoor.metricValuesRow

