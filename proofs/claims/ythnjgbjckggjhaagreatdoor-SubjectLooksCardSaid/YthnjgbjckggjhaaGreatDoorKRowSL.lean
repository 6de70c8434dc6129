/- What the row subjectLooksRow gives the walks. -/
import Derived.Test.YthnjgbjckggjhaaGreatDoorKSuC
import Derived.Test.YthnjgbjckggjhaaGreatDoorRows
import Derived.MakeChecks
import Derived.Stop.LaidErr
namespace Go.Proofs.YthnjgbjckggjhaaGreatDoor.subjectLooksRow
open Go.RowKit Go.Lib Go.Proofs.YthnjgbjckggjhaaGreatDoor.text Go.Proofs.YthnjgbjckggjhaaGreatDoor.subj

theorem pow_data : (Rows.laid_internal_strconv_uint64pow10 : DataW Unit) = tabData .u64 pow10Tab := by kernel_rfl
theorem sp_data : (Rows.laid_strings_asciiSpace : DataW Unit) = tabData .u8 asciiSpaceTab := by kernel_rfl
theorem first_data : (Rows.laid_unicode_utf8_first : DataW Unit) = firstData := by kernel_rfl
theorem accept_data : (Rows.laid_unicode_utf8_acceptRanges : DataW Unit) = acceptData := by kernel_rfl
theorem star : "*" ++ "errors.errorString" = "*errors.errorString" := by decide
theorem errRow (u : TypeId) (h : Tryz.prog.typeName? 3 u = some "*errors.errorString") : u = 158 :=
  typeName_ptr_named (nm := "errors.errorString") (by rw [star]; kernel_rfl) (by kernel_rfl) (by decide) u (by rw [star]; exact h)
theorem stabs_of_laid {w : World} (h : laidMetH Tryz.prog Rows.subjectLooksRow.laid w) (hsh : w.ShapedOpen Tryz.prog) : STabs w := by
  rw [MakeChecks.laidMetH_plain _ _ _ (by kernel_rfl)] at h
  have hp := Lib.laidMet.reads h (n := "internal/strconv.uint64pow10") (d := Rows.laid_internal_strconv_uint64pow10) (by simp [Rows.subjectLooksRow])
  have hs := Lib.laidMet.reads h (n := "strings.asciiSpace") (d := Rows.laid_strings_asciiSpace) (by simp [Rows.subjectLooksRow])
  have h3 := Lib.laidMet.reads h (n := "unicode/utf8.first") (d := Rows.laid_unicode_utf8_first) (by simp [Rows.subjectLooksRow])
  have h4 := Lib.laidMet.reads h (n := "unicode/utf8.acceptRanges") (d := Rows.laid_unicode_utf8_acceptRanges) (by simp [Rows.subjectLooksRow])
  rw [pow_data] at hp
  rw [sp_data] at hs
  rw [first_data] at h3
  rw [accept_data] at h4
  refine ⟨⟨utf8Tabs_of_readsT (U8Types.of196 Tryz.laysValid) ⟨by kernel_rfl, by kernel_rfl, by kernel_rfl, by kernel_rfl, by kernel_rfl, by kernel_rfl, by kernel_rfl⟩ h3 h4,
    tab_of_reads (g := 10) (by kernel_rfl) (by kernel_rfl) Tryz.underlying168 Tryz.underlying114 (by kernel_rfl) (by kernel_rfl) hp, ?_, ?_⟩,
    tab_of_reads (g := 3) (by kernel_rfl) (by kernel_rfl) Tryz.underlying93 Tryz.underlying5 (by kernel_rfl) (by kernel_rfl) hs⟩
  · obtain ⟨a, s, hv, -, -, -⟩ := laid_sentinel (g := 9) h.tail.tail.tail.tail.tail.tail.tail (by kernel_rfl) (by kernel_rfl) Tryz.underlying83 errRow Tryz.underlying158 Tryz.underlying160 rfl rfl Tryz.underlying9 (by kernel_rfl) (by kernel_rfl)
    exact ⟨_, _, hv⟩
  · exact Tryz.laysM146.s1_3 w hsh

end Go.Proofs.YthnjgbjckggjhaaGreatDoor.subjectLooksRow

