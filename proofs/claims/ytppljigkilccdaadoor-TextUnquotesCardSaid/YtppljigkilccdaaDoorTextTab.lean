/- What the rows' list of variables gives the walks: the tables of strings, utf8 and strconv, and strconv's sentinel; and that they stay where a call makes memory only. -/
import Derived.Test.YtppljigkilccdaaDoorTextC
import Derived.Test.YtppljigkilccdaaDoorRows
import Derived.Lib.LaidU8T
import Derived.Lib.LaidTab
import Derived.LaidMore
import Derived.MakeChecks
import Derived.Stop.LaidErr
import Derived.Shelf.Strings.FieldsAny
namespace Go.Proofs.YtppljigkilccdaaDoor.text
open Go.RowKit Go.Lib

structure Tabs (w : World) : Prop where
  space : SpaceTab w
  runes : RuneTabs w
  pow : Lib.TabIs Tryd.prog w "internal/strconv.uint64pow10" .u64 Lib.pow10Tab
  range : ∃ tp p, w.var? Tryd.prog "strconv.ErrRange" = some #[.iface tp p]

theorem var_below {n : String} {cs : Array Value} {w w' : World} (h : Below w.heap.size w w') (hv : w.var? Tryd.prog n = some cs) : w'.var? Tryd.prog n = some cs := by
  cases hg : Tryd.prog.globalNamed n with
  | none => unfold World.var? at hv; simp [hg] at hv
  | some g =>
    refine Go.var?_below h hg ?_ hv
    rcases Nat.lt_or_ge g w.heap.size with hl | hl
    · exact hl
    · unfold World.var? at hv
      rw [hg, Option.bind_some, Array.getElem?_eq_none (by omega)] at hv
      cases hv
theorem Tabs.below {w w' : World} (h : Tabs w) (hb : Below w.heap.size w w') : Tabs w' :=
  ⟨var_below hb h.space, Utf8Tabs_below h.runes hb, var_below hb h.pow, let ⟨tp, p, hr⟩ := h.range; ⟨tp, p, var_below hb hr⟩⟩

theorem tab_of_reads {name : String} {k : IntKind} {zs : List Int} {g : Nat} {t e : TypeId} {n : Nat} {w : World}
    (hg : Tryd.prog.globalNamed name = some g) (hty : (Tryd.prog.globals[g]?).map (·.type) = some t) (ht : Tryd.prog.underlying t = some (.array n e)) (he : Tryd.prog.underlying e = some (.int k)) (hce : Tryd.prog.cellsOf e = 1) (hct : Tryd.prog.cellsOf t = n)
    (h : VarReads Tryd.prog w name (tabData k zs)) : TabIs Tryd.prog w name k zs := by
  obtain ⟨g', t', cs, fuel, p, hg', ht', hvar, hd⟩ := h
  obtain rfl := Option.some.inj (hg.symm.trans hg')
  obtain rfl := Option.some.inj (hty.symm.trans ht')
  unfold TabIs
  rw [hvar, ← cells_of_tab ht he hce hct hd]

theorem sp_data : (Rows.laid_strings_asciiSpace : DataW Unit) = tabData .u8 asciiSpaceTab := by kernel_rfl
theorem pow_data : (Rows.laid_internal_strconv_uint64pow10 : DataW Unit) = tabData .u64 pow10Tab := by kernel_rfl
theorem first_data : (Rows.laid_unicode_utf8_first : DataW Unit) = firstData := by kernel_rfl
theorem accept_data : (Rows.laid_unicode_utf8_acceptRanges : DataW Unit) = acceptData := by kernel_rfl

theorem star : "*" ++ "errors.errorString" = "*errors.errorString" := by decide
theorem errRow (u : TypeId) (h : Tryd.prog.typeName? 3 u = some "*errors.errorString") : u = 107 :=
  typeName_ptr_named (nm := "errors.errorString") (by rw [star]; kernel_rfl) (by kernel_rfl) (by decide) u (by rw [star]; exact h)
theorem tabs_of_laid {w : World} (h : laidMetH Tryd.prog Rows.textKeysRow.laid w) : Tabs w := by
  rw [MakeChecks.laidMetH_plain _ _ _ (by kernel_rfl)] at h
  have hs := Lib.laidMet.reads h (n := "strings.asciiSpace") (d := Rows.laid_strings_asciiSpace) (by simp [Rows.textKeysRow])
  have hp := Lib.laidMet.reads h (n := "internal/strconv.uint64pow10") (d := Rows.laid_internal_strconv_uint64pow10) (by simp [Rows.textKeysRow])
  have h3 := Lib.laidMet.reads h (n := "unicode/utf8.first") (d := Rows.laid_unicode_utf8_first) (by simp [Rows.textKeysRow])
  have h4 := Lib.laidMet.reads h (n := "unicode/utf8.acceptRanges") (d := Rows.laid_unicode_utf8_acceptRanges) (by simp [Rows.textKeysRow])
  rw [sp_data] at hs
  rw [pow_data] at hp
  rw [first_data] at h3
  rw [accept_data] at h4
  refine ⟨tab_of_reads (g := 0) (by kernel_rfl) (by kernel_rfl) Tryd.underlying50 Tryd.underlying5 (by kernel_rfl) (by kernel_rfl) hs,
    utf8Tabs_of_readsT (U8Types.of196 Tryd.laysValid) ⟨by kernel_rfl, by kernel_rfl, by kernel_rfl, by kernel_rfl, by kernel_rfl, by kernel_rfl, by kernel_rfl⟩ h3 h4,
    tab_of_reads (g := 6) (by kernel_rfl) (by kernel_rfl) Tryd.underlying103 Tryd.underlying66 (by kernel_rfl) (by kernel_rfl) hp, ?_⟩
  obtain ⟨a, s, hv, -, -, -⟩ := laid_sentinel (g := 5) h.tail.tail.tail.tail (by kernel_rfl) (by kernel_rfl) Tryd.underlying42 errRow Tryd.underlying107 Tryd.underlying109 rfl rfl Tryd.underlying9 (by kernel_rfl) (by kernel_rfl)
  exact ⟨_, _, hv⟩

end Go.Proofs.YtppljigkilccdaaDoor.text
