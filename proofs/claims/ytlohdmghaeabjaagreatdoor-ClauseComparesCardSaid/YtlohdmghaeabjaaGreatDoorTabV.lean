/- What a row's list of variables gives the walks: the tables of utf8 and strconv, strconv's sentinel, and that bytealg's limit holds some number; that they stay where a call makes memory only. -/
import Derived.Test.YtlohdmghaeabjaaGreatDoorTextC
import Derived.Lib.LaidU8T
import Derived.Lib.LaidTab
import Derived.LaidMore
import Derived.Lib.ItoaNum
namespace Go.Proofs.YtlohdmghaeabjaaGreatDoor.text
open Go.RowKit Go.Lib

structure Tabs (w : World) : Prop where
  runes : RuneTabs w
  pow : Lib.TabIs Tryz.prog w "internal/strconv.uint64pow10" .u64 Lib.pow10Tab
  range : ∃ tp p, w.var? Tryz.prog "strconv.ErrRange" = some #[.iface tp p]
  lim : ∃ m, w.cell? ⟨3, 0, none⟩ = some (.int .i64 m)

theorem var_below {n : String} {cs : Array Value} {w w' : World} (h : Below w.heap.size w w') (hv : w.var? Tryz.prog n = some cs) : w'.var? Tryz.prog n = some cs := by
  cases hg : Tryz.prog.globalNamed n with
  | none => unfold World.var? at hv; simp [hg] at hv
  | some g =>
    refine Go.var?_below h hg ?_ hv
    rcases Nat.lt_or_ge g w.heap.size with hl | hl
    · exact hl
    · unfold World.var? at hv
      rw [hg, Option.bind_some, Array.getElem?_eq_none (by omega)] at hv
      cases hv
theorem Tabs.below {w w' : World} (h : Tabs w) (hb : Below w.heap.size w w') : Tabs w' :=
  ⟨Utf8Tabs_below h.runes hb, var_below hb h.pow, let ⟨tp, p, hr⟩ := h.range; ⟨tp, p, var_below hb hr⟩, let ⟨m, hm⟩ := h.lim; ⟨m, sub_of_below hb _ _ hm⟩⟩

theorem tab_of_reads {name : String} {k : IntKind} {zs : List Int} {g : Nat} {t e : TypeId} {n : Nat} {w : World}
    (hg : Tryz.prog.globalNamed name = some g) (hty : (Tryz.prog.globals[g]?).map (·.type) = some t) (ht : Tryz.prog.underlying t = some (.array n e)) (he : Tryz.prog.underlying e = some (.int k)) (hce : Tryz.prog.cellsOf e = 1) (hct : Tryz.prog.cellsOf t = n)
    (h : VarReads Tryz.prog w name (tabData k zs)) : TabIs Tryz.prog w name k zs := by
  obtain ⟨g', t', cs, fuel, p, hg', ht', hvar, hd⟩ := h
  obtain rfl := Option.some.inj (hg.symm.trans hg')
  obtain rfl := Option.some.inj (hty.symm.trans ht')
  unfold TabIs
  rw [hvar, ← cells_of_tab ht he hce hct hd]

end Go.Proofs.YtlohdmghaeabjaaGreatDoor.text

