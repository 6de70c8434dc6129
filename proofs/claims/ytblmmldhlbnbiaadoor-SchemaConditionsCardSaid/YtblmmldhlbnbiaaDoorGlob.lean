/- What the rows' list of variables gives: the three tables of the drawing package. -/
import Derived.Test.YtblmmldhlbnbiaaDoorRows
import Derived.Test.YtblmmldhlbnbiaaDoorTab
import Derived.Test.YtblmmldhlbnbiaaDoorDraw3
namespace Go.Proofs.YtblmmldhlbnbiaaDoor
open Go.ChangeShapes Go.WideShapes Go.ChangeAt Go.RowKit Go.WideMaps Go.WideElems Go.Proofs.YtblmmldhlbnbiaaDoor.draw

theorem own : ownKnob Tryd.prog.godebug = none := by kernel_rfl
theorem gTexts : Tryd.prog.globalNamed "flagstone/flagstonedraw.texts" = some 2 := by kernel_rfl
theorem gVersions : Tryd.prog.globalNamed "flagstone/flagstonedraw.versions" = some 0 := by kernel_rfl
theorem gLists : Tryd.prog.globalNamed "flagstone/flagstonedraw.lists" = some 1 := by kernel_rfl
theorem tTexts : (Tryd.prog.globals[2]?).map (·.type) = some 65 := by kernel_rfl
theorem tVersions : (Tryd.prog.globals[0]?).map (·.type) = some 60 := by kernel_rfl
theorem tLists : (Tryd.prog.globals[1]?).map (·.type) = some 61 := by kernel_rfl
theorem cellsS : Tryd.prog.cellsOf 9 = 1 := by kernel_rfl
theorem cellsL : Tryd.prog.cellsOf 32 = 1 := by kernel_rfl

def laid3 : List (String × DataW Unit) := [("flagstone/flagstonedraw.texts", Rows.laid_flagstone_flagstonedraw_texts), ("flagstone/flagstonedraw.versions", Rows.laid_flagstone_flagstonedraw_versions), ("flagstone/flagstonedraw.lists", Rows.laid_flagstone_flagstonedraw_lists)]

theorem glob_of_laid {W : World} (h : laidMetH Tryd.prog laid3 W) : Glob W.cell? := by
  rw [MakeChecks.laidMetH_plain _ _ _ (by kernel_rfl)] at h
  obtain ⟨ps, ⟨g0, t0, cs0, f0, p0, q0, hg0, ht0, hv0, hd0, ⟨g1, t1, cs1, f1, p1, q1, hg1, ht1, hv1, hd1, ⟨g2, t2, cs2, f2, p2, q2, hg2, ht2, hv2, hd2, _, _⟩, _⟩, _⟩, _, _⟩ := h
  obtain rfl := Option.some.inj (gTexts.symm.trans hg0)
  obtain rfl := Option.some.inj (gVersions.symm.trans hg1)
  obtain rfl := Option.some.inj (gLists.symm.trans hg2)
  obtain rfl := Option.some.inj (tTexts.symm.trans ht0)
  obtain rfl := Option.some.inj (tVersions.symm.trans ht1)
  obtain rfl := Option.some.inj (tLists.symm.trans ht2)
  obtain ⟨ss, hl, -, hc⟩ := tab_strs hg0 hv0 Tryd.underlying65 Tryd.underlying9 cellsS hd0
  obtain ⟨ss1, hl1, -, hc1⟩ := tab_strs hg1 hv1 Tryd.underlying60 Tryd.underlying9 cellsS hd1
  refine ⟨fun j hj => ⟨_, hc1 j _ (List.getElem?_eq_getElem (by omega))⟩, fun j hj => ⟨_, hc j _ (List.getElem?_eq_getElem (by omega))⟩, fun j hj => ?_⟩
  obtain ⟨xs, hx, h3⟩ := tab_lists hg2 hv2 Tryd.underlying61 Tryd.underlying32 Tryd.underlying9 cellsL cellsS hd2 j hj
  simp only [Rows.laid_flagstone_flagstonedraw_lists, DataW.agg.injEq] at hx
  subst hx
  rcases h3 with ⟨_, h4⟩ | ⟨a, cap, l, sp, h4, h5, h6, h7, h8⟩
  · exfalso
    rcases j with _ | _ | _ | _ | _ | j
    all_goals first | (simp at h4; done) | omega
  · refine ⟨a, cap, l, h4, ?_, h8⟩
    have hlen : ∀ (D S : List (DataW Unit)), (DataW.slice D S) = DataW.slice (l.map fun s => .lit (.string s.data.toList)) sp → D.length = l.length := by
      intro D S e
      injection e with e1 e2
      rw [e1]; simp
    rcases j with _ | _ | _ | _ | _ | j
    all_goals first
      | (simp only [List.getElem?_cons_zero, List.getElem?_cons_succ, Option.some.injEq] at h7
         have := hlen _ _ h7
         simp at this
         omega)
      | omega

end Go.Proofs.YtblmmldhlbnbiaaDoor
