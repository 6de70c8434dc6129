/- ClauseOperations: the walk, with what the row gives it. -/
import Derived.Test.YtlohdmghaeabjaaGreatDoorKClOx
import Derived.Test.YtlohdmghaeabjaaGreatDoorKRowCOp
import Derived.Test.YtlohdmghaeabjaaGreatDoorKJ9
import Derived.Test.YtlohdmghaeabjaaGreatDoorKJ9
namespace Go.Proofs.YtlohdmghaeabjaaGreatDoor.law
open Go.ChangeShapes Go.WideShapes Go.RowKit Go.Lib Go.Proofs.YtlohdmghaeabjaaGreatDoor Go.Proofs.YtlohdmghaeabjaaGreatDoor.schema Go.Proofs.YtlohdmghaeabjaaGreatDoor.text Go.Proofs.YtlohdmghaeabjaaGreatDoor.value Go.Proofs.YtlohdmghaeabjaaGreatDoor.draw Go.Proofs.YtlohdmghaeabjaaGreatDoor.clause

theorem int_bd {a : Int} (h : (Lit.int .i64 a).wf = true) : -9223372036854775808 ≤ a ∧ a ≤ 9223372036854775807 := by
  simpa [Lit.wf, IntKind.min, IntKind.max, IntKind.signed, IntKind.bits] using h
set_option maxRecDepth 100000 in
/-- An argument that is a value. -/
theorem open_val {H : Type} {enc : TypeId × Value → H} {W : World} {base b0 : Nat} {sp : Nat → Bool} {held : Bool} {v : Value} {d : DataW H} {p : List MemPlace}
    (hv : Value.okWide Tryz.prog W .any b0 43 v) (h : DataW.Trod enc Tryz.prog W base sp held 43 v d p) :
    ∃ (k n : Int) (t : ByteArray) (q : Option Addr) (c : Nat) (ls : List ByteArray), v = .agg #[.int .i64 k, .int .i64 n, .string t, .slice q ls.length c] ∧ RowsAt W.cell? 1 (.slice q ls.length c) (ls.map strRow) := by
  obtain ⟨cs, rfl, hsz⟩ := okWide_struct Tryz.underlying43 hv
  obtain ⟨l⟩ := cs
  obtain ⟨fuel, hf⟩ := h
  obtain ⟨⟨k, n, t, q, m, c, ls⟩, hd, hr⟩ := open_vd (cs := l) (hsz.trans (by kernel_rfl)) hf
  have hm := (len_of hr).1
  simp only [List.length_map] at hm
  subst hm
  exact ⟨k, n, t, q, c, ls, by rw [hd]; rfl, hr⟩
set_option maxRecDepth 100000 in
theorem clauseOperations_final (W : World) (hL : laidMetH Tryz.prog Rows.clauseOperationsRow.laid W) (hsh : W.ShapedOpen Tryz.prog) (a0 : Int) (w0 : (Lit.int .i64 a0).wf = true)
    {H : Type} {enc : TypeId × Value → H} {base b0 : Nat} {sp : Nat → Bool} {held : Bool} {d1 d2 : DataW H} {p1 p2 : List MemPlace}
    (v1 : Value) (o1 : Value.okWide Tryz.prog W .any b0 43 v1) (k1 : DataW.Trod enc Tryz.prog W base sp held 43 v1 d1 p1)
    (v2 : Value) (o2 : Value.okWide Tryz.prog W .any b0 43 v2) (k2 : DataW.Trod enc Tryz.prog W base sp held 43 v2 d2 p2)
    (a3 : Option Addr) (len3 cap3 : Nat) (z3 : List Int) (w3 : IsRow .u8 W a3 len3 cap3 z3) :
    Calls Tryz.prog 4 #[.int .i64 a0, v1, v2, .slice a3 len3 cap3] W fun e W' => e = .returned (.bool true) ∧ Below W.heap.size W W' := by
  have hT := clauseOperationsRow.tabs_of_laid hL hsh
  rw [MakeChecks.laidMetH_plain _ _ _ (by kernel_rfl)] at hL
  have hG := glob_of_reads (Lib.laidMet.reads hL (n := "flagstone/flagstonedraw.texts") (d := Rows.laid_flagstone_flagstonedraw_texts) (by simp [Rows.clauseOperationsRow])) (Lib.laidMet.reads hL (n := "flagstone/flagstonedraw.versions") (d := Rows.laid_flagstone_flagstonedraw_versions) (by simp [Rows.clauseOperationsRow])) (Lib.laidMet.reads hL (n := "flagstone/flagstonedraw.lists") (d := Rows.laid_flagstone_flagstonedraw_lists) (by simp [Rows.clauseOperationsRow]))
  obtain ⟨vk, vn, vt, vp, vc, vls, rfl, hV⟩ := open_val o1 k1
  obtain ⟨wk, wn, wt, wp, wc, wls, rfl, hW⟩ := open_val o2 k2
  exact operations_walk a0 vk vn vt vp vc vls wk wn wt wp wc wls a3 len3 cap3 W (int_bd w0).1 (int_bd w0).2 hV hW (draw.bytes_of_row w3) (fun b hb => hG.mono (sub_but W b hb)) hT

end Go.Proofs.YtlohdmghaeabjaaGreatDoor.law

