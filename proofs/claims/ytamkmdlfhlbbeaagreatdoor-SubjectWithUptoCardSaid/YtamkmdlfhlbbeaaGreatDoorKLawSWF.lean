/- SubjectWith: the walk, with what the row gives it. -/
import Derived.Test.YtamkmdlfhlbbeaaGreatDoorKSuLw
import Derived.Test.YtamkmdlfhlbbeaaGreatDoorKRowSW
import Derived.Test.YtamkmdlfhlbbeaaGreatDoorKJ9
import Derived.Test.YtamkmdlfhlbbeaaGreatDoorKJ9
namespace Go.Proofs.YtamkmdlfhlbbeaaGreatDoor.law
open Go.ChangeShapes Go.WideShapes Go.RowKit Go.Lib Go.Proofs.YtamkmdlfhlbbeaaGreatDoor Go.Proofs.YtamkmdlfhlbbeaaGreatDoor.schema Go.Proofs.YtamkmdlfhlbbeaaGreatDoor.text Go.Proofs.YtamkmdlfhlbbeaaGreatDoor.value Go.Proofs.YtamkmdlfhlbbeaaGreatDoor.draw Go.Proofs.YtamkmdlfhlbbeaaGreatDoor.clause Go.Proofs.YtamkmdlfhlbbeaaGreatDoor.subj

set_option maxRecDepth 100000 in
/-- An argument that is a value. -/
theorem open_valB {H : Type} {enc : TypeId × Value → H} {W : World} {base b0 : Nat} {sp : Nat → Bool} {held : Bool} {v : Value} {d : DataW H} {p : List MemPlace}
    (hv : Value.okWide Tryz.prog W .any b0 51 v) (hB : Rows.uptoBulk d ≤ 1048576) (h : DataW.Trod enc Tryz.prog W base sp held 51 v d p) :
    ∃ x : VD, v = .agg #[.int .i64 x.kind, .int .i64 x.num, .string x.text, .slice x.ptr x.len x.cap] ∧ LAt W.cell? x := by
  obtain ⟨cs, rfl, hsz⟩ := okWide_struct Tryz.underlying51 hv
  obtain ⟨l⟩ := cs
  obtain ⟨fuel, hf⟩ := h
  obtain ⟨x, e, hL⟩ := open_vdB (n := fuel) (Nat.le_refl _) (hsz.trans (by kernel_rfl)) hB hf
  exact ⟨x, by simp only at e; rw [e]; rfl, hL⟩
set_option maxRecDepth 100000 in
theorem subjectWith_final (W : World) (hL : laidMetH Tryz.prog Rows.subjectWithUptoRow.laid W) (hsh : W.ShapedOpen Tryz.prog)
    (a0 : Option Addr) (len0 cap0 : Nat) (z0 : List Int) (w0 : IsRow .u8 W a0 len0 cap0 z0)
    (s1 : ByteArray) (_w1 : s1.size ≤ maxLen) (s2 : ByteArray) (w2 : s2.size ≤ maxLen)
    {H : Type} {enc : TypeId × Value → H} {base b0 : Nat} {sp : Nat → Bool} {held : Bool} {d3 : DataW H} {p3 : List MemPlace}
    (v3 : Value) (o3 : Value.okWide Tryz.prog W .any b0 51 v3) (k3 : DataW.Trod enc Tryz.prog W base sp held 51 v3 d3 p3) (b3' : Rows.uptoBulk d3 ≤ 1048576) :
    Calls Tryz.prog 8 #[.slice a0 len0 cap0, .string s1, .string s2, v3] W fun e W' => e = .returned (.bool true) ∧ Below W.heap.size W W' := by
  have hT := subjectWithUptoRow.stabs_of_laid hL hsh
  rw [MakeChecks.laidMetH_plain _ _ _ (by kernel_rfl)] at hL
  have hG := glob_of_reads (Lib.laidMet.reads hL (n := "flagstone/flagstonedraw.texts") (d := Rows.laid_flagstone_flagstonedraw_texts) (by simp [Rows.subjectWithUptoRow])) (Lib.laidMet.reads hL (n := "flagstone/flagstonedraw.versions") (d := Rows.laid_flagstone_flagstonedraw_versions) (by simp [Rows.subjectWithUptoRow])) (Lib.laidMet.reads hL (n := "flagstone/flagstonedraw.lists") (d := Rows.laid_flagstone_flagstonedraw_lists) (by simp [Rows.subjectWithUptoRow]))
  obtain ⟨x, rfl, hX⟩ := open_valB o3 b3' k3
  exact with_walk a0 len0 cap0 s1 s2 x W (draw.bytes_of_row w0) hX w2 (fun b hb => hG.mono (sub_but W b hb)) hT

end Go.Proofs.YtamkmdlfhlbbeaaGreatDoor.law

