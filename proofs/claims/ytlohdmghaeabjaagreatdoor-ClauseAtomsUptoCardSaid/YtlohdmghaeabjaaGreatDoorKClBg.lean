/- Whether a condition is too large to be looked at: the law's big answers something and changes nothing. -/
import Derived.Test.YtlohdmghaeabjaaGreatDoorKClE
namespace Go.Proofs.YtlohdmghaeabjaaGreatDoor.clause
open Go.RowKit Go.Proofs.YtlohdmghaeabjaaGreatDoor Go.Proofs.YtlohdmghaeabjaaGreatDoor.schema Go.Proofs.YtlohdmghaeabjaaGreatDoor.value Go.Proofs.YtlohdmghaeabjaaGreatDoor.text Go.Proofs.YtlohdmghaeabjaaGreatDoor.draw

def SomeB (e : Ending) : Prop := ∃ b : Bool, e = .returned (.bool b)
def BigOk (m : Mem) (r : List Value) : Prop := ∀ w : World, Sub m w.cell? → Calls Tryz.prog 11 #[.agg r.toArray] w fun e w' => SomeB e ∧ Below w.heap.size w w'

set_option maxRecDepth 100000 in
set_option maxHeartbeats 4000000 in
theorem big_step (m : Mem) (op : Int) (kind name : ByteArray) (vals : List VD) (kids : List ED) (vs ks : Value) (rows : List (List Value)) (hv : RowsAt m 4 vs (vals.map VD.row)) (hk : RowsAt m 5 ks rows) (hl : rows.length = kids.length)
    (hE : ∀ (i : Nat) (r : List Value) (k : ED), rows[i]? = some r → kids[i]? = some k → EAt m k r)
    (ih : ∀ (j : Nat) (r : List Value) (k : ED), rows[j]? = some r → kids[j]? = some k → BigOk m r) :
    BigOk m [.int .i64 op, .string kind, .string name, vs, ks] := by
  intro w hs
  obtain ⟨va, vn, vc, rfl⟩ : ∃ a n c, vs = .slice a n c := by obtain ⟨a, c, h, -⟩ := hv; exact ⟨_, _, _, h⟩
  obtain ⟨ka, kn, kc, rfl⟩ : ∃ a n c, ks = .slice a n c := by obtain ⟨a, c, h, -⟩ := hk; exact ⟨_, _, _, h⟩
  have hkn := (len_of hk).1
  have hkm := (len_of hk).2
  have hvm := (len_of hv).2
  rw [hl] at hkn
  subst hkn
  have hB : Below w.heap.size w (w.alloc (.cells #[.int .i64 op, .string kind, .string name, .slice va vn vc, .slice ka kids.length kc] 29)) := (Below.refl _ _).alloc (Nat.le_refl _) _
  have hO := Lib.hid (Own.new w #[.int .i64 op, .string kind, .string name, .slice va vn vc, .slice ka kids.length kc] 29)
  have hs1 := Lib.hid (hs.trans (sub_of_below hB))
  replace hB := Lib.hid hB
  replace hk := Lib.hid hk
  replace hE := Lib.hid hE
  replace ih := Lib.hid ih
  replace hl := Lib.hid hl
  clear hs hv
  go_enter Tryz.func11, Tryz.ntmps11
  go_wp2_with fail
  generalize w.alloc (.cells #[.int .i64 op, .string kind, .string name, .slice va vn vc, .slice ka kids.length kc] 29) = w1 at hB hO hs1 ⊢
  obtain ⟨g, hg⟩ : ∃ g : Nat, g = w.heap.size := ⟨_, rfl⟩
  rw [← hg] at hO ⊢
  clear hg
  have hgl := hO.out.lt
  obtain ⟨N, hN⟩ : ∃ N : Int, Hid (N = wrap64 ((kids.length : Int) + (vn : Int))) := ⟨_, Lib.hid rfl⟩
  first | rw [← hN.out] | skip
  go_loopw [4] (fun s4 wr => ∃ i : Nat, i ≤ kids.length ∧ s4 = .int .i64 i ∧ Hid (Below w1.heap.size w1 wr)) (fun s4 _ => kids.length - (intOf s4).toNat)
  case atStart => exact ⟨0, Nat.zero_le _, rfl, Lib.hid (Below.refl _ _)⟩
  case round =>
    obtain ⟨i, hi, rfl, hb⟩ := hrel
    have hOb := hO.out.below hb.out hgl
    obtain ⟨x0, x1, x2, x3, x4⟩ := own5z hOb
    have hgw := hOb.lt
    have hBw := Lib.hid (hB.out.trans (hb.out.mono hB.out.size))
    replace hOb := Lib.hid hOb
    clear hN hB
    by_cases hlt : i < kids.length
    case neg =>
      by_cases hN1 : 100 ≤ N
      · go_wp2
        go_ret
        exact ⟨⟨_, rfl⟩, hBw.out⟩
      · go_wp2
        go_ret
        exact ⟨⟨_, rfl⟩, hBw.out⟩
    by_cases hN1 : N < 100
    case neg =>
      go_wp2
      go_ret
      exact ⟨⟨_, rfl⟩, hBw.out⟩
    obtain ⟨blk, off, op', kind', name', va', vn', vc', ka', kn', kc', rfl, c0, c1, c2, c3, c4, hr⟩ := kid_at (hk.out.mono (hs1.out.trans (sub_of_below hb.out))) hl.out (fun j r k h1 h2 => hE.out j r k h1 h2) hlt
    have n0 : (0 : Int) ≤ (i : Int) := by omega
    have n1 : (i : Int) < (kids.length : Int) := by omega
    have hgo := Lib.hid (ih.out i _ kids[i] hr (List.getElem?_eq_getElem hlt) wr (hs1.out.trans (sub_of_below hb.out)))
    clear hr
    go_wp2_with fail
    refine hgo.out.mono ?_
    rintro e w3 ⟨⟨b, rfl⟩, hb3⟩
    have hb4 := Lib.hid (hb.out.trans (hb3.mono hb.out.size))
    have hB4 := Lib.hid (hBw.out.trans (hb3.mono hBw.out.size))
    clear hb3 hgo c0 c1 c2 c3 c4 x0 x1 x2 x3 x4
    cases b with
    | true =>
      go_wp2
      go_ret
      exact ⟨⟨_, rfl⟩, hB4.out⟩
    | false =>
      go_wp2
      go_roundw
      case rel => exact ⟨i + 1, by omega, by go_num, hb4⟩
      case measure => simp [intOf]; omega

/-- The law's big. -/
theorem big_any (m : Mem) (d : ED) (r : List Value) (h : EAt m d r) : BigOk m r := by
  induction h with
  | mk rows hv hk hl hL hE ih => exact big_step m _ _ _ _ _ _ _ rows hv hk hl hE ih

end Go.Proofs.YtlohdmghaeabjaaGreatDoor.clause

