/- Slices of bytes that a call itself makes; the reference's Quote. -/
import Derived.Test.YtamkmdlfhlbbeaaGreatDoorKJ3
import Derived.Laws.BytesArg
import Derived.Deep.AppendLies
import Derived.Laws.OwnMore
namespace Go.Proofs.YtamkmdlfhlbbeaaGreatDoor.text
open Go.RowKit

/-- A slice of bytes of the call's own. -/
def BS (B : Nat) (v : Value) (l : List UInt8) (w : World) : Prop := w.ownsRow B 5 1 v l.length (Lib.byteCells l)
theorem bs_nil (B : Nat) (w : World) : BS B (.slice none 0 0) [] w := World.ownsRow_nil w B _ _
theorem BS.out {B : Nat} {v : Value} {l : List UInt8} {w : World} (h : BS B v l w) : w.ownsRow B 5 1 v l.length (Lib.byteCells l) := h
theorem BS.below {B : Nat} {v : Value} {l : List UInt8} {w w' : World} (h : BS B v l w) (hb : Below w.heap.size w w') : BS B v l w' := by
  have ho := h.out
  refine ho.kept (grown_of_below hb none) ?_
  cases hv : v.ownBlock with
  | none => exact Or.inl rfl
  | some k => exact Or.inr (by simp)
theorem bs_new {B : Nat} {w : World} {u : UInt8} {c : Int} (hc : c = u.toNat) (hB : B ≤ w.heap.size) : BS B (.slice (some ⟨w.heap.size, 0, none⟩) 1 1) [u] (w.alloc (.cells #[.int .u8 c] 5)) := by
  subst hc
  exact World.ownsRow_lit (base := B) (e := 5) (size := 1) w #[.int .u8 u.toNat] 1 hB (by decide) (by rfl)

theorem strOf_bytes (l : List UInt8) : strOfNums (l.map fun x => (x.toNat : Int)) = ⟨l.toArray⟩ := by
  apply ByteArray.ext
  apply Array.toList_inj.1
  rw [strOfNums_data, List.map_map]
  show _ = l
  conv => rhs; rw [← List.map_id l]
  apply List.map_congr_left
  intro x _
  simp
/-- 'string(b)'. -/
theorem convert_bytes {B : Nat} {v : Value} {l : List UInt8} {w : World} (h : BS B v l w) : (convert 25 9 v).run Tryz.prog w = .ok (.string ⟨l.toArray⟩) w := by
  rcases h.out.2 with ⟨rfl, h0⟩ | ⟨g, cap, cur, rfl, hb, hg, hnc, hcm, hcs, htake⟩
  · have : l = [] := List.eq_nil_of_length_eq_zero h0
    subst this
    exact run_convert_bytes_nil w _ _ Tryz.underlying25 Tryz.underlying5 0 0 _ Tryz.underlying9
  · have hr := run_convert_bytes_arg (P := Tryz.prog) w 25 5 Tryz.underlying25 Tryz.underlying5 g 0 l.length cap (l.map fun x => (x.toNat : Int)) (by simp) (fun i hi => by
      have h2 : w.cell? ⟨g, i, none⟩ = cur[i]? := by simp [World.cell?, hg]
      have h3 : (Lib.byteCells l)[i]? = some (.int .u8 l[i].toNat) := by simp [Lib.byteCells, hi]
      rw [← htake, List.getElem?_take_of_lt (by omega)] at h3
      rw [Nat.zero_add, h2, ← Array.getElem?_toList, h3]
      simp [List.getD, hi]) 9 Tryz.underlying9
    rw [hr, strOf_bytes]

/-- 'append(b, c)'. -/
theorem wpList_append_byte {ops : Array Oper} {rest : List Oper} {o : Oper} {a : Act} {Q : Exit → Act → World → Prop} {w : World} {c : Int} (hgd : o.guard = none) (s x : Operand)
    (ho : o.op = .call { callee := .builtin .append, args := #[s, x], argTypes := #[25, 25] })
    (B : Nat) (va : Option Addr) (n vc : Nat) (l : List UInt8) (u : UInt8) (hs : a.eval s = .slice va n vc) (hown : BS B (.slice va n vc) l w) (hn : n = l.length) (hx : a.eval x = .slice (some ⟨w.heap.size, 0, none⟩) 1 1)
    (hc : c = u.toNat) (hl : n + 1 ≤ 140737488355328) (hB : B ≤ w.heap.size)
    (h : ∀ g cap w', BS B (.slice (some ⟨g, 0, none⟩) (n + 1) cap) (l ++ [u]) w' → Below B w w' → w.heap.size < w'.heap.size → wpList Tryz.prog ops Q rest (a.put o.dst (.slice (some ⟨g, 0, none⟩) (n + 1) cap)) w') :
    wpList Tryz.prog ops Q (o :: rest) a (w.alloc (.cells #[.int .u8 c] 5)) := by
  subst hn hc
  obtain ⟨i0, hi, hz0, hz1, hz2⟩ := info_parts infoByte
  refine wpList_append_lies _ hgd s x _ ho B 5 i0 (.int .u8 0) 1 1 Tryz.underlying25 hi hz0 hz1 hz2 rfl (by decide) (.slice va l.length vc) l.length (Lib.byteCells l) hs (hown.out.alloc _) ⟨w.heap.size, 0, none⟩ 1 1 [.int .u8 u.toNat] hx rfl
    (World.news_of_block (cs := #[.int .u8 u.toNat]) (t := 5) (fr := (0, 0)) (Own.new' rfl)) (by simp [Value.oneCell']) (by decide) (by unfold maxLen; omega) (by omega) (by simp; omega) (w.heap.size + 1) (by simp) ?_
  intro g cap w' hown' hgrow hat hlt
  refine h g cap w' ?_ ?_ ?_
  · show w'.ownsRow B _ 1 _ (l ++ [u]).length (Lib.byteCells (l ++ [u]))
    have e1 : Lib.byteCells (l ++ [u]) = Lib.byteCells l ++ [Value.int .u8 u.toNat] := by simp [Lib.byteCells]
    have e2 : (l ++ [u]).length = l.length + 1 := by simp
    rw [e1, e2]
    exact hown'
  · exact ((Below.refl B w).alloc hB _).grown hgrow (by simp; omega) (fun k hk => (hown.out.lt k hk).1)
  · have := hgrow.size
    simp at this
    omega

theorem bs_eq {B : Nat} {v : Value} {l l' : List UInt8} {w : World} (h : BS B v l w) (e : l = l') : BS B v l' w := e ▸ h
theorem len_eq {n : Nat} {l l' : List UInt8} (h : n = l.length) (e : l = l') : n = l'.length := e ▸ h

set_option maxHeartbeats 1000000 in
theorem quote_ref (s : ByteArray) (w : World) (hT : RuneTabs w) :
    Calls Tryz.prog 50 #[.string s] w fun e w' => e = .returned (quoteV s.data.toList) ∧ Below w.heap.size w w' := by
  go_enter Tryz.func50, Tryz.ntmps50
  go_wp2_with fail
  refine (valid_ref s _ hT).mono ?_
  rintro e w1 ⟨rfl, hb⟩
  have hb := Lib.hid hb
  clear hT
  cases hv : validS s.data.toList with
  | false =>
    have hQ := Lib.hid (quote_bad hv)
    clear hv
    go_wp2
    go_ret2
    exact ⟨hQ.out, hb.out⟩
  | true =>
    have hV := Lib.hid hv
    have hs : s.size ≤ 200 := by simpa using valid_size hv
    have hs1 := hb.out.size
    clear hv
    go_wp2
    have hS := Lib.hid (bs_new (B := w1.heap.size) (w := w1) (u := 34) (c := 34) (by decide) (Nat.le_refl _))
    go_loopw [4, 5] (fun v i wr => ∃ k : Nat, k ≤ s.size ∧ i = .int .i64 k ∧ ∃ va n vc, v = .slice va n vc ∧ Hid (n = (34 :: escL (s.data.toList.take k)).length) ∧ Hid (BS w1.heap.size (.slice va n vc) (34 :: escL (s.data.toList.take k)) wr) ∧ Hid (Below w1.heap.size w1 wr)) (fun _ i _ => s.size - (intOf i).toNat)
    case atStart => exact ⟨0, Nat.zero_le _, rfl, _, 1, 1, rfl, rfl, hS.out, (Below.refl _ _).alloc (Nat.le_refl _) _⟩
    case round =>
      clear hS
      obtain ⟨k, hk, rfl, va, n, vc, rfl, hn, hB, hb2⟩ := hrel
      have hz2 := hb2.out.size
      have hlen := quote_len s k hk hs
      obtain ⟨L, hL⟩ : ∃ L, Hid (34 :: escL (s.data.toList.take k) = L) := ⟨_, rfl⟩
      rw [hL.out] at hlen hn hB
      have hn1 := hn.out
      have hnl : n ≤ 401 := by omega
      clear hn1
      by_cases hlt : k < s.size
      · have hT := Lib.hid (escL_take s k hlt)
        by_cases hq : s[k].toNat = 34 ∨ s[k].toNat = 92
        · have hE := Lib.hid (esc_two hq)
          rcases hq with hq | hq
          all_goals
            have tok1 : True := trivial
            go_wp2_with (first
              | (at_builtin; have _t := tok1; refine wpList_append_byte rfl _ _ rfl w1.heap.size va n vc L 92 rfl hB.out hn.out rfl (by decide) (by omega) (by omega) ?_; intro g cap w2 hB2 hb3 hlt2; have hb3 := Lib.hid hb3; have hB2 := Lib.hid hB2; have hn2 := Lib.hid (show n + 1 = (L ++ [92]).length by rw [hn.out]; simp); clear tok1)
              | (at_builtin; refine wpList_append_byte rfl _ _ rfl w1.heap.size _ (n + 1) _ (L ++ [92]) s[k] rfl hB2.out hn2.out rfl (by rw [hq]; rfl) (by omega) (by omega) ?_; intro g' cap' w3 hB3 hb4 hlt3; have hb4 := Lib.hid hb4; have hB3 := Lib.hid hB3))
            have hB3 := Lib.hid (bs_eq hB3.out (l' := 34 :: escL (s.data.toList.take (k + 1))) (by rw [hT.out, hE.out, ← hL.out]; simp))
            have hb4 := Lib.hid (hb2.out.trans (hb3.out.trans hb4.out))
            have hn3 := Lib.hid (len_eq (show n + 1 + 1 = (L ++ [92] ++ [s[k]]).length by rw [hn.out]; simp) (l' := 34 :: escL (s.data.toList.take (k + 1))) (by rw [hT.out, hE.out, ← hL.out]; simp))
            clear hn2
            go_roundw
            case rel => exact ⟨k + 1, by omega, by go_num, _, _, _, rfl, hn3.out, hB3.out, hb4.out⟩
            case measure => simp [intOf]; omega
        · have hq1 : s[k].toNat ≠ 34 := by omega
          have hq2 : s[k].toNat ≠ 92 := by omega
          clear hq
          have hE := Lib.hid (esc_one hq1 hq2)
          have hn1 : ((s[k].toNat : Int) == 34) = false := by simp; omega
          have hn2 : ((s[k].toNat : Int) == 92) = false := by simp; omega
          go_wp2_with (at_builtin; refine wpList_append_byte rfl _ _ rfl w1.heap.size va n vc L s[k] rfl hB.out hn.out rfl rfl (by omega) (by omega) ?_; intro g' cap' w3 hB3 hb4 hlt3; have hb4 := Lib.hid hb4; have hB3 := Lib.hid hB3)
          have hB3 := Lib.hid (bs_eq hB3.out (l' := 34 :: escL (s.data.toList.take (k + 1))) (by rw [hT.out, hE.out, ← hL.out]; simp))
          have hb4 := Lib.hid (hb2.out.trans hb4.out)
          have hn3 := Lib.hid (len_eq (show n + 1 = (L ++ [s[k]]).length by rw [hn.out]; simp) (l' := 34 :: escL (s.data.toList.take (k + 1))) (by rw [hT.out, hE.out, ← hL.out]; simp))
          go_roundw
          case rel => exact ⟨k + 1, by omega, by go_num, _, _, _, rfl, hn3.out, hB3.out, hb4.out⟩
          case measure => simp [intOf]; omega
      · have hk2 : s.data.toList.take k = s.data.toList := List.take_of_length_le (by simp; omega)
        have hQ := Lib.hid (quote_good hV.out (hk2 ▸ hL.out))
        clear hk2
        go_wp2_with (at_builtin; refine wpList_append_byte rfl _ _ rfl w1.heap.size va n vc L 34 rfl hB.out hn.out rfl (by decide) (by omega) (by omega) ?_; intro g cap w2 hB2 hb3 hlt2; have hcv := convert_bytes hB2; have hb3 := Lib.hid hb3; have hB2 := Lib.hid hB2)
        go_ret2
        exact ⟨hQ.out, hb.out.trans ((hb2.out.trans hb3.out).mono hs1)⟩

end Go.Proofs.YtamkmdlfhlbbeaaGreatDoor.text

