/- The texts of a list in source form: the reference's end and elements. -/
import Derived.Test.YtnghpjijfdpmkaaGreatDoorValZ
namespace Go.Proofs.YtnghpjijfdpmkaaGreatDoor.value
open Go.RowKit Go.Proofs.YtnghpjijfdpmkaaGreatDoor.text

/-- How far the scan for the closing mark has come: k is the next byte. -/
def EsAt (s : ByteArray) (i k : Nat) : Prop := endN (s.data.toList.drop i) = (eScan false (s.data.toList.drop k)).map ((k - i) + ·)
theorem es_esc {s : ByteArray} {j : Nat} (h : j < s.size) (hc : s[j].toNat = 92) : eScan false (s.data.toList.drop j) = (eScan true (s.data.toList.drop (j + 1))).map (1 + ·) := by rw [drop_byte s j h, eScan, if_pos hc]
theorem es_quote {s : ByteArray} {j : Nat} (h : j < s.size) (hc : s[j].toNat = 34) : eScan false (s.data.toList.drop j) = some 1 := by rw [drop_byte s j h, eScan, if_neg (by omega), if_pos hc]
theorem es_plain {s : ByteArray} {j : Nat} (h : j < s.size) (h1 : s[j].toNat ≠ 92) (h2 : s[j].toNat ≠ 34) : eScan false (s.data.toList.drop j) = (eScan false (s.data.toList.drop (j + 1))).map (1 + ·) := by rw [drop_byte s j h, eScan, if_neg h1, if_neg h2]
theorem es_end {s : ByteArray} {j : Nat} (e : Bool) (h : ¬ j < s.size) : eScan e (s.data.toList.drop j) = none := by
  rw [List.drop_eq_nil_of_le (by simp; omega)]
  cases e <;> rfl
theorem es_any {s : ByteArray} {j : Nat} : eScan true (s.data.toList.drop j) = (eScan false (s.data.toList.drop (j + 1))).map (1 + ·) := by
  by_cases h : j < s.size
  · rw [drop_byte s j h, eScan]
  · rw [es_end true h, es_end false (by omega)]; rfl
theorem map_add (o : Option Nat) (a b c : Nat) (h : a + b = c) : (o.map (b + ·)).map (a + ·) = o.map (c + ·) := by
  subst h
  cases o with
  | none => rfl
  | some n => simp [Nat.add_assoc]
theorem EsAt.start {s : ByteArray} {i : Nat} (h : i < s.size) : EsAt s i (i + 1) := by
  unfold EsAt
  rw [drop_byte s i h, endN, Nat.add_sub_cancel_left]
theorem EsAt.plain {s : ByteArray} {i k : Nat} (h : EsAt s i k) (hi : i ≤ k) (hk : k < s.size) (h1 : s[k].toNat ≠ 92) (h2 : s[k].toNat ≠ 34) : EsAt s i (k + 1) := by
  unfold EsAt at *
  rw [h, es_plain hk h1 h2]
  exact map_add _ _ _ _ (by omega)
theorem EsAt.esc {s : ByteArray} {i k : Nat} (h : EsAt s i k) (hi : i ≤ k) (hk : k < s.size) (h1 : s[k].toNat = 92) : EsAt s i (k + 2) := by
  unfold EsAt at *
  rw [h, es_esc hk h1, es_any, map_add _ 1 1 2 rfl]
  exact map_add _ _ _ _ (by omega)
theorem EsAt.quote {s : ByteArray} {i k : Nat} (h : EsAt s i k) (hi : i ≤ k) (hk : k < s.size) (h1 : s[k].toNat = 34) : endN (s.data.toList.drop i) = some (k + 1 - i) := by
  unfold EsAt at h
  rw [h, es_quote hk h1]
  simp; omega
theorem EsAt.none {s : ByteArray} {i k : Nat} (h : EsAt s i k) (hk : ¬ k < s.size) : endN (s.data.toList.drop i) = none := by
  unfold EsAt at h
  rw [h, es_end false hk]
  rfl

def endV (i : Nat) (o : Option Nat) : Int := match o with | some n => (i : Int) + n | none => -1

set_option maxHeartbeats 2000000 in
theorem end_ref (s : ByteArray) (i : Nat) (w : World) (hs : s.size ≤ 140737488355328) (hi : i < s.size) : Calls Tryz.prog 61 #[.string s, .int .i64 i] w fun e w' => e = .returned (.int .i64 (endV i (endN (s.data.toList.drop i)))) ∧ w' = w := by
  go_enter Tryz.func61, Tryz.ntmps61
  go_wp2
  go_loop [5] (fun a => ∃ k : Nat, i + 1 ≤ k ∧ k ≤ s.size + 1 ∧ a = .int .i64 k ∧ Hid (EsAt s i k)) (fun a => s.size + 1 - (intOf a).toNat)
  case atStart => exact ⟨i + 1, Nat.le_refl _, by omega, by go_num, EsAt.start hi⟩
  case round =>
    obtain ⟨k, hik, hk, rfl, hE⟩ := hrel
    by_cases hlt : k < s.size
    · by_cases h1 : s[k].toNat = 92
      · have hN := Lib.hid (hE.out.esc (by omega) hlt h1)
        go_wp2
        go_round
        case rel => exact ⟨k + 2, by omega, by omega, by go_num, hN.out⟩
        case measure => simp [intOf]; omega
      · by_cases h2 : s[k].toNat = 34
        · have hQ := Lib.hid (show Ending.returned (.int .i64 ((k : Int) + 1)) = .returned (.int .i64 (endV i (endN (s.data.toList.drop i)))) by
            rw [hE.out.quote (by omega) hlt h2]
            show _ = Ending.returned (.int .i64 ((i : Int) + ((k + 1 - i : Nat) : Int)))
            rw [show (i : Int) + ((k + 1 - i : Nat) : Int) = (k : Int) + 1 by omega])
          have q1 : ((s[k].toNat : Int) == 92) = false := by simp; omega
          clear h1
          go_wp2
          go_ret
          exact ⟨hQ.out, rfl⟩
        · have hN := Lib.hid (hE.out.plain (by omega) hlt h1 h2)
          have q1 : ((s[k].toNat : Int) == 92) = false := by simp; omega
          have q2 : ((s[k].toNat : Int) == 34) = false := by simp; omega
          clear h1 h2
          go_wp2
          go_round
          case rel => exact ⟨k + 1, by omega, by omega, by go_num, hN.out⟩
          case measure => simp [intOf]; omega
    · have hQ := Lib.hid (show Ending.returned (.int .i64 (-1)) = .returned (.int .i64 (endV i (endN (s.data.toList.drop i)))) by
        rw [hE.out.none hlt]; rfl)
      go_wp2
      go_ret
      exact ⟨hQ.out, rfl⟩

/-- What is read from a quotation mark on. -/
def tailE (f : Nat) (s : List UInt8) (acc : List (List UInt8)) : Option (List (List UInt8)) :=
  if s.head? ≠ some 34 then none else match endN s with
    | none => none
    | some k => if s.length ≤ k then none else match uqS (s.take k) with
      | none => none
      | some t => elemS f (s.drop k) (acc ++ [t])
theorem elemS_end (f : Nat) (acc : List (List UInt8)) : elemS (f + 1) [93] acc = some acc := by rw [elemS, if_pos rfl]
theorem elemS_first {f : Nat} {s : List UInt8} (h : s ≠ [93]) : elemS (f + 1) s [] = tailE f s [] := by
  rw [elemS, if_neg h, if_neg (by simp)]
  rfl
theorem elemS_sep {f : Nat} {s : List UInt8} {acc : List (List UInt8)} (h : s ≠ [93]) (ha : acc ≠ []) (hp : List.isPrefixOf [44, 32] s = false) : elemS (f + 1) s acc = none := by
  rw [elemS, if_neg h, if_pos ⟨ha, hp⟩]
theorem elemS_more {f : Nat} {s : List UInt8} {acc : List (List UInt8)} (h : s ≠ [93]) (ha : acc ≠ []) (hp : List.isPrefixOf [44, 32] s = true) : elemS (f + 1) s acc = tailE f (s.drop 2) acc := by
  rw [elemS, if_neg h, if_neg (by rw [hp]; simp)]
  simp only [if_neg ha]
  rfl
theorem tailE_head {f : Nat} {s : List UInt8} {acc : List (List UInt8)} (h : s.head? ≠ some 34) : tailE f s acc = none := by rw [tailE, if_pos h]
theorem tailE_open {f : Nat} {s : List UInt8} {acc : List (List UInt8)} (h : endN s = none) : tailE f s acc = none := by
  unfold tailE; split
  · rfl
  · rw [h]
theorem tailE_last {f k : Nat} {s : List UInt8} {acc : List (List UInt8)} (h : endN s = some k) (hk : s.length ≤ k) : tailE f s acc = none := by
  unfold tailE; split
  · rfl
  · rw [h]; simp only [if_pos hk]
theorem tailE_bad {f k : Nat} {s : List UInt8} {acc : List (List UInt8)} (h : endN s = some k) (hu : uqS (s.take k) = none) : tailE f s acc = none := by
  unfold tailE; split
  · rfl
  · rw [h]; simp only [hu]; split <;> rfl
theorem tailE_ok {f k : Nat} {s t : List UInt8} {acc : List (List UInt8)} (h0 : s.head? = some 34) (h : endN s = some k) (hk : ¬ s.length ≤ k) (hu : uqS (s.take k) = some t) : tailE f s acc = elemS f (s.drop k) (acc ++ [t]) := by
  unfold tailE; rw [if_neg (by simp [h0]), h]; simp only [if_neg hk, hu]
theorem drop_head {s : ByteArray} {j : Nat} (h : j < s.size) : (s.data.toList.drop j).head? = some s[j] := by rw [drop_byte s j h]; rfl
theorem drop_none {s : ByteArray} {j : Nat} (h : ¬ j < s.size) : (s.data.toList.drop j).head? = none := by rw [List.drop_eq_nil_of_le (by simp; omega)]; rfl
theorem eScan_pos : ∀ (e : Bool) (l : List UInt8) (n : Nat), eScan e l = some n → 1 ≤ n
  | _, [], n, h => by cases h
  | true, _ :: r, n, h => by
    rw [eScan] at h
    obtain ⟨m, -, rfl⟩ := Option.map_eq_some_iff.1 h
    omega
  | false, c :: r, n, h => by
    rw [eScan] at h
    split at h
    · obtain ⟨m, -, rfl⟩ := Option.map_eq_some_iff.1 h
      omega
    · split at h
      · injection h with h; omega
      · obtain ⟨m, -, rfl⟩ := Option.map_eq_some_iff.1 h
        omega
theorem endN_pos {l : List UInt8} {n : Nat} (h : endN l = some n) : 2 ≤ n := by
  cases l with
  | nil => cases h
  | cons c r =>
    rw [endN] at h
    obtain ⟨m, hm, rfl⟩ := Option.map_eq_some_iff.1 h
    have := eScan_pos _ _ _ hm
    omega
theorem bq (x y : UInt8) : (x == y) = (y == x) := by rw [Bool.eq_iff_iff, beq_iff_eq, beq_iff_eq]; exact eq_comm
theorem pre_two (l : List UInt8) : List.isPrefixOf [44, 32] l = (l.take 2 == [44, 32]) := by
  match l with
  | [] => rfl
  | [a] => simp [List.isPrefixOf]
  | a :: b :: r =>
    simp only [List.isPrefixOf, List.take_succ_cons, List.take_zero, Bool.and_true]
    rw [bq 44 a, bq 32 b]
    rw [Bool.eq_iff_iff, Bool.and_eq_true, beq_iff_eq, beq_iff_eq, beq_iff_eq]
    constructor
    · rintro ⟨h1, h2⟩; rw [h1, h2]
    · intro h; injection h with h1 h2; injection h2 with h2 _; exact ⟨h1, h2⟩
theorem cut_two {s : ByteArray} {k : Nat} : (s.extract k (k + 2)).toList = (s.data.toList.drop k).take 2 := by
  rw [ByteArray.toList_eq, Lib.extract_data, Nat.add_sub_cancel_left]
theorem drop_one {s : ByteArray} {k : Nat} (h : k < s.size) (h2 : ¬ (s[k].toNat = 93 ∧ k + 1 = s.size)) : s.data.toList.drop k ≠ [93] := by
  intro e
  rw [drop_byte s k h] at e
  injection e with e1 e2
  refine h2 ⟨by rw [e1]; rfl, ?_⟩
  have := congrArg List.length e2
  simp at this
  omega
theorem drop_last {s : ByteArray} {k : Nat} (h : k < s.size) (h1 : s[k].toNat = 93) (h2 : k + 1 = s.size) : s.data.toList.drop k = [93] := by
  rw [drop_byte s k h, List.drop_eq_nil_of_le (by simp; omega)]
  congr 1
  exact UInt8.toNat_inj.1 h1

/-- What elements gives. -/
def EPost (o : Option (List (List UInt8))) (m : Nat) (w : World) (e : Ending) (w' : World) : Prop :=
  match o with
  | none => e = .returned (.tuple #[.slice none 0 0, .bool false]) ∧ Below w.heap.size w w'
  | some L => ∃ (la : Option Addr) (lc : Nat) (ls : List ByteArray), e = .returned (.tuple #[.slice la ls.length lc, .bool true]) ∧ LIn w' la ls ∧ lsL ls = L ∧ ls.length ≤ m ∧ LFrom w.heap.size la ∧ Below w.heap.size w w'
theorem epost_none {o : Option (List (List UInt8))} {m : Nat} {w w' : World} (h : o = none) (hB : Below w.heap.size w w') : EPost o m w (.returned (.tuple #[.slice none 0 0, .bool false])) w' := by
  rw [h]; exact ⟨rfl, hB⟩

set_option maxRecDepth 100000 in
set_option maxHeartbeats 4000000 in
theorem elements_o (s : ByteArray) (w : World) (o : Option (List (List UInt8))) (ho : Hid (o = elemS s.size (s.data.toList.drop 1) [])) (hs1 : 1 < s.size) (hs : s.size < 4294967281) (hT : Tabs w) :
    Calls Tryz.prog 42 #[.string s] w (EPost o s.size w) := by
  replace hT := Lib.hid hT
  obtain ⟨i0, hi, hz0, hz1, hz2⟩ := info_parts infoStr
  go_enter Tryz.func42, Tryz.ntmps42
  go_wp2
  go_loopw [4, 5] (fun v i wr => ∃ (k f : Nat) (va : Option Addr) (vc : Nat) (acc : List ByteArray), v = .slice va acc.length vc ∧ i = .int .i64 k ∧ 1 ≤ k ∧ k < s.size ∧ acc.length ≤ k ∧ Hid (s.size - k ≤ f) ∧
    Hid (o = elemS f (s.data.toList.drop k) (lsL acc)) ∧ Hid (wr.ownsRow w.heap.size 9 1 (.slice va acc.length vc) acc.length (acc.map Value.string)) ∧ Hid (Below w.heap.size w wr)) (fun _ i _ => s.size - (intOf i).toNat)
  case atStart => exact ⟨1, s.size, none, 0, [], rfl, by rfl, Nat.le_refl _, hs1, Nat.zero_le _, Nat.sub_le _ _, ho.out, World.ownsRow_nil _ _ _ _, Below.refl _ _⟩
  case round =>
    obtain ⟨k, f0, va, vc, acc, rfl, rfl, hk1, hlt, hacc, hf, hG, hown, hB⟩ := hrel
    obtain ⟨f, rfl⟩ : ∃ f, f0 = f + 1 := ⟨f0 - 1, by have := hf.out; omega⟩
    have hf2 := Lib.hid (show s.size - k ≤ f + 1 from hf.out)
    clear hf
    by_cases h93 : s[k].toNat = 93
    · by_cases hl : k + 1 = s.size
      · have hQ := Lib.hid (show o = some (lsL acc) by rw [hG.out, drop_last hlt h93 hl, elemS_end])
        have q1 : ((s[k].toNat : Int) != 93) = false := by simp; omega
        have q2 : (((k : Int) + 1) != (s.size : Int)) = false := by simp; omega
        clear h93
        go_wp2
        go_ret2
        rw [hQ.out]
        exact ⟨va, vc, acc, rfl, lin_owns hown.out, rfl, by omega, lfrom_owns hown.out, hB.out⟩
      · have hd := drop_one hlt (fun h => hl h.2)
        have q1 : ((s[k].toNat : Int) != 93) = false := by simp; omega
        have q2 : (((k : Int) + 1) != (s.size : Int)) = true := by simp; omega
        by_cases ha : acc.length = 0
        · have ha2 : acc = [] := List.eq_nil_of_length_eq_zero ha
          have hQ := Lib.hid (show o = none by
            rw [hG.out, ha2]
            show elemS (f + 1) _ [] = none
            rw [elemS_first hd, tailE_head (by rw [drop_head hlt]; intro e; injection e with e; rw [e] at h93; cases h93)])
          have q3 : ((s[k].toNat : Int) != 34) = true := by simp; omega
          rw [ha]
          clear h93
          go_wp2
          go_ret2
          exact epost_none hQ.out hB.out
        · have hne : lsL acc ≠ [] := fun e => ha (by have := congrArg List.length e; simpa [lsL] using this)
          have hpre : List.isPrefixOf [44, 32] (s.data.toList.drop k) = false := by
            rw [drop_byte s k hlt]
            show ((44 : UInt8) == s[k] && _) = false
            have : ((44 : UInt8) == s[k]) = false := by
              simp
              intro e
              rw [← e] at h93
              cases h93
            rw [this]; rfl
          have hQ := Lib.hid (show o = none by rw [hG.out, elemS_sep hd hne hpre])
          have q3 : (!(s.extract k (k + 2)).toList == [44, 32]) = true := by
            rw [cut_two, ← pre_two, hpre]; rfl
          have q4 : decide (0 < acc.length) = true := by simp; omega
          have hk2 : k + 2 ≤ s.size := by omega
          clear h93 hpre
          go_wp2
          go_ret2
          exact epost_none hQ.out hB.out
    · have hd := drop_one hlt (fun h => h93 h.1)
      have q1 : ((s[k].toNat : Int) != 93) = true := by simp; omega
      clear h93
      by_cases ha : acc.length = 0
      · have ha2 : acc = [] := List.eq_nil_of_length_eq_zero ha
        have hG2 := Lib.hid (show o = tailE f (s.data.toList.drop k) (lsL acc) by
          rw [hG.out, ha2]
          exact elemS_first hd)
        have q4 : decide (0 < acc.length) = false := by simp; omega
        replace ha := Lib.hid ha
        clear hG hd ha2
        have hj := hlt
        by_cases h34 : s[k].toNat = 34
        case neg =>
          have hQ := Lib.hid (hG2.out.trans (tailE_head (by rw [drop_head hj]; intro e; injection e with e; rw [e] at h34; exact h34 rfl)))
          have q5 : ((s[k].toNat : Int) != 34) = true := by simp; omega
          clear h34
          go_wp2
          go_ret2
          exact epost_none hQ.out hB.out
        have q5 : ((s[k].toNat : Int) != 34) = false := by simp; omega
        have hh := Lib.hid (show (s.data.toList.drop (k)).head? = some 34 by rw [drop_head hj]; congr 1; exact UInt8.toNat_inj.1 h34)
        clear h34
        go_wp2_with fail
        refine (end_ref s (k) _ (by omega) hj).mono ?_
        rintro e w2 ⟨rfl, rfl⟩
        cases hen : endN (s.data.toList.drop (k)) with
        | none =>
          have hQ := Lib.hid (hG2.out.trans (tailE_open (by rw [hen])))
          rw [show endV (k) none = -1 from rfl]
          clear hen
          go_wp2
          go_ret2
          exact epost_none hQ.out hB.out
        | some n =>
          rw [show endV (k) (some n) = ((k : Nat) : Int) + n from rfl]
          have hn2 := endN_pos hen
          by_cases hjn : s.size ≤ k + n
          · have hQ := Lib.hid (hG2.out.trans (tailE_last (k := n) (by rw [hen]) (by simp; omega)))
            clear hen
            go_wp2
            go_ret2
            exact epost_none hQ.out hB.out
          · obtain ⟨x, hx⟩ : ∃ x : ByteArray, Hid (x = s.extract (k) (k + n)) := ⟨_, rfl⟩
            have hxd := Lib.hid (show x.data.toList = (s.data.toList.drop (k)).take n by
              rw [hx.out, Lib.extract_data, Nat.add_sub_cancel_left])
            have hxz : x.size ≤ 140737488355328 := by rw [hx.out]; simp; omega
            replace hen := Lib.hid hen
            go_wp2_with fail
            rw [← hx.out]
            refine (unquote_ref x _ hxz (hT.out.below hB.out).runes).mono ?_
            rintro e w2 ⟨rfl, hb2⟩
            rw [hxd.out]
            have hown' := Lib.hid (hown.out.kept (grown_of_below hb2 none) (by cases va <;> simp [Value.ownBlock]))
            have hB' := Lib.hid (hB.out.trans (hb2.mono hB.out.size))
            clear hb2 hown hB
            rcases uq_ways ((s.data.toList.drop (k)).take n) with ⟨q, hq0, hu, hu2⟩ | ⟨b, hu, hu2⟩
            · rw [hu]
              have hQ := Lib.hid (hG2.out.trans (tailE_bad (k := n) (by rw [hen.out]) (by rw [hu2])))
              clear hu hu2
              go_wp2
              go_ret2
              exact epost_none hQ.out hB'.out
            · rw [hu]
              have hG3 := Lib.hid (show o = elemS f (s.data.toList.drop (k + n)) (lsL acc ++ [b]) by
                rw [hG2.out, tailE_ok (k := n) (t := b) (by rw [hh.out]) (by rw [hen.out]) (by simp; omega) (by rw [hu2]), List.drop_drop])
              clear hu hu2 hG2
              obtain ⟨u, hub⟩ : ∃ u : ByteArray, Hid (u = ⟨b.toArray⟩) := ⟨⟨b.toArray⟩, rfl⟩
              rw [← hub.out]
              go_wp2_with (at_builtin; refine wpList_append_own _ rfl _ _ 22 rfl w.heap.size 9 i0 (.string ⟨#[]⟩) 1 16 Tryz.underlying22 hi hz0 hz1 hz2 rfl (by decide) _ acc.length _ rfl (hown'.out.alloc (.cells #[.string u] 9)) ⟨w2.heap.size, 0, none⟩ 1 1 [.string u] rfl rfl (World.news_of_block (cs := #[.string u]) (t := 9) (fr := (0, 0)) (Own.new' rfl)) (by simp; rfl) (by unfold maxLen; omega) (by omega) (by have := hB'.out.size; simp; omega) ?_; intro v' w3 hown3 hgrow hnil; clear hnil; obtain ⟨va', vc', hv'⟩ := owns_slice hown3; subst hv'; have hB3 := Lib.hid ((hB'.out.alloc hB'.out.size (.cells #[.string u] 9)).grown hgrow (by have := hB'.out.size; simp; omega) (fun k hk => by have := ((hown'.out.alloc (.cells #[.string u] 9)).lt k hk).1; omega)); replace hown3 := Lib.hid hown3; clear hgrow)
              have hG4 := Lib.hid (show o = elemS f (s.data.toList.drop (k + n)) (lsL (acc ++ [u])) by
                rw [hG3.out]
                have e2 : lsL (acc ++ [u]) = lsL acc ++ [b] := by rw [hub.out]; simp [lsL]
                rw [e2])
              clear hG3
              go_wp2
              go_roundw
              case rel => exact ⟨k + n, f, va', vc', acc ++ [u], by rw [List.length_append]; rfl, by go_num, by omega, by omega, by simp; omega, by have := hf2.out; show _ ≤ _; omega, hG4.out, by rw [List.length_append, List.map_append]; exact hown3.out, hB3.out⟩
              case measure => simp [intOf]; omega
      · have hne : lsL acc ≠ [] := fun e => ha (by have := congrArg List.length e; simpa [lsL] using this)
        have q4 : decide (0 < acc.length) = true := by simp; omega
        cases hpre : List.isPrefixOf [44, 32] (s.data.toList.drop k) with
        | false =>
          have hQ := Lib.hid (show o = none by rw [hG.out, elemS_sep hd hne hpre])
          have q3 : (!(s.extract k (k + 2)).toList == [44, 32]) = true := by
            rw [cut_two, ← pre_two, hpre]; rfl
          clear hpre
          by_cases hk2 : s.size < k + 2
          · go_wp2
            go_ret2
            exact epost_none hQ.out hB.out
          · go_wp2
            go_ret2
            exact epost_none hQ.out hB.out
        | true =>
          have hk2 : k + 2 ≤ s.size := by
            rw [pre_two] at hpre
            have := congrArg List.length (beq_iff_eq.1 hpre)
            simp at this
            omega
          have hG2 := Lib.hid (show o = tailE f (s.data.toList.drop (k + 2)) (lsL acc) by
            rw [hG.out, elemS_more hd hne hpre, List.drop_drop])
          have q3 : (!(s.extract k (k + 2)).toList == [44, 32]) = false := by
            rw [cut_two, ← pre_two, hpre]; rfl
          clear hG hd hne hpre
          by_cases hj : k + 2 < s.size
          case neg =>
            have hQ := Lib.hid (hG2.out.trans (tailE_head (by rw [drop_none hj]; simp)))
            go_wp2
            go_ret2
            exact epost_none hQ.out hB.out
          by_cases h34 : s[k + 2].toNat = 34
          case neg =>
            have hQ := Lib.hid (hG2.out.trans (tailE_head (by rw [drop_head hj]; intro e; injection e with e; rw [e] at h34; exact h34 rfl)))
            have q5 : ((s[k + 2].toNat : Int) != 34) = true := by simp; omega
            clear h34
            go_wp2
            go_ret2
            exact epost_none hQ.out hB.out
          have q5 : ((s[k + 2].toNat : Int) != 34) = false := by simp; omega
          have hh := Lib.hid (show (s.data.toList.drop (k + 2)).head? = some 34 by rw [drop_head hj]; congr 1; exact UInt8.toNat_inj.1 h34)
          clear h34
          go_wp2_with fail
          refine (end_ref s (k + 2) _ (by omega) hj).mono ?_
          rintro e w2 ⟨rfl, rfl⟩
          cases hen : endN (s.data.toList.drop (k + 2)) with
          | none =>
            have hQ := Lib.hid (hG2.out.trans (tailE_open (by rw [hen])))
            rw [show endV (k + 2) none = -1 from rfl]
            clear hen
            go_wp2
            go_ret2
            exact epost_none hQ.out hB.out
          | some n =>
            rw [show endV (k + 2) (some n) = ((k + 2 : Nat) : Int) + n from rfl]
            have hn2 := endN_pos hen
            by_cases hjn : s.size ≤ k + 2 + n
            · have hQ := Lib.hid (hG2.out.trans (tailE_last (k := n) (by rw [hen]) (by simp; omega)))
              clear hen
              go_wp2
              go_ret2
              exact epost_none hQ.out hB.out
            · obtain ⟨x, hx⟩ : ∃ x : ByteArray, Hid (x = s.extract (k + 2) (k + 2 + n)) := ⟨_, rfl⟩
              have hxd := Lib.hid (show x.data.toList = (s.data.toList.drop (k + 2)).take n by
                rw [hx.out, Lib.extract_data, Nat.add_sub_cancel_left])
              have hxz : x.size ≤ 140737488355328 := by rw [hx.out]; simp; omega
              replace hen := Lib.hid hen
              go_wp2_with fail
              rw [← hx.out]
              refine (unquote_ref x _ hxz (hT.out.below hB.out).runes).mono ?_
              rintro e w2 ⟨rfl, hb2⟩
              rw [hxd.out]
              have hown' := Lib.hid (hown.out.kept (grown_of_below hb2 none) (by cases va <;> simp [Value.ownBlock]))
              have hB' := Lib.hid (hB.out.trans (hb2.mono hB.out.size))
              clear hb2 hown hB
              rcases uq_ways ((s.data.toList.drop (k + 2)).take n) with ⟨q, hq0, hu, hu2⟩ | ⟨b, hu, hu2⟩
              · rw [hu]
                have hQ := Lib.hid (hG2.out.trans (tailE_bad (k := n) (by rw [hen.out]) (by rw [hu2])))
                clear hu hu2
                go_wp2
                go_ret2
                exact epost_none hQ.out hB'.out
              · rw [hu]
                have hG3 := Lib.hid (show o = elemS f (s.data.toList.drop (k + 2 + n)) (lsL acc ++ [b]) by
                  rw [hG2.out, tailE_ok (k := n) (t := b) (by rw [hh.out]) (by rw [hen.out]) (by simp; omega) (by rw [hu2]), List.drop_drop])
                clear hu hu2 hG2
                obtain ⟨u, hub⟩ : ∃ u : ByteArray, Hid (u = ⟨b.toArray⟩) := ⟨⟨b.toArray⟩, rfl⟩
                rw [← hub.out]
                go_wp2_with (at_builtin; refine wpList_append_own _ rfl _ _ 22 rfl w.heap.size 9 i0 (.string ⟨#[]⟩) 1 16 Tryz.underlying22 hi hz0 hz1 hz2 rfl (by decide) _ acc.length _ rfl (hown'.out.alloc (.cells #[.string u] 9)) ⟨w2.heap.size, 0, none⟩ 1 1 [.string u] rfl rfl (World.news_of_block (cs := #[.string u]) (t := 9) (fr := (0, 0)) (Own.new' rfl)) (by simp; rfl) (by unfold maxLen; omega) (by omega) (by have := hB'.out.size; simp; omega) ?_; intro v' w3 hown3 hgrow hnil; clear hnil; obtain ⟨va', vc', hv'⟩ := owns_slice hown3; subst hv'; have hB3 := Lib.hid ((hB'.out.alloc hB'.out.size (.cells #[.string u] 9)).grown hgrow (by have := hB'.out.size; simp; omega) (fun k hk => by have := ((hown'.out.alloc (.cells #[.string u] 9)).lt k hk).1; omega)); replace hown3 := Lib.hid hown3; clear hgrow)
                have hG4 := Lib.hid (show o = elemS f (s.data.toList.drop (k + 2 + n)) (lsL (acc ++ [u])) by
                  rw [hG3.out]
                  have e2 : lsL (acc ++ [u]) = lsL acc ++ [b] := by rw [hub.out]; simp [lsL]
                  rw [e2])
                clear hG3
                go_wp2
                go_roundw
                case rel => exact ⟨k + 2 + n, f, va', vc', acc ++ [u], by rw [List.length_append]; rfl, by go_num, by omega, by omega, by simp; omega, by have := hf2.out; show _ ≤ _; omega, hG4.out, by rw [List.length_append, List.map_append]; exact hown3.out, hB3.out⟩
                case measure => simp [intOf]; omega

theorem elements_ref (s : ByteArray) (w : World) (hs1 : 1 < s.size) (hs : s.size < 4294967281) (hT : Tabs w) :
    Calls Tryz.prog 42 #[.string s] w (EPost (elemS s.size (s.data.toList.drop 1) []) s.size w) := elements_o s w _ rfl hs1 hs hT

end Go.Proofs.YtnghpjijfdpmkaaGreatDoor.value
