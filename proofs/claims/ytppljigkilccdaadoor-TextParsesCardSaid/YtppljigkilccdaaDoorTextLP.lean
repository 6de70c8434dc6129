/- The law TextParses: which number any text is, or the error, also of many digits. -/
import Derived.Test.YtppljigkilccdaaDoorTextLK
namespace Go.Proofs.YtppljigkilccdaaDoor.law
open Go.RowKit Go.Proofs.YtppljigkilccdaaDoor.text

/-- A list of bytes as it came in. -/
def BytesIn (w : World) (a : Option Addr) (n c : Nat) : Prop :=
  n ≤ c ∧ c ≤ maxLen ∧ (n = 0 ∨ ∃ blk off, a = some ⟨blk, off, none⟩ ∧ ∀ i, i < n → ∃ u : Int, 0 ≤ u ∧ u ≤ 255 ∧ w.cell? ⟨blk, off + i, none⟩ = some (.int .u8 u))
theorem bytes_in {w : World} {a : Option Addr} {len cap : Nat} {zs : List Int} (h : IsRow .u8 w a len cap zs) : BytesIn w a len cap := by
  rcases h with ⟨rfl, rfl, rfl, -⟩ | ⟨x, rfl, hl, hm, hz, hc, hw⟩
  · exact ⟨Nat.le_refl _, by simp, Or.inl rfl⟩
  · refine ⟨hl, hm, ?_⟩
    by_cases h0 : len = 0
    · exact Or.inl h0
    have hs : x.spot = none := by
      have h1 := hc 0 (by omega)
      unfold World.cell? at h1
      cases hsp : x.spot with
      | none => rfl
      | some i =>
        exfalso
        have : ((x.add 0).spot.isSome) = true := by unfold Addr.add; split <;> simp_all
        split at h1
        · rw [if_pos this] at h1; cases h1
        · cases h1
    obtain ⟨blk, off, sp⟩ := x
    simp only at hs
    subst hs
    refine Or.inr ⟨blk, off, rfl, fun i hi => ?_⟩
    have h1 := hc i (by omega)
    have h2 : (zs.getD i 0) ∈ zs := by rw [List.getD_eq_getElem?_getD, List.getElem?_eq_getElem (by omega)]; exact List.getElem_mem _
    have h3 := hw _ h2
    have h4 : 0 ≤ zs.getD i 0 ∧ zs.getD i 0 ≤ 255 := by simpa [Lit.wf, IntKind.min, IntKind.max, IntKind.signed, IntKind.bits] using h3
    have e : (⟨blk, off, none⟩ : Addr).add i = ⟨blk, off + i, none⟩ := by unfold Addr.add; split <;> simp_all
    rw [e] at h1
    exact ⟨_, h4.1, h4.2, h1⟩
theorem list_ret {l : List UInt8} {t : ByteArray} (h : l = t.data.toList) : parseV l = parseV t.data.toList := by rw [h]

set_option maxRecDepth 100000 in
set_option maxHeartbeats 4000000 in
theorem parses_walk (s : ByteArray) (a : Option Addr) (n c : Nat) (w : World) (hs : s.size ≤ 140737488351232) (hB : BytesIn w a n c) (hT : Tabs w) :
    Calls Tryd.prog 6 #[.string s, .slice a n c] w fun e w' => e = .returned (.bool true) ∧ Below w.heap.size w w' := by
  obtain ⟨hnc, hcm, hr⟩ := hB
  unfold maxLen at hcm
  replace hT := Lib.hid hT
  replace hr := Lib.hid hr
  go_enter Tryd.func6, Tryd.ntmps6
  go_wp2_with fail
  refine (awake_any _ hT.out).mono ?_
  rintro e w1 ⟨rfl, hb1⟩
  have hT1 := Lib.hid (hT.out.below hb1)
  have hsub := Lib.hid (sub_of_below hb1)
  replace hb1 := Lib.hid hb1
  clear hT
  rcases hr.out with hr0 | ⟨blk, off, rfl, hr1⟩
  · subst hr0
    clear hr
    go_wp2
    go_loop [5, 6] (fun v i => ∃ (k : Nat) (l : ByteArray), i = .int .i64 k ∧ k ≤ 0 ∧ v = .string l ∧ l.size ≤ k) (fun _ i => 0 - (intOf i).toNat)
    case atStart => exact ⟨0, _, rfl, Nat.zero_le _, rfl, Nat.le_refl _⟩
    case round =>
      obtain ⟨k, l, rfl, hk, rfl, hl⟩ := hrel
      by_cases hlt : k < 0
      · exfalso; omega
      · have hl2 : l.size ≤ 60 := by omega
        clear hl
        go_wp2
        have hg : Below w1.heap.size w1 (w1.alloc (.cells #[.string s, .string l, .string (⟨#[45]⟩ ++ l), .string (⟨#[48]⟩ ++ l), .string (l ++ s), .string (⟨#[49]⟩ ++ l ++ ⟨#[48]⟩)] 9)) := (Below.refl _ _).alloc (Nat.le_refl _) _
        have hF := Lib.hid (show ListAt w (w1.alloc (.cells #[.string s, .string l, .string (⟨#[45]⟩ ++ l), .string (⟨#[48]⟩ ++ l), .string (l ++ s), .string (⟨#[49]⟩ ++ l ++ ⟨#[48]⟩)] 9)) w1.heap.size 6 140737488355328 from
          ⟨hb1.out.trans (hg.mono hb1.out.size), texts_new (ts := [s, l, ⟨#[45]⟩ ++ l, ⟨#[48]⟩ ++ l, l ++ s, ⟨#[49]⟩ ++ l ++ ⟨#[48]⟩]) rfl rfl rfl (by
            intro t ht
            simp at ht
            have e1 : (⟨#[45]⟩ : ByteArray).size = 1 := rfl
            have e2 : (⟨#[48]⟩ : ByteArray).size = 1 := rfl
            have e3 : (⟨#[49]⟩ : ByteArray).size = 1 := rfl
            rcases ht with rfl | rfl | rfl | rfl | rfl | rfl
            · omega
            · omega
            · rw [ByteArray.size_append]; omega
            · rw [ByteArray.size_append]; omega
            · rw [ByteArray.size_append]; omega
            · rw [ByteArray.size_append, ByteArray.size_append]; omega), hT1.out.below hg⟩)
        clear hg hl2
        generalize w1.alloc (.cells #[.string s, .string l, .string (⟨#[45]⟩ ++ l), .string (⟨#[48]⟩ ++ l), .string (l ++ s), .string (⟨#[49]⟩ ++ l ++ ⟨#[48]⟩)] 9) = w2 at hF ⊢
        generalize w1.heap.size = A at hF ⊢
        go_loopw [50] (fun i wr => ∃ k : Nat, k ≤ 6 ∧ i = .int .i64 k ∧ Hid (ListAt w wr A 6 140737488355328)) (fun i _ => 6 - (intOf i).toNat)
        case atStart => exact ⟨0, by omega, rfl, hF.out⟩
        case round =>
          clear hF
          obtain ⟨j, hj, rfl, hF⟩ := hrel
          by_cases hlj : j < 6
          · obtain ⟨t, hcell, hts⟩ := hF.out.2.1 j hlj
            go_wp2_with fail
            refine (parse_any t _ hts hF.out.2.2).mono ?_
            rintro e w3 ⟨rfl, hb3⟩
            replace hF := Lib.hid (hF.out.below hb3)
            clear hb3 hcell
            obtain ⟨r1, r2, hp⟩ : ∃ r1 r2 : Int, Hid (parseV t.data.toList = .tuple #[.int .i64 r1, .int .i64 r2]) := ⟨_, _, rfl⟩
            rw [hp.out]
            go_wp2_with fail
            refine (parse_ref t _ (by unfold maxLen; omega)).mono ?_
            rintro e w4 ⟨rfl, rfl⟩
            rw [hp.out]
            go_wp2
            go_roundw
            case rel => exact ⟨j + 1, by omega, by go_num, hF.out⟩
            case measure => simp [intOf]; omega
          · go_wp2
            go_ret
            exact ⟨rfl, hF.out.1⟩
  replace hr := Lib.hid hr1
  clear hr1
  by_cases hn : 60 < n
  · have hn2 : n ≤ 9223372036854775807 := by omega
    go_wp2
    go_loop [5, 6] (fun v i => ∃ (k : Nat) (l : ByteArray), i = .int .i64 k ∧ k ≤ 60 ∧ v = .string l ∧ l.size ≤ k) (fun _ i => 60 - (intOf i).toNat)
    case atStart => exact ⟨0, _, rfl, Nat.zero_le _, rfl, Nat.le_refl _⟩
    case round =>
      obtain ⟨k, l, rfl, hk, rfl, hl⟩ := hrel
      by_cases hlt : k < 60
      · obtain ⟨u, hu0, hu1, hcell⟩ := hr.out k (by omega)
        replace hcell := hsub.out _ _ hcell
        have he := encode_size (r := 48 + u % 10) (by omega) (by omega)
        have hz := Lib.hid (show (l ++ Utf8.encode (48 + u % 10)).size ≤ k + 1 by rw [ByteArray.size_append]; omega)
        go_wp2
        go_round
        case rel => exact ⟨k + 1, _, by go_num, by omega, rfl, hz.out⟩
        case measure => simp [intOf]; omega
      · have hl2 : l.size ≤ 60 := by omega
        clear hl
        go_wp2
        have hg : Below w1.heap.size w1 (w1.alloc (.cells #[.string s, .string l, .string (⟨#[45]⟩ ++ l), .string (⟨#[48]⟩ ++ l), .string (l ++ s), .string (⟨#[49]⟩ ++ l ++ ⟨#[48]⟩)] 9)) := (Below.refl _ _).alloc (Nat.le_refl _) _
        have hF := Lib.hid (show ListAt w (w1.alloc (.cells #[.string s, .string l, .string (⟨#[45]⟩ ++ l), .string (⟨#[48]⟩ ++ l), .string (l ++ s), .string (⟨#[49]⟩ ++ l ++ ⟨#[48]⟩)] 9)) w1.heap.size 6 140737488355328 from
          ⟨hb1.out.trans (hg.mono hb1.out.size), texts_new (ts := [s, l, ⟨#[45]⟩ ++ l, ⟨#[48]⟩ ++ l, l ++ s, ⟨#[49]⟩ ++ l ++ ⟨#[48]⟩]) rfl rfl rfl (by
            intro t ht
            simp at ht
            have e1 : (⟨#[45]⟩ : ByteArray).size = 1 := rfl
            have e2 : (⟨#[48]⟩ : ByteArray).size = 1 := rfl
            have e3 : (⟨#[49]⟩ : ByteArray).size = 1 := rfl
            rcases ht with rfl | rfl | rfl | rfl | rfl | rfl
            · omega
            · omega
            · rw [ByteArray.size_append]; omega
            · rw [ByteArray.size_append]; omega
            · rw [ByteArray.size_append]; omega
            · rw [ByteArray.size_append, ByteArray.size_append]; omega), hT1.out.below hg⟩)
        clear hg hl2
        generalize w1.alloc (.cells #[.string s, .string l, .string (⟨#[45]⟩ ++ l), .string (⟨#[48]⟩ ++ l), .string (l ++ s), .string (⟨#[49]⟩ ++ l ++ ⟨#[48]⟩)] 9) = w2 at hF ⊢
        generalize w1.heap.size = A at hF ⊢
        go_loopw [50] (fun i wr => ∃ k : Nat, k ≤ 6 ∧ i = .int .i64 k ∧ Hid (ListAt w wr A 6 140737488355328)) (fun i _ => 6 - (intOf i).toNat)
        case atStart => exact ⟨0, by omega, rfl, hF.out⟩
        case round =>
          clear hF
          obtain ⟨j, hj, rfl, hF⟩ := hrel
          by_cases hlj : j < 6
          · obtain ⟨t, hcell, hts⟩ := hF.out.2.1 j hlj
            go_wp2_with fail
            refine (parse_any t _ hts hF.out.2.2).mono ?_
            rintro e w3 ⟨rfl, hb3⟩
            replace hF := Lib.hid (hF.out.below hb3)
            clear hb3 hcell
            obtain ⟨r1, r2, hp⟩ : ∃ r1 r2 : Int, Hid (parseV t.data.toList = .tuple #[.int .i64 r1, .int .i64 r2]) := ⟨_, _, rfl⟩
            rw [hp.out]
            go_wp2_with fail
            refine (parse_ref t _ (by unfold maxLen; omega)).mono ?_
            rintro e w4 ⟨rfl, rfl⟩
            rw [hp.out]
            go_wp2
            go_roundw
            case rel => exact ⟨j + 1, by omega, by go_num, hF.out⟩
            case measure => simp [intOf]; omega
          · go_wp2
            go_ret
            exact ⟨rfl, hF.out.1⟩
  · have hn2 : n ≤ 60 := by omega
    go_wp2
    go_loop [5, 6] (fun v i => ∃ (k : Nat) (l : ByteArray), i = .int .i64 k ∧ k ≤ n ∧ v = .string l ∧ l.size ≤ k) (fun _ i => n - (intOf i).toNat)
    case atStart => exact ⟨0, _, rfl, Nat.zero_le _, rfl, Nat.le_refl _⟩
    case round =>
      obtain ⟨k, l, rfl, hk, rfl, hl⟩ := hrel
      by_cases hlt : k < n
      · obtain ⟨u, hu0, hu1, hcell⟩ := hr.out k (by omega)
        replace hcell := hsub.out _ _ hcell
        have he := encode_size (r := 48 + u % 10) (by omega) (by omega)
        have hz := Lib.hid (show (l ++ Utf8.encode (48 + u % 10)).size ≤ k + 1 by rw [ByteArray.size_append]; omega)
        go_wp2
        go_round
        case rel => exact ⟨k + 1, _, by go_num, by omega, rfl, hz.out⟩
        case measure => simp [intOf]; omega
      · have hl2 : l.size ≤ 60 := by omega
        clear hl
        go_wp2
        have hg : Below w1.heap.size w1 (w1.alloc (.cells #[.string s, .string l, .string (⟨#[45]⟩ ++ l), .string (⟨#[48]⟩ ++ l), .string (l ++ s), .string (⟨#[49]⟩ ++ l ++ ⟨#[48]⟩)] 9)) := (Below.refl _ _).alloc (Nat.le_refl _) _
        have hF := Lib.hid (show ListAt w (w1.alloc (.cells #[.string s, .string l, .string (⟨#[45]⟩ ++ l), .string (⟨#[48]⟩ ++ l), .string (l ++ s), .string (⟨#[49]⟩ ++ l ++ ⟨#[48]⟩)] 9)) w1.heap.size 6 140737488355328 from
          ⟨hb1.out.trans (hg.mono hb1.out.size), texts_new (ts := [s, l, ⟨#[45]⟩ ++ l, ⟨#[48]⟩ ++ l, l ++ s, ⟨#[49]⟩ ++ l ++ ⟨#[48]⟩]) rfl rfl rfl (by
            intro t ht
            simp at ht
            have e1 : (⟨#[45]⟩ : ByteArray).size = 1 := rfl
            have e2 : (⟨#[48]⟩ : ByteArray).size = 1 := rfl
            have e3 : (⟨#[49]⟩ : ByteArray).size = 1 := rfl
            rcases ht with rfl | rfl | rfl | rfl | rfl | rfl
            · omega
            · omega
            · rw [ByteArray.size_append]; omega
            · rw [ByteArray.size_append]; omega
            · rw [ByteArray.size_append]; omega
            · rw [ByteArray.size_append, ByteArray.size_append]; omega), hT1.out.below hg⟩)
        clear hg hl2
        generalize w1.alloc (.cells #[.string s, .string l, .string (⟨#[45]⟩ ++ l), .string (⟨#[48]⟩ ++ l), .string (l ++ s), .string (⟨#[49]⟩ ++ l ++ ⟨#[48]⟩)] 9) = w2 at hF ⊢
        generalize w1.heap.size = A at hF ⊢
        go_loopw [50] (fun i wr => ∃ k : Nat, k ≤ 6 ∧ i = .int .i64 k ∧ Hid (ListAt w wr A 6 140737488355328)) (fun i _ => 6 - (intOf i).toNat)
        case atStart => exact ⟨0, by omega, rfl, hF.out⟩
        case round =>
          clear hF
          obtain ⟨j, hj, rfl, hF⟩ := hrel
          by_cases hlj : j < 6
          · obtain ⟨t, hcell, hts⟩ := hF.out.2.1 j hlj
            go_wp2_with fail
            refine (parse_any t _ hts hF.out.2.2).mono ?_
            rintro e w3 ⟨rfl, hb3⟩
            replace hF := Lib.hid (hF.out.below hb3)
            clear hb3 hcell
            obtain ⟨r1, r2, hp⟩ : ∃ r1 r2 : Int, Hid (parseV t.data.toList = .tuple #[.int .i64 r1, .int .i64 r2]) := ⟨_, _, rfl⟩
            rw [hp.out]
            go_wp2_with fail
            refine (parse_ref t _ (by unfold maxLen; omega)).mono ?_
            rintro e w4 ⟨rfl, rfl⟩
            rw [hp.out]
            go_wp2
            go_roundw
            case rel => exact ⟨j + 1, by omega, by go_num, hF.out⟩
            case measure => simp [intOf]; omega
          · go_wp2
            go_ret
            exact ⟨rfl, hF.out.1⟩

end Go.Proofs.YtppljigkilccdaaDoor.law
