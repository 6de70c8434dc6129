/- What the laws of the lexer share: the comparison of two lists of tokens, the sanity check with which each of them begins. -/
import Derived.Test.YtpildefkhlejgaaDoorLexG
import Derived.Deep.QuietTactic
import Derived.BigQuiet
namespace Go.Proofs.YtpildefkhlejgaaDoor.lex
open Go.RowKit Go.Proofs.YtpildefkhlejgaaDoor.text Go.Proofs.YtpildefkhlejgaaDoor.value

/-- Where a list of tokens lies. -/
def TokRows (w : World) (g o : Nat) (ts : List Tok) : Prop := ∀ k (h : k < ts.length), w.cell? ⟨g, o + k * 4, none⟩ = some (.int .i64 ts[k].k) ∧ w.cell? ⟨g, o + k * 4 + 1, none⟩ = some (.string ⟨ts[k].t.toArray⟩) ∧ w.cell? ⟨g, o + k * 4 + 2, none⟩ = some (.int .i64 ts[k].n) ∧ w.cell? ⟨g, o + k * 4 + 3, none⟩ = some (.int .i64 ts[k].line)
theorem TokRows.drewN {w : World} {g o : Nat} {ts : List Tok} (h : TokRows w g o ts) (n : Nat) : TokRows (w.drewN n) g o ts := h
theorem TokRows.below {w w' : World} {g o : Nat} {ts : List Tok} (h : TokRows w g o ts) (hb : Below w.heap.size w w') : TokRows w' g o ts := by
  intro k hk
  obtain ⟨h0, h1, h2, h3⟩ := h k hk
  exact ⟨sub_of_below hb _ _ h0, sub_of_below hb _ _ h1, sub_of_below hb _ _ h2, sub_of_below hb _ _ h3⟩
theorem rowsT_get (ts : List Tok) (k : Nat) (hk : k < ts.length) (j : Nat) (u : Value) (hj : (Tok.row ts[k])[j]? = some u) : (rowsT ts)[k * 4 + j]? = some u := by
  refine flat_get 4 (ts.map Tok.row) ?_ k (Tok.row ts[k]) (by simp [hk]) j u hj
  intro r hr
  obtain ⟨t, _, rfl⟩ := List.mem_map.1 hr
  rfl
/-- A list of tokens that a call has made: none, or where it lies. -/
theorem toks_at {w : World} {base : Nat} {v : Value} {ts : List Tok} (h : w.ownsRow base 39 4 v ts.length (rowsT ts)) :
    (ts = [] ∧ ∃ a c, v = .slice a 0 c) ∨ ∃ g c, v = .slice (some ⟨g, 0, none⟩) ts.length c ∧ TokRows w g 0 ts ∧ base ≤ g ∧ ts.length ≤ 9223372036854775807 := by
  rcases h.2 with ⟨rfl, h0⟩ | ⟨g, cap, cur, rfl, hb, hg, hnc, hcm, hcs, htake⟩
  · exact Or.inl ⟨List.eq_nil_of_length_eq_zero h0, _, _, rfl⟩
  · refine Or.inr ⟨g, cap, rfl, fun k hk => ?_, hb, by unfold maxLen at hcm; omega⟩
    have key : ∀ j u, (Tok.row ts[k])[j]? = some u → w.cell? ⟨g, 0 + k * 4 + j, none⟩ = some u := by
      intro j u hj
      have h1 := rowsT_get ts k hk j u hj
      rw [← htake, List.getElem?_take] at h1
      rw [Nat.zero_add]
      have h2 : w.cell? ⟨g, k * 4 + j, none⟩ = cur[k * 4 + j]? := by simp [World.cell?, hg]
      rw [h2]
      split at h1
      · simpa using h1
      · cases h1
    exact ⟨key 0 _ rfl, key 1 _ rfl, key 2 _ rfl, key 3 _ rfl⟩

set_option maxHeartbeats 1000000 in
theorem same_none (a b : Option Addr) (ca cb : Nat) (w : World) : Calls Tryd.prog 16 #[.slice a 0 ca, .slice b 0 cb] w fun e w' => e = .returned (.bool true) ∧ ∃ q, w' = w.drewN q := by
  go_enter Tryd.func16, Tryd.ntmps16
  go_wp2
  go_loopw [5] (fun i wr => i = .int .i64 0 ∧ wr = w) (fun _ _ => 0)
  case atStart => exact ⟨rfl, rfl⟩
  case round =>
    obtain ⟨rfl, rfl⟩ := hrel
    go_wp2
    go_ret
    exact ⟨rfl, 0, rfl⟩

set_option maxRecDepth 100000 in
set_option maxHeartbeats 4000000 in
theorem same_some (g o c g' o' c' : Nat) (ts : List Tok) (w : World) (hmax : ts.length ≤ 9223372036854775807) (ha : TokRows w g o ts) (hb : TokRows w g' o' ts) :
    Calls Tryd.prog 16 #[.slice (some ⟨g, o, none⟩) ts.length c, .slice (some ⟨g', o', none⟩) ts.length c'] w fun e w' => e = .returned (.bool true) ∧ ∃ q, w' = w.drewN q := by
  replace ha := Lib.hid ha
  replace hb := Lib.hid hb
  go_enter Tryd.func16, Tryd.ntmps16
  go_wp2
  go_loopw [5] (fun i wr => ∃ k q : Nat, i = .int .i64 k ∧ k ≤ ts.length ∧ wr = w.drewN q) (fun i _ => ts.length - (intOf i).toNat)
  case atStart => exact ⟨0, 0, rfl, Nat.zero_le _, rfl⟩
  case round =>
    obtain ⟨k, q, rfl, hk, rfl⟩ := hrel
    by_cases hlt : k < ts.length
    · obtain ⟨a0, a1, a2, a3⟩ := ha.out k hlt
      obtain ⟨b0, b1, b2, b3⟩ := hb.out k hlt
      generalize ts[k].k = x0 at a0 b0
      generalize (⟨ts[k].t.toArray⟩ : ByteArray) = x1 at a1 b1
      generalize ts[k].n = x2 at a2 b2
      generalize ts[k].line = x3 at a3 b3
      have n0 : (0 : Int) ≤ (k : Int) := Int.natCast_nonneg _
      have n1 : (k : Int) < (ts.length : Int) := by omega
      go_wp2_with fail
      go_quiet (fail)
      go_wp2
      go_roundw
      case rel => exact ⟨k + 1, _, by go_num, by omega, rfl⟩
      case measure => simp [intOf]; omega
    · go_wp2
      go_ret
      exact ⟨rfl, q, rfl⟩

theorem tok_err {l : List UInt8} {w w' : World} {e : Ending} {q L : Int} (h : TokPost l w e w') (hx : toksS l = .error (q, L)) : e = .returned (.tuple #[.slice none 0 0, .int .i64 L, .int .i64 q]) ∧ Below w.heap.size w w' := by
  obtain ⟨hb, h⟩ := h
  rw [hx] at h
  exact ⟨h, hb⟩
theorem tok_ok {l : List UInt8} {w w' : World} {e : Ending} {ts : List Tok} (h : TokPost l w e w') (hx : toksS l = .ok ts) : ∃ v, e = .returned (.tuple #[v, .int .i64 0, .int .i64 0]) ∧ w'.ownsRow w.heap.size 39 4 v ts.length (rowsT ts) ∧ Below w.heap.size w w' := by
  obtain ⟨hb, h⟩ := h
  rw [hx] at h
  obtain ⟨v, h1, h2⟩ := h
  exact ⟨v, h1, h2, hb⟩
/-- Two lists of the same tokens are the same. -/
theorem same_any {w w0 w1 : World} {b1 b2 : Nat} {v1 v2 : Value} {ts : List Tok} (h1 : w0.ownsRow b1 39 4 v1 ts.length (rowsT ts)) (h2 : w1.ownsRow b2 39 4 v2 ts.length (rowsT ts)) (hw0 : Below w0.heap.size w0 w) (hw1 : Below w1.heap.size w1 w) :
    Calls Tryd.prog 16 #[v1, v2] w fun e w' => e = .returned (.bool true) ∧ ∃ q, w' = w.drewN q := by
  rcases toks_at h1 with ⟨rfl, a, c, rfl⟩ | ⟨g, c, rfl, hr, -, hm⟩
  · rcases toks_at h2 with ⟨-, a', c', rfl⟩ | ⟨g', c', rfl, -, -, -⟩
    · exact same_none a a' c c' w
    · exact same_none a (some ⟨g', 0, none⟩) c c' w
  · rcases toks_at h2 with ⟨rfl, a', c', rfl⟩ | ⟨g', c', rfl, hr', -, -⟩
    · exact same_none (some ⟨g, 0, none⟩) a' c c' w
    · exact same_some g 0 c g' 0 c' ts w hm (hr.below hw0) (hr'.below hw1)

theorem aw1 : toksS [97, 32, 60, 61, 32, 49, 46, 50, 46, 51] = .ok [⟨1, [97], 0, 1⟩, ⟨5, [60, 61], 0, 1⟩, ⟨4, [49, 46, 50, 46, 51], 0, 1⟩, ⟨6, [], 0, 1⟩] := by kernel_rfl
theorem aw2 : toksS [48, 49] = .error (1, 1) := by kernel_rfl

set_option maxRecDepth 100000 in
set_option maxHeartbeats 4000000 in
theorem awake_any (w : World) (hT : Tabs w) : Calls Tryd.prog 11 #[] w fun e w' => e = .returned (.bool true) ∧ Below w.heap.size w w' := by
  replace hT := Lib.hid hT
  go_enter Tryd.func11, Tryd.ntmps11
  go_wp2_with fail
  refine (tokens_any ⟨#[97, 32, 60, 61, 32, 49, 46, 50, 46, 51]⟩ _ (by decide) hT.out).mono ?_
  rintro e w1 ⟨hb1, h1⟩
  rw [show (⟨#[97, 32, 60, 61, 32, 49, 46, 50, 46, 51]⟩ : ByteArray).data.toList = [97, 32, 60, 61, 32, 49, 46, 50, 46, 51] from rfl, aw1] at h1
  obtain ⟨v, rfl, ho⟩ := h1
  rcases toks_at ho with ⟨h0, _⟩ | ⟨g, c, rfl, hr, _, _⟩
  · cases h0
  replace hT := Lib.hid (hT.out.below hb1)
  replace hb1 := Lib.hid hb1
  replace hr := Lib.hid hr
  clear ho
  go_wp2_with fail
  refine (tokens_any ⟨#[48, 49]⟩ _ (by decide) hT.out).mono ?_
  rintro e w2 ⟨hb2, h2⟩
  rw [show (⟨#[48, 49]⟩ : ByteArray).data.toList = [48, 49] from rfl, aw2] at h2
  subst h2
  have hr2 := hr.out.below hb2
  replace hb2 := Lib.hid (hb1.out.trans (hb2.mono hb1.out.size))
  have c0 : w2.cell? ⟨g, 1, none⟩ = some (.string ⟨#[97]⟩) := (hr2 0 (by decide)).2.1
  have c1 : w2.cell? ⟨g, 5, none⟩ = some (.string ⟨#[60, 61]⟩) := (hr2 1 (by decide)).2.1
  have c2 : w2.cell? ⟨g, 8, none⟩ = some (.int .i64 4) := (hr2 2 (by decide)).1
  have c3 : w2.cell? ⟨g, 12, none⟩ = some (.int .i64 6) := (hr2 3 (by decide)).1
  clear hr2 hr
  go_wp2
  go_ret
  exact ⟨rfl, hb2.out⟩

end Go.Proofs.YtpildefkhlejgaaDoor.lex
