/- What a text of words is as a metric, said plainly; the program's Parse. -/
import Derived.Test.YtnghpjijfdpmkaaDoorMetS
import Derived.Test.YtnghpjijfdpmkaaDoorMetD
import Derived.Test.YtnghpjijfdpmkaaDoorMetP
import Derived.Deep.DeepCutAuto
import Derived.Deep.CutBlock
namespace Go.Proofs.YtnghpjijfdpmkaaDoor.metric
open Go.RowKit Go.Proofs.YtnghpjijfdpmkaaDoor Go.Proofs.YtnghpjijfdpmkaaDoor.text

/-- The kind whose word this is, or 0. -/
def kindN (x : ByteArray) : Nat := if x.data.toList = [115, 117, 109] then 1 else if x.data.toList = [99, 111, 117, 110, 116] then 2 else if x.data.toList = [115, 104, 97, 114, 101] then 3 else if x.data.toList = [114, 97, 116, 105, 111] then 4 else 0
abbrev ofW : ByteArray := ⟨#[111, 102]⟩
abbrev toW : ByteArray := ⟨#[116, 111]⟩
abbrev withinW : ByteArray := ⟨#[119, 105, 116, 104, 105, 110]⟩
abbrev capW : ByteArray := ⟨#[99, 97, 112]⟩
abbrev leastW : ByteArray := ⟨#[108, 101, 97, 115, 116]⟩
abbrev beforeW : ByteArray := ⟨#[98, 101, 102, 111, 114, 101]⟩
def rowM (k : Int) (nm bl : ByteArray) (win cap least before : Int) : Array Value := #[.int .i64 k, .string nm, .string bl, .int .i64 win, .int .i64 cap, .int .i64 least, .int .i64 before]
def mvOf (k : Int) (nm bl : ByteArray) (win cap least before : Int) : MV := ⟨k, nm.data.toList, bl.data.toList, win, cap, least, before⟩
/-- What Parse gives in the end. -/
def finM (k : Int) (nm bl : ByteArray) (win cap least before : Int) (S : WS) : Value :=
  if S.2 = true ∨ k = 0 ∨ S.1 ≠ [] then .tuple #[.agg Z7, .int .i64 1]
  else if chkM (mvOf k nm bl win cap least before) = 0 then .tuple #[.agg (rowM k nm bl win cap least before), .int .i64 0] else .tuple #[.agg Z7, .int .i64 (chkM (mvOf k nm bl win cap least before))]
def rBefore (k : Int) (nm bl : ByteArray) (win cap least : Int) (S : WS) : Value :=
  if hasB beforeW S = true then finM k nm bl win cap least (numV (hasR beforeW S)) (numR (hasR beforeW S)) else finM k nm bl win cap least 0 S
def rLeast (k : Int) (nm bl : ByteArray) (win cap : Int) (S : WS) : Value :=
  if hasB leastW S = true then rBefore k nm bl win cap (numV (hasR leastW S)) (numR (hasR leastW S)) else rBefore k nm bl win cap (-1099511627776) S
def rWin (k : Int) (nm bl : ByteArray) (S : WS) : Value :=
  rLeast k nm bl (numV (needW withinW S)) (numV (needW capW (numR (needW withinW S)))) (numR (needW capW (numR (needW withinW S))))
def rBelow (k : Int) (nm : ByteArray) (S : WS) : Value :=
  if k = 4 then rWin k nm (takeW (needW toW S)) (restW (needW toW S)) else rWin k nm ⟨#[]⟩ S
def parseR (L : List ByteArray) : Value :=
  rBelow (kindN (takeW (L, false))) (takeW (needW ofW (restW (L, false)))) (restW (needW ofW (restW (L, false))))
/-- What Parse gives of a text. -/
def parsePV (s : ByteArray) : Value := if 200 < s.size then .tuple #[.agg Z7, .int .i64 4] else parseR (Lib.goFieldsP blankR s)

theorem numV_bd (S : WS) : -1099511627776 ≤ numV S ∧ numV S ≤ 1099511627776 := by
  unfold numV parseS
  split
  · exact ⟨by decide, by decide⟩
  · split
    · exact ⟨by decide, by decide⟩
    · simp only
      split <;> omega

/-- The first k kinds have been compared. -/
def KRel (x : ByteArray) (left : Nat → Bool) (kk : Int) : Prop := kk = if kindN x = 0 ∨ left (kindN x) = true then 0 else (kindN x : Int)
/-- The word of a kind. -/
def kindNm : Nat → ByteArray
  | 1 => ⟨#[115, 117, 109]⟩
  | 2 => ⟨#[99, 111, 117, 110, 116]⟩
  | 3 => ⟨#[115, 104, 97, 114, 101]⟩
  | _ => ⟨#[114, 97, 116, 105, 111]⟩
theorem kindV_nm (j : Nat) : ∃ F, kindV j = .agg #[.string (kindNm j), .func (Fn.func F) #[] #[]] := by
  match j with
  | 0 => exact ⟨_, rfl⟩
  | 1 => exact ⟨_, rfl⟩
  | 2 => exact ⟨_, rfl⟩
  | 3 => exact ⟨_, rfl⟩
  | j + 4 => exact ⟨_, rfl⟩
theorem ba_ext {a b : ByteArray} (h : a.data.toList = b.data.toList) : a = b := by
  cases a; cases b
  simp only at h
  congr
  exact Array.toList_inj.1 h
theorem kindN_nm {j : Nat} (h1 : 1 ≤ j) (h4 : j ≤ 4) : kindN (kindNm j) = j := by
  rcases (show j = 1 ∨ j = 2 ∨ j = 3 ∨ j = 4 by omega) with rfl | rfl | rfl | rfl <;> rfl
theorem kindN_eq {x : ByteArray} {j : Nat} (h1 : 1 ≤ j) (h4 : j ≤ 4) : kindNm j = x ↔ kindN x = j := by
  constructor
  · rintro rfl; exact kindN_nm h1 h4
  · intro h
    unfold kindN at h
    split at h
    · rename_i e; obtain rfl := h.symm; exact ba_ext e.symm
    · split at h
      · rename_i e; obtain rfl := h.symm; exact ba_ext e.symm
      · split at h
        · rename_i e; obtain rfl := h.symm; exact ba_ext e.symm
        · split at h
          · rename_i e; obtain rfl := h.symm; exact ba_ext e.symm
          · omega
theorem kindN_le (x : ByteArray) : kindN x ≤ 4 := by
  unfold kindN
  repeat' split
  all_goals omega
theorem KRel.start (x : ByteArray) : KRel x (fun _ => true) 0 := by unfold KRel; simp
theorem KRel.hit {x : ByteArray} {left : Nat → Bool} {j : Nat} (h1 : 1 ≤ j) (h4 : j ≤ 4) (h : kindNm j = x) : KRel x (fun i => left i && i != j) (j : Int) := by
  have := (kindN_eq h1 h4).1 h
  unfold KRel
  rw [this, if_neg (by simp; omega)]
theorem KRel.miss {x : ByteArray} {left : Nat → Bool} {kk : Int} {j : Nat} (h1 : 1 ≤ j) (h4 : j ≤ 4) (h : ¬ kindNm j = x) (hk : KRel x left kk) : KRel x (fun i => left i && i != j) kk := by
  have hn : ¬ kindN x = j := fun e => h ((kindN_eq h1 h4).2 e)
  have e : (kindN x != j) = true := by simp [hn]
  unfold KRel at hk ⊢
  rw [hk]
  simp only [e, Bool.and_true]
theorem KRel.done {x : ByteArray} {left : Nat → Bool} {kk : Int} (hl : ∀ j, 1 ≤ j → j ≤ 4 → left j = false) (hk : KRel x left kk) : kk = (kindN x : Int) := by
  unfold KRel at hk
  by_cases h0 : kindN x = 0
  · rw [hk, if_pos (Or.inl h0), h0]; rfl
  · rw [hk, if_neg (by rw [hl _ (by omega) (kindN_le x)]; simp [h0])]

/-- The reader, the metric that is made (block g), and the result's cells. -/
abbrev PM (w : World) (b g : Nat) (S : WS) (A : Array Value) (u : World) : Prop := PS w 70 b S [(g, A, 29), (w.heap.size, Z7, 29)] u
theorem PM.put' {w u : World} {b g : Nat} {S : WS} {A : Array Value} (h : PM w b g S A u) (hg : w.heap.size < g) (i : Nat) (v : Value) : PM w b g S (A.setIfInBounds i v) (u.setCell ⟨g, i, none⟩ v) :=
  PS.put h (by intro p hp; simp only [List.mem_cons, List.not_mem_nil, or_false] at hp; subst hp; show w.heap.size ≠ g; omega) i v
theorem PM.cells' {w u : World} {b g : Nat} {S : WS} {x0 x1 x2 x3 x4 x5 x6 : Value} (h : PM w b g S #[x0, x1, x2, x3, x4, x5, x6] u) :
    ((u.cell? ⟨g, 0, none⟩ = some x0 ∧ u.cell? ⟨g, 1, none⟩ = some x1 ∧ u.cell? ⟨g, 2, none⟩ = some x2 ∧ u.cell? ⟨g, 3, none⟩ = some x3 ∧ u.cell? ⟨g, 4, none⟩ = some x4 ∧ u.cell? ⟨g, 5, none⟩ = some x5 ∧ u.cell? ⟨g, 6, none⟩ = some x6) ∧
    u.frozen? ⟨g, 0, none⟩ = false ∧ u.frozen? ⟨g, 1, none⟩ = false ∧ u.frozen? ⟨g, 2, none⟩ = false ∧ u.frozen? ⟨g, 3, none⟩ = false ∧ u.frozen? ⟨g, 4, none⟩ = false ∧ u.frozen? ⟨g, 5, none⟩ = false ∧ u.frozen? ⟨g, 6, none⟩ = false) ∧
    ((u.cell? ⟨w.heap.size, 0, none⟩ = some (.int .i64 0) ∧ u.cell? ⟨w.heap.size, 1, none⟩ = some (.string ⟨#[]⟩) ∧ u.cell? ⟨w.heap.size, 2, none⟩ = some (.string ⟨#[]⟩) ∧ u.cell? ⟨w.heap.size, 3, none⟩ = some (.int .i64 0) ∧ u.cell? ⟨w.heap.size, 4, none⟩ = some (.int .i64 0) ∧ u.cell? ⟨w.heap.size, 5, none⟩ = some (.int .i64 0) ∧ u.cell? ⟨w.heap.size, 6, none⟩ = some (.int .i64 0)) ∧
    u.frozen? ⟨w.heap.size, 0, none⟩ = false ∧ u.frozen? ⟨w.heap.size, 1, none⟩ = false ∧ u.frozen? ⟨w.heap.size, 2, none⟩ = false ∧ u.frozen? ⟨w.heap.size, 3, none⟩ = false ∧ u.frozen? ⟨w.heap.size, 4, none⟩ = false ∧ u.frozen? ⟨w.heap.size, 5, none⟩ = false ∧ u.frozen? ⟨w.heap.size, 6, none⟩ = false) :=
  ⟨cells14 (h.held _ (List.mem_cons_self)).1, cells14 (h.held (w.heap.size, Z7, 29) (by simp)).1⟩
theorem fields_short (s : ByteArray) : ∀ x ∈ Lib.goFieldsP blankR s, x.size ≤ s.size := by
  intro x hx
  unfold Lib.goFieldsP at hx
  obtain ⟨p, -, rfl⟩ := List.mem_map.1 hx
  rw [ByteArray.size_extract]
  omega
theorem ownsRow_cell {w : World} {B n A : Nat} {L : List ByteArray} (h : w.ownsRow B 9 1 (.slice (some ⟨A, 0, none⟩) n n) n (L.map Value.string)) (hn : n = L.length) (i : Nat) (x : ByteArray) (hx : L[i]? = some x) : w.cell? ⟨A, i, none⟩ = some (.string x) := by
  obtain ⟨-, h2⟩ := h
  rcases h2 with ⟨h3, -⟩ | ⟨g, cap, cur, h3, -, h4, h5, -, h6, h7⟩
  · cases h3
  · injection h3 with h3 h8 h9
    injection h3 with h3
    injection h3 with h3
    subst h3
    have hO : Own w A cur 9 := h4
    have hi : i < L.length := (List.getElem?_eq_some_iff.1 hx).1
    rw [hO.cell i, ← Array.getElem?_toList]
    have h10 : (cur.toList.take (n * 1))[i]? = (L.map Value.string)[i]? := by rw [h7]
    rw [List.getElem?_take, if_pos (by omega), List.getElem?_map, hx] at h10
    exact h10
theorem spans_len (p : Nat → Bool) (s : ByteArray) : ∀ (f pos : Nat) (st : Option Nat) (acc : List (Nat × Nat)), (Lib.spansFromP p s f pos st acc).1.length ≤ acc.length + f
  | 0, _, _, acc => by simp [Lib.spansFromP]
  | f + 1, pos, st, acc => by
    unfold Lib.spansFromP
    split
    · split
      · cases st with
        | none => have := spans_len p s f (pos + (Utf8.decode s pos).2) none acc; simp only; omega
        | some a => have := spans_len p s f (pos + (Utf8.decode s pos).2) none (acc ++ [(a, pos)]); simp only [List.length_append, List.length_cons, List.length_nil] at this ⊢; omega
      · cases st with
        | none => have := spans_len p s f (pos + (Utf8.decode s pos).2) (some pos) acc; simp only; omega
        | some a => have := spans_len p s f (pos + (Utf8.decode s pos).2) (some a) acc; simp only; omega
    · simp
theorem fields_len (s : ByteArray) (h : s.size ≤ 200) : (Lib.goFieldsP blankR s).length ≤ 9223372036854775807 := by
  have h1 := spans_len blankR s s.size 0 none []
  unfold Lib.goFieldsP Lib.spansOfP
  rw [List.length_map]
  generalize Lib.spansFromP blankR s s.size 0 none [] = q at h1 ⊢
  obtain ⟨x, st⟩ := q
  simp only [List.length_nil] at h1
  cases st <;> simp [Lib.closeSpans] <;> omega
/-- A reader of words that lie in memory of the call's own, and a new metric. -/
theorem PS.start {w w1 : World} {T : TypeId} {A : Nat} {L : List ByteArray} (M : Array Value) (hA : w.heap.size + 1 ≤ A) (hown : w1.ownsRow (w.heap.size + 1) 9 1 (.slice (some ⟨A, 0, none⟩) L.length L.length) L.length (L.map Value.string))
    (hb : Below (w.heap.size + 1) (w.alloc (.cells Z7 29)) w1) (hs : ∀ x ∈ L, x.size ≤ 200) (hl : L.length ≤ 9223372036854775807) :
    PS w T w1.heap.size (L, false) [(w1.heap.size + 1, M, 29), (w.heap.size, Z7, 29)] ((w1.alloc (.cells #[.slice (some ⟨A, 0, none⟩) L.length L.length, .bool false] T)).alloc (.cells M 29)) := by
  have hsz : (w.alloc (.cells Z7 29)).heap.size = w.heap.size + 1 := by simp
  have h1 : w.heap.size + 1 ≤ w1.heap.size := by have := hb.size; omega
  have hB : Below w.heap.size w w1 := ((Below.refl _ _).alloc (Nat.le_refl _) _).trans (hb.mono (by omega))
  have hAlt : L.length = 0 ∨ A < w1.heap.size := by
    by_cases h0 : L.length = 0
    · exact Or.inl h0
    · refine Or.inr ?_
      have := ownsRow_cell hown rfl 0 L[0] (List.getElem?_eq_getElem (by omega))
      exact World.block_lt_of_cell? w1 _ this
  have hZ : Own w1 w.heap.size Z7 29 := (Own.new w Z7 _).below hb (by omega)
  refine ⟨⟨some ⟨A, 0, none⟩, L.length, (Own.new w1 _ T).alloc _, Nat.le_refl _, hl, ?_⟩, by omega, fun p hp => ?_, (hB.alloc (by omega) _).alloc (by simp; omega) _, fun x hx => by have := hs x hx; omega⟩
  · rcases hAlt with h0 | h0
    · exact Or.inl (List.eq_nil_of_length_eq_zero h0)
    · refine Or.inr ⟨A, 0, rfl, by omega, h0, fun p hp => ?_, fun i x hx => ?_⟩
      · simp only [List.mem_cons, List.not_mem_nil, or_false] at hp
        rcases hp with rfl | rfl
        · show w1.heap.size + 1 ≠ A; omega
        · show w.heap.size ≠ A; omega
      · have h2 := ownsRow_cell hown rfl i x hx
        rw [Nat.zero_add]
        exact sub_of_below (((Below.refl _ _).alloc (Nat.le_refl _) _).alloc (by simp) _) _ _ h2
  · simp only [List.mem_cons, List.not_mem_nil, or_false] at hp
    rcases hp with rfl | rfl
    · exact ⟨Own.new' (by simp), by show w1.heap.size + 1 ≠ w1.heap.size; omega, by show w.heap.size ≤ w1.heap.size + 1; omega⟩
    · exact ⟨(hZ.alloc _).alloc _, by show w.heap.size ≠ w1.heap.size; omega, Nat.le_refl _⟩
theorem apart2 {b q n : Nat} {A B : Array Value} {t u : TypeId} (h1 : b + 1 ≤ q) (h2 : n ≤ q) : ∀ p ∈ [((b + 1, A, t) : Blk), (n, B, u)], p.1 ≠ q + 1 := by
  intro p hp
  simp only [List.mem_cons, List.not_mem_nil, or_false] at hp
  rcases hp with rfl | rfl
  · show b + 1 ≠ q + 1; omega
  · show n ≠ q + 1; omega
def ParseIs (w : World) (s : ByteArray) (e : Ending) (u : World) : Prop := e = .returned (parsePV s) ∧ Below w.heap.size w u

set_option maxRecDepth 100000 in
set_option maxHeartbeats 40000000 in
theorem parse_p (s : ByteArray) (w : World) (hs : s.size ≤ maxLen) (hT : NTabs w) : Calls Tryd.prog 15 #[.string s] w (ParseIs w s) := by
  replace hT := Lib.hid hT
  unfold maxLen at hs
  by_cases hlong : 200 < s.size
  · have hE := Lib.hid (show parsePV s = .tuple #[.agg Z7, .int .i64 4] by unfold parsePV; rw [if_pos hlong])
    go_enter Tryd.func15, Tryd.ntmps15
    go_wp2
    refine bodyPost_ret (v := .tuple #[.agg Z7, .int .i64 4]) (by simp [results, Tryd.results15, go_sem]) rfl ?_
    exact ⟨by rw [hE.out], (Below.refl _ _).alloc (Nat.le_refl _) _⟩
  have hE := Lib.hid (show parsePV s = parseR (Lib.goFieldsP blankR s) by unfold parsePV; rw [if_neg hlong])
  go_enter Tryd.func15, Tryd.ntmps15
  go_wp2_with fail
  refine (fields_m s _ (by omega)).mono ?_
  rintro e w1 ⟨A, rfl, hA, hown, hb1⟩
  have hP := Lib.hid (PS.start (T := 70) #[.int .i64 0, .string ⟨#[]⟩, .string ⟨#[]⟩, .int .i64 0, .int .i64 0, .int .i64 (-1099511627776), .int .i64 0] (by simpa using hA) (by simpa using hown) (by simpa using hb1) (fun x hx => by have := fields_short s x hx; omega) (fields_len s (by omega)))
  have hsz := Lib.hid (show w.heap.size + 1 ≤ w1.heap.size by have := hb1.size; simpa using this)
  clear hA hown hb1
  generalize Lib.goFieldsP blankR s = F at hP hE ⊢
  unfold Z7 at *
  go_wp2_with fail
  refine (next_p hP.out).mono ?_
  rintro e w2 ⟨rfl, hP2⟩
  clear hP
  replace hP2 := Lib.hid hP2
  go_wp2_with fail
  refine (kinds_any _).mono ?_
  rintro e w3 ⟨rfl, rfl⟩
  have hb3 : (w2.alloc (.map kinds4 4)).heap[w2.heap.size]? = some (.map kinds4 4) := heap_alloc_new w2 _
  have hP3 := Lib.hid (PS.grow hP2.out (v := (w2.alloc (.map kinds4 4)).alloc (.mapIter (some w2.heap.size) 4 #[] 4)) (((Below.refl _ _).alloc (Nat.le_refl _) _).alloc (by simp) _))
  have hz3 := Lib.hid hP2.out.size
  have hg2 := Lib.hid (show w1.heap.size + 1 < w2.heap.size from (hP2.out.held _ (List.mem_cons_self)).1.lt)
  clear hP2
  have hsz3 : (w2.alloc (.map kinds4 4)).heap.size = w2.heap.size + 1 := by simp
  go_wp2_with (first | (at_range; refine wpList_range_kinds rfl _ rfl w2.heap.size rfl hb3 ?_; intro hK0) | fail)
  have hz4 := hg2
  clear hg2 hz3
  rw [hsz3] at hK0 ⊢
  clear hsz3
  generalize hbe : w1.heap.size = b at *
  generalize hme : w2.heap.size = q at *
  replace hbe := Lib.hid hbe
  replace hme := Lib.hid hme
  replace hK0 := Lib.hid hK0
  replace hb3 := Lib.hid hb3
  go_frame
  go_loopw [7] (fun _ wr => ∃ (left : Nat → Bool) (cnt : Nat) (kk : Int), Hid (KIt wr q (q + 1) left cnt) ∧ Hid (PM w b (b + 1) (restW (F, false)) #[.int .i64 kk, .string ⟨#[]⟩, .string ⟨#[]⟩, .int .i64 0, .int .i64 0, .int .i64 (-1099511627776), .int .i64 0] wr) ∧ Hid (KRel (takeW (F, false)) left kk)) (fun _ wr => wr.rangeLeft q (q + 1))
  case atStart => exact ⟨_, _, 0, Lib.hid hK0.out, hP3, Lib.hid (KRel.start _)⟩
  case round =>
    obtain ⟨left, cnt, kk, hK, hP, hR⟩ := hrel
    clear hP3 hK0
    go_wp2_with (first | (at_next; refine wpList_next_kinds rfl _ rfl q (q + 1) left cnt rfl hK.out ?_ ?_) | fail)
    · intro hl
      have hkk := Lib.hid (hR.out.done hl)
      clear hl hR hK
      have hg := Lib.hid (show w.heap.size < b + 1 by have := hsz.out; omega)
      clear hz4 hsz hb3
      have hbne : ¬ w.heap.size = b + 1 := by have := hg.out; omega
      have hbne2 : ¬ b + 1 = w.heap.size := by omega
      have hQ := Lib.hid (show parseR F = rBelow kk (takeW (needW ofW (restW (F, false)))) (restW (needW ofW (restW (F, false)))) by rw [hkk.out]; rfl)
      clear hkk
      generalize restW (F, false) = S1 at hP hQ
      generalize b + 1 = g at hP hg hbne hbne2 ⊢
      go_wp2_with fail
      refine (need_p ofW hP.out).mono ?_
      rintro e wa ⟨rfl, hPa⟩
      clear hP
      replace hPa := Lib.hid hPa
      generalize needW ofW S1 = S2 at hPa hQ
      go_wp2_with fail
      refine (next_p hPa.out).mono ?_
      rintro e wb ⟨rfl, hPb⟩
      clear hPa
      have hPb := Lib.hid hPb
      generalize takeW S2 = nm at hPb hQ ⊢
      generalize restW S2 = S3 at hPb hQ
      obtain ⟨⟨⟨p0, p1, p2, p3, p4, p5, p6⟩, f0, f1, f2, f3, f4, f5, f6⟩, -⟩ := PM.cells' hPb.out
      have hPc := Lib.hid (PM.put' hPb.out hg.out 1 (.string nm))
      go_upto_if 41 with fail
      go_cut [] (fun wx => ∃ (bl : ByteArray) (S : WS), Hid (PM w b g S #[.int .i64 kk, .string nm, .string bl, .int .i64 0, .int .i64 0, .int .i64 (-1099511627776), .int .i64 0] wx) ∧ Hid (parseR F = rWin kk nm bl S))
      case first =>
        clear p0 p1 p2 p3 p4 p5 p6 f0 f1 f2 f3 f4 f5 f6 hPb
        generalize wb.setCell _ _ = wc at hPc ⊢
        by_cases hk4 : kk = 4
        · subst hk4
          have hQ4 := Lib.hid (show parseR F = rWin 4 nm (takeW (needW toW S3)) (restW (needW toW S3)) by rw [hQ.out]; unfold rBelow; rw [if_pos rfl])
          clear hQ
          go_wp2_with fail
          refine (need_p toW hPc.out).mono ?_
          rintro e wd ⟨rfl, hPd⟩
          clear hPc
          replace hPd := Lib.hid hPd
          generalize needW toW S3 = S4 at hPd hQ4
          go_wp2_with fail
          refine (next_p hPd.out).mono ?_
          rintro e we ⟨rfl, hPe⟩
          clear hPd
          have hPe := Lib.hid hPe
          generalize takeW S4 = bl at hPe hQ4 ⊢
          obtain ⟨⟨⟨p0, p1, p2, p3, p4, p5, p6⟩, f0, f1, f2, f3, f4, f5, f6⟩, -⟩ := PM.cells' hPe.out
          go_wp2
          go_meet
          exact ⟨_, _, Lib.hid (PM.put' hPe.out hg.out 2 (.string bl)), hQ4⟩
        · have hQ4 := Lib.hid (show parseR F = rWin kk nm ⟨#[]⟩ S3 by rw [hQ.out]; unfold rBelow; rw [if_neg hk4])
          have hk5 : (kk == 4) = false := by simpa using hk4
          clear hQ hk4
          go_wp2
          go_meet
          exact ⟨_, _, hPc, hQ4⟩
      clear hPc hPb hQ p0 p1 p2 p3 p4 p5 p6 f0 f1 f2 f3 f4 f5 f6
      obtain ⟨bl, S4, hP, hQ⟩ := hcut
      go_wp2_with fail
      refine (need_p withinW hP.out).mono ?_
      rintro e wd ⟨rfl, hPd⟩
      clear hP
      replace hPd := Lib.hid hPd
      unfold rWin at hQ
      generalize needW withinW S4 = S5 at hPd hQ
      go_wp2_with fail
      refine (number_p hPd.out hT.out).mono ?_
      rintro e we ⟨rfl, hPe⟩
      clear hPd
      have hPe := Lib.hid hPe
      generalize numV S5 = win at hPe hQ ⊢
      generalize numR S5 = S6 at hPe hQ
      obtain ⟨⟨⟨p0, p1, p2, p3, p4, p5, p6⟩, f0, f1, f2, f3, f4, f5, f6⟩, -⟩ := PM.cells' hPe.out
      have hPf := Lib.hid (PM.put' hPe.out hg.out 3 (.int .i64 win))
      go_wp2_with fail
      clear hPe p0 p1 p2 p3 p4 p5 p6 f0 f1 f2 f3 f4 f5 f6
      refine (need_p capW hPf.out).mono ?_
      rintro e wd ⟨rfl, hPd⟩
      clear hPf
      replace hPd := Lib.hid hPd
      generalize needW capW S6 = S7 at hPd hQ
      go_wp2_with fail
      refine (number_p hPd.out hT.out).mono ?_
      rintro e we ⟨rfl, hPe⟩
      clear hPd
      have hPe := Lib.hid hPe
      generalize numV S7 = cap at hPe hQ ⊢
      generalize numR S7 = S8 at hPe hQ
      obtain ⟨⟨⟨p0, p1, p2, p3, p4, p5, p6⟩, f0, f1, f2, f3, f4, f5, f6⟩, -⟩ := PM.cells' hPe.out
      have hPf := Lib.hid (PM.put' hPe.out hg.out 4 (.int .i64 cap))
      go_wp2_with fail
      clear hPe p0 p1 p2 p3 p4 p5 p6 f0 f1 f2 f3 f4 f5 f6
      refine (has_p leastW hPf.out).mono ?_
      rintro e wd ⟨rfl, hPd⟩
      clear hPf
      replace hPd := Lib.hid hPd
      go_upto_if 58 with fail
      go_cut [] (fun wx => ∃ (least : Int) (S : WS), Hid (PM w b g S #[.int .i64 kk, .string nm, .string bl, .int .i64 win, .int .i64 cap, .int .i64 least, .int .i64 0] wx) ∧ Hid (parseR F = rBefore kk nm bl win cap least S))
      case first =>
        by_cases hh : hasB leastW S8 = true
        · have hQ4 := Lib.hid (show parseR F = rBefore kk nm bl win cap (numV (hasR leastW S8)) (numR (hasR leastW S8)) by rw [hQ.out]; unfold rLeast; rw [if_pos hh])
          rw [hh]
          clear hQ hh
          generalize hasR leastW S8 = S9 at hPd hQ4
          go_wp2_with fail
          refine (number_p hPd.out hT.out).mono ?_
          rintro e we ⟨rfl, hPe⟩
          clear hPd
          have hPe := Lib.hid hPe
          generalize numV S9 = least at hPe hQ4 ⊢
          obtain ⟨⟨⟨p0, p1, p2, p3, p4, p5, p6⟩, f0, f1, f2, f3, f4, f5, f6⟩, -⟩ := PM.cells' hPe.out
          go_wp2
          go_meet
          exact ⟨_, _, Lib.hid (PM.put' hPe.out hg.out 5 (.int .i64 least)), hQ4⟩
        · have hQ4 := Lib.hid (show parseR F = rBefore kk nm bl win cap (-1099511627776) S8 by rw [hQ.out]; unfold rLeast; rw [if_neg hh])
          have hS := Lib.hid (show hasR leastW S8 = S8 by unfold hasR; rw [if_neg hh])
          have hh2 : hasB leastW S8 = false := by simpa using hh
          rw [hh2]
          clear hQ hh hh2
          rw [hS.out] at hPd
          go_wp2
          go_meet
          exact ⟨_, _, hPd, hQ4⟩
      clear hPd hQ
      obtain ⟨least, S10, hP, hQ⟩ := hcut
      go_wp2_with fail
      refine (has_p beforeW hP.out).mono ?_
      rintro e wd ⟨rfl, hPd⟩
      clear hP
      replace hPd := Lib.hid hPd
      go_upto_if 63 with fail
      go_cut [] (fun wx => ∃ (before : Int) (S : WS), Hid (PM w b g S #[.int .i64 kk, .string nm, .string bl, .int .i64 win, .int .i64 cap, .int .i64 least, .int .i64 before] wx) ∧ Hid (parseR F = finM kk nm bl win cap least before S))
      case first =>
        by_cases hh : hasB beforeW S10 = true
        · have hQ4 := Lib.hid (show parseR F = finM kk nm bl win cap least (numV (hasR beforeW S10)) (numR (hasR beforeW S10)) by rw [hQ.out]; unfold rBefore; rw [if_pos hh])
          rw [hh]
          clear hQ hh
          generalize hasR beforeW S10 = S9 at hPd hQ4
          go_wp2_with fail
          refine (number_p hPd.out hT.out).mono ?_
          rintro e we ⟨rfl, hPe⟩
          clear hPd
          have hPe := Lib.hid hPe
          generalize numV S9 = before at hPe hQ4 ⊢
          obtain ⟨⟨⟨p0, p1, p2, p3, p4, p5, p6⟩, f0, f1, f2, f3, f4, f5, f6⟩, -⟩ := PM.cells' hPe.out
          go_wp2
          go_meet
          exact ⟨_, _, Lib.hid (PM.put' hPe.out hg.out 6 (.int .i64 before)), hQ4⟩
        · have hQ4 := Lib.hid (show parseR F = finM kk nm bl win cap least 0 S10 by rw [hQ.out]; unfold rBefore; rw [if_neg hh])
          have hS := Lib.hid (show hasR beforeW S10 = S10 by unfold hasR; rw [if_neg hh])
          have hh2 : hasB beforeW S10 = false := by simpa using hh
          rw [hh2]
          clear hQ hh hh2
          rw [hS.out] at hPd
          go_wp2
          go_meet
          exact ⟨_, _, hPd, hQ4⟩
      clear hPd hQ
      obtain ⟨before, S, hP, hQ⟩ := hcut
      obtain ⟨F1, f2, f3⟩ := hP.out.flag
      obtain ⟨l, bad⟩ := S
      have hcl := hP.out.cells
      obtain ⟨⟨⟨p0, p1, p2, p3, p4, p5, p6⟩, g0, g1, g2, g3, g4, g5, g6⟩, ⟨z0, z1, z2, z3, z4, z5, z6⟩, y0, y1, y2, y3, y4, y5, y6⟩ := PM.cells' hP.out
      have hBz := Lib.hid (((((((hP.out.below.setCell (p := ⟨w.heap.size, 0, none⟩) (Nat.le_refl _) (.int .i64 0)).setCell (p := ⟨w.heap.size, 1, none⟩) (Nat.le_refl _) (.string ⟨#[]⟩)).setCell (p := ⟨w.heap.size, 2, none⟩) (Nat.le_refl _) (.string ⟨#[]⟩)).setCell (p := ⟨w.heap.size, 3, none⟩) (Nat.le_refl _) (.int .i64 0)).setCell (p := ⟨w.heap.size, 4, none⟩) (Nat.le_refl _) (.int .i64 0)).setCell (p := ⟨w.heap.size, 5, none⟩) (Nat.le_refl _) (.int .i64 0)).setCell (p := ⟨w.heap.size, 6, none⟩) (Nat.le_refl _) (.int .i64 0))
      by_cases hbad : bad = true ∨ kk = 0 ∨ l ≠ []
      · have hQ2 := Lib.hid (show parsePV s = .tuple #[.agg #[.int .i64 0, .string ⟨#[]⟩, .string ⟨#[]⟩, .int .i64 0, .int .i64 0, .int .i64 0, .int .i64 0], .int .i64 1] by rw [hE.out, hQ.out]; unfold finM; rw [if_pos hbad])
        clear hQ hE p1 p2 p3 p4 p5 p6 g0 g1 g2 g3 g4 g5 g6
        replace hP := Lib.hid hP
        have hways : bad = true ∨ (bad = false ∧ (kk == 0) = true) ∨ (bad = false ∧ (kk == 0) = false ∧ ∃ x r blk off c, l = x :: r ∧ wc.cell? ⟨b, 0, none⟩ = some (.slice (some ⟨blk, off, none⟩) (r.length + 1) c) ∧ (0 : Int) < (r.length : Int) + 1) := by
          cases bad with
          | true => exact Or.inl rfl
          | false =>
            by_cases hk : kk = 0
            · exact Or.inr (Or.inl ⟨rfl, by simpa using hk⟩)
            · refine Or.inr (Or.inr ⟨rfl, by simpa using hk, ?_⟩)
              rcases hcl with ⟨h1, -⟩ | ⟨x, r, blk, off, c, h1, -, -, h2, -⟩
              · simp only at h1
                subst h1
                rcases hbad with h | h | h
                · cases h
                · exact absurd h hk
                · exact absurd rfl h
              · exact ⟨x, r, blk, off, c, h1, h2, by omega⟩
        clear hcl hbad
        rcases hways with rfl | ⟨rfl, hk⟩ | ⟨rfl, hk, x, r, blk, off, c, rfl, h0, hr⟩
        all_goals
          replace hP := Lib.hid hP
          go_wp2
          refine bodyPost_ret (v := .tuple #[.agg #[.int .i64 0, .string ⟨#[]⟩, .string ⟨#[]⟩, .int .i64 0, .int .i64 0, .int .i64 0, .int .i64 0], .int .i64 1]) (by simp [results, Tryd.results15, go_sem, z0, z1, z2, z3, z4, z5, z6]) rfl ?_
          exact ⟨by rw [hQ2.out], hBz.out⟩
      · have hl : l = [] := by
          by_cases h : l = []
          · exact h
          · exact absurd (Or.inr (Or.inr h)) hbad
        have hb : bad = false := by
          cases bad with
          | false => rfl
          | true => exact absurd (Or.inl rfl) hbad
        have hk0 : ¬ kk = 0 := fun h => hbad (Or.inr (Or.inl h))
        have hk : (kk == 0) = false := by simpa using hk0
        subst hl hb
        have hQ2 := Lib.hid (show parsePV s = if chkM (mvOf kk nm bl win cap least before) = 0 then .tuple #[.agg (rowM kk nm bl win cap least before), .int .i64 0] else .tuple #[.agg Z7, .int .i64 (chkM (mvOf kk nm bl win cap least before))] by rw [hE.out, hQ.out]; unfold finM; rw [if_neg (by simp [hk0])])
        clear hQ hE hbad hk0
        rcases hcl with ⟨-, a0, c0, h0⟩ | ⟨x, r, blk, off, c, h1, -⟩
        case inr => cases h1
        go_wp2_with fail
        refine (check_m (mvOf kk nm bl win cap least before) nm bl _ rfl rfl (hT.out.below hP.out.below)).mono ?_
        rintro e w5 ⟨rfl, hb5⟩
        have hP5 := Lib.hid (hP.out.grow hb5)
        clear hP hb5 F1 f2 f3 h0 p0 p1 p2 p3 p4 p5 p6 g0 g1 g2 g3 g4 g5 g6 z0 z1 z2 z3 z4 z5 z6 y0 y1 y2 y3 y4 y5 y6 hBz
        obtain ⟨⟨⟨p0, p1, p2, p3, p4, p5, p6⟩, g0, g1, g2, g3, g4, g5, g6⟩, ⟨z0, z1, z2, z3, z4, z5, z6⟩, y0, y1, y2, y3, y4, y5, y6⟩ := PM.cells' hP5.out
        by_cases hc : chkM (mvOf kk nm bl win cap least before) = 0
        · have hQ3 := Lib.hid (show parsePV s = .tuple #[.agg (rowM kk nm bl win cap least before), .int .i64 0] by rw [hQ2.out, if_pos hc])
          rw [hc]
          clear hQ2 hc
          have hBz := Lib.hid (((((((hP5.out.below.setCell (p := ⟨w.heap.size, 0, none⟩) (Nat.le_refl _) (.int .i64 kk)).setCell (p := ⟨w.heap.size, 1, none⟩) (Nat.le_refl _) (.string nm)).setCell (p := ⟨w.heap.size, 2, none⟩) (Nat.le_refl _) (.string bl)).setCell (p := ⟨w.heap.size, 3, none⟩) (Nat.le_refl _) (.int .i64 win)).setCell (p := ⟨w.heap.size, 4, none⟩) (Nat.le_refl _) (.int .i64 cap)).setCell (p := ⟨w.heap.size, 5, none⟩) (Nat.le_refl _) (.int .i64 least)).setCell (p := ⟨w.heap.size, 6, none⟩) (Nat.le_refl _) (.int .i64 before))
          go_wp2
          refine bodyPost_ret (v := .tuple #[.agg (rowM kk nm bl win cap least before), .int .i64 0]) (by simp [results, Tryd.results15, go_sem, z0, z1, z2, z3, z4, z5, z6, rowM]) rfl ?_
          exact ⟨by rw [hQ3.out], hBz.out⟩
        · have hQ3 := Lib.hid (show parsePV s = .tuple #[.agg Z7, .int .i64 (chkM (mvOf kk nm bl win cap least before))] by rw [hQ2.out, if_neg hc])
          have hc2 : (chkM (mvOf kk nm bl win cap least before) != 0) = true := by simpa using hc
          clear hQ2 hc
          generalize chkM (mvOf kk nm bl win cap least before) = ck at hQ3 hc2 ⊢
          have hBz := Lib.hid (((((((hP5.out.below.setCell (p := ⟨w.heap.size, 0, none⟩) (Nat.le_refl _) (.int .i64 0)).setCell (p := ⟨w.heap.size, 1, none⟩) (Nat.le_refl _) (.string ⟨#[]⟩)).setCell (p := ⟨w.heap.size, 2, none⟩) (Nat.le_refl _) (.string ⟨#[]⟩)).setCell (p := ⟨w.heap.size, 3, none⟩) (Nat.le_refl _) (.int .i64 0)).setCell (p := ⟨w.heap.size, 4, none⟩) (Nat.le_refl _) (.int .i64 0)).setCell (p := ⟨w.heap.size, 5, none⟩) (Nat.le_refl _) (.int .i64 0)).setCell (p := ⟨w.heap.size, 6, none⟩) (Nat.le_refl _) (.int .i64 0))
          go_wp2
          refine bodyPost_ret (v := .tuple #[.agg #[.int .i64 0, .string ⟨#[]⟩, .string ⟨#[]⟩, .int .i64 0, .int .i64 0, .int .i64 0, .int .i64 0], .int .i64 ck]) (by simp [results, Tryd.results15, go_sem, z0, z1, z2, z3, z4, z5, z6]) rfl ?_
          exact ⟨by rw [hQ3.out], hBz.out⟩
    · intro j w' cnt' h1 h4 hlj hK' hlt hg hsz' hen
      obtain ⟨F', hkv⟩ := kindV_nm j
      rw [hkv] at hen ⊢
      have hP' := Lib.hid (PS.grow (PS.kept hP.out hg (by have := hz4.out; omega) (apart2 (by have := hz4.out; omega) (by have := hz4.out; have := hsz.out; omega))) (v := w'.alloc (.cells #[.string (kindNm j), .func (Fn.func F') #[] #[]] 76)) ((Below.refl _ _).alloc (Nat.le_refl _) _))
      have hK2 := Lib.hid (hK'.kept (World.grownBy_alloc w' (.cells #[.string (kindNm j), .func (Fn.func F') #[] #[]] 76) none) (by simp) (by simp))
      replace hK' := Lib.hid hK'
      clear hkv hg hsz' hlj
      obtain ⟨⟨⟨p0, -⟩, f0, -⟩, -⟩ := PM.cells' hP'.out
      by_cases hn : kindNm j = takeW (F, false)
      · have hQ := Lib.hid (KRel.hit (left := left) h1 h4 hn)
        have he := bytes_eqB hn
        clear hn
        have hK3 := Lib.hid (hK2.out.kept (grown_setS _ (b + 1) 0 (.int .i64 j)) (by have := hz4.out; intro e; injection e; omega) (by have := hz4.out; intro e; injection e; omega))
        clear hK2
        go_wp2
        go_roundw
        case rel => exact ⟨_, _, _, hK3, Lib.hid (PM.put' hP'.out (by have := hsz.out; omega) 0 _), hQ⟩
        case measure => rw [hK3.out.left_eq, hK.out.left_eq]; omega
      · have hQ := Lib.hid (KRel.miss h1 h4 hn hR.out)
        have he := bytes_neB hn
        clear hn
        go_wp2
        go_roundw
        case rel => exact ⟨_, _, _, hK2, hP', hQ⟩
        case measure => rw [hK2.out.left_eq, hK.out.left_eq]; omega

end Go.Proofs.YtnghpjijfdpmkaaDoor.metric

