/- The different atoms of a condition, copied: the program's Atoms; the chapter's example (awake). -/
import Derived.Test.YtlohdmghaeabjaaGreatDoorKClZ
namespace Go.Proofs.YtlohdmghaeabjaaGreatDoor.clause
open Go.RowKit Go.Proofs.YtlohdmghaeabjaaGreatDoor Go.Proofs.YtlohdmghaeabjaaGreatDoor.schema Go.Proofs.YtlohdmghaeabjaaGreatDoor.value Go.Proofs.YtlohdmghaeabjaaGreatDoor.text Go.Proofs.YtlohdmghaeabjaaGreatDoor.draw

mutual
theorem few_addS {N : Nat} : ∀ (acc : List ED) (d : ED), (∀ x ∈ acc, fewE N x) → fewE N d → ∀ x ∈ addS acc d, fewE N x
  | acc, .mk op k n v ks, ha, hd => by
    rw [addS]
    refine few_addL _ ks ?_ hd.2.2
    intro x hx
    unfold stepA at hx
    split at hx
    · rcases List.mem_append.1 hx with hx | hx
      · exact ha x hx
      · rw [List.mem_singleton.1 hx]; exact hd
    · exact ha x hx
theorem few_addL {N : Nat} : ∀ (acc : List ED) (l : List ED), (∀ x ∈ acc, fewE N x) → fewL N l → ∀ x ∈ addL acc l, fewE N x
  | acc, [], ha, _ => by rw [addL]; exact ha
  | acc, k :: r, ha, hl => by
    rw [addL]
    exact few_addL _ r (few_addS acc k ha hl.1) hl.2
end

/-- What Atoms gives: copies of the atoms. -/
def AllIs (w : World) (d : ED) (e : Ending) (w' : World) : Prop :=
  (∃ a c l' rs, e = .returned (.slice a (addS [] d).length c) ∧ SameEL l' (addS [] d) ∧ rs.length = l'.length ∧ RowsAt w'.cell? 5 (.slice a (addS [] d).length c) rs ∧ ∀ (i : Nat) (r : List Value) (k : ED), rs[i]? = some r → l'[i]? = some k → EAt w'.cell? k r) ∧ Below w.heap.size w w'

set_option maxRecDepth 100000 in
set_option maxHeartbeats 2000000 in
theorem atoms_all (d : ED) (r : List Value) (w : World) (h : EAt w.cell? d r) (hf : fewE 1099511627776 d) (hc : cntE d ≤ 1099511627776) :
    Calls Tryz.prog 25 #[.agg r.toArray] w (AllIs w d) := by
  obtain ⟨op, kind, name, va, vn, vc, ka, kn, kc, rfl⟩ := eat_five h
  have hB : Below w.heap.size w (w.alloc (.cells #[.int .i64 op, .string kind, .string name, .slice va vn vc, .slice ka kn kc] 29)) := (Below.refl _ _).alloc (Nat.le_refl _) _
  have hsz : (w.alloc (.cells #[.int .i64 op, .string kind, .string name, .slice va vn vc, .slice ka kn kc] 29)).heap.size = w.heap.size + 1 := by simp
  have hgo := Lib.hid (atoms_any w.cell? d _ h (w.heap.size + 1) _ none 0 0 [] [] (sub_of_below hB) (fun p v hp => by have := World.block_lt_of_cell? w p hp; omega) (by omega) (by rw [hsz]; exact Nat.le_refl _) ⟨World.ownsRow_nil _ _ _ _, rfl, rfl, (fun r hr => by cases hr), (fun i r d hi => by simp at hi)⟩ (by simpa using hc))
  replace hB := Lib.hid hB
  replace hf := Lib.hid hf
  clear h
  go_enter Tryz.func25, Tryz.ntmps25
  go_wp2_with fail
  refine hgo.out.mono ?_
  rintro e w2 ⟨⟨a, n, c, rs, rfl, hA⟩, hb⟩
  have hb1 : Below (w.alloc (.cells #[.int .i64 op, .string kind, .string name, .slice va vn vc, .slice ka kn kc] 29)).heap.size (w.alloc (.cells #[.int .i64 op, .string kind, .string name, .slice va vn vc, .slice ka kn kc] 29)) w2 := by rw [hsz]; exact hb
  have hB2 := hB.out.trans (hb1.mono (by rw [hsz]; omega))
  have hs2 := sub_of_below hB2
  have hal := hA.al
  subst hal
  have hcap : (addS [] d).length ≤ 1099511627776 := by have := addS_len [] d; simp at this; omega
  have hgo2 := Lib.hid (eachE (addS [] d) rs a _ c w2 hA.rows hA.rl (fun i r k h1 h2 => (hA.ats i r k h1 h2).mono hs2) hcap (by have := hB2.size; have := hb1.size; omega) (fun i r k w' h1 h2 hb => clone_any w.cell? k r (hA.ats i r k h1 h2) (few_addS [] d (fun x hx => by cases hx) hf.out k (List.mem_of_getElem? h2)) w' (hs2.trans (sub_of_below hb))))
  replace hB2 := Lib.hid hB2
  clear hgo hb hb1 hs2 hA
  go_wp2_with fail
  refine hgo2.out.mono ?_
  rintro e w3 ⟨⟨a', c', l', rs', rfl, hsm, hlr, hr, hE⟩, hb3⟩
  have hB3 := Lib.hid (hB2.out.trans (hb3.mono hB2.out.size))
  replace hsm := Lib.hid hsm
  have hr' := Lib.hid (hr.mono (newM_in _ _ _))
  have hE' := Lib.hid (fun i r k h1 h2 => (hE i r k h1 h2).mono (newM_in _ _ _))
  clear hr hE hb3 hgo2
  go_wp2
  go_ret
  exact ⟨⟨a', c', l', rs', rfl, hsm.out, hlr, hr'.out, hE'.out⟩, hB3.out⟩

def proV : VD := ⟨3, 0, ⟨#[112, 114, 111]⟩, none, 0, 0, []⟩
def v18 : VD := ⟨2, 18, ⟨#[]⟩, none, 0, 0, []⟩
def annC (b : Nat) : CT := ⟨⟨#[117, 115, 101, 114]⟩, ⟨#[117]⟩, some ⟨b, 0, none⟩, 1, 1, [⟨⟨#[112, 108, 97, 110]⟩, proV⟩]⟩
theorem aw1 (b : Nat) : testS [annC b] 12 ⟨#[117, 115, 101, 114]⟩ ⟨#[97, 103, 101]⟩ [v18] = false := by kernel_rfl
theorem aw2 (b : Nat) : testS [annC b] 15 ⟨#[117, 115, 101, 114]⟩ ⟨#[97, 103, 101]⟩ [v18] = false := by kernel_rfl
theorem aw3 (b : Nat) : evalS [annC b] [] (.mk 4 ⟨#[]⟩ ⟨#[]⟩ [] [.mk 12 ⟨#[117, 115, 101, 114]⟩ ⟨#[97, 103, 101]⟩ [v18] []]) = true := by kernel_rfl
theorem aw4 (b : Nat) : testS [annC b] 6 ⟨#[117, 115, 101, 114]⟩ ⟨#[112, 108, 97, 110]⟩ [] = true := by kernel_rfl
theorem aw5 : (addS [] (.mk 12 ⟨#[117, 115, 101, 114]⟩ ⟨#[97, 103, 101]⟩ [v18] [])).length = 1 := by kernel_rfl
theorem ann_at {w : World} {b b2 : Nat} (h1 : Own w b #[.string ⟨#[112, 108, 97, 110]⟩, .int .i64 3, .int .i64 0, .string ⟨#[112, 114, 111]⟩, .slice none 0 0] 50) (h2 : Own w b2 #[.string ⟨#[117, 115, 101, 114]⟩, .string ⟨#[117]⟩, .slice (some ⟨b, 0, none⟩) 1 1] 53) : SAt w.cell? (.slice (some ⟨b2, 0, none⟩) 1 1) [annC b] := by
  refine ⟨rows_of_own h2 3 [CT.row (annC b)] (by simp [CT.row]) rfl 1 (by simp) (by decide), fun c hc => ?_⟩
  obtain rfl := List.mem_singleton.1 hc
  refine ⟨rows_of_own h1 5 [AD.row ⟨⟨#[112, 108, 97, 110]⟩, proV⟩] (by simp [AD.row, VD.row]) rfl 1 (by simp) (by decide), fun a ha => ?_, (show (⟨#[117]⟩ : ByteArray).size < 4294967281 by decide)⟩
  obtain rfl := List.mem_singleton.1 ha
  exact LAt.flat _ _ _ _ (by decide)
theorem age_at {w : World} {b : Nat} (h : Own w b #[.int .i64 2, .int .i64 18, .string ⟨#[]⟩, .slice none 0 0] 43) : RowsAt w.cell? 4 (.slice (some ⟨b, 0, none⟩) 1 1) ([v18].map VD.row) :=
  rows_of_own h 4 [VD.row v18] (by simp [VD.row]) rfl 1 (by simp) (by decide)
theorem v18_at (m : Mem) : ∀ v ∈ [v18], LAt m v := fun v hv => by obtain rfl := List.mem_singleton.1 hv; exact LAt.flat _ _ _ _ (by decide)

/-- The example's blocks. -/
structure AW (w : World) (b : Nat) (u : World) : Prop where
  low : Below b w u
  o0 : Own u b #[.string ⟨#[112, 108, 97, 110]⟩, .int .i64 3, .int .i64 0, .string ⟨#[112, 114, 111]⟩, .slice none 0 0] 50
  o1 : Own u (b + 1) #[.string ⟨#[117, 115, 101, 114]⟩, .string ⟨#[117]⟩, .slice (some ⟨b, 0, none⟩) 1 1] 53
  o2 : Own u (b + 1 + 1) #[.slice (some ⟨b + 1, 0, none⟩) 1 1] 25
  o3 : Own u (b + 1 + 1 + 1) #[.int .i64 2, .int .i64 18, .string ⟨#[]⟩, .slice none 0 0] 43
  o4 : Own u (b + 1 + 1 + 1 + 1) #[.int .i64 12, .string ⟨#[117, 115, 101, 114]⟩, .string ⟨#[97, 103, 101]⟩, .slice (some ⟨b + 1 + 1 + 1, 0, none⟩) 1 1, .slice none 0 0] 29
  tabs : Tabs u
theorem AW.below {w u u' : World} {b : Nat} (h : AW w b u) (hb : Below u.heap.size u u') : AW w b u' :=
  ⟨h.low.trans (hb.mono (Nat.le_of_lt h.o0.lt)), h.o0.below hb h.o0.lt, h.o1.below hb h.o1.lt, h.o2.below hb h.o2.lt, h.o3.below hb h.o3.lt, h.o4.below hb h.o4.lt, h.tabs.below hb⟩
theorem aw_start {w : World} (hT : Tabs w) (b : Nat) (hb : b = w.heap.size) : AW w b (((((w.alloc (.cells #[.string ⟨#[112, 108, 97, 110]⟩, .int .i64 3, .int .i64 0, .string ⟨#[112, 114, 111]⟩, .slice none 0 0] 50)).alloc (.cells #[.string ⟨#[117, 115, 101, 114]⟩, .string ⟨#[117]⟩, .slice (some ⟨b, 0, none⟩) 1 1] 53)).alloc (.cells #[.slice (some ⟨b + 1, 0, none⟩) 1 1] 25)).alloc (.cells #[.int .i64 2, .int .i64 18, .string ⟨#[]⟩, .slice none 0 0] 43)).alloc (.cells #[.int .i64 12, .string ⟨#[117, 115, 101, 114]⟩, .string ⟨#[97, 103, 101]⟩, .slice (some ⟨b + 1 + 1 + 1, 0, none⟩) 1 1, .slice none 0 0] 29)) := by
  have e1 : (w.alloc (.cells #[.string ⟨#[112, 108, 97, 110]⟩, .int .i64 3, .int .i64 0, .string ⟨#[112, 114, 111]⟩, .slice none 0 0] 50)).heap.size = b + 1 := by simp [hb]
  have e2 : ((w.alloc (.cells #[.string ⟨#[112, 108, 97, 110]⟩, .int .i64 3, .int .i64 0, .string ⟨#[112, 114, 111]⟩, .slice none 0 0] 50)).alloc (.cells #[.string ⟨#[117, 115, 101, 114]⟩, .string ⟨#[117]⟩, .slice (some ⟨b, 0, none⟩) 1 1] 53)).heap.size = b + 1 + 1 := by simp [hb]
  have e3 : (((w.alloc (.cells #[.string ⟨#[112, 108, 97, 110]⟩, .int .i64 3, .int .i64 0, .string ⟨#[112, 114, 111]⟩, .slice none 0 0] 50)).alloc (.cells #[.string ⟨#[117, 115, 101, 114]⟩, .string ⟨#[117]⟩, .slice (some ⟨b, 0, none⟩) 1 1] 53)).alloc (.cells #[.slice (some ⟨b + 1, 0, none⟩) 1 1] 25)).heap.size = b + 1 + 1 + 1 := by simp [hb]
  have e4 : ((((w.alloc (.cells #[.string ⟨#[112, 108, 97, 110]⟩, .int .i64 3, .int .i64 0, .string ⟨#[112, 114, 111]⟩, .slice none 0 0] 50)).alloc (.cells #[.string ⟨#[117, 115, 101, 114]⟩, .string ⟨#[117]⟩, .slice (some ⟨b, 0, none⟩) 1 1] 53)).alloc (.cells #[.slice (some ⟨b + 1, 0, none⟩) 1 1] 25)).alloc (.cells #[.int .i64 2, .int .i64 18, .string ⟨#[]⟩, .slice none 0 0] 43)).heap.size = b + 1 + 1 + 1 + 1 := by simp [hb]
  have hB : Below b w (((((w.alloc (.cells #[.string ⟨#[112, 108, 97, 110]⟩, .int .i64 3, .int .i64 0, .string ⟨#[112, 114, 111]⟩, .slice none 0 0] 50)).alloc (.cells #[.string ⟨#[117, 115, 101, 114]⟩, .string ⟨#[117]⟩, .slice (some ⟨b, 0, none⟩) 1 1] 53)).alloc (.cells #[.slice (some ⟨b + 1, 0, none⟩) 1 1] 25)).alloc (.cells #[.int .i64 2, .int .i64 18, .string ⟨#[]⟩, .slice none 0 0] 43)).alloc (.cells #[.int .i64 12, .string ⟨#[117, 115, 101, 114]⟩, .string ⟨#[97, 103, 101]⟩, .slice (some ⟨b + 1 + 1 + 1, 0, none⟩) 1 1, .slice none 0 0] 29)) := (((((Below.refl b w).alloc (by omega) _).alloc (by omega) _).alloc (by omega) _).alloc (by omega) _).alloc (by omega) _
  exact ⟨hB, ((((Own.new' hb).alloc _).alloc _).alloc _).alloc _, (((Own.new' e1.symm).alloc _).alloc _).alloc _, ((Own.new' e2.symm).alloc _).alloc _, (Own.new' e3.symm).alloc _, Own.new' e4.symm, hT.below (hb ▸ hB)⟩

theorem less_at {w u : World} {b : Nat} (h : AW w b u) : EAt u.cell? (.mk 12 ⟨#[117, 115, 101, 114]⟩ ⟨#[97, 103, 101]⟩ [v18] []) [.int .i64 12, .string ⟨#[117, 115, 101, 114]⟩, .string ⟨#[97, 103, 101]⟩, .slice (some ⟨b + 1 + 1 + 1, 0, none⟩) 1 1, .slice none 0 0] :=
  EAt.mk [] (age_at h.o3) (rows_nil _ _) rfl (v18_at _) (fun i r k hi => by simp at hi)

set_option maxRecDepth 100000 in
set_option maxHeartbeats 4000000 in
theorem awake_any (w : World) (hT : Tabs w) : Calls Tryz.prog 10 #[] w fun e w' => e = .returned (.bool true) ∧ Below w.heap.size w w' := by
  have hA := Lib.hid (aw_start hT w.heap.size rfl)
  clear hT
  go_enter Tryz.func10, Tryz.ntmps10
  go_wp2_with fail
  generalize (((((w.alloc (.cells #[.string ⟨#[112, 108, 97, 110]⟩, .int .i64 3, .int .i64 0, .string ⟨#[112, 114, 111]⟩, .slice none 0 0] 50)).alloc (.cells #[.string ⟨#[117, 115, 101, 114]⟩, .string ⟨#[117]⟩, .slice (some ⟨w.heap.size, 0, none⟩) 1 1] 53)).alloc (.cells #[.slice (some ⟨w.heap.size + 1, 0, none⟩) 1 1] 25)).alloc (.cells #[.int .i64 2, .int .i64 18, .string ⟨#[]⟩, .slice none 0 0] 43)).alloc (.cells #[.int .i64 12, .string ⟨#[117, 115, 101, 114]⟩, .string ⟨#[97, 103, 101]⟩, .slice (some ⟨w.heap.size + 1 + 1 + 1, 0, none⟩) 1 1, .slice none 0 0] 29)) = w5 at hA ⊢
  obtain ⟨b, hb⟩ : ∃ b : Nat, b = w.heap.size := ⟨_, rfl⟩
  rw [← hb] at hA ⊢
  replace hb := Lib.hid hb
  refine (clTest_any [annC b] (some ⟨b + 1, 0, none⟩) 1 1 12 ⟨#[117, 115, 101, 114]⟩ ⟨#[97, 103, 101]⟩ (some ⟨b + 1 + 1 + 1, 0, none⟩) 1 1 none 0 0 [v18] _ (ann_at hA.out.o0 hA.out.o1) (age_at hA.out.o3) (v18_at _) hA.out.tabs).mono ?_
  rintro e w6 ⟨rfl, hb6⟩
  rw [aw1]
  have hA6 := Lib.hid (hA.out.below hb6)
  have s0 := hA6.out.o2.cell 0
  simp only [List.getElem?_toArray, List.getElem?_cons_zero] at s0
  obtain ⟨x0, x1, x2, x3, x4⟩ := own5z hA6.out.o4
  have hl6 : b + 1 + 1 + 1 + 1 < w6.heap.size := hA6.out.o4.lt
  clear hb6 hA
  go_wp2_with fail
  refine (clTest_any [annC b] (some ⟨b + 1, 0, none⟩) 1 1 15 ⟨#[117, 115, 101, 114]⟩ ⟨#[97, 103, 101]⟩ (some ⟨b + 1 + 1 + 1, 0, none⟩) 1 1 none 0 0 [v18] _ (ann_at hA6.out.o0 hA6.out.o1) (age_at hA6.out.o3) (v18_at _) hA6.out.tabs).mono ?_
  rintro e w7 ⟨rfl, hb7⟩
  rw [aw2]
  have hA7 := Lib.hid (hA6.out.below hb7)
  clear s0 x0 x1 x2 x3 x4 hl6 hb7 hA6
  have s0 := hA7.out.o2.cell 0
  simp only [List.getElem?_toArray, List.getElem?_cons_zero] at s0
  obtain ⟨x0, x1, x2, x3, x4⟩ := own5z hA7.out.o4
  have hl7 : b + 1 + 1 + 1 + 1 < w7.heap.size := hA7.out.o4.lt
  go_wp2_with fail
  have hb8 : Below w7.heap.size w7 (w7.alloc (.cells #[.int .i64 12, .string ⟨#[117, 115, 101, 114]⟩, .string ⟨#[97, 103, 101]⟩, .slice (some ⟨b + 1 + 1 + 1, 0, none⟩) 1 1, .slice none 0 0] 29)) := (Below.refl _ _).alloc (Nat.le_refl _) _
  have hA8 := Lib.hid (hA7.out.below hb8)
  have hN8 := Lib.hid (rows_of_own (Own.new w7 #[.int .i64 12, .string ⟨#[117, 115, 101, 114]⟩, .string ⟨#[97, 103, 101]⟩, .slice (some ⟨b + 1 + 1 + 1, 0, none⟩) 1 1, .slice none 0 0] 29) 5 [[.int .i64 12, .string ⟨#[117, 115, 101, 114]⟩, .string ⟨#[97, 103, 101]⟩, .slice (some ⟨b + 1 + 1 + 1, 0, none⟩) 1 1, .slice none 0 0]] (by simp) rfl 1 (by simp) (by decide))
  have hE8 := Lib.hid (less_at hA8.out)
  clear s0 x0 x1 x2 x3 x4 hl7 hb8 hA7
  generalize w7.alloc (.cells #[.int .i64 12, .string ⟨#[117, 115, 101, 114]⟩, .string ⟨#[97, 103, 101]⟩, .slice (some ⟨b + 1 + 1 + 1, 0, none⟩) 1 1, .slice none 0 0] 29) = w8 at hA8 hN8 hE8 ⊢
  refine (eval_any [annC b] (some ⟨b + 1, 0, none⟩) 1 1 [] none 0 0 w8.cell? (ann_at hA8.out.o0 hA8.out.o1) (rows_nil _ _) _ _ (eat_not hN8.out hE8.out) w8 (Sub.refl _) hA8.out.tabs).mono ?_
  rintro e w9 ⟨rfl, hb9⟩
  rw [aw3]
  have hA9 := Lib.hid (hA8.out.below hb9)
  have s0 := hA9.out.o2.cell 0
  simp only [List.getElem?_toArray, List.getElem?_cons_zero] at s0
  obtain ⟨x0, x1, x2, x3, x4⟩ := own5z hA9.out.o4
  have hl9 : b + 1 + 1 + 1 + 1 < w9.heap.size := hA9.out.o4.lt
  clear hb9 hA8 hN8 hE8
  go_wp2_with fail
  refine (clTest_any [annC b] (some ⟨b + 1, 0, none⟩) 1 1 6 ⟨#[117, 115, 101, 114]⟩ ⟨#[112, 108, 97, 110]⟩ none 0 0 none 0 0 [] _ (ann_at hA9.out.o0 hA9.out.o1) (rows_nil _ _) (fun v hv => by cases hv) hA9.out.tabs).mono ?_
  rintro e w10 ⟨rfl, hb10⟩
  rw [aw4]
  have hA10 := Lib.hid (hA9.out.below hb10)
  clear s0 x0 x1 x2 x3 x4 hl9 hb10 hA9
  obtain ⟨x0, x1, x2, x3, x4⟩ := own5z hA10.out.o4
  have hl10 : b + 1 + 1 + 1 + 1 < w10.heap.size := hA10.out.o4.lt
  go_wp2_with fail
  refine (atoms_all (.mk 12 ⟨#[117, 115, 101, 114]⟩ ⟨#[97, 103, 101]⟩ [v18] []) _ w10 (less_at hA10.out) ⟨by decide, by decide, trivial⟩ (by decide)).mono ?_
  rintro e w11 ⟨⟨a, c, l', rs, rfl, -⟩, hb11⟩
  rw [aw5]
  have hA11 := Lib.hid (hA10.out.below hb11)
  clear x0 x1 x2 x3 x4 hl10 hb11 hA10
  go_wp2
  go_ret
  exact ⟨rfl, hb.out ▸ hA11.out.low⟩

end Go.Proofs.YtlohdmghaeabjaaGreatDoor.clause

