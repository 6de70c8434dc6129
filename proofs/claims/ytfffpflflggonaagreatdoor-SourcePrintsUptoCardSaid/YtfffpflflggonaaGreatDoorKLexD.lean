/- The token at the beginning of a text, or the error: the lexer's next. -/
import Derived.Test.YtfffpflflggonaaGreatDoorKS10
import Derived.Test.YtfffpflflggonaaGreatDoorKValG
import Derived.Test.YtfffpflflggonaaGreatDoorKTextV
namespace Go.Proofs.YtfffpflflggonaaGreatDoor.lex
open Go.RowKit text value
theorem own4 {w : World} {n : Nat} {x0 x1 x2 x3 : Value} {t : TypeId} (h : Own w n #[x0,x1,x2,x3] t) :
    w.cell? ⟨n,0,none⟩ = some x0∧w.cell? ⟨n,1,none⟩ = some x1∧w.cell? ⟨n,2,none⟩ = some x2∧w.cell? ⟨n,3,none⟩ = some x3 ∧
    w.frozen? ⟨n,0,none⟩ = false∧w.frozen? ⟨n,1,none⟩ = false∧w.frozen? ⟨n,2,none⟩ = false∧w.frozen? ⟨n,3,none⟩ = false :=
  ⟨h.cell 0,h.cell 1,h.cell 2,h.cell 3,h.free 0,h.free 1,h.free 2,h.free 3⟩
def NextPost (l : List UInt8) (off : Int) (w : World) (e : Ending) (w' : World) : Prop :=
  ∃ k t x n err,e = .returned (.tuple #[.agg #[.int .i64 k,.string t,.int .i64 x,.int .i64 0],.int .i64 n,.int .i64 err])∧NextIs l off k t x n err∧Below w.heap.size w w'
set_option maxRecDepth 100000 in
set_option maxHeartbeats 4000000 in
theorem next_word (s : ByteArray) (w : World) (h0 : 0 < s.size) (hs : s.size≤30000) (hT : Tabs w) (hl : letB s[0] = true) :
    Calls Tryz.prog 108 #[.string s] w (NextPost s.data.toList 0 w):=by
  have hcons:=Lib.hid (drop_byte s 0 h0)
  rw [List.drop_zero,Nat.zero_add] at hcons
  replace hT:=Lib.hid hT
  have hO:=Lib.hid (Own.new w #[.int .i64 0,.string ⟨#[]⟩,.int .i64 0,.int .i64 0] 61)
  have hB:=Lib.hid ((Below.refl w.heap.size w).alloc (Nat.le_refl _) (.cells #[.int .i64 0,.string ⟨#[]⟩,.int .i64 0,.int .i64 0] 61))
  go_enter Tryz.func108,Tryz.ntmps108
  go_wp2_with fail
  generalize w.alloc (.cells #[.int .i64 0,.string ⟨#[]⟩,.int .i64 0,.int .i64 0] 61) = w0 at hO hB ⊢
  refine (letter_any s[0] _).mono ?_
  rintro e w1 ⟨rfl,rfl⟩
  obtain ⟨c0,c1,c2,c3,f0,f1,f2,f3⟩:=own4 hO.out
  have hx:=nx_word (r:=s.data.toList.drop 1) hl
  rw [← hcons.out] at hx
  have hsp : spanN wordB s.data.toList = 1 + spanN wordB (s.data.toList.drop 1):=by rw [hcons.out]; exact span_cons (word_let hl)
  rw [← hsp] at hx
  have hle:=spanN_le wordB s.data.toList
  rw [hl]
  clear hl hsp
  go_wp2_with fail
  refine (span_word s _ (by unfold maxLen; omega)).mono ?_
  rintro e w1 ⟨rfl,rfl⟩
  generalize spanN wordB s.data.toList = m at hx hle ⊢
  have hmz : m≤s.size:=by simpa using hle
  replace hx:=Lib.hid hx
  clear hle
  obtain ⟨t,ht⟩ : ∃ t,Hid (t = s.extract 0 m):=⟨_,rfl⟩
  go_wp2
  try rw [← ht.out]
  refine bodyPost_ret (v:=.tuple #[.agg #[.int .i64 1,.string t,.int .i64 0,.int .i64 0],.int .i64 m,.int .i64 0]) (by simp [results,Tryz.results108,go_sem,c0,c1,c2,c3]) rfl ?_
  exact ⟨_,_,_,_,_,rfl,NextIs.good hx.out rfl (by rw [ht.out]; simp) rfl (by simp),(((hB.out.setCell (by simp) _).setCell (by simp) _).setCell (by simp) _).setCell (by simp) _⟩
set_option maxRecDepth 100000 in
set_option maxHeartbeats 4000000 in
theorem next_digit (s : ByteArray) (w : World) (h0 : 0 < s.size) (hs : s.size≤30000) (hT : Tabs w) (hl : letB s[0] = false) (hd : digB s[0] = true) :
    Calls Tryz.prog 108 #[.string s] w (NextPost s.data.toList 0 w):=by
  have hcons:=Lib.hid (drop_byte s 0 h0)
  rw [List.drop_zero,Nat.zero_add] at hcons
  replace hT:=Lib.hid hT
  have hO:=Lib.hid (Own.new w #[.int .i64 0,.string ⟨#[]⟩,.int .i64 0,.int .i64 0] 61)
  have hB:=Lib.hid ((Below.refl w.heap.size w).alloc (Nat.le_refl _) (.cells #[.int .i64 0,.string ⟨#[]⟩,.int .i64 0,.int .i64 0] 61))
  go_enter Tryz.func108,Tryz.ntmps108
  go_wp2_with fail
  generalize w.alloc (.cells #[.int .i64 0,.string ⟨#[]⟩,.int .i64 0,.int .i64 0] 61) = w0 at hO hB ⊢
  refine (letter_any s[0] _).mono ?_
  rintro e w1 ⟨rfl,rfl⟩
  obtain ⟨c0,c1,c2,c3,f0,f1,f2,f3⟩:=own4 hO.out
  rw [hl]
  have hn : numStart s[0] (s.data.toList.drop 1) = true:=by unfold numStart; rw [hd]; rfl
  go_wp2_with fail
  refine (digit_any s[0] _).mono ?_
  rintro e w1 ⟨rfl,rfl⟩
  rw [hd]
  go_wp2_with fail
  refine (span_num (s.extract 1 s.size) _ (by unfold maxLen; simp; omega)).mono ?_
  rintro e w1 ⟨rfl,rfl⟩
  rw [Lib.extract_to_end]
  obtain ⟨m,hm⟩ : ∃ m,Hid (m = spanN numB (s.data.toList.drop 1)):=⟨_,rfl⟩
  have hmz : 1 + m≤s.size:=by
    have h1:=spanN_le numB (s.data.toList.drop 1)
    rw [← hm.out] at h1
    simp at h1
    omega
  rw [← hm.out]
  have hmn:=Lib.hid hmz
  obtain ⟨t,ht⟩ : ∃ t,Hid (t = s.extract 0 (1 + m)):=⟨_,rfl⟩
  have hways:=num_ways hl hn (t:=t.data.toList) (by rw [ht.out,← hm.out,← hcons.out]; simp)
  have htz : t.size≤30000:=by rw [ht.out]; simp; omega
  go_wp2_with fail
  rw [← ht.out]
  refine (check_any ⟨4,0,t.data.toList,[]⟩ t none 0 [] _ ⟨rfl,Or.inl rfl,rfl⟩ (by simp) (by omega) (hT.out.below hB.out)).mono ?_
  rintro e w2 ⟨rfl,hb2⟩
  rw [check_ver]
  have hO2:=Lib.hid (hO.out.below hb2 hO.out.lt)
  have hB2:=Lib.hid (hB.out.trans (hb2.mono hB.out.size))
  clear hb2 c0 c1 c2 c3 f0 f1 f2 f3
  obtain ⟨c0,c1,c2,c3,f0,f1,f2,f3⟩:=own4 hO2.out
  rcases hways with ⟨hv,hx⟩ | ⟨hv,hp,hx⟩ | ⟨hv,hp,hx⟩
  · rw [hv]
    replace hx:=Lib.hid ((congrArg nextS hcons.out).trans hx)
    replace ht:=Lib.hid ht.out.symm
    clear hv
    go_wp2
    rw [ht.out]
    refine bodyPost_ret (v:=.tuple #[.agg #[.int .i64 4,.string t,.int .i64 0,.int .i64 0],.int .i64 (1 + m : Nat),.int .i64 0]) (by simp [results,Tryz.results108,go_sem,c0,c1,c2,c3]) rfl ?_
    exact ⟨_,_,_,_,_,rfl,NextIs.good hx.out rfl rfl rfl (by rw [hm.out]; simp),(((hB2.out.setCell (by simp) _).setCell (by simp) _).setCell (by simp) _).setCell (by simp) _⟩
  · rw [hv]
    clear hv
    go_wp2_with fail
    rw [← ht.out]
    refine (parse_any t _ (by omega) (hT.out.below hB2.out)).mono ?_
    rintro e w3 ⟨rfl,hb3⟩
    unfold parseV
    have hO3:=Lib.hid (hO2.out.below hb3 hO2.out.lt)
    have hB3:=Lib.hid (hB2.out.trans (hb3.mono hB2.out.size))
    clear hb3 c0 c1 c2 c3 f0 f1 f2 f3
    obtain ⟨c0,c1,c2,c3,f0,f1,f2,f3⟩:=own4 hO3.out
    rw [hp]
    obtain ⟨x,hxx⟩ : ∃ x,Hid (x = (parseS t.data.toList).1):=⟨_,rfl⟩
    rw [← hxx.out]
    replace hx:=Lib.hid ((congrArg nextS hcons.out).trans hx)
    clear hp
    go_wp2
    refine bodyPost_ret (v:=.tuple #[.agg #[.int .i64 2,.string ⟨#[]⟩,.int .i64 x,.int .i64 0],.int .i64 (1 + m : Nat),.int .i64 0]) (by simp [results,Tryz.results108,go_sem,c0,c1,c2,c3]) rfl ?_
    exact ⟨_,_,_,_,_,rfl,NextIs.good hx.out rfl rfl hxx.out (by rw [hm.out]; simp),(((hB3.out.setCell (by simp) _).setCell (by simp) _).setCell (by simp) _).setCell (by simp) _⟩
  · rw [hv]
    clear hv
    go_wp2_with fail
    rw [← ht.out]
    refine (parse_any t _ (by omega) (hT.out.below hB2.out)).mono ?_
    rintro e w3 ⟨rfl,hb3⟩
    unfold parseV
    have hO3:=Lib.hid (hO2.out.below hb3 hO2.out.lt)
    have hB3:=Lib.hid (hB2.out.trans (hb3.mono hB2.out.size))
    clear hb3 c0 c1 c2 c3 f0 f1 f2 f3
    obtain ⟨c0,c1,c2,c3,f0,f1,f2,f3⟩:=own4 hO3.out
    replace hp:=Lib.hid hp
    generalize (parseS t.data.toList).1 = x
    generalize (parseS t.data.toList).2 = q at hp hx ⊢
    replace hx:=Lib.hid ((congrArg nextS hcons.out).trans hx)
    go_wp2
    refine bodyPost_ret (v:=.tuple #[.agg #[.int .i64 2,.string ⟨#[]⟩,.int .i64 x,.int .i64 0],.int .i64 (1 + m : Nat),.int .i64 q]) (by simp [results,Tryz.results108,go_sem,c0,c1,c2,c3]) rfl ?_
    exact ⟨_,_,_,_,_,rfl,NextIs.bad hx.out hp.out _ _ _ _ _,(((hB3.out.setCell (by simp) _).setCell (by simp) _).setCell (by simp) _).setCell (by simp) _⟩
set_option maxRecDepth 100000 in
set_option maxHeartbeats 4000000 in
theorem next_minus (s : ByteArray) (w : World) (h0 : 0 < s.size) (hs : s.size≤30000) (hT : Tabs w) (hl : letB s[0] = false) (hd : digB s[0] = false) (h45 : s[0].toNat = 45) (h1 : 1 < s.size) (hd1 : digB s[1] = true) :
    Calls Tryz.prog 108 #[.string s] w (NextPost s.data.toList 0 w):=by
  have hcons:=Lib.hid (drop_byte s 0 h0)
  replace h45:=Lib.hid h45
  rw [List.drop_zero,Nat.zero_add] at hcons
  replace hT:=Lib.hid hT
  have hO:=Lib.hid (Own.new w #[.int .i64 0,.string ⟨#[]⟩,.int .i64 0,.int .i64 0] 61)
  have hB:=Lib.hid ((Below.refl w.heap.size w).alloc (Nat.le_refl _) (.cells #[.int .i64 0,.string ⟨#[]⟩,.int .i64 0,.int .i64 0] 61))
  go_enter Tryz.func108,Tryz.ntmps108
  go_wp2_with fail
  generalize w.alloc (.cells #[.int .i64 0,.string ⟨#[]⟩,.int .i64 0,.int .i64 0] 61) = w0 at hO hB ⊢
  refine (letter_any s[0] _).mono ?_
  rintro e w1 ⟨rfl,rfl⟩
  obtain ⟨c0,c1,c2,c3,f0,f1,f2,f3⟩:=own4 hO.out
  rw [hl]
  have hn : numStart s[0] (s.data.toList.drop 1) = true:=by unfold numStart; rw [hd,sec_at h1,hd1,h45.out]; rfl
  go_wp2_with fail
  refine (digit_any s[0] _).mono ?_
  rintro e w1 ⟨rfl,rfl⟩
  rw [hd]
  have q45:=eq_yes (show (s[0].toNat : Int) = 45 by rw [h45.out]; rfl)
  go_wp2_with fail
  refine (digit_any s[1] _).mono ?_
  rintro e w1 ⟨rfl,rfl⟩
  rw [hd1]
  clear h45 q45 hd hd1
  go_wp2_with fail
  refine (span_num (s.extract 1 s.size) _ (by unfold maxLen; simp; omega)).mono ?_
  rintro e w1 ⟨rfl,rfl⟩
  rw [Lib.extract_to_end]
  obtain ⟨m,hm⟩ : ∃ m,Hid (m = spanN numB (s.data.toList.drop 1)):=⟨_,rfl⟩
  have hmz : 1 + m≤s.size:=by
    have h1:=spanN_le numB (s.data.toList.drop 1)
    rw [← hm.out] at h1
    simp at h1
    omega
  rw [← hm.out]
  have hmn:=Lib.hid hmz
  obtain ⟨t,ht⟩ : ∃ t,Hid (t = s.extract 0 (1 + m)):=⟨_,rfl⟩
  have hways:=num_ways hl hn (t:=t.data.toList) (by rw [ht.out,← hm.out,← hcons.out]; simp)
  have htz : t.size≤30000:=by rw [ht.out]; simp; omega
  go_wp2_with fail
  rw [← ht.out]
  refine (check_any ⟨4,0,t.data.toList,[]⟩ t none 0 [] _ ⟨rfl,Or.inl rfl,rfl⟩ (by simp) (by omega) (hT.out.below hB.out)).mono ?_
  rintro e w2 ⟨rfl,hb2⟩
  rw [check_ver]
  have hO2:=Lib.hid (hO.out.below hb2 hO.out.lt)
  have hB2:=Lib.hid (hB.out.trans (hb2.mono hB.out.size))
  clear hb2 c0 c1 c2 c3 f0 f1 f2 f3
  obtain ⟨c0,c1,c2,c3,f0,f1,f2,f3⟩:=own4 hO2.out
  rcases hways with ⟨hv,hx⟩ | ⟨hv,hp,hx⟩ | ⟨hv,hp,hx⟩
  · rw [hv]
    replace hx:=Lib.hid ((congrArg nextS hcons.out).trans hx)
    replace ht:=Lib.hid ht.out.symm
    clear hv
    go_wp2
    rw [ht.out]
    refine bodyPost_ret (v:=.tuple #[.agg #[.int .i64 4,.string t,.int .i64 0,.int .i64 0],.int .i64 (1 + m : Nat),.int .i64 0]) (by simp [results,Tryz.results108,go_sem,c0,c1,c2,c3]) rfl ?_
    exact ⟨_,_,_,_,_,rfl,NextIs.good hx.out rfl rfl rfl (by rw [hm.out]; simp),(((hB2.out.setCell (by simp) _).setCell (by simp) _).setCell (by simp) _).setCell (by simp) _⟩
  · rw [hv]
    clear hv
    go_wp2_with fail
    rw [← ht.out]
    refine (parse_any t _ (by omega) (hT.out.below hB2.out)).mono ?_
    rintro e w3 ⟨rfl,hb3⟩
    unfold parseV
    have hO3:=Lib.hid (hO2.out.below hb3 hO2.out.lt)
    have hB3:=Lib.hid (hB2.out.trans (hb3.mono hB2.out.size))
    clear hb3 c0 c1 c2 c3 f0 f1 f2 f3
    obtain ⟨c0,c1,c2,c3,f0,f1,f2,f3⟩:=own4 hO3.out
    rw [hp]
    obtain ⟨x,hxx⟩ : ∃ x,Hid (x = (parseS t.data.toList).1):=⟨_,rfl⟩
    rw [← hxx.out]
    replace hx:=Lib.hid ((congrArg nextS hcons.out).trans hx)
    clear hp
    go_wp2
    refine bodyPost_ret (v:=.tuple #[.agg #[.int .i64 2,.string ⟨#[]⟩,.int .i64 x,.int .i64 0],.int .i64 (1 + m : Nat),.int .i64 0]) (by simp [results,Tryz.results108,go_sem,c0,c1,c2,c3]) rfl ?_
    exact ⟨_,_,_,_,_,rfl,NextIs.good hx.out rfl rfl hxx.out (by rw [hm.out]; simp),(((hB3.out.setCell (by simp) _).setCell (by simp) _).setCell (by simp) _).setCell (by simp) _⟩
  · rw [hv]
    clear hv
    go_wp2_with fail
    rw [← ht.out]
    refine (parse_any t _ (by omega) (hT.out.below hB2.out)).mono ?_
    rintro e w3 ⟨rfl,hb3⟩
    unfold parseV
    have hO3:=Lib.hid (hO2.out.below hb3 hO2.out.lt)
    have hB3:=Lib.hid (hB2.out.trans (hb3.mono hB2.out.size))
    clear hb3 c0 c1 c2 c3 f0 f1 f2 f3
    obtain ⟨c0,c1,c2,c3,f0,f1,f2,f3⟩:=own4 hO3.out
    replace hp:=Lib.hid hp
    generalize (parseS t.data.toList).1 = x
    generalize (parseS t.data.toList).2 = q at hp hx ⊢
    replace hx:=Lib.hid ((congrArg nextS hcons.out).trans hx)
    go_wp2
    refine bodyPost_ret (v:=.tuple #[.agg #[.int .i64 2,.string ⟨#[]⟩,.int .i64 x,.int .i64 0],.int .i64 (1 + m : Nat),.int .i64 q]) (by simp [results,Tryz.results108,go_sem,c0,c1,c2,c3]) rfl ?_
    exact ⟨_,_,_,_,_,rfl,NextIs.bad hx.out hp.out _ _ _ _ _,(((hB3.out.setCell (by simp) _).setCell (by simp) _).setCell (by simp) _).setCell (by simp) _⟩
set_option maxRecDepth 100000 in
set_option maxHeartbeats 4000000 in
theorem next_text (s : ByteArray) (w : World) (h0 : 0 < s.size) (hs : s.size≤30000) (hT : Tabs w) (h34 : s[0].toNat = 34) :
    Calls Tryz.prog 108 #[.string s] w (NextPost s.data.toList 0 w):=by
  have hcons:=Lib.hid (drop_byte s 0 h0)
  have hl : letB s[0] = false:=letB_low (by omega)
  have hd : digB s[0] = false:=digB_low (by omega)
  replace h34:=Lib.hid h34
  rw [List.drop_zero,Nat.zero_add] at hcons
  replace hT:=Lib.hid hT
  have hO:=Lib.hid (Own.new w #[.int .i64 0,.string ⟨#[]⟩,.int .i64 0,.int .i64 0] 61)
  have hB:=Lib.hid ((Below.refl w.heap.size w).alloc (Nat.le_refl _) (.cells #[.int .i64 0,.string ⟨#[]⟩,.int .i64 0,.int .i64 0] 61))
  go_enter Tryz.func108,Tryz.ntmps108
  go_wp2_with fail
  generalize w.alloc (.cells #[.int .i64 0,.string ⟨#[]⟩,.int .i64 0,.int .i64 0] 61) = w0 at hO hB ⊢
  refine (letter_any s[0] _).mono ?_
  rintro e w1 ⟨rfl,rfl⟩
  obtain ⟨c0,c1,c2,c3,f0,f1,f2,f3⟩:=own4 hO.out
  rw [hl]
  go_wp2_with fail
  refine (digit_any s[0] _).mono ?_
  rintro e w1 ⟨rfl,rfl⟩
  rw [hd]
  clear hl hd
  have q45:=eq_no (show (s[0].toNat : Int) ≠ 45 by rw [h34.out]; decide)
  have q34:=eq_yes (show (s[0].toNat : Int) = 34 by rw [h34.out]; rfl)
  have hways:=text_ways (c:=s[0]) (r:=s.data.toList.drop 1) h34.out
  go_wp2_with fail
  refine (quoted_any s _ (by omega)).mono ?_
  rintro e w1 ⟨rfl,rfl⟩
  rcases hways with ⟨hq,hx⟩ | ⟨k,hq,hways⟩
  · rw [lqN_none hq]
    replace hx:=Lib.hid ((congrArg nextS hcons.out).trans hx)
    clear hq h34
    go_wp2
    refine bodyPost_ret (v:=.tuple #[.agg #[.int .i64 0,.string ⟨#[]⟩,.int .i64 0,.int .i64 0],.int .i64 0,.int .i64 1]) (by simp [results,Tryz.results108,go_sem,c0,c1,c2,c3]) rfl ?_
    exact ⟨_,_,_,_,_,rfl,NextIs.bad hx.out (by decide) _ _ _ _ _,(((hB.out.setCell (by simp) _).setCell (by simp) _).setCell (by simp) _).setCell (by simp) _⟩
  · have hk:=lqS_le _ _ _ hq
    have hkz : 1 + k≤s.size:=by have:=hk.2; simp at this; omega
    rw [lqN_some hq]
    obtain ⟨m,hm⟩ : ∃ m,Hid (m = 1 + k):=⟨_,rfl⟩
    have hmz : m≤s.size:=by rw [hm.out]; exact hkz
    have hm0 : 0 < m:=by rw [hm.out]; omega
    rw [show (((1 : Nat) : Int) + (k : Int)) = (m : Int) by rw [hm.out]; simp]
    obtain ⟨t,ht⟩ : ∃ t,Hid (t = s.extract 0 m):=⟨_,rfl⟩
    have htd : s.data.toList.take (1 + k) = t.data.toList:=by rw [ht.out,hm.out]; simp
    rw [← hcons.out,htd] at hways
    have htz : t.size≤30000:=by rw [ht.out]; simp; omega
    have qm:=eq_no (show (m : Int) ≠ 0 by omega)
    clear hk hkz hq h34 htd
    go_wp2_with fail
    rw [← ht.out]
    refine (unquote_any t _ (by omega) (hT.out.below hB.out).runes).mono ?_
    rintro e w2 ⟨rfl,hb2⟩
    have hO2:=Lib.hid (hO.out.below hb2 hO.out.lt)
    have hB2:=Lib.hid (hB.out.trans (hb2.mono hB.out.size))
    clear hb2 c0 c1 c2 c3 f0 f1 f2 f3
    obtain ⟨c0,c1,c2,c3,f0,f1,f2,f3⟩:=own4 hO2.out
    rcases hways with ⟨hu,hx⟩ | ⟨hu,hx⟩ | ⟨b,hu,hx⟩
    · rw [hu]
      replace hx:=Lib.hid hx
      clear hu
      go_wp2
      refine bodyPost_ret (v:=.tuple #[.agg #[.int .i64 3,.string ⟨#[]⟩,.int .i64 0,.int .i64 0],.int .i64 m,.int .i64 1]) (by simp [results,Tryz.results108,go_sem,c0,c1,c2,c3]) rfl ?_
      exact ⟨_,_,_,_,_,rfl,NextIs.bad hx.out (by decide) _ _ _ _ _,(((hB2.out.setCell (by simp) _).setCell (by simp) _).setCell (by simp) _).setCell (by simp) _⟩
    · rw [hu]
      replace hx:=Lib.hid hx
      clear hu
      go_wp2
      refine bodyPost_ret (v:=.tuple #[.agg #[.int .i64 3,.string ⟨#[]⟩,.int .i64 0,.int .i64 0],.int .i64 m,.int .i64 2]) (by simp [results,Tryz.results108,go_sem,c0,c1,c2,c3]) rfl ?_
      exact ⟨_,_,_,_,_,rfl,NextIs.bad hx.out (by decide) _ _ _ _ _,(((hB2.out.setCell (by simp) _).setCell (by simp) _).setCell (by simp) _).setCell (by simp) _⟩
    · rw [hu]
      replace hx:=Lib.hid hx
      clear hu
      go_wp2
      refine bodyPost_ret (v:=.tuple #[.agg #[.int .i64 3,.string ⟨b.toArray⟩,.int .i64 0,.int .i64 0],.int .i64 m,.int .i64 0]) (by simp [results,Tryz.results108,go_sem,c0,c1,c2,c3]) rfl ?_
      exact ⟨_,_,_,_,_,rfl,NextIs.good hx.out rfl rfl rfl (by rw [hm.out]; simp),(((hB2.out.setCell (by simp) _).setCell (by simp) _).setCell (by simp) _).setCell (by simp) _⟩
set_option maxRecDepth 100000 in
set_option maxHeartbeats 4000000 in
theorem next_sign (s : ByteArray) (w : World) (h0 : 0 < s.size) (hs : s.size≤30000) (hT : Tabs w) (hl : letB s[0] = false) (hd : digB s[0] = false) (h34 : s[0].toNat ≠ 34) (h45 : s[0].toNat ≠ 45) :
    Calls Tryz.prog 108 #[.string s] w (NextPost s.data.toList 0 w):=by
  have hcons:=Lib.hid (drop_byte s 0 h0)
  rw [List.drop_zero,Nat.zero_add] at hcons
  replace hT:=Lib.hid hT
  have hO:=Lib.hid (Own.new w #[.int .i64 0,.string ⟨#[]⟩,.int .i64 0,.int .i64 0] 61)
  have hB:=Lib.hid ((Below.refl w.heap.size w).alloc (Nat.le_refl _) (.cells #[.int .i64 0,.string ⟨#[]⟩,.int .i64 0,.int .i64 0] 61))
  go_enter Tryz.func108,Tryz.ntmps108
  go_wp2_with fail
  generalize w.alloc (.cells #[.int .i64 0,.string ⟨#[]⟩,.int .i64 0,.int .i64 0] 61) = w0 at hO hB ⊢
  refine (letter_any s[0] _).mono ?_
  rintro e w1 ⟨rfl,rfl⟩
  obtain ⟨c0,c1,c2,c3,f0,f1,f2,f3⟩:=own4 hO.out
  have hn : numStart s[0] (s.data.toList.drop 1) = false:=by unfold numStart; rw [hd]; simp [h45]
  have q45:=eq_no (show (s[0].toNat : Int) ≠ 45 by omega)
  rw [hl]
  go_wp2_with fail
  refine (digit_any s[0] _).mono ?_
  rintro e w1 ⟨rfl,rfl⟩
  rw [hd]
  clear hd h45
  have q34:=eq_no (show (s[0].toNat : Int) ≠ 34 by omega)
  go_wp2_with fail
  refine (Tryz.strings_IndexByte ⟨#[123,125,40,41,91,93,44,46,60,62]⟩ (s[0].toNat : Int) _).mono ?_
  rintro e w1 ⟨rfl,rfl⟩
  rw [show ((s[0].toNat : Int)).toNat.toUInt8 = s[0] by simp]
  rw [show (⟨#[123,125,40,41,91,93,44,46,60,62]⟩ : ByteArray).data.toList = [123,125,40,41,91,93,44,46,60,62] from rfl]
  rcases index_sign s[0] with ⟨hs,hi⟩ | ⟨hs,hi⟩
  · generalize Lib.indexByte [123,125,40,41,91,93,44,46,60,62] s[0] = z at hi ⊢
    have hx:=nx_sign (r:=s.data.toList.drop 1) hs
    rw [← hcons.out] at hx
    by_cases h6 : s[0].toNat = 60
    · have q60:=eq_yes (show (s[0].toNat : Int) = 60 by omega)
      by_cases h1 : 1 < s.size
      · by_cases h61 : s[1].toNat = 61
        · have q61:=eq_yes (show (s[1].toNat : Int) = 61 by omega)
          rw [eq_at h1,h61,h6] at hx
          replace hx:=Lib.hid (show nextS s.data.toList = .ok (⟨5,s.data.toList.take 2,0⟩,2) from hx)
          obtain ⟨t,ht⟩ : ∃ t,Hid (t = s.extract 0 2):=⟨_,rfl⟩
          clear h61 h6 hs
          go_wp2
          try rw [← ht.out]
          refine bodyPost_ret (v:=.tuple #[.agg #[.int .i64 5,.string t,.int .i64 0,.int .i64 0],.int .i64 2,.int .i64 0]) (by simp [results,Tryz.results108,go_sem,c0,c1,c2,c3]) rfl ?_
          exact ⟨_,_,_,_,_,rfl,NextIs.good hx.out rfl (by rw [ht.out]; simp) rfl rfl,(((hB.out.setCell (by simp) _).setCell (by simp) _).setCell (by simp) _).setCell (by simp) _⟩
        · have q61:=eq_no (show (s[1].toNat : Int) ≠ 61 by omega)
          rw [eq_at h1,decide_eq_false h61,Bool.and_false] at hx
          replace hx:=Lib.hid (show nextS s.data.toList = .ok (⟨5,s.data.toList.take 1,0⟩,1) from hx)
          obtain ⟨t,ht⟩ : ∃ t,Hid (t = s.extract 0 1):=⟨_,rfl⟩
          clear h61 h6 hs
          go_wp2
          try rw [← ht.out]
          refine bodyPost_ret (v:=.tuple #[.agg #[.int .i64 5,.string t,.int .i64 0,.int .i64 0],.int .i64 1,.int .i64 0]) (by simp [results,Tryz.results108,go_sem,c0,c1,c2,c3]) rfl ?_
          exact ⟨_,_,_,_,_,rfl,NextIs.good hx.out rfl (by rw [ht.out]; simp) rfl rfl,(((hB.out.setCell (by simp) _).setCell (by simp) _).setCell (by simp) _).setCell (by simp) _⟩
      · rw [eq_end h1,Bool.and_false] at hx
        replace hx:=Lib.hid (show nextS s.data.toList = .ok (⟨5,s.data.toList.take 1,0⟩,1) from hx)
        obtain ⟨t,ht⟩ : ∃ t,Hid (t = s.extract 0 1):=⟨_,rfl⟩
        clear h6 hs
        go_wp2
        try rw [← ht.out]
        refine bodyPost_ret (v:=.tuple #[.agg #[.int .i64 5,.string t,.int .i64 0,.int .i64 0],.int .i64 1,.int .i64 0]) (by simp [results,Tryz.results108,go_sem,c0,c1,c2,c3]) rfl ?_
        exact ⟨_,_,_,_,_,rfl,NextIs.good hx.out rfl (by rw [ht.out]; simp) rfl rfl,(((hB.out.setCell (by simp) _).setCell (by simp) _).setCell (by simp) _).setCell (by simp) _⟩
    · have q60:=eq_no (show (s[0].toNat : Int) ≠ 60 by omega)
      by_cases h62 : s[0].toNat = 62
      · have q62:=eq_yes (show (s[0].toNat : Int) = 62 by omega)
        clear h6
        have h6:=h62
        clear h62
        by_cases h1 : 1 < s.size
        · by_cases h61 : s[1].toNat = 61
          · have q61:=eq_yes (show (s[1].toNat : Int) = 61 by omega)
            rw [eq_at h1,h61,h6] at hx
            replace hx:=Lib.hid (show nextS s.data.toList = .ok (⟨5,s.data.toList.take 2,0⟩,2) from hx)
            obtain ⟨t,ht⟩ : ∃ t,Hid (t = s.extract 0 2):=⟨_,rfl⟩
            clear h61 h6 hs
            go_wp2
            try rw [← ht.out]
            refine bodyPost_ret (v:=.tuple #[.agg #[.int .i64 5,.string t,.int .i64 0,.int .i64 0],.int .i64 2,.int .i64 0]) (by simp [results,Tryz.results108,go_sem,c0,c1,c2,c3]) rfl ?_
            exact ⟨_,_,_,_,_,rfl,NextIs.good hx.out rfl (by rw [ht.out]; simp) rfl rfl,(((hB.out.setCell (by simp) _).setCell (by simp) _).setCell (by simp) _).setCell (by simp) _⟩
          · have q61:=eq_no (show (s[1].toNat : Int) ≠ 61 by omega)
            rw [eq_at h1,decide_eq_false h61,Bool.and_false] at hx
            replace hx:=Lib.hid (show nextS s.data.toList = .ok (⟨5,s.data.toList.take 1,0⟩,1) from hx)
            obtain ⟨t,ht⟩ : ∃ t,Hid (t = s.extract 0 1):=⟨_,rfl⟩
            clear h61 h6 hs
            go_wp2
            try rw [← ht.out]
            refine bodyPost_ret (v:=.tuple #[.agg #[.int .i64 5,.string t,.int .i64 0,.int .i64 0],.int .i64 1,.int .i64 0]) (by simp [results,Tryz.results108,go_sem,c0,c1,c2,c3]) rfl ?_
            exact ⟨_,_,_,_,_,rfl,NextIs.good hx.out rfl (by rw [ht.out]; simp) rfl rfl,(((hB.out.setCell (by simp) _).setCell (by simp) _).setCell (by simp) _).setCell (by simp) _⟩
        · rw [eq_end h1,Bool.and_false] at hx
          replace hx:=Lib.hid (show nextS s.data.toList = .ok (⟨5,s.data.toList.take 1,0⟩,1) from hx)
          obtain ⟨t,ht⟩ : ∃ t,Hid (t = s.extract 0 1):=⟨_,rfl⟩
          clear h6 hs
          go_wp2
          try rw [← ht.out]
          refine bodyPost_ret (v:=.tuple #[.agg #[.int .i64 5,.string t,.int .i64 0,.int .i64 0],.int .i64 1,.int .i64 0]) (by simp [results,Tryz.results108,go_sem,c0,c1,c2,c3]) rfl ?_
          exact ⟨_,_,_,_,_,rfl,NextIs.good hx.out rfl (by rw [ht.out]; simp) rfl rfl,(((hB.out.setCell (by simp) _).setCell (by simp) _).setCell (by simp) _).setCell (by simp) _⟩
      · have q62:=eq_no (show (s[0].toNat : Int) ≠ 62 by omega)
        rw [decide_eq_false h6,decide_eq_false h62,Bool.false_or,Bool.false_and] at hx
        replace hx:=Lib.hid (show nextS s.data.toList = .ok (⟨5,s.data.toList.take 1,0⟩,1) from hx)
        obtain ⟨t,ht⟩ : ∃ t,Hid (t = s.extract 0 1):=⟨_,rfl⟩
        clear h6 h62 hs
        go_wp2
        try rw [← ht.out]
        refine bodyPost_ret (v:=.tuple #[.agg #[.int .i64 5,.string t,.int .i64 0,.int .i64 0],.int .i64 1,.int .i64 0]) (by simp [results,Tryz.results108,go_sem,c0,c1,c2,c3]) rfl ?_
        exact ⟨_,_,_,_,_,rfl,NextIs.good hx.out rfl (by rw [ht.out]; simp) rfl rfl,(((hB.out.setCell (by simp) _).setCell (by simp) _).setCell (by simp) _).setCell (by simp) _⟩
  · generalize Lib.indexByte [123,125,40,41,91,93,44,46,60,62] s[0] = z at hi ⊢
    have hx:=nx_none (r:=s.data.toList.drop 1) hl hn h34 hs
    replace hx:=Lib.hid hx
    clear hs hn hl
    go_wp2
    refine bodyPost_ret (v:=.tuple #[.agg #[.int .i64 0,.string ⟨#[]⟩,.int .i64 0,.int .i64 0],.int .i64 0,.int .i64 1]) (by simp [results,Tryz.results108,go_sem,c0,c1,c2,c3]) rfl ?_
    exact ⟨_,_,_,_,_,rfl,NextIs.bad ((congrArg nextS hcons.out).trans hx.out) (by decide) _ _ _ _ _,(((hB.out.setCell (by simp) _).setCell (by simp) _).setCell (by simp) _).setCell (by simp) _⟩
set_option maxRecDepth 100000 in
set_option maxHeartbeats 4000000 in
theorem next_dash (s : ByteArray) (w : World) (h0 : 0 < s.size) (hs : s.size≤30000) (hT : Tabs w) (hl : letB s[0] = false) (hd : digB s[0] = false) (h45 : s[0].toNat = 45) (h1 : ¬ 1 < s.size∨∃ h : 1 < s.size,digB s[1] = false) :
    Calls Tryz.prog 108 #[.string s] w (NextPost s.data.toList 0 w):=by
  have hcons:=Lib.hid (drop_byte s 0 h0)
  have hn : numStart s[0] (s.data.toList.drop 1) = false:=by
    unfold numStart
    rw [hd]
    rcases h1 with h1 | ⟨h1,h2⟩
    · rw [sec_end h1]; simp
    · rw [sec_at h1,h2]; simp
  have hsn : signB s[0] = false:=by unfold signB; simp [h45]
  have hx0:=nx_none (r:=s.data.toList.drop 1) hl hn (by omega) hsn
  replace hx0:=Lib.hid hx0
  clear hn hsn
  replace h45:=Lib.hid h45
  rw [List.drop_zero,Nat.zero_add] at hcons
  replace hT:=Lib.hid hT
  have hO:=Lib.hid (Own.new w #[.int .i64 0,.string ⟨#[]⟩,.int .i64 0,.int .i64 0] 61)
  have hB:=Lib.hid ((Below.refl w.heap.size w).alloc (Nat.le_refl _) (.cells #[.int .i64 0,.string ⟨#[]⟩,.int .i64 0,.int .i64 0] 61))
  go_enter Tryz.func108,Tryz.ntmps108
  go_wp2_with fail
  generalize w.alloc (.cells #[.int .i64 0,.string ⟨#[]⟩,.int .i64 0,.int .i64 0] 61) = w0 at hO hB ⊢
  refine (letter_any s[0] _).mono ?_
  rintro e w1 ⟨rfl,rfl⟩
  obtain ⟨c0,c1,c2,c3,f0,f1,f2,f3⟩:=own4 hO.out
  have hx:=Lib.hid (show nextS s.data.toList = .error 1 by rw [hcons.out]; exact hx0.out)
  clear hx0
  rw [hl]
  go_wp2_with fail
  refine (digit_any s[0] _).mono ?_
  rintro e w1 ⟨rfl,rfl⟩
  rw [hd]
  have q45:=eq_yes (show (s[0].toNat : Int) = 45 by rw [h45.out]; rfl)
  have q34:=eq_no (show (s[0].toNat : Int) ≠ 34 by rw [h45.out]; decide)
  clear hl hd
  rcases h1 with h1 | ⟨h1,h2⟩
  · go_wp2_with fail
    refine (Tryz.strings_IndexByte ⟨#[123,125,40,41,91,93,44,46,60,62]⟩ (s[0].toNat : Int) _).mono ?_
    rintro e w1 ⟨rfl,rfl⟩
    rw [show Lib.indexByte (⟨#[123,125,40,41,91,93,44,46,60,62]⟩ : ByteArray).data.toList (s[0].toNat : Int).toNat.toUInt8 = -1 by rw [h45.out]; kernel_rfl]
    go_wp2
    refine bodyPost_ret (v:=.tuple #[.agg #[.int .i64 0,.string ⟨#[]⟩,.int .i64 0,.int .i64 0],.int .i64 0,.int .i64 1]) (by simp [results,Tryz.results108,go_sem,c0,c1,c2,c3]) rfl ?_
    exact ⟨_,_,_,_,_,rfl,NextIs.bad hx.out (by decide) _ _ _ _ _,(((hB.out.setCell (by simp) _).setCell (by simp) _).setCell (by simp) _).setCell (by simp) _⟩
  · go_wp2_with fail
    refine (digit_any s[1] _).mono ?_
    rintro e w1 ⟨rfl,rfl⟩
    rw [h2]
    clear h2
    go_wp2_with fail
    refine (Tryz.strings_IndexByte ⟨#[123,125,40,41,91,93,44,46,60,62]⟩ (s[0].toNat : Int) _).mono ?_
    rintro e w1 ⟨rfl,rfl⟩
    rw [show Lib.indexByte (⟨#[123,125,40,41,91,93,44,46,60,62]⟩ : ByteArray).data.toList (s[0].toNat : Int).toNat.toUInt8 = -1 by rw [h45.out]; kernel_rfl]
    go_wp2
    refine bodyPost_ret (v:=.tuple #[.agg #[.int .i64 0,.string ⟨#[]⟩,.int .i64 0,.int .i64 0],.int .i64 0,.int .i64 1]) (by simp [results,Tryz.results108,go_sem,c0,c1,c2,c3]) rfl ?_
    exact ⟨_,_,_,_,_,rfl,NextIs.bad hx.out (by decide) _ _ _ _ _,(((hB.out.setCell (by simp) _).setCell (by simp) _).setCell (by simp) _).setCell (by simp) _⟩
theorem next_any (s : ByteArray) (w : World) (h0 : 0 < s.size) (hs : s.size≤30000) (hT : Tabs w) :
    Calls Tryz.prog 108 #[.string s] w (NextPost s.data.toList 0 w):=by
  cases hl : letB s[0] with
  | true=>exact next_word s w h0 hs hT hl
  | false =>
    cases hd : digB s[0] with
    | true=>exact next_digit s w h0 hs hT hl hd
    | false =>
      by_cases h34 : s[0].toNat = 34
      · exact next_text s w h0 hs hT h34
      by_cases h45 : s[0].toNat = 45
      · by_cases h1 : 1 < s.size
        · cases hd1 : digB s[1] with
          | true=>exact next_minus s w h0 hs hT hl hd h45 h1 hd1
          | false=>exact next_dash s w h0 hs hT hl hd h45 (Or.inr ⟨h1,hd1⟩)
        · exact next_dash s w h0 hs hT hl hd h45 (Or.inl h1)
      · exact next_sign s w h0 hs hT hl hd h34 h45
end Go.Proofs.YtfffpflflggonaaGreatDoor.lex
