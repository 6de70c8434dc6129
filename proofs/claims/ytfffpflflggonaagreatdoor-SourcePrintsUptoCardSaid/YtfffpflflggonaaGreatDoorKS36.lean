/- The source form of a value: the reference's Format. Printing a condition: sizes of values' texts, and the reference's small functions. Printing a condition: the reference's list of values. -/
import Derived.Test.YtfffpflflggonaaGreatDoorKS35
import Derived.Test.YtfffpflflggonaaGreatDoorKS2
import Derived.Test.YtfffpflflggonaaGreatDoorKS32
import Derived.Test.YtfffpflflggonaaGreatDoorKS16
import Derived.Test.YtfffpflflggonaaGreatDoorKSrO
namespace Go.Proofs.YtfffpflflggonaaGreatDoor.value
open Go.RowKit text
def openF (ls : List ByteArray) (k : Nat) : List UInt8:=91 :: joinC (((lsL ls).take k).map quoteS)
theorem openF_zero (ls : List ByteArray) : openF ls 0 = [91]:=by simp [openF,joinC]
theorem openF_one {ls : List ByteArray} (h : 0 < ls.length) : openF ls 1 = openF ls 0 ++ quoteS ls[0].data.toList:=by
  cases ls with
  | nil=>simp at h
  | cons a r=>simp [openF,joinC,lsL]
theorem openF_more {ls : List ByteArray} {k : Nat} (h0 : 1≤k) (h : k < ls.length) : openF ls (k + 1) = openF ls k ++ [44,32] ++ quoteS ls[k].data.toList:=by
  have e : (lsL ls).take (k + 1) = (lsL ls).take k ++ [ls[k].data.toList]:=by
    rw [List.take_succ_eq_append_getElem (by simpa [lsL] using h)]
    simp [lsL]
  have hne : ((lsL ls).take k).map quoteS ≠ []:=by
    intro e
    have:=congrArg List.length e
    have e3 : (lsL ls).length = ls.length:=by simp [lsL]
    rw [List.length_map,List.length_take,List.length_nil] at this
    omega
  unfold openF
  rw [e,List.map_append,List.map_cons,List.map_nil,joinC_snoc _ _ hne]
  simp
theorem openF_len {ls : List ByteArray} (k : Nat) (hk : k≤ls.length) (hl : ls.length≤20) (hv : ∀ x∈lsL ls,(quoteS x).length≤1000) : (openF ls k).length≤100001:=by
  have h1:=join_small ((lsL ls).take k) (by simp [lsL]; omega) (fun x hx=>hv x (List.mem_of_mem_take hx))
  simp only [openF,List.length_cons]
  omega
set_option maxRecDepth 100000 in
set_option maxHeartbeats 4000000 in
theorem format_ref (v : VV) (t : ByteArray) (la : Option Addr) (lc : Nat) (ls : List ByteArray) (w : World) (hV : VOk w v t la ls) (ht : t.size≤140737488355328) (hT : Tabs w) :
    Calls Tryz.prog 124 #[.agg #[.int .i64 v.k,.int .i64 v.n,.string t,.slice la ls.length lc]] w fun e w'=>e = .returned (formR v)∧Below w.heap.size w w':=by
  replace hT:=Lib.hid hT
  replace hV:=Lib.hid hV
  have hO:=Lib.hid (Own.new w #[.int .i64 v.k,.int .i64 v.n,.string t,.slice la ls.length lc] 76)
  have hB:=Lib.hid (show Below w.heap.size w (w.alloc (.cells #[.int .i64 v.k,.int .i64 v.n,.string t,.slice la ls.length lc] 76)) from (Below.refl _ _).alloc (Nat.le_refl _) _)
  go_enter Tryz.func124,Tryz.ntmps124
  go_wp2_with fail
  refine (check_ref v t la lc ls _ (hV.out.below hB.out) ht (hT.out.below hB.out)).mono ?_
  rintro e w1 ⟨rfl,hb1⟩
  have hO1:=Lib.hid (hO.out.below hb1 hO.out.lt)
  have hV1:=Lib.hid ((hV.out.below hB.out).below hb1)
  have hB1:=Lib.hid (hB.out.trans (hb1.mono hB.out.size))
  clear hO hB hb1
  obtain ⟨a0,a1,a2,a3⟩:=box4 hO1.out
  by_cases ea : checkS v = 0
  case neg =>
    have hQ:=Lib.hid (formR_bad ea)
    have e1 : (checkS v != 0) = true:=by simp [ea]
    clear ea
    generalize checkS v = c at e1 hQ ⊢
    go_wp2
    go_ret2
    exact ⟨ret_v hQ.out,hB1.out⟩
  rw [ea]
  have hways:=form_ways hV.out.text ea
  clear ea
  rcases hways with ⟨hk,hn,hQ⟩ | ⟨hk,hn,hQ⟩ | ⟨hk,hn,hQ⟩ | ⟨hk,hQ⟩ | ⟨hk,hQ⟩ | ⟨hk,h20,hval,hQ⟩
  · rw [hk] at a0
    rw [hn] at a1
    go_wp2
    go_ret2
    exact ⟨ret_v hQ.out,hB1.out⟩
  · rw [hk] at a0
    rw [hn] at a1
    go_wp2
    go_ret2
    exact ⟨ret_v hQ.out,hB1.out⟩
  · rw [hk] at a0
    go_wp2_with fail
    refine (number_ref v.n _ (by have:=hn.out; omega) (by have:=hn.out; omega)).mono ?_
    rintro e w2 ⟨rfl,rfl⟩
    go_wp2
    go_ret2
    exact ⟨ret_v hQ.out,hB1.out⟩
  · rw [hk] at a0
    go_wp2_with fail
    refine (quote_ref t _ (hT.out.below hB1.out).runes).mono ?_
    rintro e w2 ⟨rfl,hb2⟩
    rw [hV.out.text]
    replace hb2:=Lib.hid (hB1.out.trans (hb2.mono hB1.out.size))
    have hqv : ∃ x y,quoteV v.t = .tuple #[.string x,.int .i64 y]:=by unfold quoteV; split <;> exact ⟨_,_,rfl⟩
    obtain ⟨x,y,hq⟩:=hqv
    rw [hq] at hQ ⊢
    clear hq
    go_wp2
    go_ret2
    exact ⟨ret_v hQ.out,hb2.out⟩
  · rw [hk] at a0
    go_wp2
    go_ret2
    exact ⟨ret_v hQ.out,hB1.out⟩
  · rw [hk] at a0
    have hls : ls.length≤20:=by
      have h1:=h20.out
      rw [← hV.out.list] at h1
      simpa [lsL] using h1
    have hva:=Lib.hid (show ∀ k (h : k < ls.length),validS ls[k].data.toList = true from fun k h=>by
      have h1:=hval.out
      rw [← hV.out.list] at h1
      exact List.all_eq_true.1 h1 _ (List.mem_map.2 ⟨ls[k],List.getElem_mem h,rfl⟩))
    have hq1:=Lib.hid (show ∀ x∈lsL ls,(quoteS x).length≤1000 from fun x hx=>by
      have h1:=hval.out
      rw [← hV.out.list] at h1
      have h2:=valid_size (List.all_eq_true.1 h1 x hx)
      have h3:=escL_len x
      simp only [quoteS,List.length_cons,List.length_append,List.length_nil]
      omega)
    have hQ2:=Lib.hid (show formR v = .tuple #[.string ⟨(openF ls ls.length ++ [93]).toArray⟩,.int .i64 0] by
      rw [hQ.out,← hV.out.list,openF,List.take_of_length_le (by simp [lsL])]
      rfl)
    clear hQ h20 hval hV
    go_wp2
    go_loopw [5,6] (fun s i wr=>∃ (k : Nat) (x : ByteArray),k≤ls.length∧i = .int .i64 k∧s = .string x∧Hid (x = ⟨(openF ls k).toArray⟩)∧Hid (Own wr w.heap.size #[.int .i64 v.k,.int .i64 v.n,.string t,.slice la ls.length lc] 76)∧Hid (LIn wr la ls)∧Hid (Below w.heap.size w wr)) (fun _ i _=>ls.length - (intOf i).toNat)
    case atStart=>exact ⟨0,⟨#[91]⟩,Nat.zero_le _,rfl,rfl,by show _ = _; rw [openF_zero],hO1.out,hV1.out.rows,hB1.out⟩
    case round =>
      clear hO1 hV1 hB1 a0 a1 a2 a3
      obtain ⟨k,x,hk1,rfl,rfl,hx,hO,hL,hB⟩:=hrel
      obtain ⟨a0,a1,a2,a3⟩:=box4 hO.out
      have hlen:=Lib.hid (openF_len k hk1 hls hq1.out)
      have hxs : x.size≤100001:=by
        rw [hx.out]
        show (openF ls k).toArray.size≤_
        simpa using hlen.out
      by_cases hlt : k < ls.length
      · rcases hL.out with h0 | ⟨blk,off,rfl,hc⟩
        · rw [h0] at hlt; simp at hlt
        have hcell:=hc k hlt
        clear hc
        have hv:=hva.out k hlt
        have hqz:=hq1.out ls[k].data.toList (List.mem_map.2 ⟨ls[k],List.getElem_mem hlt,rfl⟩)
        go_wp2_with fail
        refine (quote_ref ls[k] _ (hT.out.below hB.out).runes).mono ?_
        rintro e w2 ⟨rfl,hb2⟩
        rw [quote_ok hv]
        have hO2:=Lib.hid (hO.out.below hb2 hO.out.lt)
        have hL2:=Lib.hid (hL.out.below hb2)
        have hB2:=Lib.hid (hB.out.trans (hb2.mono hB.out.size))
        obtain ⟨y,hy⟩ : ∃ y : ByteArray,Hid (y = ⟨(quoteS ls[k].data.toList).toArray⟩):=⟨⟨(quoteS ls[k].data.toList).toArray⟩,rfl⟩
        rw [← hy.out]
        have hys : y.size≤1000:=by
          rw [hy.out]
          show (quoteS ls[k].data.toList).toArray.size≤_
          simpa using hqz
        clear hb2 hO hL hB a0 a1 a2 a3 hcell hv hqz
        obtain ⟨a0,a1,a2,a3⟩:=box4 hO2.out
        have s1 : ¬ 9223372036854775807 < x.size + y.size:=by omega
        have s2 : ¬ 9223372036854775807 < x.size + 2:=by omega
        have s3 : ¬ 9223372036854775807 < x.size + 2 + y.size:=by omega
        by_cases hk0 : k = 0
        · have hX:=Lib.hid (show x ++ y = ⟨(openF ls (k + 1)).toArray⟩ by
            subst hk0
            rw [openF_one hlt,hx.out,hy.out]
            apply ByteArray.ext
            simp [ByteArray.data_append])
          subst hk0
          go_wp2
          go_roundw
          case rel=>exact ⟨1,_,by omega,by go_num,rfl,hX.out,hO2.out,hL2.out,hB2.out⟩
          case measure=>simp [intOf]; omega
        · have hX:=Lib.hid (show x ++ ⟨#[44,32]⟩ ++ y = ⟨(openF ls (k + 1)).toArray⟩ by
            rw [openF_more (by omega) hlt,hx.out,hy.out]
            apply ByteArray.ext
            simp [ByteArray.data_append])
          go_wp2
          go_roundw
          case rel=>exact ⟨k + 1,_,by omega,by go_num,rfl,hX.out,hO2.out,hL2.out,hB2.out⟩
          case measure=>simp [intOf]; omega
      · obtain rfl : k = ls.length:=by omega
        have hX:=Lib.hid (show x ++ ⟨#[93]⟩ = ⟨(openF ls ls.length ++ [93]).toArray⟩ by
          rw [hx.out]
          apply ByteArray.ext
          simp [ByteArray.data_append])
        have s1 : ¬ 9223372036854775807 < x.size + 1:=by omega
        have hF:=Lib.hid (show Ending.returned (.tuple #[.string (x ++ ⟨#[93]⟩),.int .i64 0]) = .returned (formR v) by rw [hX.out,hQ2.out])
        go_wp2
        go_ret2
        exact ⟨hF.out,hB.out⟩
end Go.Proofs.YtfffpflflggonaaGreatDoor.value
namespace Go.Proofs.YtfffpflflggonaaGreatDoor.src
open Go.RowKit lex value text schema draw clause
theorem size_eq (s : ByteArray) : s.size = s.data.toList.length:=Array.length_toList.symm
theorem cat_eq (s t : ByteArray) : (s ++ t).data.toList = s.data.toList ++ t.data.toList:=by rw [ByteArray.data_append,Array.toList_append]
theorem digs_few (l : List UInt8) : l.length≤(digsOf l).length + 1:=by
  cases l with
  | nil=>simp
  | cons c r =>
    rw [digsOf]
    split <;> simp
theorem num_few {l : List UInt8} (h : (parseS l).2 = 0) : l.length≤14:=by
  have h1:=digs_few l
  unfold parseS at h
  split at h
  · cases h
  · split at h
    · cases h
    · rename_i h2
      omega
theorem part_few {l : List UInt8} {x : Int} (h : partN l = some x) : l.length≤14:=by
  unfold partN at h
  split at h
  · rename_i h1; exact num_few h1.1
  · cases h
theorem ver_few {l : List UInt8} (h : (verS l).isSome = true) : l.length≤44:=by
  unfold verS at h
  split at h
  · cases h
  · rename_i a r h1
    split at h
    · cases h
    · rename_i b c h2
      split at h
      · cases h
      · split at h
        · rename_i x y z p1 p2 p3
          have e1:=cutD_eq h1
          have e2:=cutD_eq h2
          have:=part_few p1
          have:=part_few p2
          have:=part_few p3
          rw [e1,e2]
          simp only [List.length_append,List.length_cons]
          omega
        · cases h
theorem text_few {v : VV} (h : checkS v = 0) : v.k = 3∨v.k = 4→v.t.length≤200:=by
  intro hk
  have hs:=shape_of h
  obtain ⟨k,n,t,l⟩:=v
  simp only at hk
  unfold checkS at h
  rw [if_neg (by show ¬ (k < 1∨5 < k); omega),if_neg (by rw [hs]; decide)] at h
  simp only at h
  rcases hk with rfl | rfl
  · rw [if_neg (by decide),if_neg (by decide),if_pos rfl] at h
    split at h
    · rename_i hv
      unfold validS at hv
      simp only [Bool.and_eq_true,decide_eq_true_eq] at hv
      exact hv.1.1
    · cases h
  · rw [if_neg (by decide),if_neg (by decide),if_neg (by decide),if_pos rfl] at h
    split at h
    · rename_i hv
      have:=ver_few hv
      show t.length≤200
      omega
    · cases h
theorem bind_eq (op : Int) : (bindN op : Int) = if op = 3 then 1 else if op = 2 then 2 else if op = 4 then 3 else 4:=by
  unfold bindN
  split
  · rfl
  split
  · rfl
  split <;> rfl
set_option maxHeartbeats 1000000 in
theorem bind_ref (op : Int) (w : World) : Calls Tryz.prog 63 #[.int .i64 op] w fun e w'=>e = .returned (.int .i64 (bindN op))∧w = w':=by
  rw [bind_eq]
  go_enter Tryz.func63,Tryz.ntmps63
  by_cases h3 : op = 3
  · subst h3
    go_wp2
    go_ret
    exact ⟨rfl,rfl⟩
  have e3 : (op == 3) = false:=by simpa using h3
  by_cases h2 : op = 2
  · subst h2
    go_wp2
    go_ret
    exact ⟨rfl,rfl⟩
  have e2 : (op == 2) = false:=by simpa using h2
  rw [if_neg h3,if_neg h2]
  by_cases h4 : op = 4
  · subst h4
    go_wp2
    go_ret
    exact ⟨rfl,rfl⟩
  have e4 : (op == 4) = false:=by simpa using h4
  rw [if_neg h4]
  go_wp2
  go_ret
  exact ⟨rfl,rfl⟩
set_option maxHeartbeats 4000000 in
theorem words_ref (j : Nat) (hj : j < 10) (w : World) : Calls Tryz.prog 64 #[.int .i64 ((6 : Int) + j)] w fun e w'=>e = .returned (.string ⟨(wordOf (6 + j)).toArray⟩)∧Below w.heap.size w w':=by
  have hB:=Lib.hid ((Below.refl w.heap.size w).alloc (Nat.le_refl _) (.cells #[.string ⟨#[101,120,105,115,116,115]⟩,.string ⟨#[105,115]⟩,.string ⟨#[105,110]⟩,.string ⟨#[115,116,97,114,116,115]⟩,.string ⟨#[101,110,100,115]⟩,.string ⟨#[99,111,110,116,97,105,110,115]⟩,.string ⟨#[60]⟩,.string ⟨#[60,61]⟩,.string ⟨#[62]⟩,.string ⟨#[62,61]⟩] 9))
  rcases (show j = 0∨j = 1∨j = 2∨j = 3∨j = 4∨j = 5∨j = 6∨j = 7∨j = 8∨j = 9 by omega) with rfl | rfl | rfl | rfl | rfl | rfl | rfl | rfl | rfl | rfl
  all_goals
    go_enter Tryz.func64,Tryz.ntmps64
    go_wp2
    go_ret
    exact ⟨rfl,hB.out⟩
end Go.Proofs.YtfffpflflggonaaGreatDoor.src
namespace Go.Proofs.YtfffpflflggonaaGreatDoor.src
open Go.RowKit lex value text schema draw clause
theorem vals_each : ∀ {l : List VV},valsE l = 0→∀ v∈l,checkS v = 0
  | [],_,v,hv=>by cases hv
  | a :: r,h,v,hv=>by
    rw [valsE] at h
    by_cases ha : checkS a = 0
    · rw [if_pos ha] at h
      rcases List.mem_cons.1 hv with rfl | hv
      · exact ha
      · exact vals_each h v hv
    · rw [if_neg ha] at h; exact absurd h ha
theorem fmt_ref (d : VD) (w : World) (h : LAt w.cell? d) (hT : Tabs w) (hc : checkS (vv d) = 0) :
    Calls Tryz.prog 124 #[.agg #[.int .i64 d.kind,.int .i64 d.num,.string d.text,.slice d.ptr d.len d.cap]] w fun e w'=>e = .returned (.tuple #[.string ⟨(value.formS (vv d)).toArray⟩,.int .i64 0])∧Below w.heap.size w w':=by
  rw [srl_len h]
  have:=format_ref (vv d) d.text d.ptr d.cap d.ls w ⟨rfl,lin_rows h.rows,rfl⟩ (by have:=h.text; omega) hT
  unfold formR at this
  rw [if_pos hc] at this
  exact this
theorem join_one (x : List UInt8) : joinC [x] = x:=rfl
theorem join_next {F : List (List UInt8)} {k : Nat} (hk : k < F.length) : joinC (F.take (k + 1)) = joinC (F.take k) ++ (if k = 0 then [] else [44,32]) ++ F[k]:=by
  rw [List.take_succ_eq_append_getElem hk]
  by_cases h0 : k = 0
  · subst h0
    rw [if_pos rfl]
    show joinC [F[0]] = [] ++ [] ++ F[0]
    rw [join_one]; rfl
  · rw [if_neg h0]
    exact joinC_snoc _ _ (by intro e; have:=congrArg List.length e; simp only [List.length_take,List.length_nil] at this; omega)
theorem join_few {F : List (List UInt8)} {k : Nat} (hk : k≤F.length) : (joinC (F.take k)).length≤(joinC F).length:=by
  by_cases h0 : k = 0
  · subst h0; exact Nat.zero_le _
  · exact take_le F k (by omega) hk
theorem to_str {s : ByteArray} {l : List UInt8} (h : s.data.toList = l) : (⟨l.toArray⟩ : ByteArray) = s:=by
  subst h; cases s; simp
set_option maxRecDepth 100000 in
set_option maxHeartbeats 4000000 in
theorem values_print (m : Mem) (l : List VD) (va : Option Addr) (vn vc : Nat) (hv : RowsAt m 4 (.slice va vn vc) (l.map VD.row)) (hL : ∀ v∈l,LAt m v) (h0 : valsE (l.map vv) = 0)
    (hlen : (joinC ((l.map vv).map value.formS)).length≤1000000000) (w : World) (hs : Sub m w.cell?) (hT : Tabs w) :
    Calls Tryz.prog 65 #[.slice va vn vc] w fun e w'=>e = .returned (.string ⟨(joinC ((l.map vv).map value.formS)).toArray⟩)∧Below w.heap.size w w':=by
  have hn:=(len_of hv).1
  have hn2:=(len_of hv).2
  rw [List.length_map] at hn
  subst hn
  obtain ⟨F,hF⟩ : ∃ F,Hid (F = (l.map vv).map value.formS):=⟨_,Lib.hid rfl⟩
  rw [← hF.out] at hlen ⊢
  have hFl : F.length = l.length:=by rw [hF.out]; simp
  have hFk : ∀ k (h : k < l.length) (h' : k < F.length),F[k] = value.formS (vv l[k]):=by
    intro k h h'
    have e:=hF.out
    subst e
    simp
  replace hFk:=Lib.hid hFk
  replace hFl:=Lib.hid hFl
  replace hv:=Lib.hid hv
  replace hL:=Lib.hid hL
  replace h0:=Lib.hid h0
  replace hlen:=Lib.hid hlen
  replace hT:=Lib.hid hT
  replace hs:=Lib.hid hs
  go_enter Tryz.func65,Tryz.ntmps65
  go_wp2
  go_loopw [3,4] (fun v3 i wr=>∃ (k : Nat) (s : ByteArray),k≤l.length∧v3 = .string s∧i = .int .i64 k∧Hid (s.data.toList = joinC (F.take k))∧Hid (Below w.heap.size w wr)) (fun _ i _=>l.length - (intOf i).toNat)
  case atStart=>exact ⟨0,_,Nat.zero_le _,rfl,rfl,rfl,Below.refl _ _⟩
  case round =>
    obtain ⟨k,s,hk,rfl,rfl,hS,hB⟩:=hrel
    by_cases hlt : k < l.length
    case neg =>
      have hkk : k = l.length:=by omega
      have hQ:=Lib.hid (show (⟨(joinC F).toArray⟩ : ByteArray) = s from to_str (by rw [hS.out,hkk,← hFl.out,List.take_length]))
      have n1 : ¬ (k : Int) < (l.length : Int):=by omega
      go_wp2
      go_ret
      exact ⟨by rw [hQ.out]; rfl,hB.out⟩
    have hm:=Lib.hid (hs.out.trans (sub_of_below hB.out))
    obtain ⟨a0,c0,e1,-,-,h4⟩:=hv.out
    injection e1 with e1 e2 e3
    subst e1; subst e3; clear e2
    rcases h4 with he | ⟨blk,off,rfl,hc⟩
    · have : l = []:=by simpa using he
      rw [this] at hlt; exact absurd hlt (by simp)
    obtain ⟨c0,c1,c2,c3⟩:=vd_cells hc hlt
    clear hc
    have c0:=hm.out _ _ c0
    have c1:=hm.out _ _ c1
    have c2:=hm.out _ _ c2
    have c3:=hm.out _ _ c3
    have hLv:=Lib.hid ((hL.out l[k] (List.getElem_mem hlt)).mono hm.out)
    have hck:=Lib.hid (vals_each h0.out (vv l[k]) (List.mem_map_of_mem (List.getElem_mem hlt)))
    have hkF : k < F.length:=by rw [hFl.out]; exact hlt
    have hnx:=join_next hkF
    rw [hFk.out k hlt hkF] at hnx
    have hfw:=Nat.le_trans (join_few (F:=F) (k:=k + 1) (by omega)) hlen.out
    rw [hnx] at hfw
    simp only [List.length_append] at hfw
    have hsz : s.size = (joinC (F.take k)).length:=by rw [size_eq,hS.out]
    generalize l[k] = v at c0 c1 c2 c3 hLv hck hnx hfw
    obtain ⟨v1,v2,v3,v4,v5,v6,v7⟩:=v
    simp only at c0 c1 c2 c3
    have n0 : (0 : Int)≤(k : Int):=by omega
    have n1 : (k : Int) < (l.length : Int):=by omega
    replace hnx:=Lib.hid hnx
    go_wp2_with fail
    refine (fmt_ref ⟨v1,v2,v3,v4,v5,v6,v7⟩ _ hLv.out (hT.out.below hB.out) hck.out).mono ?_
    rintro e w' ⟨rfl,hb⟩
    have hB2:=Lib.hid (hB.out.trans (hb.mono hB.out.size))
    have hfl : (⟨(value.formS (vv ⟨v1,v2,v3,v4,v5,v6,v7⟩)).toArray⟩ : ByteArray).size = (value.formS (vv ⟨v1,v2,v3,v4,v5,v6,v7⟩)).length:=by rw [size_eq]
    clear hb c0 c1 c2 c3
    generalize hfx : value.formS (vv ⟨v1,v2,v3,v4,v5,v6,v7⟩) = fx at hnx hfw hfl ⊢
    clear hfx hck hLv
    by_cases hk0 : k = 0
    · have hn0 : ¬ (0 : Int) < (k : Int):=by omega
      rw [if_pos hk0] at hfw
      have g1 : ¬ 9223372036854775807 < s.size + (⟨fx.toArray⟩ : ByteArray).size:=by simp only [List.length_nil] at hfw; omega
      have hS2:=Lib.hid (show (s ++ (⟨fx.toArray⟩ : ByteArray)).data.toList = joinC (F.take (k + 1)) by rw [hnx.out,if_pos hk0,cat_eq,hS.out,List.append_nil])
      clear hfw
      go_wp2
      go_roundw
      case rel=>exact ⟨k + 1,_,by omega,rfl,by go_num,hS2.out,hB2.out⟩
      case measure=>simp [intOf]; omega
    · have hn0 : (0 : Int) < (k : Int):=by omega
      rw [if_neg hk0] at hfw
      simp only [List.length_cons,List.length_nil] at hfw
      have g0 : ¬ 9223372036854775807 < s.size + 2:=by omega
      have g1 : ¬ 9223372036854775807 < s.size + 2 + (⟨fx.toArray⟩ : ByteArray).size:=by omega
      have hS2:=Lib.hid (show (s ++ (⟨#[44,32]⟩ : ByteArray) ++ (⟨fx.toArray⟩ : ByteArray)).data.toList = joinC (F.take (k + 1)) by rw [hnx.out,if_neg hk0,cat_eq,cat_eq,hS.out])
      clear hfw
      go_wp2
      go_roundw
      case rel=>exact ⟨k + 1,_,by omega,rfl,by go_num,hS2.out,hB2.out⟩
      case measure=>simp [intOf]; omega
end Go.Proofs.YtfffpflflggonaaGreatDoor.src
