/- The reference's ParseNumber: which number a text is, or the error. Versions, values and their order, said plainly: what both texts compute. No program in sight. -/
import Derived.Test.YtfffpflflggonaaGreatDoorKS0
import Derived.Lib.Split
import Derived.Lib.IndexMore
namespace Go.Proofs.YtfffpflflggonaaGreatDoor.text
open Go.RowKit
def digB (c : UInt8) : Bool:=decide (48≤c.toNat) && decide (c.toNat≤57)
def digsOf : List UInt8→List UInt8
  | []=>[]
  | c :: r=>if c.toNat = 45 then r else c :: r
def valFrom (a : Nat) (l : List UInt8) : Nat:=l.foldl (fun a c=>10 * a + (c.toNat - 48)) a
def parseS (l : List UInt8) : Int × Int :=
  if digsOf l = []∨(digsOf l).all digB = false∨((digsOf l).head? = some 48∧l ≠ [48]) then (0,1)
  else if 13 < (digsOf l).length∨1099511627776 < valFrom 0 (digsOf l) then (0,3)
  else (if (digsOf l).length < l.length then -(valFrom 0 (digsOf l) : Int) else (valFrom 0 (digsOf l) : Int),0)
def parseV (l : List UInt8) : Value:=.tuple #[.int .i64 (parseS l).1,.int .i64 (parseS l).2]
theorem valFrom_snoc (a : Nat) (l : List UInt8) (c : UInt8) : valFrom a (l ++ [c]) = 10 * valFrom a l + (c.toNat - 48):=by
  unfold valFrom; rw [List.foldl_append]; rfl
theorem valFrom_lt : ∀ (l : List UInt8) (a : Nat),l.all digB = true→valFrom a l < (a + 1) * 10 ^ l.length
  | [],a,_=>by simp [valFrom]
  | c :: r,a,h=>by
    rw [List.all_cons,Bool.and_eq_true] at h
    have h1:=valFrom_lt r (10 * a + (c.toNat - 48)) h.2
    have hc : c.toNat - 48≤9:=by have:=h.1; unfold digB at this; simp at this; omega
    have e : valFrom a (c :: r) = valFrom (10 * a + (c.toNat - 48)) r:=rfl
    rw [e,List.length_cons,Nat.pow_succ]
    have h2 : (10 * a + (c.toNat - 48) + 1) * 10 ^ r.length≤(10 * (a + 1)) * 10 ^ r.length:=Nat.mul_le_mul_right _ (by omega)
    have h3 : (10 * (a + 1)) * 10 ^ r.length = (a + 1) * (10 ^ r.length * 10):=by rw [Nat.mul_comm 10 (a + 1),Nat.mul_assoc,Nat.mul_comm 10]
    omega
theorem valFrom_ge : ∀ (l : List UInt8) (a : Nat),a * 10 ^ l.length≤valFrom a l
  | [],a=>by simp [valFrom]
  | c :: r,a=>by
    have h1:=valFrom_ge r (10 * a + (c.toNat - 48))
    have e : valFrom a (c :: r) = valFrom (10 * a + (c.toNat - 48)) r:=rfl
    rw [e,List.length_cons,Nat.pow_succ]
    have h2 : (10 * a) * 10 ^ r.length≤(10 * a + (c.toNat - 48)) * 10 ^ r.length:=Nat.mul_le_mul_right _ (by omega)
    have h3 : a * (10 ^ r.length * 10) = (10 * a) * 10 ^ r.length:=by rw [Nat.mul_comm 10 a,Nat.mul_assoc,Nat.mul_comm 10]
    omega
theorem take_byte' (s : ByteArray) (k : Nat) (h : k < s.size) : s.data.toList.take (k + 1) = s.data.toList.take k ++ [s[k]]:=by
  rw [List.take_succ_eq_append_getElem (by simpa using h)]; rfl
theorem all_take {l : List UInt8} {p : UInt8→Bool} (h : l.all p = true) (k : Nat) : (l.take k).all p = true:=by
  rw [List.all_eq_true] at *
  exact fun x hx=>h x (List.mem_of_mem_take hx)
theorem all_at {s : ByteArray} {p : UInt8→Bool} (h : s.data.toList.all p = true) {k : Nat} (hk : k < s.size) : p s[k] = true:=by
  rw [List.all_eq_true] at h
  exact h _ (Array.getElem_mem_toList (xs:=s.data) hk)
def Digs (s t : ByteArray) : Prop:=t.data.toList = digsOf s.data.toList
theorem digs_none {s : ByteArray} (h : s.size = 0) : Digs s s:=by
  have e : s.data.toList = []:=List.eq_nil_of_length_eq_zero (by simpa using h)
  unfold Digs; rw [e]; rfl
theorem cons_byte {s : ByteArray} (h : 0 < s.size) : s.data.toList = s[0] :: s.data.toList.drop 1:=by
  have:=drop_byte s 0 h
  simpa using this
theorem digs_minus {s : ByteArray} (h : 0 < s.size) (hc : s[0].toNat = 45) : Digs s (s.extract 1 s.size):=by
  unfold Digs
  rw [cons_byte h,digsOf,if_pos hc]
  simp only [ByteArray.data_extract,Array.toList_extract,List.drop_one,List.extract_eq_take_drop]
  exact List.take_of_length_le (by simp)
theorem digs_plain {s : ByteArray} (h : 0 < s.size) (hc : s[0].toNat ≠ 45) : Digs s s:=by
  unfold Digs
  conv=>rhs; rw [cons_byte h,digsOf,if_neg hc,← cons_byte h]
theorem ret_two {a b : Int} {l : List UInt8} (h : parseS l = (a,b)) : Ending.returned (.tuple #[.int .i64 a,.int .i64 b]) = .returned (parseV l):=by
  unfold parseV; rw [h]
theorem head_byte {s : ByteArray} (h : 0 < s.size) : s.data.toList.head? = some s[0]:=by rw [cons_byte h]; rfl
theorem parse_empty {s t : ByteArray} (D : Digs s t) (h : t.size = 0) : parseS s.data.toList = (0,1):=by
  unfold parseS
  have e : t.data.toList = []:=List.eq_nil_of_length_eq_zero (by simpa using h)
  rw [if_pos (Or.inl (by rw [← D,e]))]
theorem parse_bad {s t : ByteArray} (D : Digs s t) {k : Nat} (h : k < t.size) (hb : digB t[k] = false) : parseS s.data.toList = (0,1):=by
  unfold parseS
  rw [if_pos (Or.inr (Or.inl _))]
  rw [← D]
  cases ha : t.data.toList.all digB with
  | false=>rfl
  | true=>rw [all_at ha h] at hb; cases hb
theorem parse_zero {s t : ByteArray} (D : Digs s t) (h : 0 < t.size) (h0 : t[0].toNat = 48) (hs : ¬ s.data.toList = [48]) : parseS s.data.toList = (0,1):=by
  unfold parseS
  have h2 : (digsOf s.data.toList).head? = some 48:=by
    rw [← D,head_byte h]
    exact congrArg some (UInt8.toNat_inj.1 h0)
  rw [if_pos (Or.inr (Or.inr ⟨h2,hs⟩))]
theorem parse_pass {s t : ByteArray} (D : Digs s t) (h : 0 < t.size) (ha : t.data.toList.all digB = true) (h0 : t[0].toNat = 48→s.data.toList = [48]) :
    ¬ (digsOf s.data.toList = []∨(digsOf s.data.toList).all digB = false∨((digsOf s.data.toList).head? = some 48∧s.data.toList ≠ [48])):=by
  rw [← D,ha,head_byte h]
  rintro (h1 | h1 | ⟨h1,h2⟩)
  · rw [cons_byte h] at h1; cases h1
  · cases h1
  · injection h1 with h1
    exact h2 (h0 (by rw [h1]; decide))
theorem parse_long {s t : ByteArray} (D : Digs s t) (h : 0 < t.size) (ha : t.data.toList.all digB = true) (h0 : t[0].toNat = 48→s.data.toList = [48]) (hl : 13 < t.size) : parseS s.data.toList = (0,3):=by
  unfold parseS
  rw [if_neg (parse_pass D h ha h0),if_pos (Or.inl (by rw [← D]; simpa using hl))]
theorem parse_great {s t : ByteArray} (D : Digs s t) (h : 0 < t.size) (ha : t.data.toList.all digB = true) (h0 : t[0].toNat = 48→s.data.toList = [48]) (hv : 1099511627776 < valFrom 0 t.data.toList) : parseS s.data.toList = (0,3):=by
  unfold parseS
  rw [if_neg (parse_pass D h ha h0),if_pos (Or.inr (by rw [← D]; exact hv))]
theorem parse_ok {s t : ByteArray} (D : Digs s t) (h : 0 < t.size) (ha : t.data.toList.all digB = true) (h0 : t[0].toNat = 48→s.data.toList = [48]) (hl : t.size≤13) (hv : valFrom 0 t.data.toList≤1099511627776) :
    parseS s.data.toList = (if t.size < s.size then -(valFrom 0 t.data.toList : Int) else (valFrom 0 t.data.toList : Int),0):=by
  unfold parseS
  rw [if_neg (parse_pass D h ha h0),← D,if_neg (by simp; omega)]
  simp
theorem dig_go {s : ByteArray} {p : UInt8→Bool} {k : Nat} (h : k < s.size) (ho : p s[k] = true) (T : (s.data.toList.drop k).all p = s.data.toList.all p) : (s.data.toList.drop (k + 1)).all p = s.data.toList.all p:=by
  rw [← T,drop_byte s k h,List.all_cons,ho]; rfl
theorem dig_end {s : ByteArray} {p : UInt8→Bool} {k : Nat} (h : ¬ k < s.size) (T : (s.data.toList.drop k).all p = s.data.toList.all p) : s.data.toList.all p = true:=by
  rw [← T,List.drop_eq_nil_of_le (by simp; omega)]; rfl
theorem digB_yes {c : UInt8} (h0 : 48≤c.toNat) (h1 : c.toNat≤57) : digB c = true:=by unfold digB; simp [h0,h1]
theorem digB_low {c : UInt8} (h : c.toNat < 48) : digB c = false:=by unfold digB; simp; omega
theorem digB_high {c : UInt8} (h : 57 < c.toNat) : digB c = false:=by unfold digB; simp; omega
theorem digB_bd {c : UInt8} (h : digB c = true) : 48≤c.toNat∧c.toNat≤57:=by unfold digB at h; simpa using h
theorem val_take {s : ByteArray} {k : Nat} (h : k < s.size) : valFrom 0 (s.data.toList.take (k + 1)) = 10 * valFrom 0 (s.data.toList.take k) + (s[k].toNat - 48):=by
  rw [take_byte' s k h,valFrom_snoc]
theorem val_bound {s : ByteArray} (ha : s.data.toList.all digB = true) {k : Nat} (hk : k≤13) : valFrom 0 (s.data.toList.take k)≤10000000000000:=by
  have h1:=valFrom_lt (s.data.toList.take k) 0 (all_take ha k)
  have h2 : (s.data.toList.take k).length≤k:=by simp [List.length_take]; omega
  have h3 : 10 ^ (s.data.toList.take k).length≤10 ^ 13:=Nat.pow_le_pow_right (by omega) (by omega)
  have h4 : (10 : Nat) ^ 13 = 10000000000000:=by decide
  omega
theorem val_int {a b : Int} (h : a = b) : Value.int .i64 a = .int .i64 b:=by rw [h]
set_option maxHeartbeats 4000000 in
theorem parse_ref (s : ByteArray) (w : World) (hs : s.size≤maxLen) :
    Calls Tryz.prog 192 #[.string s] w fun e w'=>e = .returned (parseV s.data.toList)∧w = w':=by
  unfold maxLen at hs
  go_enter Tryz.func192,Tryz.ntmps192
  by_cases h0 : s.size = 0
  · have hD:=Lib.hid (digs_none h0)
    go_wp2
    go_loop [5] (fun i=>∃ k : Nat,k≤s.size∧i = .int .i64 k∧Hid ((s.data.toList.drop k).all digB = s.data.toList.all digB)) (fun i=>s.size - (intOf i).toNat)
    case atStart=>exact ⟨0,Nat.zero_le _,rfl,rfl⟩
    case round =>
      obtain ⟨k,hk,rfl,hT⟩:=hrel
      by_cases hlt : k < s.size
      · rcases Nat.lt_or_ge s[k].toNat 48 with h1 | h1
        · have hE:=Lib.hid (parse_bad hD.out hlt (digB_low h1))
          go_wp2
          all_goals first
            | (go_ret2; exact ⟨ret_two hE.out,rfl⟩)
            | (exfalso; clear hT hE; simp at *; omega)
        · by_cases h2 : 57 < s[k].toNat
          · have hE:=Lib.hid (parse_bad hD.out hlt (digB_high h2))
            go_wp2
            all_goals first
              | (go_ret2; exact ⟨ret_two hE.out,rfl⟩)
              | (exfalso; clear hT hE; simp at *; omega)
          · have hE:=Lib.hid (dig_go hlt (digB_yes h1 (by omega)) hT.out)
            go_wp2
            all_goals first
              | (go_round
                 case rel=>exact ⟨k + 1,by omega,by go_num,hE.out⟩
                 case measure=>simp [intOf]; omega)
              | (exfalso; clear hT hE; simp at *; omega)
      · have hA:=Lib.hid (dig_end hlt hT.out)
        clear hT
        by_cases hz : s.size = 0
        · have hE:=Lib.hid (parse_empty hD.out hz)
          have hz1 : s.toList = []:=by rw [ByteArray.toList_eq]; exact List.eq_nil_of_length_eq_zero (by simpa using hz)
          have hz2 : s.toList.isEmpty = true:=by rw [hz1]; rfl
          go_wp2
          all_goals (go_ret2; exact ⟨ret_two hE.out,rfl⟩)
        exact absurd h0 hz
  have h : 0 < s.size:=by omega
  by_cases hc : s[0].toNat = 45
  · have hD:=Lib.hid (digs_minus h hc)
    have hts : (s.extract 1 s.size).size < s.size:=by simp; omega
    go_wp2
    generalize s.extract 1 s.size = t at hD hts ⊢
    go_loop [5] (fun i=>∃ k : Nat,k≤t.size∧i = .int .i64 k∧Hid ((t.data.toList.drop k).all digB = t.data.toList.all digB)) (fun i=>t.size - (intOf i).toNat)
    case atStart=>exact ⟨0,Nat.zero_le _,rfl,rfl⟩
    case round =>
      obtain ⟨k,hk,rfl,hT⟩:=hrel
      by_cases hlt : k < t.size
      · rcases Nat.lt_or_ge t[k].toNat 48 with h1 | h1
        · have hE:=Lib.hid (parse_bad hD.out hlt (digB_low h1))
          go_wp2
          all_goals first
            | (go_ret2; exact ⟨ret_two hE.out,rfl⟩)
            | (exfalso; clear hT hE; simp at *; omega)
        · by_cases h2 : 57 < t[k].toNat
          · have hE:=Lib.hid (parse_bad hD.out hlt (digB_high h2))
            go_wp2
            all_goals first
              | (go_ret2; exact ⟨ret_two hE.out,rfl⟩)
              | (exfalso; clear hT hE; simp at *; omega)
          · have hE:=Lib.hid (dig_go hlt (digB_yes h1 (by omega)) hT.out)
            go_wp2
            all_goals first
              | (go_round
                 case rel=>exact ⟨k + 1,by omega,by go_num,hE.out⟩
                 case measure=>simp [intOf]; omega)
              | (exfalso; clear hT hE; simp at *; omega)
      · have hA:=Lib.hid (dig_end hlt hT.out)
        clear hT
        by_cases hz : t.size = 0
        · have hE:=Lib.hid (parse_empty hD.out hz)
          have hz1 : t.toList = []:=by rw [ByteArray.toList_eq]; exact List.eq_nil_of_length_eq_zero (by simpa using hz)
          have hz2 : t.toList.isEmpty = true:=by rw [hz1]; rfl
          go_wp2
          all_goals (go_ret2; exact ⟨ret_two hE.out,rfl⟩)
        have hpos : 0 < t.size:=by omega
        have hz1 : ¬ t.toList = []:=by rw [ByteArray.toList_eq,cons_byte hpos]; simp
        have hz2 : t.toList.isEmpty = false:=by rw [ByteArray.toList_eq,cons_byte hpos]; rfl
        by_cases hq : t[0].toNat = 48∧¬ s.data.toList = [48]
        · have hE:=Lib.hid (parse_zero hD.out hpos hq.1 hq.2)
          have hs1 : (!s.toList == [48]) = true:=by rw [ByteArray.toList_eq]; simp [hq.2]
          have hq1:=hq.1
          clear hq
          go_wp2
          go_ret2
          exact ⟨ret_two hE.out,rfl⟩
        have hZ:=Lib.hid (show t[0].toNat = 48→s.data.toList = [48] from fun h1=>Classical.byContradiction fun h2=>hq ⟨h1,h2⟩)
        have hU : t[0].toNat ≠ 48∨(t[0].toNat = 48∧(!s.toList == [48]) = false):=by
          by_cases h1 : t[0].toNat = 48
          · exact Or.inr ⟨h1,by rw [ByteArray.toList_eq,hZ.out h1]; rfl⟩
          · exact Or.inl h1
        clear hq
        by_cases hl : 13 < t.size
        · have hE:=Lib.hid (parse_long hD.out hpos hA.out hZ.out hl)
          rcases hU with hq | ⟨hq,hs1⟩
          all_goals
            go_wp2
            go_ret2
            exact ⟨ret_two hE.out,rfl⟩
        · rcases hU with hq | ⟨hq,hs1⟩
          all_goals
            go_wp2
            go_loop [6,7] (fun n i=>∃ k : Nat,k≤t.size∧i = .int .i64 k∧n = .int .i64 (valFrom 0 (t.data.toList.take k) : Nat)) (fun _ i=>t.size - (intOf i).toNat)
            case atStart=>exact ⟨0,Nat.zero_le _,rfl,rfl⟩
            case round =>
              obtain ⟨k,hk,rfl,rfl⟩:=hrel
              have hb:=val_bound hA.out (k:=k) (by omega)
              by_cases hlt : k < t.size
              · have hd:=digB_bd (all_at hA.out hlt)
                have hE:=Lib.hid (val_take hlt)
                go_wp2
                go_round
                case rel=>exact ⟨k + 1,by omega,by go_num,by rw [hE.out]; apply val_int; omega⟩
                case measure=>simp [intOf]; omega
              · have hk2 : t.data.toList.take k = t.data.toList:=List.take_of_length_le (by simp; omega)
                rw [hk2] at hb ⊢
                by_cases hv : 1099511627776 < valFrom 0 t.data.toList
                · have hE:=Lib.hid (parse_great hD.out hpos hA.out hZ.out hv)
                  go_wp2
                  go_ret2
                  exact ⟨ret_two hE.out,rfl⟩
                · have hE:=Lib.hid (parse_ok hD.out hpos hA.out hZ.out (by omega) (by omega))
                  rw [if_pos hts] at hE
                  go_wp2
                  go_ret2
                  exact ⟨ret_two hE.out,rfl⟩
  · have hD:=Lib.hid (digs_plain h hc)
    have hc2 : ((s[0].toNat : Int) == 45) = false:=by simp; omega
    go_wp2
    go_loop [5] (fun i=>∃ k : Nat,k≤s.size∧i = .int .i64 k∧Hid ((s.data.toList.drop k).all digB = s.data.toList.all digB)) (fun i=>s.size - (intOf i).toNat)
    case atStart=>exact ⟨0,Nat.zero_le _,rfl,rfl⟩
    case round =>
      obtain ⟨k,hk,rfl,hT⟩:=hrel
      by_cases hlt : k < s.size
      · rcases Nat.lt_or_ge s[k].toNat 48 with h1 | h1
        · have hE:=Lib.hid (parse_bad hD.out hlt (digB_low h1))
          go_wp2
          all_goals first
            | (go_ret2; exact ⟨ret_two hE.out,rfl⟩)
            | (exfalso; clear hT hE; simp at *; omega)
        · by_cases h2 : 57 < s[k].toNat
          · have hE:=Lib.hid (parse_bad hD.out hlt (digB_high h2))
            go_wp2
            all_goals first
              | (go_ret2; exact ⟨ret_two hE.out,rfl⟩)
              | (exfalso; clear hT hE; simp at *; omega)
          · have hE:=Lib.hid (dig_go hlt (digB_yes h1 (by omega)) hT.out)
            go_wp2
            all_goals first
              | (go_round
                 case rel=>exact ⟨k + 1,by omega,by go_num,hE.out⟩
                 case measure=>simp [intOf]; omega)
              | (exfalso; clear hT hE; simp at *; omega)
      · have hA:=Lib.hid (dig_end hlt hT.out)
        clear hT
        by_cases hz : s.size = 0
        · have hE:=Lib.hid (parse_empty hD.out hz)
          have hz1 : s.toList = []:=by rw [ByteArray.toList_eq]; exact List.eq_nil_of_length_eq_zero (by simpa using hz)
          have hz2 : s.toList.isEmpty = true:=by rw [hz1]; rfl
          go_wp2
          all_goals (go_ret2; exact ⟨ret_two hE.out,rfl⟩)
        have hpos : 0 < s.size:=by omega
        have hz1 : ¬ s.toList = []:=by rw [ByteArray.toList_eq,cons_byte hpos]; simp
        have hz2 : s.toList.isEmpty = false:=by rw [ByteArray.toList_eq,cons_byte hpos]; rfl
        by_cases hq : s[0].toNat = 48∧¬ s.data.toList = [48]
        · have hE:=Lib.hid (parse_zero hD.out hpos hq.1 hq.2)
          have hs1 : (!s.toList == [48]) = true:=by rw [ByteArray.toList_eq]; simp [hq.2]
          have hq1:=hq.1
          clear hq
          go_wp2
          go_ret2
          exact ⟨ret_two hE.out,rfl⟩
        have hZ:=Lib.hid (show s[0].toNat = 48→s.data.toList = [48] from fun h1=>Classical.byContradiction fun h2=>hq ⟨h1,h2⟩)
        have hU : s[0].toNat ≠ 48∨(s[0].toNat = 48∧(!s.toList == [48]) = false):=by
          by_cases h1 : s[0].toNat = 48
          · exact Or.inr ⟨h1,by rw [ByteArray.toList_eq,hZ.out h1]; rfl⟩
          · exact Or.inl h1
        clear hq
        by_cases hl : 13 < s.size
        · have hE:=Lib.hid (parse_long hD.out hpos hA.out hZ.out hl)
          rcases hU with hq | ⟨hq,hs1⟩
          all_goals
            go_wp2
            go_ret2
            exact ⟨ret_two hE.out,rfl⟩
        · rcases hU with hq | ⟨hq,hs1⟩
          all_goals
            go_wp2
            go_loop [6,7] (fun n i=>∃ k : Nat,k≤s.size∧i = .int .i64 k∧n = .int .i64 (valFrom 0 (s.data.toList.take k) : Nat)) (fun _ i=>s.size - (intOf i).toNat)
            case atStart=>exact ⟨0,Nat.zero_le _,rfl,rfl⟩
            case round =>
              obtain ⟨k,hk,rfl,rfl⟩:=hrel
              have hb:=val_bound hA.out (k:=k) (by omega)
              by_cases hlt : k < s.size
              · have hd:=digB_bd (all_at hA.out hlt)
                have hE:=Lib.hid (val_take hlt)
                go_wp2
                go_round
                case rel=>exact ⟨k + 1,by omega,by go_num,by rw [hE.out]; apply val_int; omega⟩
                case measure=>simp [intOf]; omega
              · have hk2 : s.data.toList.take k = s.data.toList:=List.take_of_length_le (by simp; omega)
                rw [hk2] at hb ⊢
                by_cases hv : 1099511627776 < valFrom 0 s.data.toList
                · have hE:=Lib.hid (parse_great hD.out hpos hA.out hZ.out hv)
                  go_wp2
                  go_ret2
                  exact ⟨ret_two hE.out,rfl⟩
                · have hE:=Lib.hid (parse_ok hD.out hpos hA.out hZ.out (by omega) (by omega))
                  rw [if_neg (by omega)] at hE
                  go_wp2
                  go_ret2
                  exact ⟨ret_two hE.out,rfl⟩
end Go.Proofs.YtfffpflflggonaaGreatDoor.text
namespace Go.Proofs.YtfffpflflggonaaGreatDoor.value
open text
def cutD : List UInt8→Option (List UInt8 × List UInt8)
  | []=>none
  | c :: r=>if c.toNat = 46 then some ([],r) else (cutD r).map fun x=>(c :: x.1,x.2)
theorem cutD_eq : ∀ {l a b : List UInt8},cutD l = some (a,b)→l = a ++ 46 :: b
  | [],a,b,h=>by cases h
  | c :: r,a,b,h=>by
    rw [cutD] at h
    split at h
    · rename_i hc
      simp only [Option.some.injEq,Prod.mk.injEq] at h
      obtain ⟨rfl,rfl⟩:=h
      rw [show c = 46 from UInt8.toNat_inj.1 hc]
      rfl
    · obtain ⟨⟨a',b'⟩,h1,h2⟩:=Option.map_eq_some_iff.1 h
      simp only [Prod.mk.injEq] at h2
      obtain ⟨rfl,rfl⟩:=h2
      rw [cutD_eq h1]
      rfl
theorem index_dot : ∀ l : List UInt8,(cutD l = none→Lib.index l [46] = -1)∧∀ a b,cutD l = some (a,b)→Lib.index l [46] = (a.length : Int)
  | []=>⟨fun _=>rfl,fun _ _ h=>by cases h⟩
  | c :: r=>by
    obtain ⟨i1,i2⟩:=index_dot r
    have hp : List.isPrefixOf [46] (c :: r) = decide (c.toNat = 46):=by
      simp only [List.isPrefixOf,Bool.and_true]
      rw [Bool.eq_iff_iff]
      simp only [beq_iff_eq,decide_eq_true_eq]
      constructor
      · intro e; rw [← e]; rfl
      · intro e; exact (UInt8.toNat_inj.1 (e.trans rfl)).symm
    rw [cutD,Lib.index,hp]
    by_cases hc : c.toNat = 46
    · rw [if_pos hc,if_pos (decide_eq_true hc)]
      refine ⟨(fun h=>by cases h),fun a b h=>?_⟩
      simp only [Option.some.injEq,Prod.mk.injEq] at h
      rw [← h.1]
      rfl
    · rw [if_neg hc,if_neg (by simp [hc])]
      refine ⟨fun h=>?_,fun a b h=>?_⟩
      · have : cutD r = none:=by simpa using h
        rw [i1 this]
        rfl
      · obtain ⟨⟨a',b'⟩,h1,h2⟩:=Option.map_eq_some_iff.1 h
        simp only [Prod.mk.injEq] at h2
        obtain ⟨rfl,rfl⟩:=h2
        rw [i2 _ _ h1,if_neg (by simp),List.length_cons]
        omega
theorem count_none {l : List UInt8} (h : cutD l = none) : Lib.count l [46] = 0:=Lib.count_miss ((index_dot l).1 h)
theorem count_some {l a b : List UInt8} (h : cutD l = some (a,b)) : Lib.count l [46] = 1 + Lib.count b [46]:=by
  have hi:=(index_dot l).2 a b h
  rw [Lib.count_hit (by simp) hi]
  congr 2
  rw [cutD_eq h]
  simp
theorem split_none {l : List UInt8} (h : cutD l = none) : Lib.split l [46] = [l]:=by rw [Lib.split,count_none h]; rfl
theorem split_some {l a b : List UInt8} (h : cutD l = some (a,b)) : Lib.split l [46] = a :: Lib.split b [46]:=by
  have hi:=(index_dot l).2 a b h
  rw [Lib.split,count_some h,Nat.add_comm,Lib.splitK,if_neg (by rw [hi]; simp),hi]
  have e:=cutD_eq h
  have e1 : l.take ((a.length : Int).toNat + 0) = a:=by rw [e]; simp
  have e2 : l.drop ((a.length : Int).toNat + [46].length) = b:=by rw [e]; simp
  have e3:=congrArg (Lib.splitK [46] 0 (Lib.count b [46])) e2
  rw [e1]
  exact congrArg (a :: ·) e3
def partN (l : List UInt8) : Option Int:=if (parseS l).2 = 0∧0≤(parseS l).1∧(parseS l).1≤999999 then some (parseS l).1 else none
def verS (l : List UInt8) : Option (Int × Int × Int) :=
  match cutD l with
  | none=>none
  | some (a,r)=>match cutD r with
    | none=>none
    | some (b,c)=>match cutD c with
      | some _=>none
      | none=>match partN a,partN b,partN c with
        | some x,some y,some z=>some (x,y,z)
        | _,_,_=>none
end Go.Proofs.YtfffpflflggonaaGreatDoor.value
