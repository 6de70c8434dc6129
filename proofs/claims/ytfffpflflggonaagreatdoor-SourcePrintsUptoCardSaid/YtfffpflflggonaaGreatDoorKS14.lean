/- The tokens of a text, step by step. No program in sight. The tokens of a source text: the lexer's Tokens. The condition that the tokens of a source text say, or the first error and its line. No program in sight. What the tokens of a text are like: words begin with a letter, signs with a sign, the last one alone is the end. No program in sight. Walks of the schema's functions and of the reference's. -/
import Derived.Test.YtfffpflflggonaaGreatDoorKS10
import Derived.Test.YtfffpflflggonaaGreatDoorKLexD
import Derived.Laws.AppendOwn
import Derived.Test.YtfffpflflggonaaGreatDoorKS2
import Derived.Test.YtfffpflflggonaaGreatDoorChecked
import Derived.Test.YtfffpflflggonaaGreatDoorKS0
import Derived.WalkKit
import Derived.WalkSpells
import Derived.WalkLawsBesides
import Derived.Deep.QuietTactic
import Derived.BigQuiet
import Derived.Lib.Hide
import Derived.LoopTactic
import Derived.Outline
namespace Go.Proofs.YtfffpflflggonaaGreatDoor.lex
open text value
theorem nextS_pos {l : List UInt8} {t : Tk} {n : Nat} (h : nextS l = .ok (t,n)) : 1≤n∧n≤l.length:=by
  cases l with
  | nil=>cases h
  | cons c r =>
    have hw:=spanN_le wordB r
    have hm:=spanN_le numB r
    rw [List.length_cons]
    cases hl : letB c with
    | true =>
      rw [nx_word hl] at h
      injection h with h
      injection h with _ h
      omega
    | false =>
      cases hn : numStart c r with
      | true =>
        rcases num_ways hl hn rfl with ⟨_,hx⟩ | ⟨_,_,hx⟩ | ⟨_,_,hx⟩
        · rw [hx] at h; injection h with h; injection h with _ h; omega
        · rw [hx] at h; injection h with h; injection h with _ h; omega
        · rw [hx] at h; cases h
      | false =>
        by_cases h34 : c.toNat = 34
        · rcases text_ways (r:=r) h34 with ⟨_,hx⟩ | ⟨k,hk,⟨_,hx⟩ | ⟨_,hx⟩ | ⟨b,_,hx⟩⟩
          · rw [hx] at h; cases h
          · rw [hx] at h; cases h
          · rw [hx] at h; cases h
          · have hk2:=lqS_le _ _ _ hk
            rw [hx] at h; injection h with h; injection h with _ h; omega
        · cases hs : signB c with
          | true =>
            rw [nx_sign hs] at h
            by_cases he : ((decide (c.toNat = 60) || decide (c.toNat = 62)) && eqB r) = true
            · rw [if_pos he] at h
              injection h with h
              injection h with _ h
              cases r with
              | nil=>simp [eqB] at he
              | cons d q=>rw [List.length_cons]; omega
            · rw [if_neg he] at h
              injection h with h
              injection h with _ h
              omega
          | false=>rw [nx_none hl hn h34 hs] at h; cases h
theorem tokF_cons (f : Nat) (c : UInt8) (r : List UInt8) (L : Int) : tokF (f + 1) (c :: r) L =
    (if c.toNat = 10 then tokF f r (L + 1) else if c.toNat = 32∨c.toNat = 9 then tokF f r L else if c.toNat = 35 then tokF f ((c :: r).drop (spanN lineB (c :: r))) L
      else match nextS (c :: r) with
        | .error e=>.error (e,L)
        | .ok (t,n)=>match tokF f ((c :: r).drop n) L with
          | .error e=>.error e
          | .ok l=>.ok (⟨t.k,t.t,t.n,L⟩ :: l)):=rfl
theorem span_hash {c : UInt8} {r : List UInt8} (h : c.toNat = 35) : spanN lineB (c :: r) = 1 + spanN lineB r:=span_cons (by unfold lineB; simp [h])
theorem tokF_fuel : ∀ (n : Nat) (l : List UInt8),l.length≤n→∀ (f g : Nat) (L : Int),l.length < f→l.length < g→tokF f l L = tokF g l L:=by
  intro n
  induction n with
  | zero =>
    intro l hl f g L hf hg
    have : l = []:=List.eq_nil_of_length_eq_zero (by omega)
    subst this
    cases f with
    | zero=>omega
    | succ f=>cases g with
      | zero=>omega
      | succ g=>rfl
  | succ n ih =>
    intro l hl f g L hf hg
    cases f with
    | zero=>omega
    | succ f=>cases g with
      | zero=>omega
      | succ g =>
        cases l with
        | nil=>rfl
        | cons c r =>
          rw [List.length_cons] at hl hf hg
          rw [tokF_cons,tokF_cons]
          by_cases h10 : c.toNat = 10
          · rw [if_pos h10,if_pos h10]; exact ih r (by omega) f g _ (by omega) (by omega)
          rw [if_neg h10,if_neg h10]
          by_cases h32 : c.toNat = 32∨c.toNat = 9
          · rw [if_pos h32,if_pos h32]; exact ih r (by omega) f g _ (by omega) (by omega)
          rw [if_neg h32,if_neg h32]
          by_cases h35 : c.toNat = 35
          · rw [if_pos h35,if_pos h35,span_hash h35]
            have hle:=spanN_le lineB r
            refine ih _ ?_ f g _ ?_ ?_ <;> rw [List.length_drop,List.length_cons] <;> omega
          rw [if_neg h35,if_neg h35]
          cases hx : nextS (c :: r) with
          | error e=>rfl
          | ok v =>
            obtain ⟨t,m⟩:=v
            have hp:=nextS_pos hx
            rw [List.length_cons] at hp
            simp only
            rw [ih ((c :: r).drop m) (by rw [List.length_drop,List.length_cons]; omega) f g L (by rw [List.length_drop,List.length_cons]; omega) (by rw [List.length_drop,List.length_cons]; omega)]
def tokS (l : List UInt8) (L : Int) : Except (Int × Int) (List Tok):=tokF (l.length + 1) l L
theorem tokS_of (l : List UInt8) (f : Nat) (L : Int) (h : l.length < f) : tokF f l L = tokS l L:=tokF_fuel l.length l (Nat.le_refl _) f (l.length + 1) L h (by omega)
def preT (acc : List Tok) : Except (Int × Int) (List Tok)→Except (Int × Int) (List Tok)
  | .error e=>.error e
  | .ok l=>.ok (acc ++ l)
theorem preT_nil (x : Except (Int × Int) (List Tok)) : preT [] x = x:=by cases x <;> rfl
theorem preT_pre (a b : List Tok) (x : Except (Int × Int) (List Tok)) : preT a (preT b x) = preT (a ++ b) x:=by
  cases x
  · rfl
  · simp [preT]
theorem tokS_nil (L : Int) : tokS [] L = .ok [⟨6,[],0,L⟩]:=rfl
theorem tokS_nl {c : UInt8} {r : List UInt8} {L : Int} (h : c.toNat = 10) : tokS (c :: r) L = tokS r (L + 1):=by
  rw [tokS,List.length_cons,tokF_cons,if_pos h]; rfl
theorem tokS_sp {c : UInt8} {r : List UInt8} {L : Int} (h : c.toNat = 32∨c.toNat = 9) : tokS (c :: r) L = tokS r L:=by
  rw [tokS,List.length_cons,tokF_cons,if_neg (by omega),if_pos h]; rfl
theorem tokS_hash {c : UInt8} {r : List UInt8} {L : Int} (h : c.toNat = 35) : tokS (c :: r) L = tokS ((c :: r).drop (spanN lineB (c :: r))) L:=by
  rw [tokS,List.length_cons,tokF_cons,if_neg (by omega),if_neg (by omega),if_pos h]
  apply tokS_of
  rw [List.length_drop,List.length_cons,span_hash h]
  omega
def tokB (c : UInt8) : Prop:=c.toNat ≠ 10∧c.toNat ≠ 32∧c.toNat ≠ 9∧c.toNat ≠ 35
theorem tokS_err {c : UInt8} {r : List UInt8} {L e : Int} (h : tokB c) (hx : nextS (c :: r) = .error e) : tokS (c :: r) L = .error (e,L):=by
  obtain ⟨h1,h2,h3,h4⟩:=h
  rw [tokS,List.length_cons,tokF_cons,if_neg h1,if_neg (by omega),if_neg h4,hx]
theorem tokS_tok {c : UInt8} {r : List UInt8} {L : Int} {t : Tk} {n : Nat} (h : tokB c) (hx : nextS (c :: r) = .ok (t,n)) : tokS (c :: r) L = preT [⟨t.k,t.t,t.n,L⟩] (tokS ((c :: r).drop n) L):=by
  obtain ⟨h1,h2,h3,h4⟩:=h
  have hp:=nextS_pos hx
  rw [tokS,List.length_cons,tokF_cons,if_neg h1,if_neg (by omega),if_neg h4,hx]
  simp only
  rw [tokS_of ((c :: r).drop n) _ L (by rw [List.length_drop,List.length_cons]; omega)]
  cases tokS ((c :: r).drop n) L <;> rfl
theorem toksS_ok {s : List UInt8} (h : ¬ 30000 < s.length) : toksS s = tokS s 1:=by rw [toksS,if_neg h]; rfl
theorem toksS_long {s : List UInt8} (h : 30000 < s.length) : toksS s = .error (4,0):=by rw [toksS,if_pos h]
def TokAt (l : List UInt8) (p : Nat) (L : Int) (acc : List Tok) : Prop:=tokS l 1 = preT acc (tokS (l.drop p) L)
theorem TokAt.start (l : List UInt8) : TokAt l 0 1 []:=by unfold TokAt; rw [preT_nil]; rfl
theorem TokAt.nl {s : ByteArray} {p : Nat} {L : Int} {acc : List Tok} (h : TokAt s.data.toList p L acc) (hp : p < s.size) (hc : s[p].toNat = 10) : TokAt s.data.toList (p + 1) (L + 1) acc:=by
  unfold TokAt at *; rw [h,drop_byte s p hp,tokS_nl hc]
theorem TokAt.sp {s : ByteArray} {p : Nat} {L : Int} {acc : List Tok} (h : TokAt s.data.toList p L acc) (hp : p < s.size) (hc : s[p].toNat = 32∨s[p].toNat = 9) : TokAt s.data.toList (p + 1) L acc:=by
  unfold TokAt at *; rw [h,drop_byte s p hp,tokS_sp hc]
theorem TokAt.hash {s : ByteArray} {p : Nat} {L : Int} {acc : List Tok} (h : TokAt s.data.toList p L acc) (hp : p < s.size) (hc : s[p].toNat = 35) : TokAt s.data.toList (p + spanN lineB (s.data.toList.drop p)) L acc:=by
  unfold TokAt at *; rw [h,drop_byte s p hp,tokS_hash hc,← drop_byte s p hp,List.drop_drop]
theorem TokAt.err {s : ByteArray} {p : Nat} {L e : Int} {acc : List Tok} (h : TokAt s.data.toList p L acc) (hp : p < s.size) (hc : tokB s[p]) (hx : nextS (s.data.toList.drop p) = .error e) : tokS s.data.toList 1 = .error (e,L):=by
  unfold TokAt at *
  rw [drop_byte s p hp] at hx
  rw [h,drop_byte s p hp,tokS_err hc hx]; rfl
theorem TokAt.tok {s : ByteArray} {p : Nat} {L : Int} {acc : List Tok} {t : Tk} {n : Nat} (h : TokAt s.data.toList p L acc) (hp : p < s.size) (hc : tokB s[p]) (hx : nextS (s.data.toList.drop p) = .ok (t,n)) : TokAt s.data.toList (p + n) L (acc ++ [⟨t.k,t.t,t.n,L⟩]):=by
  unfold TokAt at *
  rw [drop_byte s p hp] at hx
  rw [h,drop_byte s p hp,tokS_tok hc hx,preT_pre,← drop_byte s p hp,List.drop_drop]
theorem TokAt.done {s : ByteArray} {p : Nat} {L : Int} {acc : List Tok} (h : TokAt s.data.toList p L acc) (hp : ¬ p < s.size) : tokS s.data.toList 1 = .ok (acc ++ [⟨6,[],0,L⟩]):=by
  unfold TokAt at h
  rw [h,List.drop_eq_nil_of_le (by simp; omega),tokS_nil]; rfl
end Go.Proofs.YtfffpflflggonaaGreatDoor.lex
namespace Go.Proofs.YtfffpflflggonaaGreatDoor.lex
open Go.RowKit text value
def Tok.row (t : Tok) : List Value:=[.int .i64 t.k,.string ⟨t.t.toArray⟩,.int .i64 t.n,.int .i64 t.line]
def rowsT (ts : List Tok) : List Value:=(ts.map Tok.row).flatten
theorem rowsT_snoc (acc : List Tok) (t : Tok) : rowsT (acc ++ [t]) = rowsT acc ++ t.row:=by simp [rowsT]
theorem infoTok : (Tryz.prog.info? 61).map (fun i=>(i.zero,i.size,i.bytes)) = some (some (.agg #[.int .i64 0,.string ⟨#[]⟩,.int .i64 0,.int .i64 0]),4,40):=by kernel_rfl
def TokPost (l : List UInt8) (w : World) (e : Ending) (w' : World) : Prop :=
  Below w.heap.size w w'∧match toksS l with
    | .error (q,L)=>e = .returned (.tuple #[.slice none 0 0,.int .i64 L,.int .i64 q])
    | .ok ts=>∃ v,e = .returned (.tuple #[v,.int .i64 0,.int .i64 0])∧w'.ownsRow w.heap.size 61 4 v ts.length (rowsT ts)
theorem TokPost.bad {l : List UInt8} {w w' : World} {q L : Int} (h : toksS l = .error (q,L)) (hb : Below w.heap.size w w') : TokPost l w (.returned (.tuple #[.slice none 0 0,.int .i64 L,.int .i64 q])) w':=by
  unfold TokPost; rw [h]; exact ⟨hb,rfl⟩
theorem TokPost.good {l : List UInt8} {w w' : World} {ts : List Tok} (h : toksS l = .ok ts) (hb : Below w.heap.size w w') {v : Value} (ho : w'.ownsRow w.heap.size 61 4 v ts.length (rowsT ts)) : TokPost l w (.returned (.tuple #[v,.int .i64 0,.int .i64 0])) w':=by
  unfold TokPost; rw [h]; exact ⟨hb,v,rfl,ho⟩
theorem row_of {t : ByteArray} {tk : Tk} (h : t.data.toList = tk.t) (L : Int) : Tok.row ⟨tk.k,tk.t,tk.n,L⟩ = [.int .i64 tk.k,.string t,.int .i64 tk.n,.int .i64 L]:=by
  unfold Tok.row
  rw [← h]
theorem owns_below {w u : World} {base : Nat} {v : Value} {n : Nat} {xs : List Value} {e : TypeId} {sz : Nat} (h : w.ownsRow base e sz v n xs) (hb : Below w.heap.size w u) : u.ownsRow base e sz v n xs :=
  h.kept (grown_of_below hb none) (by cases v.ownBlock <;> simp)
theorem below_append {w w2 w3 : World} {base : Nat} {v : Value} {n : Nat} {xs : List Value} {e : TypeId} {sz : Nat} (hB : Below base w w2) (ho : w2.ownsRow base e sz v n xs) (hg : w2.grownBy w3 v.ownBlock) (hb : base≤w2.heap.size) : Below base w w3 :=
  hB.grown hg hb (fun k hk=>(ho.lt k hk).1)
set_option maxRecDepth 100000 in
set_option maxHeartbeats 8000000 in
theorem tokens_any (s : ByteArray) (w : World) (hs : s.size≤140737488355328) (hT : Tabs w) :
    Calls Tryz.prog 42 #[.string s] w (TokPost s.data.toList w):=by
  by_cases hl : 30000 < s.size
  · have hE:=Lib.hid (TokPost.bad (w:=w) (w':=w) (toksS_long (s:=s.data.toList) (by simpa using hl)) (Below.refl _ _))
    go_enter Tryz.func42,Tryz.ntmps42
    go_wp2
    go_step3
    go_wp2
    try rw [Exit.noGoto_ret]
    go_ret3
    exact hE.out
  have hok:=Lib.hid (toksS_ok (s:=s.data.toList) (by simpa using hl))
  replace hT:=Lib.hid hT
  obtain ⟨i0,hi,hz0,hz1,hz2⟩:=info_parts infoTok
  go_enter Tryz.func42,Tryz.ntmps42
  go_wp2
  go_step3
  go_wp2
  go_step3
  go_wp2
  go_loopw [5,6,7] (fun v L i wr=>∃ (p : Nat) (L' : Int) (acc : List Tok),i = .int .i64 p∧p≤s.size∧L = .int .i64 L'∧1≤L'∧L'≤p + 1∧acc.length≤p∧Hid (TokAt s.data.toList p L' acc)∧Hid (wr.ownsRow w.heap.size 61 4 v acc.length (rowsT acc))∧Hid (Below w.heap.size w wr)) (fun _ _ i _=>s.size - (intOf i).toNat)
  case atStart=>exact ⟨0,1,[],rfl,Nat.zero_le _,rfl,by omega,by omega,Nat.le_refl _,TokAt.start _,World.ownsRow_nil _ _ _ _,Below.refl _ _⟩
  case round =>
    obtain ⟨p,L,acc,rfl,hp,rfl,hL0,hL1,hacc,hA,hown,hB⟩:=hrel
    obtain ⟨va,vc,rfl⟩:=owns_slice hown.out
    have hBz:=hB.out.size
    by_cases hlt : p < s.size
    · by_cases h10 : s[p].toNat = 10
      · have hN:=Lib.hid (hA.out.nl hlt h10)
        have q10:=eq_yes (show (s[p].toNat : Int) = 10 by omega)
        clear h10 hA
        go_wp2
        go_roundw
        case rel=>exact ⟨p + 1,L + 1,acc,by go_num,by omega,rfl,by omega,by omega,by omega,hN.out,hown.out,hB.out⟩
        case measure=>simp [intOf]; omega
      have q10:=eq_no (show (s[p].toNat : Int) ≠ 10 by omega)
      by_cases h32 : s[p].toNat = 32
      · have hN:=Lib.hid (hA.out.sp hlt (Or.inl h32))
        have q32:=eq_yes (show (s[p].toNat : Int) = 32 by omega)
        clear h10 h32 hA
        go_wp2
        go_roundw
        case rel=>exact ⟨p + 1,L,acc,by go_num,by omega,rfl,by omega,by omega,by omega,hN.out,hown.out,hB.out⟩
        case measure=>simp [intOf]; omega
      have q32:=eq_no (show (s[p].toNat : Int) ≠ 32 by omega)
      by_cases h9 : s[p].toNat = 9
      · have hN:=Lib.hid (hA.out.sp hlt (Or.inr h9))
        have q9:=eq_yes (show (s[p].toNat : Int) = 9 by omega)
        clear h10 h32 h9 hA
        go_wp2
        go_roundw
        case rel=>exact ⟨p + 1,L,acc,by go_num,by omega,rfl,by omega,by omega,by omega,hN.out,hown.out,hB.out⟩
        case measure=>simp [intOf]; omega
      have q9:=eq_no (show (s[p].toNat : Int) ≠ 9 by omega)
      by_cases h35 : s[p].toNat = 35
      · have hN:=Lib.hid (hA.out.hash hlt h35)
        have hm1:=spanN_le lineB (s.data.toList.drop p)
        have hm2 : 1≤spanN lineB (s.data.toList.drop p):=by rw [drop_byte s p hlt,span_hash h35]; omega
        have q35:=eq_yes (show (s[p].toNat : Int) = 35 by omega)
        clear h10 h32 h9 h35 hA
        go_wp2_with fail
        refine (span_line (s.extract p s.size) _ (by unfold maxLen; simp; omega)).mono ?_
        rintro e w1 ⟨rfl,rfl⟩
        rw [Lib.extract_to_end]
        generalize spanN lineB (s.data.toList.drop p) = m at hN hm1 hm2 ⊢
        have hm3 : p + m≤s.size:=by simp at hm1; omega
        clear hm1
        go_wp2
        go_roundw
        case rel=>exact ⟨p + m,L,acc,by go_num,by omega,rfl,by omega,by omega,by omega,hN.out,hown.out,hB.out⟩
        case measure=>simp [intOf]; omega
      have q35:=eq_no (show (s[p].toNat : Int) ≠ 35 by omega)
      have hK:=Lib.hid (show tokB s[p] from ⟨h10,h32,h9,h35⟩)
      clear h10 h32 h9 h35
      go_wp2_with fail
      refine (next_any (s.extract p s.size) _ (by simp; omega) (by simp; omega) (hT.out.below hB.out)).mono ?_
      rintro e w2 ⟨k,t,x,n,err,rfl,hN,hb2⟩
      rw [Lib.extract_to_end] at hN
      have hB2:=Lib.hid (hB.out.trans (hb2.mono hBz))
      have hown2:=Lib.hid (owns_below hown.out hb2)
      have hBz2:=hB2.out.size
      clear hb2 hown hB
      unfold NextIs at hN
      cases hx : nextS (s.data.toList.drop p) with
      | error q =>
        rw [hx] at hN
        obtain ⟨rfl,hq⟩:=hN
        have hE:=Lib.hid (TokPost.bad (w:=w) (w':=w2.alloc (.cells #[.int .i64 k,.string t,.int .i64 x,.int .i64 0] 61)) (hok.out.trans (hA.out.err hlt hK.out hx)) (hB2.out.alloc hBz2 _))
        have qe:=ne_yes hq
        clear hx hA hK hq
        go_wp2
        try rw [Exit.noGoto_ret]
        go_ret3
        exact hE.out
      | ok v =>
        obtain ⟨tk,m⟩:=v
        rw [hx] at hN
        obtain ⟨rfl,rfl,ht,rfl,hn⟩:=hN
        have hm:=nextS_pos hx
        rw [List.length_drop] at hm
        have hm2 : p + m≤s.size:=by have:=hm.2; simp at this; omega
        have hm1:=hm.1
        have hA2:=Lib.hid (hA.out.tok hlt hK.out hx)
        have hrow:=Lib.hid (row_of ht L)
        obtain rfl : n = (m : Int):=by omega
        clear hx hA hK ht hm hn
        have hown3:=Lib.hid ((hown2.out.alloc (.cells #[.int .i64 tk.k,.string t,.int .i64 tk.n,.int .i64 L] 61)).alloc (.cells #[.int .i64 tk.k,.string t,.int .i64 tk.n,.int .i64 L] 61))
        have hB3:=Lib.hid ((hB2.out.alloc hBz2 (.cells #[.int .i64 tk.k,.string t,.int .i64 tk.n,.int .i64 L] 61)).alloc (by simp; omega) (.cells #[.int .i64 tk.k,.string t,.int .i64 tk.n,.int .i64 L] 61))
        go_wp2_with (at_builtin; refine wpList_append_own _ rfl _ _ 63 rfl w.heap.size 61 i0 (.agg #[.int .i64 0,.string ⟨#[]⟩,.int .i64 0,.int .i64 0]) 4 40 Tryz.underlying63 hi hz0 hz1 hz2 rfl (by decide) _ acc.length _ rfl hown3.out ⟨w2.heap.size + 1,0,none⟩ 1 1 [.int .i64 tk.k,.string t,.int .i64 tk.n,.int .i64 L] rfl rfl (World.news_of_block (cs:=#[.int .i64 tk.k,.string t,.int .i64 tk.n,.int .i64 L]) (t:=61) (fr:=(0,0)) (Own.new' (by simp))) (by simp; exact ⟨rfl,rfl,rfl,rfl⟩) (by unfold maxLen; omega) (by omega) (by simp; omega) ?_; intro v' w4 hown4 hgrow hnil; clear hnil; have hB4:=Lib.hid (below_append hB3.out hown3.out hgrow (by simp; omega)); rw [← hrow.out,← rowsT_snoc] at hown4; replace hown4:=Lib.hid hown4; clear hgrow)
        go_roundw
        case rel=>exact ⟨p + m,L,acc ++ [⟨tk.k,tk.t,tk.n,L⟩],by go_num,by omega,rfl,by omega,by omega,by simp; omega,hA2,by rw [List.length_append]; exact hown4,hB4⟩
        case measure=>simp [intOf]; omega
    · have hE:=Lib.hid (hok.out.trans (hA.out.done hlt))
      have hown3:=Lib.hid (hown.out.alloc (.cells #[.int .i64 6,.string ⟨#[]⟩,.int .i64 0,.int .i64 L] 61))
      have hB3:=Lib.hid (hB.out.alloc hBz (.cells #[.int .i64 6,.string ⟨#[]⟩,.int .i64 0,.int .i64 L] 61))
      go_wp2_with (at_builtin; refine wpList_append_own _ rfl _ _ 63 rfl w.heap.size 61 i0 (.agg #[.int .i64 0,.string ⟨#[]⟩,.int .i64 0,.int .i64 0]) 4 40 Tryz.underlying63 hi hz0 hz1 hz2 rfl (by decide) _ acc.length _ rfl hown3.out ⟨wr.heap.size,0,none⟩ 1 1 [.int .i64 6,.string ⟨#[]⟩,.int .i64 0,.int .i64 L] rfl rfl (World.news_of_block (cs:=#[.int .i64 6,.string ⟨#[]⟩,.int .i64 0,.int .i64 L]) (t:=61) (fr:=(0,0)) (Own.new' rfl)) (by simp; exact ⟨rfl,rfl,rfl,rfl⟩) (by unfold maxLen; omega) (by omega) (by simp; omega) ?_; intro v' w4 hown4 hgrow hnil; clear hnil; have hB4:=Lib.hid (below_append hB3.out hown3.out hgrow (by simp; omega)); rw [show [Value.int .i64 6,.string ⟨#[]⟩,.int .i64 0,.int .i64 L] = Tok.row ⟨6,[],0,L⟩ from rfl,← rowsT_snoc] at hown4; replace hown4:=Lib.hid hown4; clear hgrow)
      go_ret3
      exact TokPost.good hE.out hB4.out (by rw [List.length_append]; exact hown4.out)
end Go.Proofs.YtfffpflflggonaaGreatDoor.lex
namespace Go.Proofs.YtfffpflflggonaaGreatDoor.src
open lex value text
inductive PE where
  | mk (op : Int) (kind name : List UInt8) (vals : List VV) (kids : List PE)
def PE.op : PE→Int
  | .mk op _ _ _ _=>op
def PE.kids : PE→List PE
  | .mk _ _ _ _ ks=>ks
abbrev R (α : Type):=Except (Int × Int) (α × List Tok)
def bnd {α β : Type} (x : R α) (f : α→List Tok→R β) : R β :=
  match x with
  | .error e=>.error e
  | .ok (a,r)=>f a r
theorem bnd_ok {α β : Type} (a : α) (r : List Tok) (f : α→List Tok→R β) : bnd (.ok (a,r)) f = f a r:=rfl
def sNot : List UInt8:=[110,111,116]
def sAnd : List UInt8:=[97,110,100]
def sOr : List UInt8:=[111,114]
def sTrue : List UInt8:=[116,114,117,101]
def sFalse : List UInt8:=[102,97,108,115,101]
def sMember : List UInt8:=[109,101,109,98,101,114]
def sDot : List UInt8:=[46]
def sComma : List UInt8:=[44]
def sLb : List UInt8:=[91]
def sRb : List UInt8:=[93]
def sLp : List UInt8:=[40]
def sRp : List UInt8:=[41]
def isT (s : List UInt8) (t : Tok) : Bool:=(t.k == 1 || t.k == 5) && t.t == s
def isN (s : List UInt8) : List Tok→Bool
  | []=>false
  | t :: _=>isT s t
def takeS (k : Int) : List Tok→R Tok
  | []=>.error (1,0)
  | t :: r=>if t.k = k then .ok (t,r) else .error (1,t.line)
def needS (s : List UInt8) : List Tok→R Unit
  | []=>.error (1,0)
  | t :: r=>if isT s t then .ok ((),r) else .error (1,t.line)
def placeS : List (List UInt8)→Nat→Tok→Option Nat
  | [],_,_=>none
  | s :: l,i,t=>if isT s t then some i else placeS l (i + 1) t
def choiceS (l : List (List UInt8)) : List Tok→R Nat
  | []=>.error (1,0)
  | t :: r=>match placeS l 0 t with
    | some i=>.ok (i,r)
    | none=>.error (1,t.line)
def textsS : List Tok→R (List (List UInt8))
  | []=>.error (1,0)
  | [t]=>if t.k = 3 then .ok ([t.t],[]) else .error (1,t.line)
  | t :: c :: r=>if t.k = 3 then (if isT sComma c then bnd (textsS r) fun l r'=>.ok (t.t :: l,r') else .ok ([t.t],c :: r)) else .error (1,t.line)
def valueS : List Tok→R VV
  | []=>.error (1,0)
  | t :: r =>
    if isT sTrue t then .ok (⟨1,1,[],[]⟩,r)
    else if isT sFalse t then .ok (⟨1,0,[],[]⟩,r)
    else if t.k = 2 then .ok (⟨2,t.n,[],[]⟩,r)
    else if t.k = 3 then .ok (⟨3,0,t.t,[]⟩,r)
    else if t.k = 4 then .ok (⟨4,0,t.t,[]⟩,r)
    else if isT sLb t then
      match r with
      | []=>.error (1,0)
      | u :: _=>if u.k = 3 then bnd (textsS r) fun l r'=>bnd (needS sRb r') fun _ r''=>.ok (⟨5,0,[],l⟩,r'') else bnd (needS sRb r) fun _ r''=>.ok (⟨5,0,[],[]⟩,r'')
    else .error (1,t.line)
def valuesF : Nat→List Tok→R (List VV)
  | 0,_=>.error (1,0)
  | f + 1,ts=>bnd (valueS ts) fun v r =>
    match r with
    | []=>.ok ([v],[])
    | c :: r'=>if isT sComma c then bnd (valuesF f r') fun l r''=>.ok (v :: l,r'') else .ok ([v],c :: r')
def valuesS (ts : List Tok) : R (List VV):=valuesF ts.length ts
def tests10 : List (List UInt8):=[[101,120,105,115,116,115],[105,115],[105,110],[115,116,97,114,116,115],[101,110,100,115],[99,111,110,116,97,105,110,115],[60],[60,61],[62],[62,61]]
def argS (i : Nat) (ts : List Tok) : R (List VV) :=
  if i = 0 then .ok ([],ts)
  else if i = 2 then bnd (needS sLb ts) fun _ r=>bnd (valuesS r) fun l r'=>bnd (needS sRb r') fun _ r''=>.ok (l,r'')
  else if 3≤i∧i≤5 then bnd (takeS 3 ts) fun t r=>.ok ([⟨3,0,t.t,[]⟩],r)
  else bnd (valueS ts) fun v r=>.ok ([v],r)
def testS (ts : List Tok) : R PE :=
  match ts with
  | []=>.error (1,0)
  | t :: r =>
    if isT sTrue t then .ok (.mk 1 [] [] [] [],r)
    else if isT sMember t then bnd (takeS 1 r) fun n r'=>.ok (.mk 5 [] n.t [] [],r')
    else bnd (takeS 1 ts) fun k r1=>bnd (needS sDot r1) fun _ r2=>bnd (takeS 1 r2) fun n r3=>bnd (choiceS tests10 r3) fun i r4=>bnd (argS i r4) fun l r5=>.ok (.mk (6 + i) k.t n.t l [],r5)
def flatE (op : Int) (x : PE) : List PE:=if x.op = op then x.kids else [x]
def loopF (part : List Tok→R PE) (op : Int) (word : List UInt8) : Nat→List PE→PE→List Tok→R PE
  | 0,_,_,_=>.error (1,0)
  | f + 1,acc,x,r=>if isN word r then bnd (part r.tail) fun y r'=>loopF part op word f (acc ++ flatE op x) y r' else .ok (.mk op [] [] [] (acc ++ flatE op x),r)
def chainF (part : List Tok→R PE) (op : Int) (word : List UInt8) (f : Nat) (ts : List Tok) : R PE :=
  bnd (part ts) fun x r=>if isN word r then loopF part op word f [] x r else .ok (x,r)
def notF : Nat→Nat→List Tok→R PE
  | 0,_,_=>.error (1,0)
  | _ + 1,_,[]=>.error (1,0)
  | f + 1,o,t :: r =>
    if isT sNot t then
      if 100 < o then .error (18,t.line) else bnd (notF f (o + 1) r) fun x r'=>.ok (.mk 4 [] [] [] [x],r')
    else if isT sLp t then
      if 100 < o then .error (18,t.line) else bnd (chainF (chainF (notF f (o + 1)) 2 sAnd f) 3 sOr f r) fun x r'=>bnd (needS sRp r') fun _ r''=>.ok (x,r'')
    else testS (t :: r)
def orF (f o : Nat) (ts : List Tok) : R PE:=chainF (chainF (notF f o) 2 sAnd f) 3 sOr f ts
def condS (ts : List Tok) : R PE:=bnd (orF ts.length 0 ts) fun x r=>bnd (takeS 6 r) fun _ r'=>.ok (x,r')
end Go.Proofs.YtfffpflflggonaaGreatDoor.src
namespace Go.Proofs.YtfffpflflggonaaGreatDoor.src
open lex value text
structure TokOk (t : Tok) : Prop where
  word : t.k = 1→∃ c r,t.t = c :: r∧letB c = true
  sign : t.k = 5→∃ c r,t.t = c :: r∧signB c = true
  lo : 1≤t.k
  hi : t.k≤5
  few : t.t.length≤30000
def ToksOk (ts : List Tok) : Prop:=∃ i e,ts = i ++ [e]∧e.k = 6∧∀ t∈i,TokOk t
theorem take_few {α : Type} (l : List α) (n : Nat) : (l.take n).length≤l.length:=by rw [List.length_take]; omega
theorem next_ok {c : UInt8} {r : List UInt8} {t : Tk} {n : Nat} (h : nextS (c :: r) = .ok (t,n)) (hl : (c :: r).length≤30000) (L : Int) : TokOk ⟨t.k,t.t,t.n,L⟩:=by
  have hf : ∀ n,((c :: r).take n).length≤30000:=fun n=>Nat.le_trans (take_few _ _) hl
  cases hl2 : letB c with
  | true =>
    rw [nx_word hl2] at h
    injection h with h; injection h with h1 h2; subst h1
    exact ⟨fun _=>⟨c,r.take (spanN wordB r),by rw [Nat.add_comm,List.take_succ_cons],hl2⟩,fun h=>by simp at h,by simp,by simp,hf _⟩
  | false =>
    cases hn : numStart c r with
    | true =>
      rcases num_ways hl2 hn rfl with ⟨_,hx⟩ | ⟨_,_,hx⟩ | ⟨_,_,hx⟩
      · rw [hx] at h; injection h with h; injection h with h1 h2; subst h1
        exact ⟨fun h=>by simp at h,fun h=>by simp at h,by simp,by simp,hf _⟩
      · rw [hx] at h; injection h with h; injection h with h1 h2; subst h1
        exact ⟨fun h=>by simp at h,fun h=>by simp at h,by simp,by simp,by simp⟩
      · rw [hx] at h; cases h
    | false =>
      by_cases h34 : c.toNat = 34
      · rcases text_ways (r:=r) h34 with ⟨_,hx⟩ | ⟨k,hk,⟨_,hx⟩ | ⟨_,hx⟩ | ⟨b,hv,hx⟩⟩
        · rw [hx] at h; cases h
        · rw [hx] at h; cases h
        · rw [hx] at h; cases h
        · rw [hx] at h; injection h with h; injection h with h1 h2; subst h1
          refine ⟨fun h=>by simp at h,fun h=>by simp at h,by simp,by simp,?_⟩
          have hvb : validS b = true:=by
            unfold unquoteV at hv
            split at hv
            · simp at hv
            · rename_i b' _
              split at hv
              · rename_i hb
                have : b' = b:=by simpa using hv
                rw [← this]
                exact hb
              · simp at hv
          unfold validS at hvb
          simp only [Bool.and_eq_true,decide_eq_true_eq] at hvb
          have:=hvb.1.1
          show List.length b≤30000
          omega
      · cases hs : signB c with
        | true =>
          rw [nx_sign hs] at h
          by_cases he : ((decide (c.toNat = 60) || decide (c.toNat = 62)) && eqB r) = true
          · rw [if_pos he] at h
            injection h with h; injection h with h1 h2; subst h1
            exact ⟨fun h=>by simp at h,fun _=>⟨c,r.take 1,by simp,hs⟩,by simp,by simp,hf _⟩
          · rw [if_neg he] at h
            injection h with h; injection h with h1 h2; subst h1
            exact ⟨fun h=>by simp at h,fun _=>⟨c,[],by simp,hs⟩,by simp,by simp,hf _⟩
        | false=>rw [nx_none hl2 hn h34 hs] at h; cases h
theorem tokF_good : ∀ (f : Nat) (l : List UInt8) (L : Int) (ts : List Tok),l.length≤30000→tokF f l L = .ok ts→ToksOk ts
  | 0,l,L,ts,_,h=>by
    rw [tokF] at h
    injection h with h
    exact ⟨[],_,h.symm,rfl,fun t ht=>by cases ht⟩
  | f + 1,[],L,ts,_,h=>by
    rw [tokF] at h
    injection h with h
    exact ⟨[],_,h.symm,rfl,fun t ht=>by cases ht⟩
  | f + 1,c :: r,L,ts,hl,h=>by
    have hr : r.length≤30000:=by rw [List.length_cons] at hl; omega
    rw [tokF_cons] at h
    split at h
    · exact tokF_good f _ _ _ hr h
    · split at h
      · exact tokF_good f _ _ _ hr h
      · split at h
        · exact tokF_good f _ _ _ (by rw [List.length_drop]; omega) h
        · split at h
          · cases h
          · rename_i t n hx
            split at h
            · cases h
            · rename_i l' hy
              injection h with h
              subst h
              obtain ⟨i,e,rfl,he,hi⟩:=tokF_good f _ _ _ (by rw [List.length_drop]; omega) hy
              exact ⟨_ :: i,e,rfl,he,fun u hu=>(List.mem_cons.1 hu).elim (fun h=>by rw [h]; exact next_ok hx hl L) (hi u)⟩
theorem toks_good {l : List UInt8} {ts : List Tok} (h : toksS l = .ok ts) : ToksOk ts:=by
  unfold toksS at h
  split at h
  · cases h
  · exact tokF_good _ _ _ _ (by omega) h
theorem ToksOk.at {ts : List Tok} (h : ToksOk ts) {p : Nat} (hp : p < ts.length) : (p + 1 < ts.length∧TokOk ts[p])∨(p + 1 = ts.length∧ts[p].k = 6):=by
  obtain ⟨i,e,rfl,he,hi⟩:=h
  rw [List.length_append,List.length_singleton] at hp ⊢
  by_cases h1 : p < i.length
  · refine Or.inl ⟨by omega,?_⟩
    rw [List.getElem_append_left h1]
    exact hi _ (List.getElem_mem h1)
  · obtain rfl : p = i.length:=by omega
    refine Or.inr ⟨by omega,?_⟩
    rw [List.getElem_append_right (by omega)]
    simpa using he
theorem ToksOk.pos {ts : List Tok} (h : ToksOk ts) : 0 < ts.length:=by
  obtain ⟨i,e,rfl,-,-⟩:=h
  simp
theorem ToksOk.drop {ts : List Tok} (h : ToksOk ts) {p : Nat} (hp : p < ts.length) : ToksOk (ts.drop p):=by
  obtain ⟨i,e,rfl,he,hi⟩:=h
  rw [List.length_append,List.length_singleton] at hp
  refine ⟨i.drop p,e,by rw [List.drop_append_of_le_length (by omega)],he,fun t ht=>hi t (List.mem_of_mem_drop ht)⟩
def wordL (s : List UInt8) : Prop:=∃ c r,s = c :: r∧letB c = true
theorem isT_end {s : List UInt8} {t : Tok} (ht : t.k = 6) : isT s t = false:=by unfold isT; rw [ht]; rfl
end Go.Proofs.YtfffpflflggonaaGreatDoor.src
namespace Go.Proofs.YtfffpflflggonaaGreatDoor.schema
open Go.RowKit
structure DD where
  kind : ByteArray
  name : ByteArray
  type : Int
def DD.row (d : DD) : List Value:=[.string d.kind,.string d.name,.int .i64 d.type]
def typeOf (kind name : List UInt8) : List DD→Int
  | []=>if name == [107,101,121] then 3 else 0
  | d :: r=>if d.kind.toList == kind && d.name.toList == name then d.type else typeOf kind name r
theorem ret_int {k : IntKind} {a b : Int} (h : a = b) : Ending.returned (.int k a) = .returned (.int k b):=by rw [h]
def strRow (s : ByteArray) : List Value:=[.string s]
def hasS (s : List UInt8) : List ByteArray→Bool
  | []=>false
  | x :: r=>x.toList == s || hasS s r
theorem str_cell {m : Mem} {l : List ByteArray} {blk off : Nat} (hr : ∀ i r,(l.map strRow)[i]? = some r→∀ j x,r[j]? = some x→m ⟨blk,off + i * 1 + j,none⟩ = some x) {k : Nat} (hk : k < l.length) :
    m ⟨blk,off + k,none⟩ = some (.string l[k]):=by
  have h:=hr k (strRow l[k]) (by simp [hk]) 0 _ rfl
  simpa using h
theorem ret_bool {a b : Bool} (h : a = b) : Ending.returned (.bool a) = .returned (.bool b):=by rw [h]
set_option maxHeartbeats 400000 in
theorem istest_any (op : Int) (w : World) :
    Calls Tryz.prog 197 #[.int .i64 op] w fun e w'=>e = .returned (.bool (decide (6≤op∧op≤15)))∧w = w':=by
  go_enter Tryz.func197,Tryz.ntmps197
  go_wp2
  all_goals go_ret
  all_goals exact ⟨ret_bool (by simp; omega),rfl⟩
structure VD where
  kind : Int
  num : Int
  text : ByteArray
  ptr : Option Addr
  len : Nat
  cap : Nat
  ls : List ByteArray
def VD.row (d : VD) : List Value:=[.int .i64 d.kind,.int .i64 d.num,.string d.text,.slice d.ptr d.len d.cap]
structure LAt (m : Mem) (d : VD) : Prop where
  rows : RowsAt m 1 (.slice d.ptr d.len d.cap) (d.ls.map strRow)
  text : d.text.size < 4294967281
  few : d.ls.length≤8796093022208
theorem LAt.mono {m m' : Mem} (hs : Sub m m') {d : VD} (h : LAt m d) : LAt m' d:=⟨RowsAt.mono hs h.rows,h.text,h.few⟩
theorem LAt.flat (m : Mem) (k n : Int) (t : ByteArray) (ht : t.size < 4294967281) : LAt m ⟨k,n,t,none,0,0,[]⟩:=⟨⟨none,0,rfl,by simp,by simp,Or.inl rfl⟩,ht,by simp⟩
theorem strRow_flat : ∀ l : List ByteArray,(l.map strRow).flatten = l.map Value.string
  | []=>rfl
  | x :: r=>by rw [List.map_cons,List.flatten_cons,strRow_flat r]; rfl
theorem vd_cells {m : Mem} {l : List VD} {blk off : Nat} (hr : ∀ i r,(l.map VD.row)[i]? = some r→∀ j x,r[j]? = some x→m ⟨blk,off + i * 4 + j,none⟩ = some x) {k : Nat} (hk : k < l.length) :
    m ⟨blk,off + k * 4,none⟩ = some (.int .i64 l[k].kind)∧m ⟨blk,off + k * 4 + 1,none⟩ = some (.int .i64 l[k].num)∧m ⟨blk,off + k * 4 + 2,none⟩ = some (.string l[k].text)∧m ⟨blk,off + k * 4 + 3,none⟩ = some (.slice l[k].ptr l[k].len l[k].cap):=by
  have h:=hr k l[k].row (by simp [hk])
  exact ⟨h 0 _ rfl,h 1 _ rfl,h 2 _ rfl,h 3 _ rfl⟩
def allKind (t : Int) : List VD→Bool
  | []=>true
  | v :: r=>v.kind == t && allKind t r
def fitsK (op t k : Int) : Bool :=
  if op = 7 then k == t else if op = 9∨op = 10 then t == 3 && k == 3 else if op = 11 then (t == 3 || t == 5) && k == 3 else (t == 2 || t == 3 || t == 4) && k == t
def fitsS (op t : Int) (vals : List VD) : Bool :=
  if op = 6 then true else if op = 8 then t != 5 && allKind t vals else match vals with | []=>false | v :: _=>fitsK op t v.kind
end Go.Proofs.YtfffpflflggonaaGreatDoor.schema
