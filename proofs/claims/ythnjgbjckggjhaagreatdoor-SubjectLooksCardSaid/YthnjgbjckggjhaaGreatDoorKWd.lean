/- Subjects whose texts may be of any size. -/
import Derived.Test.YthnjgbjckggjhaaGreatDoorKJ4
import Derived.Test.YthnjgbjckggjhaaGreatDoorKJ4
import Derived.Test.YthnjgbjckggjhaaGreatDoorKSuC
namespace Go.Proofs.YthnjgbjckggjhaaGreatDoor.subj.wide
open Go.RowKit Go.Proofs.YthnjgbjckggjhaaGreatDoor Go.Proofs.YthnjgbjckggjhaaGreatDoor.schema Go.Proofs.YthnjgbjckggjhaaGreatDoor.value Go.Proofs.YthnjgbjckggjhaaGreatDoor.text Go.Proofs.YthnjgbjckggjhaaGreatDoor.clause Go.Proofs.YthnjgbjckggjhaaGreatDoor.draw

/-- A value's list lies where it says. -/
structure LAt (m : Mem) (d : VD) : Prop where
  rows : RowsAt m 1 (.slice d.ptr d.len d.cap) (d.ls.map strRow)
  text : True
  few : d.ls.length ≤ 8796093022208
theorem LAt.mono {m m' : Mem} (hs : Sub m m') {d : VD} (h : LAt m d) : LAt m' d := ⟨RowsAt.mono hs h.rows, trivial, h.few⟩
theorem LAt.flat (m : Mem) (k n : Int) (t : ByteArray) (_ : True) : LAt m ⟨k, n, t, none, 0, 0, []⟩ := ⟨⟨none, 0, rfl, by simp, by simp, Or.inl rfl⟩, trivial, by simp⟩
theorem LAtSet {B b : Nat} {w : World} {q : Addr} {d : VD} (h : LAt (newM B b w) d) (hq : q.block < B) (x : Value) : LAt (newM B b (w.setCell q x)) d := h.mono (newM_set hq x)
theorem LAtAlloc {B b : Nat} {w : World} {d : VD} (h : LAt (newM B b w) d) (o : Obj) : LAt (newM B b (w.alloc o)) d := h.mono (newM_grown (World.grownBy_alloc w o _))
theorem LAtLow {B B' b : Nat} {w : World} {d : VD} (h : LAt (newM B' b w) d) (hB : B ≤ B') : LAt (newM B b w) d := h.mono (newM_mono hB b w)
theorem LAtDrew {B b : Nat} {w : World} {d : VD} (h : LAt (newM B b w) d) : LAt (newM B b w.drew) d := h
/-- The attributes of a context lie where it says. -/
structure CAt (m : Mem) (c : CT) : Prop where
  rows : RowsAt m 5 (.slice c.ptr c.len c.cap) (c.attrs.map AD.row)
  each : ∀ a ∈ c.attrs, LAt m a.val
  key : True
theorem CAt.mono {m m' : Mem} (hs : Sub m m') {c : CT} (h : CAt m c) : CAt m' c := ⟨h.rows.mono hs, fun a ha => (h.each a ha).mono hs, h.key⟩
/-- A subject. -/
structure SAt (m : Mem) (v : Value) (l : List CT) : Prop where
  rows : RowsAt m 3 v (l.map CT.row)
  each : ∀ c ∈ l, CAt m c
theorem SAt.mono {m m' : Mem} (hs : Sub m m') {v : Value} {l : List CT} (h : SAt m v l) : SAt m' v l := ⟨h.rows.mono hs, fun c hc => (h.each c hc).mono hs⟩
theorem lat_wide {m : Mem} {d : VD} (h : schema.LAt m d) : LAt m d := ⟨h.rows, trivial, h.few⟩
theorem cat_wide {m : Mem} {c : CT} (h : clause.CAt m c) : CAt m c := ⟨h.rows, fun a ha => lat_wide (h.each a ha), trivial⟩
theorem sat_wide {m : Mem} {v : Value} {l : List CT} (h : clause.SAt m v l) : SAt m v l := ⟨h.rows, fun c hc => cat_wide (h.each c hc)⟩
theorem ls_len {m : Mem} {d : VD} (h : LAt m d) : d.len = d.ls.length := by have := (len_of h.rows).1; simpa using this
theorem lat_ok {w : World} {d : VD} (h : LAt w.cell? d) : VOk w (vv d) d.text d.ptr d.ls := ⟨rfl, lin_rows h.rows, rfl⟩

end Go.Proofs.YthnjgbjckggjhaaGreatDoor.subj.wide

