/- Bytes out of a text; the shape of what Parse gives; a printed metric is no empty text. -/
import Derived.Test.YtnghpjijfdpmkaaDoorMetSp
import Derived.Lib.ConvBytes
namespace Go.Proofs.YtnghpjijfdpmkaaDoor.metric
open Go.RowKit Go.Proofs.YtnghpjijfdpmkaaDoor Go.Proofs.YtnghpjijfdpmkaaDoor.text

theorem below_bytes (w : World) (e : TypeId) (s : ByteArray) : Below w.heap.size w (Lib.bytesWorld w e s) :=
  ⟨rfl, rfl, rfl, by rw [Lib.bytesWorld_size]; omega, fun k hk => Lib.bytesWorld_at_old w e s k hk⟩
theorem conv_bytes (x : ByteArray) (w : World) : ∃ cap w', (convert 9 22 (.string x)).run Tryd.prog w = .ok (.slice (some ⟨w.heap.size, 0, none⟩) x.size cap) w' ∧ x.size ≤ cap ∧ Below w.heap.size w w' ∧ ∀ j u, (Lib.byteCells x.data.toList)[j]? = some u → w'.cell? ((⟨w.heap.size, 0, none⟩ : Addr).add j) = some u := by
  refine ⟨_, _, Lib.run_convert_string_bytes w 9 22 5 x Tryd.underlying9 Tryd.underlying22 Tryd.underlying5, grownCap_ge w _ _ _, below_bytes w _ x, fun j u hj => ?_⟩
  have hj2 : j < x.size := by
    have h1 := (List.getElem?_eq_some_iff.1 hj).1
    simpa [Lib.byteCells] using h1
  have e : (⟨w.heap.size, 0, none⟩ : Addr).add j = ⟨w.heap.size, j, none⟩ := by unfold Addr.add; split <;> simp_all
  rw [e, Lib.bytesWorld_cell w _ x j hj2, ← hj]
  simp [Lib.byteCells, List.getD, List.getElem?_eq_getElem (show j < x.data.toList.length from hj2)]
theorem finM_shape (k : Int) (nm bl : ByteArray) (win cap least before : Int) (S : WS) : ∃ (k' win' cap' least' before' e' : Int) (s' t' : ByteArray), finM k nm bl win cap least before S = .tuple #[.agg #[.int .i64 k', .string s', .string t', .int .i64 win', .int .i64 cap', .int .i64 least', .int .i64 before'], .int .i64 e'] := by
  unfold finM
  split
  · exact ⟨0, 0, 0, 0, 0, 1, ⟨#[]⟩, ⟨#[]⟩, rfl⟩
  · split
    · exact ⟨_, _, _, _, _, _, _, _, rfl⟩
    · exact ⟨0, 0, 0, 0, 0, _, ⟨#[]⟩, ⟨#[]⟩, rfl⟩
theorem parsePV_shape (x : ByteArray) : ∃ (k' win' cap' least' before' e' : Int) (s' t' : ByteArray), parsePV x = .tuple #[.agg #[.int .i64 k', .string s', .string t', .int .i64 win', .int .i64 cap', .int .i64 least', .int .i64 before'], .int .i64 e'] := by
  unfold parsePV
  split
  · exact ⟨0, 0, 0, 0, 0, 4, ⟨#[]⟩, ⟨#[]⟩, rfl⟩
  · unfold parseR rBelow rWin rLeast rBefore
    split <;> split <;> split <;> exact finM_shape _ _ _ _ _ _ _ _
theorem print_pos (m : MV) : 0 < (printM m).length := by
  have h : ∃ b r, wordsM m = kindW m.k.toNat :: b :: r := ⟨_, _, by unfold wordsM; simp only [List.cons_append, List.append_assoc]; rfl⟩
  obtain ⟨b, r, e⟩ := h
  unfold printM
  rw [e]
  show 0 < (kindW m.k.toNat ++ 32 :: joinW (b :: r)).length
  rw [List.length_append, List.length_cons]
  omega

end Go.Proofs.YtnghpjijfdpmkaaDoor.metric

