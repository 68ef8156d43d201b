/- ARGUMENTS OF LAWS: what a shape says, type by type. -/
import Derived.Test.YtanfmnobanhcnaaATop
import Derived.Test.YtanfmnobanhcnaaAEq
set_option linter.all false
namespace Go.Ab
open Go.Proofs
section
variable {P : Program} {n : Nat} {t e : TypeId} {cs : List D}
theorem shp_int {k : IntKind} (hu : P.underlying t = some (.int k)) (h : Shp P (n + 1) t cs) : ∃ x, cs = [.int k x] ∧ (Lit.int k x).wf = true := by
  unfold Shp at h; rw [hu] at h; exact h
theorem shp_bool (hu : P.underlying t = some .bool) (h : Shp P (n + 1) t cs) : ∃ b, cs = [.bool b] := by
  unfold Shp at h; rw [hu] at h; exact h
theorem shp_str (hu : P.underlying t = some .string) (h : Shp P (n + 1) t cs) : ∃ l, cs = [.str l] ∧ l.length ≤ 140737488351232 := by
  unfold Shp at h; rw [hu] at h; exact h
theorem shp_struct {fs : Array Field} (hu : P.underlying t = some (.struct fs)) (h : Shp P (n + 1) t cs) : cs.length = P.cellsOf t ∧ ∀ f ∈ fs.toList, Shp P n f.type ((cs.drop f.offset).take (P.cellsOf f.type)) := by
  unfold Shp at h; rw [hu] at h; exact h
theorem shp_arr {k : Nat} (hu : P.underlying t = some (.array k e)) (h : Shp P (n + 1) t cs) : cs.length = P.cellsOf t ∧ ∀ i, i < k → Shp P n e ((cs.drop (i * P.cellsOf e)).take (P.cellsOf e)) := by
  unfold Shp at h; rw [hu] at h; exact h
/-- A slice of numbers. -/
theorem shp_ints {k : IntKind} (hu : P.underlying t = some (.slice e)) (he : P.underlying e = some (.int k)) (hc : P.cellsOf e = 1) (h : Shp P (n + 2) t cs) :
    ∃ l : List Int, cs = [.slc false 1 (l.map (.int k))] ∧ l.length * P.bytesOf e ≤ 140737488351232 ∧ ∀ x ∈ l, (Lit.int k x).wf = true := by
  unfold Shp at h
  rw [hu] at h
  obtain ⟨es, rfl, h2, h3⟩ := h
  have ht : tyAg P e = false := by unfold tyAg; rw [he]
  rw [ht, hc]
  have key : ∀ es : List (List D), (∀ x ∈ es, Shp P (n + 1) e x) → ∃ l : List Int, es.map (mkE false) = l.map (.int k) ∧ l.length = es.length ∧ ∀ x ∈ l, (Lit.int k x).wf = true := by
    intro es
    induction es with
    | nil => intro _; exact ⟨[], rfl, rfl, fun x hx => by cases hx⟩
    | cons d es ih =>
      intro h
      obtain ⟨l, h1, h2, h3⟩ := ih (fun x hx => h x (List.mem_cons_of_mem _ hx))
      obtain ⟨x, rfl, hx⟩ := shp_int he (h d List.mem_cons_self)
      refine ⟨x :: l, by simp [h1, mkE], by simp [h2], fun y hy => ?_⟩
      rcases List.mem_cons.1 hy with rfl | hy
      · exact hx
      · exact h3 y hy
  obtain ⟨l, h4, h5, h6⟩ := key es h3
  exact ⟨l, by rw [h4], by rw [h5]; exact h2, h6⟩
end
end Go.Ab
