/- ARGUMENTS OF LAWS: values, and rows of values. -/
import Derived.Test.YtanfmnobanhcnaaAArg
import Derived.Test.YtanfmnobanhcnaaBF53
import Derived.Test.YtanfmnobanhcnaaBF84
import Derived.Test.YtanfmnobanhcnaaRows
set_option linter.all false
namespace Go.Ab
open Go.Proofs Go.Proofs.Ytanfmnobanhcnaa
set_option maxRecDepth 100000 in
/-- A value. -/
theorem shp_val {n : Nat} {cs : List D} (h : Shp Try.prog (n + 2) 62 cs) : ∃ p : Va, cs = [.int .i64 p.1, .str p.2] ∧ i64R p.1 := by
  obtain ⟨h1, h2⟩ := shp_struct Try.underlying62 h
  have c62 : Try.prog.cellsOf 62 = 2 := by kernel_rfl
  have cN : Try.prog.cellsOf 2 = 1 := by kernel_rfl
  have cS : Try.prog.cellsOf 9 = 1 := by kernel_rfl
  rw [c62] at h1
  match cs, h1 with
  | [a0, a1], _ =>
    have f0 := h2 _ (by simp; exact .inl rfl)
    have f1 := h2 _ (by simp; exact .inr rfl)
    simp only [cN, cS, List.drop_zero, List.drop_succ_cons, List.take_succ_cons, List.take_zero, List.take_nil] at f0 f1
    obtain ⟨x, e0, hx⟩ := shp_int Try.underlying2 f0
    obtain ⟨s, e1, _⟩ := shp_str Try.underlying9 f1
    simp only [List.cons.injEq, and_true] at e0 e1
    subst e0 e1
    exact ⟨(x, s), rfl, Go.Proofs.YtanfmnobanhcnaaH.Crc.wf_i64 hx⟩
set_option maxRecDepth 100000 in
/-- A row of values. -/
theorem shp_vals {n : Nat} {cs : List D} (h : Shp Try.prog (n + 3) 53 cs) : ∃ l : List Va, cs = [.slc false 2 (l.map Va.d)] ∧ l.length ≤ 2 ^ 44 ∧ ∀ p ∈ l, i64R p.1 := by
  unfold Shp at h
  rw [Try.underlying53] at h
  obtain ⟨es, rfl, h2, h3⟩ := h
  have ht : tyAg Try.prog 62 = true := by unfold tyAg; rw [Try.underlying62]
  have hc : Try.prog.cellsOf 62 = 2 := by kernel_rfl
  have hb : Try.prog.bytesOf 62 = 24 := by kernel_rfl
  rw [ht, hc]
  rw [hb] at h2
  have key : ∀ es : List (List D), (∀ x ∈ es, Shp Try.prog (n + 2) 62 x) → ∃ l : List Va, es.map (mkE true) = l.map Va.d ∧ l.length = es.length ∧ ∀ p ∈ l, i64R p.1 := by
    intro es
    induction es with
    | nil => intro _; exact ⟨[], rfl, rfl, fun x hx => by cases hx⟩
    | cons d es ih =>
      intro h
      obtain ⟨l, h1, h2, h3⟩ := ih (fun x hx => h x (List.mem_cons_of_mem _ hx))
      obtain ⟨p, rfl, hp⟩ := shp_val (h d List.mem_cons_self)
      refine ⟨p :: l, by simp [h1, mkE, Va.d], by simp [h2], fun y hy => ?_⟩
      rcases List.mem_cons.1 hy with rfl | hy
      · exact hp
      · exact h3 y hy
  obtain ⟨l, h4, h5, h6⟩ := key es h3
  exact ⟨l, by rw [h4], by omega, h6⟩
end Go.Ab
