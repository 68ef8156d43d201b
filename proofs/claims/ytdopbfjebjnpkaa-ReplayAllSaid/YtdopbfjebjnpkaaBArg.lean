/- ARGUMENTS OF LAWS: what a shape says, type by type. -/
import Derived.Test.YtdopbfjebjnpkaaATop
import Derived.Test.YtdopbfjebjnpkaaAEq
import Derived.Test.YtdopbfjebjnpkaaBF215
import Derived.Test.YtdopbfjebjnpkaaRows
import Derived.Test.YtdopbfjebjnpkaaBF232
set_option linter.all false
namespace Go.Ab
open Go.Proofs
section
variable {P : Program} {n : Nat} {t e : TypeId} {cs : List D}
theorem shp_int {k : IntKind} (hu : P.underlying t = some (.int k)) (h : Shp P (n + 1) t cs) : ∃ x, cs = [.int k x] ∧ (Lit.int k x).wf = true := by
  unfold Shp at h; rw [hu] at h; exact h
theorem shp_bool (hu : P.underlying t = some .bool) (h : Shp P (n + 1) t cs) : ∃ b, cs = [.bool b] := by
  unfold Shp at h; rw [hu] at h; exact h
theorem shp_str (hu : P.underlying t = some .string) (h : Shp P (n + 1) t cs) : ∃ l, cs = [.str l] ∧ l.length ≤ 140737488351232 := by
  unfold Shp at h; rw [hu] at h; exact h
theorem shp_struct {fs : Array Field} (hu : P.underlying t = some (.struct fs)) (h : Shp P (n + 1) t cs) : cs.length = P.cellsOf t ∧ ∀ f ∈ fs.toList, Shp P n f.type ((cs.drop f.offset).take (P.cellsOf f.type)) := by
  unfold Shp at h; rw [hu] at h; exact h
theorem shp_arr {k : Nat} (hu : P.underlying t = some (.array k e)) (h : Shp P (n + 1) t cs) : cs.length = P.cellsOf t ∧ ∀ i, i < k → Shp P n e ((cs.drop (i * P.cellsOf e)).take (P.cellsOf e)) := by
  unfold Shp at h; rw [hu] at h; exact h
/-- A slice of numbers. -/
theorem shp_ints {k : IntKind} (hu : P.underlying t = some (.slice e)) (he : P.underlying e = some (.int k)) (hc : P.cellsOf e = 1) (h : Shp P (n + 2) t cs) :
    ∃ l : List Int, cs = [.slc false 1 (l.map (.int k))] ∧ l.length * P.bytesOf e ≤ 140737488351232 ∧ ∀ x ∈ l, (Lit.int k x).wf = true := by
  unfold Shp at h
  rw [hu] at h
  obtain ⟨es, rfl, h2, h3⟩ := h
  have ht : tyAg P e = false := by unfold tyAg; rw [he]
  rw [ht, hc]
  have key : ∀ es : List (List D), (∀ x ∈ es, Shp P (n + 1) e x) → ∃ l : List Int, es.map (mkE false) = l.map (.int k) ∧ l.length = es.length ∧ ∀ x ∈ l, (Lit.int k x).wf = true := by
    intro es
    induction es with
    | nil => intro _; exact ⟨[], rfl, rfl, fun x hx => by cases hx⟩
    | cons d es ih =>
      intro h
      obtain ⟨l, h1, h2, h3⟩ := ih (fun x hx => h x (List.mem_cons_of_mem _ hx))
      obtain ⟨x, rfl, hx⟩ := shp_int he (h d List.mem_cons_self)
      refine ⟨x :: l, by simp [h1, mkE], by simp [h2], fun y hy => ?_⟩
      rcases List.mem_cons.1 hy with rfl | hy
      · exact hx
      · exact h3 y hy
  obtain ⟨l, h4, h5, h6⟩ := key es h3
  exact ⟨l, by rw [h4], by rw [h5]; exact h2, h6⟩
end
end Go.Ab
/- ARGUMENTS OF LAWS: records, rows of records, states. -/
set_option linter.all false
namespace Go.Ab
open Go.Proofs Go.Proofs.Ytdopbfjebjnpkaa
set_option maxRecDepth 100000 in
/-- A record. -/
theorem shp_rec {n : Nat} {ds : List D} (h : Shp Try.prog (n + 4) 43 ds) : ∃ kd ts k m g ids id, D.agg ds = Rcd kd false 1 ts k m g false 1 ids id ∧ ts.length ≤ 2 ^ 45 ∧ ids.length ≤ 2 ^ 45 := by
  obtain ⟨h1, h2⟩ := shp_struct Try.underlying43 h
  have c43 : Try.prog.cellsOf 43 = 7 := by kernel_rfl
  have c32 : Try.prog.cellsOf 32 = 4 := by kernel_rfl
  have c30 : Try.prog.cellsOf 30 = 1 := by kernel_rfl
  have c3 : Try.prog.cellsOf 3 = 1 := by kernel_rfl
  have b3 : Try.prog.bytesOf 3 = 8 := by kernel_rfl
  rw [c43] at h1
  match ds, h1 with
  | [a0, a1, a2, a3, a4, a5, a6], _ =>
    have f0 := h2 _ (by simp; exact .inl rfl)
    have f1 := h2 _ (by simp; exact .inr (.inl rfl))
    have f2 := h2 _ (by simp; exact .inr (.inr (.inl rfl)))
    have f3 := h2 _ (by simp; exact .inr (.inr (.inr rfl)))
    simp only [c32, c30, c3, List.drop_zero, List.drop_succ_cons, List.take_succ_cons, List.take_zero, List.take_nil] at f0 f1 f2 f3
    obtain ⟨h3, h4⟩ := shp_struct Try.underlying32 f1
    have g0 := h4 _ (by simp; exact .inl rfl)
    have g1 := h4 _ (by simp; exact .inr (.inl rfl))
    have g2 := h4 _ (by simp; exact .inr (.inr (.inl rfl)))
    have g3 := h4 _ (by simp; exact .inr (.inr (.inr rfl)))
    simp only [c30, c3, List.drop_zero, List.drop_succ_cons, List.take_succ_cons, List.take_zero, List.take_nil] at g0 g1 g2 g3
    obtain ⟨kd, e0, _⟩ := shp_int Try.underlying3 f0
    obtain ⟨ts, e1, l1, _⟩ := shp_ints Try.underlying30 Try.underlying3 c3 g0
    obtain ⟨k, e2, _⟩ := shp_int Try.underlying3 g1
    obtain ⟨m, e3, _⟩ := shp_int Try.underlying3 g2
    obtain ⟨g, e4, _⟩ := shp_int Try.underlying3 g3
    obtain ⟨ids, e5, l2, _⟩ := shp_ints Try.underlying30 Try.underlying3 c3 f2
    obtain ⟨id, e6, _⟩ := shp_int Try.underlying3 f3
    simp only [List.cons.injEq, and_true] at e0 e1 e2 e3 e4 e5 e6
    subst e0 e1 e2 e3 e4 e5 e6
    rw [b3] at l1 l2
    exact ⟨kd, ts, k, m, g, ids, id, rfl, by omega, by omega⟩
end Go.Ab
/- ARGUMENTS OF LAWS: rows of records, states. -/
set_option linter.all false
namespace Go.Ab
open Go.Proofs Go.Proofs.Ytdopbfjebjnpkaa Go.Proofs.YtdopbfjebjnpkaaH.Rec
set_option maxRecDepth 100000 in
/-- A state. -/
theorem shp_state {n : Nat} {ds : List D} (h : Shp Try.prog (n + 4) 37 ds) : ∃ ts k m g ids nx, D.agg ds = StD ((ts, k, m, g), ids, nx) false 1 false 1 ∧ ts.length ≤ 2 ^ 45 ∧ ids.length ≤ 2 ^ 45 := by
  obtain ⟨h1, h2⟩ := shp_struct Try.underlying37 h
  have c37 : Try.prog.cellsOf 37 = 6 := by kernel_rfl
  have c32 : Try.prog.cellsOf 32 = 4 := by kernel_rfl
  have c30 : Try.prog.cellsOf 30 = 1 := by kernel_rfl
  have c3 : Try.prog.cellsOf 3 = 1 := by kernel_rfl
  have b3 : Try.prog.bytesOf 3 = 8 := by kernel_rfl
  rw [c37] at h1
  match ds, h1 with
  | [a1, a2, a3, a4, a5, a6], _ =>
    have f1 := h2 _ (by simp; exact .inl rfl)
    have f2 := h2 _ (by simp; exact .inr (.inl rfl))
    have f3 := h2 _ (by simp; exact .inr (.inr rfl))
    simp only [c32, c30, c3, List.drop_zero, List.drop_succ_cons, List.take_succ_cons, List.take_zero, List.take_nil] at f1 f2 f3
    obtain ⟨h3, h4⟩ := shp_struct Try.underlying32 f1
    have g0 := h4 _ (by simp; exact .inl rfl)
    have g1 := h4 _ (by simp; exact .inr (.inl rfl))
    have g2 := h4 _ (by simp; exact .inr (.inr (.inl rfl)))
    have g3 := h4 _ (by simp; exact .inr (.inr (.inr rfl)))
    simp only [c30, c3, List.drop_zero, List.drop_succ_cons, List.take_succ_cons, List.take_zero, List.take_nil] at g0 g1 g2 g3
    obtain ⟨ts, e1, l1, _⟩ := shp_ints Try.underlying30 Try.underlying3 c3 g0
    obtain ⟨k, e2, _⟩ := shp_int Try.underlying3 g1
    obtain ⟨m, e3, _⟩ := shp_int Try.underlying3 g2
    obtain ⟨g, e4, _⟩ := shp_int Try.underlying3 g3
    obtain ⟨ids, e5, l2, _⟩ := shp_ints Try.underlying30 Try.underlying3 c3 f2
    obtain ⟨nx, e6, _⟩ := shp_int Try.underlying3 f3
    simp only [List.cons.injEq, and_true] at e1 e2 e3 e4 e5 e6
    subst e1 e2 e3 e4 e5 e6
    rw [b3] at l1 l2
    exact ⟨ts, k, m, g, ids, nx, rfl, by omega, by omega⟩
set_option maxRecDepth 100000 in
/-- A row of records. -/
theorem shp_recs {n : Nat} {cs : List D} (h : Shp Try.prog (n + 5) 28 cs) : ∃ l : List RecV, cs = [.slc false 7 (l.map rd1)] := by
  unfold Shp at h
  rw [Try.underlying28] at h
  obtain ⟨es, rfl, h2, h3⟩ := h
  have ht : tyAg Try.prog 43 = true := by unfold tyAg; rw [Try.underlying43]
  have hc : Try.prog.cellsOf 43 = 7 := by kernel_rfl
  rw [ht, hc]
  have key : ∀ es : List (List D), (∀ x ∈ es, Shp Try.prog (n + 4) 43 x) → ∃ l : List RecV, es.map (mkE true) = l.map rd1 := by
    intro es
    induction es with
    | nil => intro _; exact ⟨[], rfl⟩
    | cons d es ih =>
      intro h
      obtain ⟨l, h1⟩ := ih (fun x hx => h x (List.mem_cons_of_mem _ hx))
      obtain ⟨kd, ts, k, m, g, ids, id, hd, q1, q2⟩ := shp_rec (h d List.mem_cons_self)
      refine ⟨(kd, (ts, k, m, g), ids, id) :: l, ?_⟩
      rw [List.map_cons, List.map_cons, h1]
      congr 1
  obtain ⟨l, h4⟩ := key es h3
  exact ⟨l, by rw [h4]⟩
end Go.Ab
