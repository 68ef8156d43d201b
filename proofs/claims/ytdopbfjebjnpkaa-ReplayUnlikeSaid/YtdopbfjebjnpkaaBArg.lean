/- ARGUMENTS OF LAWS: what a shape says, type by type. -/
import Derived.Test.YtdopbfjebjnpkaaATop
import Derived.Test.YtdopbfjebjnpkaaAEq
import Derived.Test.YtdopbfjebjnpkaaBF215
import Derived.Test.YtdopbfjebjnpkaaRows
set_option linter.all false
namespace Go.Ab
open Go.Proofs
section
variable {P : Program} {n : Nat} {t e : TypeId} {cs : List D}
theorem shp_int {k : IntKind} (hu : P.underlying t = some (.int k)) (h : Shp P (n + 1) t cs) : ∃ x, cs = [.int k x] ∧ (Lit.int k x).wf = true := by
  unfold Shp at h; rw [hu] at h; exact h
theorem shp_bool (hu : P.underlying t = some .bool) (h : Shp P (n + 1) t cs) : ∃ b, cs = [.bool b] := by
  unfold Shp at h; rw [hu] at h; exact h
theorem shp_str (hu : P.underlying t = some .string) (h : Shp P (n + 1) t cs) : ∃ l, cs = [.str l] ∧ l.length ≤ 140737488351232 := by
  unfold Shp at h; rw [hu] at h; exact h
theorem shp_struct {fs : Array Field} (hu : P.underlying t = some (.struct fs)) (h : Shp P (n + 1) t cs) : cs.length = P.cellsOf t ∧ ∀ f ∈ fs.toList, Shp P n f.type ((cs.drop f.offset).take (P.cellsOf f.type)) := by
  unfold Shp at h; rw [hu] at h; exact h
theorem shp_arr {k : Nat} (hu : P.underlying t = some (.array k e)) (h : Shp P (n + 1) t cs) : cs.length = P.cellsOf t ∧ ∀ i, i < k → Shp P n e ((cs.drop (i * P.cellsOf e)).take (P.cellsOf e)) := by
  unfold Shp at h; rw [hu] at h; exact h
/-- A slice of numbers. -/
theorem shp_ints {k : IntKind} (hu : P.underlying t = some (.slice e)) (he : P.underlying e = some (.int k)) (hc : P.cellsOf e = 1) (h : Shp P (n + 2) t cs) :
    ∃ l : List Int, cs = [.slc false 1 (l.map (.int k))] ∧ l.length * P.bytesOf e ≤ 140737488351232 ∧ ∀ x ∈ l, (Lit.int k x).wf = true := by
  unfold Shp at h
  rw [hu] at h
  obtain ⟨es, rfl, h2, h3⟩ := h
  have ht : tyAg P e = false := by unfold tyAg; rw [he]
  rw [ht, hc]
  have key : ∀ es : List (List D), (∀ x ∈ es, Shp P (n + 1) e x) → ∃ l : List Int, es.map (mkE false) = l.map (.int k) ∧ l.length = es.length ∧ ∀ x ∈ l, (Lit.int k x).wf = true := by
    intro es
    induction es with
    | nil => intro _; exact ⟨[], rfl, rfl, fun x hx => by cases hx⟩
    | cons d es ih =>
      intro h
      obtain ⟨l, h1, h2, h3⟩ := ih (fun x hx => h x (List.mem_cons_of_mem _ hx))
      obtain ⟨x, rfl, hx⟩ := shp_int he (h d List.mem_cons_self)
      refine ⟨x :: l, by simp [h1, mkE], by simp [h2], fun y hy => ?_⟩
      rcases List.mem_cons.1 hy with rfl | hy
      · exact hx
      · exact h3 y hy
  obtain ⟨l, h4, h5, h6⟩ := key es h3
  exact ⟨l, by rw [h4], by rw [h5]; exact h2, h6⟩
end
end Go.Ab
/- ARGUMENTS OF LAWS: shapes, rows of three bytes, records, rows of records, states. -/
set_option linter.all false
namespace Go.Ab
open Go.Proofs Go.Proofs.Ytdopbfjebjnpkaa
set_option maxRecDepth 100000 in
/-- A shape. -/
theorem shp_shape {n : Nat} {cs : List D} (h : Shp Try.prog (n + 3) 24 cs) : ∃ a0 a1 a2 a3 a4 a5 a6 a7 n0 k0 m0 g0 : Int, cs = [.int .u8 a0, .int .u8 a1, .int .u8 a2, .int .u8 a3, .int .u8 a4, .int .u8 a5, .int .u8 a6, .int .u8 a7, .int .u8 n0, .int .u8 k0, .int .u8 m0, .int .u8 g0] ∧
    (∀ x ∈ [a0, a1, a2, a3, a4, a5, a6, a7], 0 ≤ x ∧ x < 256) ∧ (0 ≤ n0 ∧ n0 < 256) ∧ (0 ≤ k0 ∧ k0 < 256) ∧ (0 ≤ m0 ∧ m0 < 256) ∧ (0 ≤ g0 ∧ g0 < 256) := by
  obtain ⟨h1, h2⟩ := shp_struct Try.underlying24 h
  have c24 : Try.prog.cellsOf 24 = 12 := by kernel_rfl
  have c22 : Try.prog.cellsOf 22 = 8 := by kernel_rfl
  have c5 : Try.prog.cellsOf 5 = 1 := by kernel_rfl
  rw [c24] at h1
  match cs, h1 with
  | [x0, x1, x2, x3, x4, x5, x6, x7, x8, x9, x10, x11], _ =>
    have f0 := h2 _ (by simp; exact .inl rfl)
    have f1 := h2 _ (by simp; exact .inr (.inl rfl))
    have f2 := h2 _ (by simp; exact .inr (.inr (.inl rfl)))
    have f3 := h2 _ (by simp; exact .inr (.inr (.inr (.inl rfl))))
    have f4 := h2 _ (by simp; exact .inr (.inr (.inr (.inr rfl))))
    simp only [c22, c5, List.drop_zero, List.drop_succ_cons, List.take_succ_cons, List.take_zero, List.take_nil] at f0 f1 f2 f3 f4
    obtain ⟨_, g⟩ := shp_arr Try.underlying22 f0
    have g0 := g 0 (by decide)
    have g1 := g 1 (by decide)
    have g2 := g 2 (by decide)
    have g3 := g 3 (by decide)
    have g4 := g 4 (by decide)
    have g5 := g 5 (by decide)
    have g6 := g 6 (by decide)
    have g7 := g 7 (by decide)
    simp only [c5, Nat.zero_mul, Nat.one_mul, Nat.reduceMul, List.drop_zero, List.drop_succ_cons, List.take_succ_cons, List.take_zero, List.take_nil] at g0 g1 g2 g3 g4 g5 g6 g7
    obtain ⟨a0, e0, w0⟩ := shp_int Try.underlying5 g0
    obtain ⟨a1, e1, w1⟩ := shp_int Try.underlying5 g1
    obtain ⟨a2, e2, w2⟩ := shp_int Try.underlying5 g2
    obtain ⟨a3, e3, w3⟩ := shp_int Try.underlying5 g3
    obtain ⟨a4, e4, w4⟩ := shp_int Try.underlying5 g4
    obtain ⟨a5, e5, w5⟩ := shp_int Try.underlying5 g5
    obtain ⟨a6, e6, w6⟩ := shp_int Try.underlying5 g6
    obtain ⟨a7, e7, w7⟩ := shp_int Try.underlying5 g7
    obtain ⟨b1, e8, w8⟩ := shp_int Try.underlying5 f1
    obtain ⟨b2, e9, w9⟩ := shp_int Try.underlying5 f2
    obtain ⟨b3, e10, w10⟩ := shp_int Try.underlying5 f3
    obtain ⟨b4, e11, w11⟩ := shp_int Try.underlying5 f4
    simp only [List.cons.injEq, and_true] at e0 e1 e2 e3 e4 e5 e6 e7 e8 e9 e10 e11
    subst e0 e1 e2 e3 e4 e5 e6 e7 e8 e9 e10 e11
    refine ⟨a0, a1, a2, a3, a4, a5, a6, a7, b1, b2, b3, b4, rfl, ?_, YtdopbfjebjnpkaaH.Crc.wf_u8 w8, YtdopbfjebjnpkaaH.Crc.wf_u8 w9, YtdopbfjebjnpkaaH.Crc.wf_u8 w10, YtdopbfjebjnpkaaH.Crc.wf_u8 w11⟩
    simp only [List.forall_mem_cons]
    exact ⟨YtdopbfjebjnpkaaH.Crc.wf_u8 w0, YtdopbfjebjnpkaaH.Crc.wf_u8 w1, YtdopbfjebjnpkaaH.Crc.wf_u8 w2, YtdopbfjebjnpkaaH.Crc.wf_u8 w3, YtdopbfjebjnpkaaH.Crc.wf_u8 w4, YtdopbfjebjnpkaaH.Crc.wf_u8 w5, YtdopbfjebjnpkaaH.Crc.wf_u8 w6, YtdopbfjebjnpkaaH.Crc.wf_u8 w7, fun x hx => by cases hx⟩
set_option maxRecDepth 100000 in
/-- A row of three bytes. -/
theorem shp_b3s {n : Nat} {cs : List D} (h : Shp Try.prog (n + 3) 25 cs) : ∃ l : List B3, cs = [.slc false 3 (l.map B3.d)] ∧ ∀ x ∈ l, (0 ≤ x.1 ∧ x.1 < 256) ∧ (0 ≤ x.2.1 ∧ x.2.1 < 256) ∧ (0 ≤ x.2.2 ∧ x.2.2 < 256) := by
  unfold Shp at h
  rw [Try.underlying25] at h
  obtain ⟨es, rfl, h2, h3⟩ := h
  have ht : tyAg Try.prog 54 = true := by unfold tyAg; rw [Try.underlying54]
  have hc : Try.prog.cellsOf 54 = 3 := by kernel_rfl
  have c5 : Try.prog.cellsOf 5 = 1 := by kernel_rfl
  rw [ht, hc]
  have key : ∀ es : List (List D), (∀ x ∈ es, Shp Try.prog (n + 2) 54 x) → ∃ l : List B3, es.map (mkE true) = l.map B3.d ∧ ∀ x ∈ l, (0 ≤ x.1 ∧ x.1 < 256) ∧ (0 ≤ x.2.1 ∧ x.2.1 < 256) ∧ (0 ≤ x.2.2 ∧ x.2.2 < 256) := by
    intro es
    induction es with
    | nil => intro _; exact ⟨[], rfl, fun x hx => by cases hx⟩
    | cons d es ih =>
      intro h
      obtain ⟨l, h1, h3⟩ := ih (fun x hx => h x (List.mem_cons_of_mem _ hx))
      obtain ⟨q1, g⟩ := shp_arr Try.underlying54 (h d List.mem_cons_self)
      rw [hc] at q1
      match d, q1 with
      | [x0, x1, x2], _ =>
        have g0 := g 0 (by decide)
        have g1 := g 1 (by decide)
        have g2 := g 2 (by decide)
        simp only [c5, Nat.zero_mul, Nat.one_mul, Nat.reduceMul, List.drop_zero, List.drop_succ_cons, List.take_succ_cons, List.take_zero, List.take_nil] at g0 g1 g2
        obtain ⟨a0, e0, w0⟩ := shp_int Try.underlying5 g0
        obtain ⟨a1, e1, w1⟩ := shp_int Try.underlying5 g1
        obtain ⟨a2, e2, w2⟩ := shp_int Try.underlying5 g2
        simp only [List.cons.injEq, and_true] at e0 e1 e2
        subst e0 e1 e2
        refine ⟨(a0, a1, a2) :: l, by simp [h1, mkE, B3.d], fun y hy => ?_⟩
        rcases List.mem_cons.1 hy with rfl | hy
        · exact ⟨YtdopbfjebjnpkaaH.Crc.wf_u8 w0, YtdopbfjebjnpkaaH.Crc.wf_u8 w1, YtdopbfjebjnpkaaH.Crc.wf_u8 w2⟩
        · exact h3 y hy
  obtain ⟨l, h4, h6⟩ := key es h3
  exact ⟨l, by rw [h4], h6⟩
end Go.Ab
/- ARGUMENTS OF LAWS: records, rows of records, states. -/
set_option linter.all false
namespace Go.Ab
open Go.Proofs Go.Proofs.Ytdopbfjebjnpkaa
set_option maxRecDepth 100000 in
/-- A record. -/
theorem shp_rec {n : Nat} {ds : List D} (h : Shp Try.prog (n + 4) 43 ds) : ∃ kd ts k m g ids id, D.agg ds = Rcd kd false 1 ts k m g false 1 ids id ∧ ts.length ≤ 2 ^ 45 ∧ ids.length ≤ 2 ^ 45 := by
  obtain ⟨h1, h2⟩ := shp_struct Try.underlying43 h
  have c43 : Try.prog.cellsOf 43 = 7 := by kernel_rfl
  have c32 : Try.prog.cellsOf 32 = 4 := by kernel_rfl
  have c30 : Try.prog.cellsOf 30 = 1 := by kernel_rfl
  have c3 : Try.prog.cellsOf 3 = 1 := by kernel_rfl
  have b3 : Try.prog.bytesOf 3 = 8 := by kernel_rfl
  rw [c43] at h1
  match ds, h1 with
  | [a0, a1, a2, a3, a4, a5, a6], _ =>
    have f0 := h2 _ (by simp; exact .inl rfl)
    have f1 := h2 _ (by simp; exact .inr (.inl rfl))
    have f2 := h2 _ (by simp; exact .inr (.inr (.inl rfl)))
    have f3 := h2 _ (by simp; exact .inr (.inr (.inr rfl)))
    simp only [c32, c30, c3, List.drop_zero, List.drop_succ_cons, List.take_succ_cons, List.take_zero, List.take_nil] at f0 f1 f2 f3
    obtain ⟨h3, h4⟩ := shp_struct Try.underlying32 f1
    have g0 := h4 _ (by simp; exact .inl rfl)
    have g1 := h4 _ (by simp; exact .inr (.inl rfl))
    have g2 := h4 _ (by simp; exact .inr (.inr (.inl rfl)))
    have g3 := h4 _ (by simp; exact .inr (.inr (.inr rfl)))
    simp only [c30, c3, List.drop_zero, List.drop_succ_cons, List.take_succ_cons, List.take_zero, List.take_nil] at g0 g1 g2 g3
    obtain ⟨kd, e0, _⟩ := shp_int Try.underlying3 f0
    obtain ⟨ts, e1, l1, _⟩ := shp_ints Try.underlying30 Try.underlying3 c3 g0
    obtain ⟨k, e2, _⟩ := shp_int Try.underlying3 g1
    obtain ⟨m, e3, _⟩ := shp_int Try.underlying3 g2
    obtain ⟨g, e4, _⟩ := shp_int Try.underlying3 g3
    obtain ⟨ids, e5, l2, _⟩ := shp_ints Try.underlying30 Try.underlying3 c3 f2
    obtain ⟨id, e6, _⟩ := shp_int Try.underlying3 f3
    simp only [List.cons.injEq, and_true] at e0 e1 e2 e3 e4 e5 e6
    subst e0 e1 e2 e3 e4 e5 e6
    rw [b3] at l1 l2
    exact ⟨kd, ts, k, m, g, ids, id, rfl, by omega, by omega⟩
end Go.Ab
