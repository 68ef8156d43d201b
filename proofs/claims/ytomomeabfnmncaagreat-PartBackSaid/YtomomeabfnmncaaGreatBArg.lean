/- ARGUMENTS OF LAWS: what a shape says, type by type. -/
import Derived.Test.YtomomeabfnmncaaGreatBTop
import Derived.Test.YtomomeabfnmncaaGreatBEq
import Derived.Test.YtomomeabfnmncaaGreatBF255
import Derived.Test.YtomomeabfnmncaaGreatBF84
import Derived.Test.YtomomeabfnmncaaGreatBF60K
import Derived.Test.YtomomeabfnmncaaGreatBOraOk
import Derived.Test.YtomomeabfnmncaaGreatRows
set_option linter.all false
namespace Go.Ab
open Go.Proofs
section
variable {P : Program} {n : Nat} {t e : TypeId} {cs : List D}
theorem shp_int {k : IntKind} (hu : P.underlying t = some (.int k)) (h : Shp P (n + 1) t cs) : ∃ x, cs = [.int k x] ∧ (Lit.int k x).wf = true := by
  unfold Shp at h; rw [hu] at h; exact h
theorem shp_bool (hu : P.underlying t = some .bool) (h : Shp P (n + 1) t cs) : ∃ b, cs = [.bool b] := by
  unfold Shp at h; rw [hu] at h; exact h
theorem shp_str (hu : P.underlying t = some .string) (h : Shp P (n + 1) t cs) : ∃ l, cs = [.str l] ∧ l.length ≤ 140737488351232 := by
  unfold Shp at h; rw [hu] at h; exact h
theorem shp_struct {fs : Array Field} (hu : P.underlying t = some (.struct fs)) (h : Shp P (n + 1) t cs) : cs.length = P.cellsOf t ∧ ∀ f ∈ fs.toList, Shp P n f.type ((cs.drop f.offset).take (P.cellsOf f.type)) := by
  unfold Shp at h; rw [hu] at h; exact h
theorem shp_arr {k : Nat} (hu : P.underlying t = some (.array k e)) (h : Shp P (n + 1) t cs) : cs.length = P.cellsOf t ∧ ∀ i, i < k → Shp P n e ((cs.drop (i * P.cellsOf e)).take (P.cellsOf e)) := by
  unfold Shp at h; rw [hu] at h; exact h
/-- A slice of numbers. -/
theorem shp_ints {k : IntKind} (hu : P.underlying t = some (.slice e)) (he : P.underlying e = some (.int k)) (hc : P.cellsOf e = 1) (h : Shp P (n + 2) t cs) :
    ∃ l : List Int, cs = [.slc false 1 (l.map (.int k))] ∧ l.length * P.bytesOf e ≤ 140737488351232 ∧ ∀ x ∈ l, (Lit.int k x).wf = true := by
  unfold Shp at h
  rw [hu] at h
  obtain ⟨es, rfl, h2, h3⟩ := h
  have ht : tyAg P e = false := by unfold tyAg; rw [he]
  rw [ht, hc]
  have key : ∀ es : List (List D), (∀ x ∈ es, Shp P (n + 1) e x) → ∃ l : List Int, es.map (mkE false) = l.map (.int k) ∧ l.length = es.length ∧ ∀ x ∈ l, (Lit.int k x).wf = true := by
    intro es
    induction es with
    | nil => intro _; exact ⟨[], rfl, rfl, fun x hx => by cases hx⟩
    | cons d es ih =>
      intro h
      obtain ⟨l, h1, h2, h3⟩ := ih (fun x hx => h x (List.mem_cons_of_mem _ hx))
      obtain ⟨x, rfl, hx⟩ := shp_int he (h d List.mem_cons_self)
      refine ⟨x :: l, by simp [h1, mkE], by simp [h2], fun y hy => ?_⟩
      rcases List.mem_cons.1 hy with rfl | hy
      · exact hx
      · exact h3 y hy
  obtain ⟨l, h4, h5, h6⟩ := key es h3
  exact ⟨l, by rw [h4], by rw [h5]; exact h2, h6⟩
end
end Go.Ab
/- ARGUMENTS OF LAWS: shapes, rows of rows of values; the second machine's oracle. -/
set_option linter.all false
namespace Go.Ab
open Go.Proofs Go.Proofs.YtomomeabfnmncaaGreat
theorem ora1_ok (hm : Tryz.prog.follows .mixedOrders = true) : CallOk Tryz.prog ora1 := by
  intro f args H d H' h
  unfold ora1 at h
  split at h
  · cases h
  · exact K_ok hm (fun f fn' h => h) (oraG_ok oraU_ok) f args H d H' h
set_option maxRecDepth 100000 in
/-- A shape. -/
theorem shp_shape {n : Nat} {cs : List D} (h : Shp Tryz.prog (n + 3) 24 cs) : ∃ a0 a1 a2 a3 a4 a5 a6 a7 n0 k0 m0 g0 : Int, cs = [.int .u8 a0, .int .u8 a1, .int .u8 a2, .int .u8 a3, .int .u8 a4, .int .u8 a5, .int .u8 a6, .int .u8 a7, .int .u8 n0, .int .u8 k0, .int .u8 m0, .int .u8 g0] ∧
    (∀ x ∈ [a0, a1, a2, a3, a4, a5, a6, a7], 0 ≤ x ∧ x < 256) ∧ (0 ≤ n0 ∧ n0 < 256) ∧ (0 ≤ k0 ∧ k0 < 256) ∧ (0 ≤ m0 ∧ m0 < 256) ∧ (0 ≤ g0 ∧ g0 < 256) := by
  obtain ⟨h1, h2⟩ := shp_struct Tryz.underlying24 h
  have c24 : Tryz.prog.cellsOf 24 = 12 := by kernel_rfl
  have c22 : Tryz.prog.cellsOf 22 = 8 := by kernel_rfl
  have c5 : Tryz.prog.cellsOf 5 = 1 := by kernel_rfl
  rw [c24] at h1
  match cs, h1 with
  | [x0, x1, x2, x3, x4, x5, x6, x7, x8, x9, x10, x11], _ =>
    have f0 := h2 _ (by simp; exact .inl rfl)
    have f1 := h2 _ (by simp; exact .inr (.inl rfl))
    have f2 := h2 _ (by simp; exact .inr (.inr (.inl rfl)))
    have f3 := h2 _ (by simp; exact .inr (.inr (.inr (.inl rfl))))
    have f4 := h2 _ (by simp; exact .inr (.inr (.inr (.inr rfl))))
    simp only [c22, c5, List.drop_zero, List.drop_succ_cons, List.take_succ_cons, List.take_zero, List.take_nil] at f0 f1 f2 f3 f4
    obtain ⟨_, g⟩ := shp_arr Tryz.underlying22 f0
    have g0 := g 0 (by decide)
    have g1 := g 1 (by decide)
    have g2 := g 2 (by decide)
    have g3 := g 3 (by decide)
    have g4 := g 4 (by decide)
    have g5 := g 5 (by decide)
    have g6 := g 6 (by decide)
    have g7 := g 7 (by decide)
    simp only [c5, Nat.zero_mul, Nat.one_mul, Nat.reduceMul, List.drop_zero, List.drop_succ_cons, List.take_succ_cons, List.take_zero, List.take_nil] at g0 g1 g2 g3 g4 g5 g6 g7
    obtain ⟨a0, e0, w0⟩ := shp_int Tryz.underlying5 g0
    obtain ⟨a1, e1, w1⟩ := shp_int Tryz.underlying5 g1
    obtain ⟨a2, e2, w2⟩ := shp_int Tryz.underlying5 g2
    obtain ⟨a3, e3, w3⟩ := shp_int Tryz.underlying5 g3
    obtain ⟨a4, e4, w4⟩ := shp_int Tryz.underlying5 g4
    obtain ⟨a5, e5, w5⟩ := shp_int Tryz.underlying5 g5
    obtain ⟨a6, e6, w6⟩ := shp_int Tryz.underlying5 g6
    obtain ⟨a7, e7, w7⟩ := shp_int Tryz.underlying5 g7
    obtain ⟨b1, e8, w8⟩ := shp_int Tryz.underlying5 f1
    obtain ⟨b2, e9, w9⟩ := shp_int Tryz.underlying5 f2
    obtain ⟨b3, e10, w10⟩ := shp_int Tryz.underlying5 f3
    obtain ⟨b4, e11, w11⟩ := shp_int Tryz.underlying5 f4
    simp only [List.cons.injEq, and_true] at e0 e1 e2 e3 e4 e5 e6 e7 e8 e9 e10 e11
    subst e0 e1 e2 e3 e4 e5 e6 e7 e8 e9 e10 e11
    refine ⟨a0, a1, a2, a3, a4, a5, a6, a7, b1, b2, b3, b4, rfl, ?_, YtomomeabfnmncaaGreatH.Crc.wf_u8 w8, YtomomeabfnmncaaGreatH.Crc.wf_u8 w9, YtomomeabfnmncaaGreatH.Crc.wf_u8 w10, YtomomeabfnmncaaGreatH.Crc.wf_u8 w11⟩
    simp only [List.forall_mem_cons]
    exact ⟨YtomomeabfnmncaaGreatH.Crc.wf_u8 w0, YtomomeabfnmncaaGreatH.Crc.wf_u8 w1, YtomomeabfnmncaaGreatH.Crc.wf_u8 w2, YtomomeabfnmncaaGreatH.Crc.wf_u8 w3, YtomomeabfnmncaaGreatH.Crc.wf_u8 w4, YtomomeabfnmncaaGreatH.Crc.wf_u8 w5, YtomomeabfnmncaaGreatH.Crc.wf_u8 w6, YtomomeabfnmncaaGreatH.Crc.wf_u8 w7, fun x hx => by cases hx⟩
set_option maxRecDepth 100000 in
/-- A value. -/
theorem shp_val {n : Nat} {cs : List D} (h : Shp Tryz.prog (n + 2) 60 cs) : ∃ p : Va, cs = [.int .i64 p.1, .str p.2] ∧ i64R p.1 := by
  obtain ⟨h1, h2⟩ := shp_struct Tryz.underlying60 h
  have c62 : Tryz.prog.cellsOf 60 = 2 := by kernel_rfl
  have cN : Tryz.prog.cellsOf 2 = 1 := by kernel_rfl
  have cS : Tryz.prog.cellsOf 9 = 1 := by kernel_rfl
  rw [c62] at h1
  match cs, h1 with
  | [a0, a1], _ =>
    have f0 := h2 _ (by simp; exact .inl rfl)
    have f1 := h2 _ (by simp; exact .inr rfl)
    simp only [cN, cS, List.drop_zero, List.drop_succ_cons, List.take_succ_cons, List.take_zero, List.take_nil] at f0 f1
    obtain ⟨x, e0, hx⟩ := shp_int Tryz.underlying2 f0
    obtain ⟨s, e1, _⟩ := shp_str Tryz.underlying9 f1
    simp only [List.cons.injEq, and_true] at e0 e1
    subst e0 e1
    exact ⟨(x, s), rfl, Go.Proofs.YtomomeabfnmncaaGreatH.Crc.wf_i64 hx⟩
set_option maxRecDepth 100000 in
/-- A row of values. -/
theorem shp_row {n : Nat} {cs : List D} (h : Shp Tryz.prog (n + 3) 35 cs) : ∃ l : List Va, cs = [.slc false 2 (l.map Va.d)] ∧ l.length ≤ 2 ^ 44 ∧ ∀ p ∈ l, i64R p.1 := by
  unfold Shp at h
  rw [Tryz.underlying35] at h
  obtain ⟨es, rfl, h2, h3⟩ := h
  have ht : tyAg Tryz.prog 60 = true := by unfold tyAg; rw [Tryz.underlying60]
  have hc : Tryz.prog.cellsOf 60 = 2 := by kernel_rfl
  have hb : Tryz.prog.bytesOf 60 = 24 := by kernel_rfl
  rw [ht, hc]
  rw [hb] at h2
  have key : ∀ es : List (List D), (∀ x ∈ es, Shp Tryz.prog (n + 2) 60 x) → ∃ l : List Va, es.map (mkE true) = l.map Va.d ∧ l.length = es.length ∧ ∀ p ∈ l, i64R p.1 := by
    intro es
    induction es with
    | nil => intro _; exact ⟨[], rfl, rfl, fun x hx => by cases hx⟩
    | cons d es ih =>
      intro h
      obtain ⟨l, h1, h2, h3⟩ := ih (fun x hx => h x (List.mem_cons_of_mem _ hx))
      obtain ⟨p, rfl, hp⟩ := shp_val (h d List.mem_cons_self)
      refine ⟨p :: l, by simp [h1, mkE, Va.d], by simp [h2], fun y hy => ?_⟩
      rcases List.mem_cons.1 hy with rfl | hy
      · exact hp
      · exact h3 y hy
  obtain ⟨l, h4, h5, h6⟩ := key es h3
  exact ⟨l, by rw [h4], by omega, h6⟩

set_option maxRecDepth 100000 in
/-- Rows of rows. -/
theorem shp_rows {n : Nat} {cs : List D} (h : Shp Tryz.prog (n + 4) 25 cs) : ∃ L : List Rw, cs = [.slc false 1 (L.map Rw.d)] ∧ L.length ≤ 2 ^ 47 ∧ (∀ x ∈ L, x.r.length ≤ 2 ^ 47) ∧ ∀ x ∈ L, ∀ p ∈ x.r, i64R p.1 := by
  unfold Shp at h
  rw [Tryz.underlying25] at h
  obtain ⟨es, rfl, h2, h3⟩ := h
  have ht : tyAg Tryz.prog 35 = false := by unfold tyAg; rw [Tryz.underlying35]
  have hc : Tryz.prog.cellsOf 35 = 1 := by kernel_rfl
  have hb : Tryz.prog.bytesOf 35 = 24 := by kernel_rfl
  rw [ht, hc]
  rw [hb] at h2
  have key : ∀ es : List (List D), (∀ x ∈ es, Shp Tryz.prog (n + 3) 35 x) → ∃ L : List Rw, es.map (mkE false) = L.map Rw.d ∧ L.length = es.length ∧ (∀ x ∈ L, x.r.length ≤ 2 ^ 47) ∧ ∀ x ∈ L, ∀ p ∈ x.r, i64R p.1 := by
    intro es
    induction es with
    | nil => intro _; exact ⟨[], rfl, rfl, (fun x hx => by cases hx), (fun x hx => by cases hx)⟩
    | cons d es ih =>
      intro h
      obtain ⟨L, h1, h2, h3, h4⟩ := ih (fun x hx => h x (List.mem_cons_of_mem _ hx))
      obtain ⟨l, rfl, hl, hp⟩ := shp_row (h d List.mem_cons_self)
      refine ⟨⟨false, 2, l, .inl rfl⟩ :: L, by simp [h1, mkE, Rw.d], by simp [h2], fun y hy => ?_, fun y hy => ?_⟩
      · rcases List.mem_cons.1 hy with rfl | hy
        · show l.length ≤ _; omega
        · exact h3 y hy
      · rcases List.mem_cons.1 hy with rfl | hy
        · exact hp
        · exact h4 y hy
  obtain ⟨L, h4, h5, h6, h7⟩ := key es h3
  exact ⟨L, by rw [h4], by omega, h6, h7⟩
end Go.Ab
