/- THE ABSTRACT MACHINE: from the machine's answer to a law's row. -/
import Derived.Test.YtomomeabfnmncaaGreatBOpen
import Derived.Test.YtomomeabfnmncaaGreatBSim
set_option linter.all false
namespace Go.Ab
open Go.Deep Go.ChangeShapes Go.WideShapes Go.RowKit

section
variable {P : Program} {w : World} {n : Nat}

theorem arg_ok {H : Type} {enc : TypeId × Value → H} {r : Reach} {base : Nat} {t : TypeId} {v : Value} {fuel : Nat} {x : DataW H × List MemPlace} (hp : plainT P n t = true) (hv : Value.okWide P w r base t v) (hx : ∀ n ∈ x.1.weights P t, n ≤ reachBytes)
    (h : DataW.trod enc P w 0 (fun _ => true) true fuel t v.cells.toList = some x) : ∃ ds, ds.length = P.cellsOf t ∧ Shp P n t ds ∧ Rd w (FAll w) noEnv v (mkE (tyAg P t) ds) := by
  obtain ⟨ds, h1, h2, h3⟩ := open_ok enc n t fuel _ x hp hx h
  refine ⟨ds, h2, h3, ?_⟩
  have hagg : ∀ cs : Array Value, v = .agg cs → Rd w (FAll w) noEnv v (.agg ds) := by
    rintro cs rfl
    have := Rd.agg (w := w) (F := FAll w) noEnv cs.toList ds (by have := h1.1; simpa [Value.cells] using this) (fun i v d hv hd => (h1.2 i v d (by simpa [Value.cells] using hv) hd).1)
    simpa using this
  cases n with
  | zero => cases hp
  | succ n =>
    unfold plainT at hp
    unfold Value.okWide at hv
    unfold tyAg
    have hone : (∀ cs, v ≠ .agg cs) → ds.length = 1 → Rd w (FAll w) noEnv v (mkE false ds) := by
      intro hna hl
      have hc : v.cells = #[v] := by cases v <;> first | rfl | exact absurd rfl (hna _)
      rw [hc] at h1
      match ds, hl with
      | [d], _ => exact (h1.2 0 v d rfl rfl).1
    split at hp
    all_goals rename_i hu; simp only [hu] at hv ⊢
    · simp only [beq_iff_eq] at hp
      refine hone ?_ (h2.trans hp)
      rintro cs rfl
      simp [Cell.okWide, hu, Cell.ok] at hv
    · simp only [beq_iff_eq] at hp
      refine hone ?_ (h2.trans hp)
      rintro cs rfl
      simp [Cell.okWide, hu, Cell.ok] at hv
    · simp only [beq_iff_eq] at hp
      refine hone ?_ (h2.trans hp)
      rintro cs rfl
      simp [Cell.okWide, hu, Cell.ok] at hv
    · simp only [Bool.and_eq_true, beq_iff_eq, decide_eq_true_eq] at hp
      refine hone ?_ (h2.trans hp.1.1)
      rintro cs rfl
      simp [Cell.okWide, hu, Cell.ok] at hv
    · obtain ⟨cs, e, _⟩ := hv
      exact hagg cs e
    · obtain ⟨cs, e, _⟩ := hv
      exact hagg cs e
    · cases hp

variable {cf : Cfg} {fs : Nat → Option Fn'} {ora : CallFn}

/-- A LAW THAT IS TRUE. -/
theorem law_calls (hm : P.follows .mixedOrders = true) (hfs : ∀ f fn', fs f = some fn' → compF P f = some fn') (hora : CallOk P ora) {f : Nat} {vs : List Value} {ds : List D} (hK : K cf fs ora f ds [] = some (.bool true, [])) (hv : RdL w (FAll w) noEnv vs ds) :
    Calls P f vs.toArray w fun e w' => e = .returned (.bool true) ∧ Below w.heap.size w w' := by
  have R : Rel w (FAll w) (fun _ => none) (hp []) (fun b => b < w.heap.size) :=
    ⟨fun g o h => by simp [hp] at h, fun g g' b z z' h => by simp [hp] at h, fun g b z h => by simp [hp] at h, fun b o h => h, fun b h => h⟩
  refine ((K_ok hm hfs hora f ds [] _ _ hK).2 w (FAll w) (fun _ => none) _ vs R ⟨hv.1, fun i v d h1 h2 => (hv.2 i v d h1 h2).mono (FLe.refl _ _) (KLe.none _)⟩).mono ?_
  rintro e w' ⟨v, rfl, F', μ', n, h⟩
  exact ⟨by rw [rd_bool h], n.stp.os, n.stp.tape, n.stp.output, n.stp.size, fun k hk => n.stp.prb k hk⟩
end
end Go.Ab
