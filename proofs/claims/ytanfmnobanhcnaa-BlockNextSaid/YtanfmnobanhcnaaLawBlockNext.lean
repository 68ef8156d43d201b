/- The row of the law thresherlaw07.BlockNext: whatever the input: true. -/
import Derived.Test.YtanfmnobanhcnaaRows
import Derived.Test.YtanfmnobanhcnaaBF12
import Derived.Test.YtanfmnobanhcnaaBArgV
import Derived.WalkKit
import Derived.ProofKit
import Derived.OpenShut
import Derived.ShutString
import Derived.ChangeOld
import Derived.Below
import Derived.SizedLaws
namespace Go.Proofs.Ytanfmnobanhcnaa.blockNext
open Go.ChangeShapes Go.WideShapes Go.ChangeAt Go.RowKit Go.Ab
set_option linter.unusedVariables false
theorem own : ownKnob Try.prog.godebug = none := by kernel_rfl
theorem laidOut : laidOutB Try.prog = true := by kernel_rfl
theorem mixed : Try.prog.follows .mixedOrders = true := by kernel_rfl
set_option maxRecDepth 100000 in
theorem lifted (os : Os) (started : os.Started) (H : Type) (enc : TypeId × Value → H) :
    ReturnsInHanded {} Try.checked os 12 .any (Rows.blockNextSpec.pre6 enc Try.prog Try.f12 Rows.blockNextRow.domain false) (Rows.blockNextSpec.post enc Try.prog Try.f12 false true false false) := by
  refine returnsInHanded_of_change_sized (C := Try.checked) own started (by kernel_rfl) Try.func12
    (ChangeSpec.witness6 (enc := enc) (C := Try.checked) false ⟨#[], #[.slice none 0 0], []⟩ 8 (by kernel_rfl) (by kernel_rfl) (by kernel_rfl) (by kernel_rfl)) ?_
  intro W base args ds gs before hval0 hW hcnd hsz0 _
  have hsz : (DataW.weightsEach Try.prog (Try.f12.params.toList ++ Rows.blockNextSpec.plain.varTypes Try.prog) (ds ++ gs)).all (· ≤ reachBytes) = true := hsz0
  have hval : ∀ (j : Nat) t v, Try.f12.params[j]? = some t → args[j]? = some v → Value.okWide Try.prog W .any base t v := hval0
  have hW' := hW
  obtain ⟨p, q, hA0, hV, rfl, hfz, hnd⟩ := hW
  have hA : DataW.TrodAll enc Try.prog W 0 (fun _ => true) true Try.f12.params.toList args.toList ds p := hA0
  rw [Try.params12] at hA hval hsz
  obtain ⟨v0, vs0, d0, ds0, p0, q0, hargs, rfl, rfl, h0, r0⟩ := trodAll_cons hA
  obtain ⟨rfl, rfl, rfl⟩ := trodAll_nil r0
  obtain rfl : args = #[v0] := by cases args; simp_all
  obtain ⟨rfl, rfl⟩ := trodVars_none hV
  have k0 := h0
  have lt0 : ∀ x ∈ p0, x.block < W.heap.size := by obtain ⟨m, hm⟩ := k0; exact DataW.trod_lt m _ _ _ hm
  have wt0 : ∀ n ∈ d0.weights Try.prog 53, n ≤ reachBytes := fun n hn => by simpa using List.all_eq_true.1 hsz n (DataW.weights_mem_each (j := 0) (t := 53) (d := d0) rfl rfl n hn)
  obtain ⟨fu0, hf0⟩ := h0
  obtain ⟨D0, l0, S0, R0⟩ := arg_ok (n := 8) (by kernel_rfl) (hval 0 53 v0 rfl rfl) wt0 hf0
  have a0 : tyAg Try.prog 53 = false := by unfold tyAg; rw [Try.underlying53]
  rw [a0] at R0
  obtain ⟨x0, rfl, hl0, hx0⟩ := shp_vals S0
  have R0' : Rd W (FAll W) noEnv v0 (.slc false 2 (x0.map Va.d)) := R0
  clear hA0 hval0 hsz0 hsz
  have hK := K12 false 2 (.inl rfl) x0 hl0 hx0
  have hv : RdL W (FAll W) noEnv [v0] [.slc false 2 (x0.map Va.d)] := by
    refine ⟨rfl, fun i v d hi hd => ?_⟩
    match i with
    | 0 => simp at hi hd; subst hi hd; exact R0'
    | n + 1 => simp at hi
  refine (law_calls mixed (fun f fn' h => h) oraG_ok hK hv).mono fun e W' ⟨he, bel⟩ => ?_
  subst he
  exact ⟨_, rfl, _, _, _, [], _, [], hW', trodAll_mk1 (shut_bool Try.underlying4 _), (trodAll_cons_mk (Below.trod laidOut (by kernel_rfl) (of_decide_eq_true (by kernel_rfl)) k0 bel lt0) trodAll_mk0), rfl, bel.frame _, fun h => by cases h⟩
theorem over : Rows.blockNextRow.holds Try.pinned (OpenSpec.ofChange Rows.blockNextSpec) :=
  OpenClaim.holds_of_wide 12 Try.f12 rfl rfl rfl rfl rfl rfl rfl ⟨rfl, rfl, rfl, rfl, rfl⟩ rfl rfl rfl rfl rfl (by kernel_rfl) Try.func12 (by kernel_rfl)
    (of_decide_eq_true (by kernel_rfl)) (by unfold Func.isWrapper; first | (rw [if_pos (by decide +kernel)]; kernel_rfl) | (rw [if_neg (by decide +kernel)]; exact ⟨rfl, rfl⟩))
    (fun os started H enc _ => lifted os started H enc)
theorem proved : Rows.BlockNextSaid := over
#print axioms proved
end Go.Proofs.Ytanfmnobanhcnaa.blockNext
namespace Go.Proofs.Ytanfmnobanhcnaa
/-- The row, under a short name, for the claim. -/
theorem blockNext_holds : Rows.BlockNextSaid := blockNext.proved
end Go.Proofs.Ytanfmnobanhcnaa
