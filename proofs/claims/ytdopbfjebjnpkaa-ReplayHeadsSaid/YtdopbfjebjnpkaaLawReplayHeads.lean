/- The row of the law thresherlaw17.ReplayHeads: whatever the input: true. -/
import Derived.Test.YtdopbfjebjnpkaaRows
import Derived.Test.YtdopbfjebjnpkaaBPLog2
import Derived.Test.YtdopbfjebjnpkaaBArg
import Derived.Test.YtdopbfjebjnpkaaAOraOk
import Derived.WalkKit
import Derived.ProofKit
import Derived.OpenShut
import Derived.ShutString
import Derived.ChangeOld
import Derived.Below
import Derived.SizedLaws
namespace Go.Proofs.Ytdopbfjebjnpkaa.replayHeads
open Go.ChangeShapes Go.WideShapes Go.ChangeAt Go.RowKit Go.Ab
set_option linter.unusedVariables false
theorem own : ownKnob Try.prog.godebug = none := by kernel_rfl
theorem laidOut : laidOutB Try.prog = true := by kernel_rfl
theorem mixed : Try.prog.follows .mixedOrders = true := by kernel_rfl
set_option maxRecDepth 100000 in
theorem lifted (os : Os) (started : os.Started) (H : Type) (enc : TypeId × Value → H) :
    ReturnsInHanded {} Try.checked os 7 .any (Rows.replayHeadsSpec.pre6 enc Try.prog Try.f7 Rows.replayHeadsRow.domain false) (Rows.replayHeadsSpec.post enc Try.prog Try.f7 false true false false) := by
  refine returnsInHanded_of_change_sized (C := Try.checked) own started (by kernel_rfl) Try.func7
    (ChangeSpec.witness6 (enc := enc) (C := Try.checked) false ⟨#[], #[.agg #[.int .u8 0, .int .u8 0, .int .u8 0, .int .u8 0, .int .u8 0, .int .u8 0, .int .u8 0, .int .u8 0, .int .u8 0, .int .u8 0, .int .u8 0, .int .u8 0], .slice none 0 0], []⟩ 8 (by kernel_rfl) (by kernel_rfl) (by kernel_rfl) (by kernel_rfl)) ?_
  intro W base args ds gs before hval0 hW hcnd hsz0 _
  have hsz : (DataW.weightsEach Try.prog (Try.f7.params.toList ++ Rows.replayHeadsSpec.plain.varTypes Try.prog) (ds ++ gs)).all (· ≤ reachBytes) = true := hsz0
  have hval : ∀ (j : Nat) t v, Try.f7.params[j]? = some t → args[j]? = some v → Value.okWide Try.prog W .any base t v := hval0
  have hW' := hW
  obtain ⟨p, q, hA0, hV, rfl, hfz, hnd⟩ := hW
  have hA : DataW.TrodAll enc Try.prog W 0 (fun _ => true) true Try.f7.params.toList args.toList ds p := hA0
  rw [Try.params7] at hA hval hsz
  obtain ⟨v0, vs0, d0, ds0, p0, q0, hargs, rfl, rfl, h0, r0⟩ := trodAll_cons hA
  obtain ⟨v1, vs1, d1, ds1, p1, q1, rfl, rfl, rfl, h1, r1⟩ := trodAll_cons r0
  obtain ⟨rfl, rfl, rfl⟩ := trodAll_nil r1
  obtain rfl : args = #[v0, v1] := by cases args; simp_all
  obtain ⟨rfl, rfl⟩ := trodVars_none hV
  have k0 := h0
  have lt0 : ∀ x ∈ p0, x.block < W.heap.size := by obtain ⟨m, hm⟩ := k0; exact DataW.trod_lt m _ _ _ hm
  have k1 := h1
  have lt1 : ∀ x ∈ p1, x.block < W.heap.size := by obtain ⟨m, hm⟩ := k1; exact DataW.trod_lt m _ _ _ hm
  have wt0 : ∀ n ∈ d0.weights Try.prog 24, n ≤ reachBytes := fun n hn => by simpa using List.all_eq_true.1 hsz n (DataW.weights_mem_each (j := 0) (t := 24) (d := d0) rfl rfl n hn)
  have wt1 : ∀ n ∈ d1.weights Try.prog 25, n ≤ reachBytes := fun n hn => by simpa using List.all_eq_true.1 hsz n (DataW.weights_mem_each (j := 1) (t := 25) (d := d1) rfl rfl n hn)
  obtain ⟨fu0, hf0⟩ := h0
  obtain ⟨fu1, hf1⟩ := h1
  obtain ⟨D0, l0, S0, R0⟩ := arg_ok (n := 8) (by kernel_rfl) (hval 0 24 v0 rfl rfl) wt0 hf0
  obtain ⟨D1, l1, S1, R1⟩ := arg_ok (n := 8) (by kernel_rfl) (hval 1 25 v1 rfl rfl) wt1 hf1
  have a0 : tyAg Try.prog 24 = true := by unfold tyAg; rw [Try.underlying24]
  rw [a0] at R0
  have a1 : tyAg Try.prog 25 = false := by unfold tyAg; rw [Try.underlying25]
  rw [a1] at R1
  obtain ⟨x0_0, x0_1, x0_2, x0_3, x0_4, x0_5, x0_6, x0_7, x0_8, x0_9, x0_10, x0_11, rfl, hx0, hn0, hk0, hm0, hg0⟩ := shp_shape S0
  obtain ⟨x1, rfl, hx1⟩ := shp_b3s S1
  have R0' : Rd W (FAll W) noEnv v0 (.agg [.int .u8 x0_0, .int .u8 x0_1, .int .u8 x0_2, .int .u8 x0_3, .int .u8 x0_4, .int .u8 x0_5, .int .u8 x0_6, .int .u8 x0_7, .int .u8 x0_8, .int .u8 x0_9, .int .u8 x0_10, .int .u8 x0_11]) := R0
  have R1' : Rd W (FAll W) noEnv v1 (.slc false 3 (x1.map B3.d)) := R1
  clear hA0 hval0 hsz0 hsz
  have hK := K225 x0_0 x0_1 x0_2 x0_3 x0_4 x0_5 x0_6 x0_7 x0_8 x0_9 x0_10 x0_11 hx0 hn0 hk0 hm0 hg0 false x1 hx1
  have hv : RdL W (FAll W) noEnv [v0, v1] [.agg [.int .u8 x0_0, .int .u8 x0_1, .int .u8 x0_2, .int .u8 x0_3, .int .u8 x0_4, .int .u8 x0_5, .int .u8 x0_6, .int .u8 x0_7, .int .u8 x0_8, .int .u8 x0_9, .int .u8 x0_10, .int .u8 x0_11], .slc false 3 (x1.map B3.d)] := by
    refine ⟨rfl, fun i v d hi hd => ?_⟩
    match i with
    | 0 => simp at hi hd; subst hi hd; exact R0'
    | 1 => simp at hi hd; subst hi hd; exact R1'
    | n + 2 => simp at hi
  refine (law_calls mixed (fun f fn' h => h) (oraG_ok oraU_ok) hK hv).mono fun e W' ⟨he, bel⟩ => ?_
  subst he
  exact ⟨_, rfl, _, _, _, [], _, [], hW', trodAll_mk1 (shut_bool Try.underlying4 _), (trodAll_cons_mk (Below.trod laidOut (by kernel_rfl) (of_decide_eq_true (by kernel_rfl)) k0 bel lt0) (trodAll_cons_mk (Below.trod laidOut (by kernel_rfl) (of_decide_eq_true (by kernel_rfl)) k1 bel lt1) trodAll_mk0)), rfl, bel.frame _, fun h => by cases h⟩
theorem over : Rows.replayHeadsRow.holds Try.pinned (OpenSpec.ofChange Rows.replayHeadsSpec) :=
  OpenClaim.holds_of_wide 7 Try.f7 rfl rfl rfl rfl rfl rfl rfl ⟨rfl, rfl, rfl, rfl, rfl⟩ rfl rfl rfl rfl rfl (by kernel_rfl) Try.func7 (by kernel_rfl)
    (of_decide_eq_true (by kernel_rfl)) (by unfold Func.isWrapper; first | (rw [if_pos (by decide +kernel)]; kernel_rfl) | (rw [if_neg (by decide +kernel)]; exact ⟨rfl, rfl⟩))
    (fun os started H enc _ => lifted os started H enc)
theorem proved : Rows.ReplayHeadsSaid := over
#print axioms proved
end Go.Proofs.Ytdopbfjebjnpkaa.replayHeads
namespace Go.Proofs.Ytdopbfjebjnpkaa
/-- The row, under a short name, for the claim. -/
theorem replayHeads_holds : Rows.ReplayHeadsSaid := replayHeads.proved
end Go.Proofs.Ytdopbfjebjnpkaa
