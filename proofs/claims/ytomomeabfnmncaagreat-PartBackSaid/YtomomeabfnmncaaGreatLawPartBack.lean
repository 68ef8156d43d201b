/- The row of the law thresherlaw11.PartBack: whatever the input: true. -/
import Derived.Test.YtomomeabfnmncaaGreatRows
import Derived.Test.YtomomeabfnmncaaGreatBF290
import Derived.Test.YtomomeabfnmncaaGreatBArg
import Derived.WalkKit
import Derived.ProofKit
import Derived.OpenShut
import Derived.ShutString
import Derived.ChangeOld
import Derived.Below
import Derived.SizedLaws
namespace Go.Proofs.YtomomeabfnmncaaGreat.partBack
open Go.ChangeShapes Go.WideShapes Go.ChangeAt Go.RowKit Go.Ab
set_option linter.unusedVariables false
theorem own : ownKnob Tryz.prog.godebug = none := by kernel_rfl
theorem laidOut : laidOutB Tryz.prog = true := by kernel_rfl
theorem mixed : Tryz.prog.follows .mixedOrders = true := by kernel_rfl
set_option maxRecDepth 100000 in
theorem lifted (os : Os) (started : os.Started) (H : Type) (enc : TypeId × Value → H) :
    ReturnsInHanded {} Tryz.checked os 3 .any (Rows.partBackSpec.pre6 enc Tryz.prog Tryz.f3 Rows.partBackRow.domain false) (Rows.partBackSpec.post enc Tryz.prog Tryz.f3 false true false false) := by
  refine returnsInHanded_of_change_sized (C := Tryz.checked) own started (by kernel_rfl) Tryz.func3
    (ChangeSpec.witness6 (enc := enc) (C := Tryz.checked) false ⟨#[], #[.agg #[.int .u8 0, .int .u8 0, .int .u8 0, .int .u8 0, .int .u8 0, .int .u8 0, .int .u8 0, .int .u8 0, .int .u8 0, .int .u8 0, .int .u8 0, .int .u8 0], .slice none 0 0, .int .u16 0], []⟩ 8 (by kernel_rfl) (by kernel_rfl) (by kernel_rfl) (by kernel_rfl)) ?_
  intro W base args ds gs before hval0 hW hcnd hsz0 _
  have hsz : (DataW.weightsEach Tryz.prog (Tryz.f3.params.toList ++ Rows.partBackSpec.plain.varTypes Tryz.prog) (ds ++ gs)).all (· ≤ reachBytes) = true := hsz0
  have hval : ∀ (j : Nat) t v, Tryz.f3.params[j]? = some t → args[j]? = some v → Value.okWide Tryz.prog W .any base t v := hval0
  have hW' := hW
  obtain ⟨p, q, hA0, hV, rfl, hfz, hnd⟩ := hW
  have hA : DataW.TrodAll enc Tryz.prog W 0 (fun _ => true) true Tryz.f3.params.toList args.toList ds p := hA0
  rw [Tryz.params3] at hA hval hsz
  obtain ⟨v0, vs0, d0, ds0, p0, q0, hargs, rfl, rfl, h0, r0⟩ := trodAll_cons hA
  obtain ⟨v1, vs1, d1, ds1, p1, q1, rfl, rfl, rfl, h1, r1⟩ := trodAll_cons r0
  obtain ⟨v2, vs2, d2, ds2, p2, q2, rfl, rfl, rfl, h2, r2⟩ := trodAll_cons r1
  obtain ⟨rfl, rfl, rfl⟩ := trodAll_nil r2
  obtain rfl : args = #[v0, v1, v2] := by cases args; simp_all
  obtain ⟨rfl, rfl⟩ := trodVars_none hV
  have k0 := h0
  have lt0 : ∀ x ∈ p0, x.block < W.heap.size := by obtain ⟨m, hm⟩ := k0; exact DataW.trod_lt m _ _ _ hm
  have k1 := h1
  have lt1 : ∀ x ∈ p1, x.block < W.heap.size := by obtain ⟨m, hm⟩ := k1; exact DataW.trod_lt m _ _ _ hm
  have k2 := h2
  have lt2 : ∀ x ∈ p2, x.block < W.heap.size := by obtain ⟨m, hm⟩ := k2; exact DataW.trod_lt m _ _ _ hm
  have wt0 : ∀ n ∈ d0.weights Tryz.prog 24, n ≤ reachBytes := fun n hn => by simpa using List.all_eq_true.1 hsz n (DataW.weights_mem_each (j := 0) (t := 24) (d := d0) rfl rfl n hn)
  have wt1 : ∀ n ∈ d1.weights Tryz.prog 25, n ≤ reachBytes := fun n hn => by simpa using List.all_eq_true.1 hsz n (DataW.weights_mem_each (j := 1) (t := 25) (d := d1) rfl rfl n hn)
  have wt2 : ∀ n ∈ d2.weights Tryz.prog 26, n ≤ reachBytes := fun n hn => by simpa using List.all_eq_true.1 hsz n (DataW.weights_mem_each (j := 2) (t := 26) (d := d2) rfl rfl n hn)
  obtain ⟨fu0, hf0⟩ := h0
  obtain ⟨fu1, hf1⟩ := h1
  obtain ⟨fu2, hf2⟩ := h2
  obtain ⟨D0, l0, S0, R0⟩ := arg_ok (n := 8) (by kernel_rfl) (hval 0 24 v0 rfl rfl) wt0 hf0
  obtain ⟨D1, l1, S1, R1⟩ := arg_ok (n := 8) (by kernel_rfl) (hval 1 25 v1 rfl rfl) wt1 hf1
  obtain ⟨D2, l2, S2, R2⟩ := arg_ok (n := 8) (by kernel_rfl) (hval 2 26 v2 rfl rfl) wt2 hf2
  have a0 : tyAg Tryz.prog 24 = true := by unfold tyAg; rw [Tryz.underlying24]
  rw [a0] at R0
  have a1 : tyAg Tryz.prog 25 = false := by unfold tyAg; rw [Tryz.underlying25]
  rw [a1] at R1
  have a2 : tyAg Tryz.prog 26 = false := by unfold tyAg; rw [Tryz.underlying26]
  rw [a2] at R2
  obtain ⟨x0_0, x0_1, x0_2, x0_3, x0_4, x0_5, x0_6, x0_7, x0_8, x0_9, x0_10, x0_11, rfl, hx0, hn0, hk0, hm0, hg0⟩ := shp_shape S0
  obtain ⟨x1, rfl, hl1, hr1, hx1⟩ := shp_rows S1
  obtain ⟨x2, rfl, hx2⟩ := shp_int Tryz.underlying26 S2
  have R0' : Rd W (FAll W) noEnv v0 (.agg [.int .u8 x0_0, .int .u8 x0_1, .int .u8 x0_2, .int .u8 x0_3, .int .u8 x0_4, .int .u8 x0_5, .int .u8 x0_6, .int .u8 x0_7, .int .u8 x0_8, .int .u8 x0_9, .int .u8 x0_10, .int .u8 x0_11]) := R0
  have R1' : Rd W (FAll W) noEnv v1 (.slc false 1 (x1.map Rw.d)) := R1
  have R2' : Rd W (FAll W) noEnv v2 (.int .u16 x2) := R2
  clear hA0 hval0 hsz0 hsz
  have hK := K285 [x0_0, x0_1, x0_2, x0_3, x0_4, x0_5, x0_6, x0_7] x0_8 x0_9 x0_10 x0_11 rfl hx0 hn0 hk0 hm0 hg0 false 1 x1 (.inl rfl) hl1 hr1 hx1 x2 (YtomomeabfnmncaaGreatH.Crc.wf_u16 hx2)
  have hv : RdL W (FAll W) noEnv [v0, v1, v2] [.agg [.int .u8 x0_0, .int .u8 x0_1, .int .u8 x0_2, .int .u8 x0_3, .int .u8 x0_4, .int .u8 x0_5, .int .u8 x0_6, .int .u8 x0_7, .int .u8 x0_8, .int .u8 x0_9, .int .u8 x0_10, .int .u8 x0_11], .slc false 1 (x1.map Rw.d), .int .u16 x2] := by
    refine ⟨rfl, fun i v d hi hd => ?_⟩
    match i with
    | 0 => simp at hi hd; subst hi hd; exact R0'
    | 1 => simp at hi hd; subst hi hd; exact R1'
    | 2 => simp at hi hd; subst hi hd; exact R2'
    | n + 3 => simp at hi
  refine (law_calls mixed (fun f fn' h => h) (ora1_ok mixed) hK hv).mono fun e W' ⟨he, bel⟩ => ?_
  subst he
  exact ⟨_, rfl, _, _, _, [], _, [], hW', trodAll_mk1 (shut_bool Tryz.underlying4 _), (trodAll_cons_mk (Below.trod laidOut (by kernel_rfl) (of_decide_eq_true (by kernel_rfl)) k0 bel lt0) (trodAll_cons_mk (Below.trod laidOut (by kernel_rfl) (of_decide_eq_true (by kernel_rfl)) k1 bel lt1) (trodAll_cons_mk (Below.trod laidOut (by kernel_rfl) (of_decide_eq_true (by kernel_rfl)) k2 bel lt2) trodAll_mk0))), rfl, bel.frame _, fun h => by cases h⟩
theorem over : Rows.partBackRow.holds Tryz.pinned (OpenSpec.ofChange Rows.partBackSpec) :=
  OpenClaim.holds_of_wide 3 Tryz.f3 rfl rfl rfl rfl rfl rfl rfl ⟨rfl, rfl, rfl, rfl, rfl⟩ rfl rfl rfl rfl rfl (by kernel_rfl) Tryz.func3 (by kernel_rfl)
    (of_decide_eq_true (by kernel_rfl)) (by unfold Func.isWrapper; first | (rw [if_pos (by decide +kernel)]; kernel_rfl) | (rw [if_neg (by decide +kernel)]; exact ⟨rfl, rfl⟩))
    (fun os started H enc _ => lifted os started H enc)
theorem proved : Rows.PartBackSaid := over
#print axioms proved
end Go.Proofs.YtomomeabfnmncaaGreat.partBack
namespace Go.Proofs.YtomomeabfnmncaaGreat
/-- The row, under a short name, for the claim. -/
theorem partBack_holds : Rows.PartBackSaid := partBack.proved
end Go.Proofs.YtomomeabfnmncaaGreat
