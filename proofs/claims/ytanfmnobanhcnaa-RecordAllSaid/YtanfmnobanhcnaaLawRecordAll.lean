/- The row of the law thresherlaw16.RecordAll: whatever the record, and whatever the bytes: true. -/
import Derived.Test.YtanfmnobanhcnaaRows
import Derived.Test.YtanfmnobanhcnaaBF4
import Derived.Test.YtanfmnobanhcnaaAArg
import Derived.WalkKit
import Derived.ProofKit
import Derived.OpenShut
import Derived.ShutString
import Derived.ChangeOld
import Derived.Below
import Derived.SizedLaws
namespace Go.Proofs.Ytanfmnobanhcnaa.recordAll
open Go.ChangeShapes Go.WideShapes Go.ChangeAt Go.RowKit Go.Ab
set_option linter.unusedVariables false
theorem own : ownKnob Try.prog.godebug = none := by kernel_rfl
theorem laidOut : laidOutB Try.prog = true := by kernel_rfl
theorem mixed : Try.prog.follows .mixedOrders = true := by kernel_rfl
set_option maxRecDepth 100000 in
/-- A record as an argument. -/
theorem rec_shape {ds : List D} (h : Shp Try.prog 8 30 ds) : ∃ kd ts k m g ids id, D.agg ds = Rcd kd false 1 ts k m g false 1 ids id := by
  obtain ⟨h1, h2⟩ := shp_struct Try.underlying30 h
  have c30 : Try.prog.cellsOf 30 = 7 := by kernel_rfl
  have c25 : Try.prog.cellsOf 25 = 4 := by kernel_rfl
  have c23 : Try.prog.cellsOf 23 = 1 := by kernel_rfl
  have c3 : Try.prog.cellsOf 3 = 1 := by kernel_rfl
  rw [c30] at h1
  match ds, h1 with
  | [a0, a1, a2, a3, a4, a5, a6], _ =>
    have f0 := h2 _ (by simp; exact .inl rfl)
    have f1 := h2 _ (by simp; exact .inr (.inl rfl))
    have f2 := h2 _ (by simp; exact .inr (.inr (.inl rfl)))
    have f3 := h2 _ (by simp; exact .inr (.inr (.inr rfl)))
    simp only [c25, c23, c3, List.drop_zero, List.drop_succ_cons, List.take_succ_cons, List.take_zero, List.take_nil] at f0 f1 f2 f3
    obtain ⟨h3, h4⟩ := shp_struct Try.underlying25 f1
    have g0 := h4 _ (by simp; exact .inl rfl)
    have g1 := h4 _ (by simp; exact .inr (.inl rfl))
    have g2 := h4 _ (by simp; exact .inr (.inr (.inl rfl)))
    have g3 := h4 _ (by simp; exact .inr (.inr (.inr rfl)))
    simp only [c23, c3, List.drop_zero, List.drop_succ_cons, List.take_succ_cons, List.take_zero, List.take_nil] at g0 g1 g2 g3
    obtain ⟨kd, e0, _⟩ := shp_int Try.underlying3 f0
    obtain ⟨ts, e1, _⟩ := shp_ints Try.underlying23 Try.underlying3 c3 g0
    obtain ⟨k, e2, _⟩ := shp_int Try.underlying3 g1
    obtain ⟨m, e3, _⟩ := shp_int Try.underlying3 g2
    obtain ⟨g, e4, _⟩ := shp_int Try.underlying3 g3
    obtain ⟨ids, e5, _⟩ := shp_ints Try.underlying23 Try.underlying3 c3 f2
    obtain ⟨id, e6, _⟩ := shp_int Try.underlying3 f3
    simp only [List.cons.injEq, and_true] at e0 e1 e2 e3 e4 e5 e6
    subst e0 e1 e2 e3 e4 e5 e6
    exact ⟨kd, ts, k, m, g, ids, id, rfl⟩
set_option maxRecDepth 100000 in
theorem lifted (os : Os) (started : os.Started) (H : Type) (enc : TypeId × Value → H) :
    ReturnsInHanded {} Try.checked os 4 .any (Rows.recordAllSpec.pre6 enc Try.prog Try.f4 Rows.recordAllRow.domain false) (Rows.recordAllSpec.post enc Try.prog Try.f4 false true false false) := by
  refine returnsInHanded_of_change_sized (C := Try.checked) own started (by kernel_rfl) Try.func4
    (ChangeSpec.witness6 (enc := enc) (C := Try.checked) false ⟨#[], #[.agg #[.int .i64 0, .slice none 0 0, .int .i64 0, .int .i64 0, .int .i64 0, .slice none 0 0, .int .i64 0], .slice none 0 0], []⟩ 8 (by kernel_rfl) (by kernel_rfl) (by kernel_rfl) (by kernel_rfl)) ?_
  intro W base args ds gs before hval0 hW hcnd hsz0 _
  have hsz : (DataW.weightsEach Try.prog (Try.f4.params.toList ++ Rows.recordAllSpec.plain.varTypes Try.prog) (ds ++ gs)).all (· ≤ reachBytes) = true := hsz0
  have hval : ∀ (j : Nat) t v, Try.f4.params[j]? = some t → args[j]? = some v → Value.okWide Try.prog W .any base t v := hval0
  have hW' := hW
  obtain ⟨p, q, hA0, hV, rfl, hfz, hnd⟩ := hW
  have hA : DataW.TrodAll enc Try.prog W 0 (fun _ => true) true Try.f4.params.toList args.toList ds p := hA0
  rw [Try.params4] at hA hval hsz
  obtain ⟨v0, vs0, d0, ds0, p0, q0, hargs, rfl, rfl, h0, r0⟩ := trodAll_cons hA
  obtain ⟨v1, vs1, d1, ds1, p1, q1, rfl, rfl, rfl, h1, r1⟩ := trodAll_cons r0
  obtain ⟨rfl, rfl, rfl⟩ := trodAll_nil r1
  obtain rfl : args = #[v0, v1] := by cases args; simp_all
  obtain ⟨rfl, rfl⟩ := trodVars_none hV
  have k0 := h0
  have lt0 : ∀ x ∈ p0, x.block < W.heap.size := by obtain ⟨m, hm⟩ := k0; exact DataW.trod_lt m _ _ _ hm
  have k1 := h1
  have lt1 : ∀ x ∈ p1, x.block < W.heap.size := by obtain ⟨m, hm⟩ := k1; exact DataW.trod_lt m _ _ _ hm
  have wt0 : ∀ n ∈ d0.weights Try.prog 30, n ≤ reachBytes := fun n hn => by simpa using List.all_eq_true.1 hsz n (DataW.weights_mem_each (j := 0) (t := 30) (d := d0) rfl rfl n hn)
  have wt1 : ∀ n ∈ d1.weights Try.prog 26, n ≤ reachBytes := fun n hn => by simpa using List.all_eq_true.1 hsz n (DataW.weights_mem_each (j := 1) (t := 26) (d := d1) rfl rfl n hn)
  obtain ⟨fu0, hf0⟩ := h0
  obtain ⟨fu1, hf1⟩ := h1
  obtain ⟨D0, l0, S0, R0⟩ := arg_ok (n := 8) (by kernel_rfl) (hval 0 30 v0 rfl rfl) wt0 hf0
  obtain ⟨D1, l1, S1, R1⟩ := arg_ok (n := 8) (by kernel_rfl) (hval 1 26 v1 rfl rfl) wt1 hf1
  have a0 : tyAg Try.prog 30 = true := by unfold tyAg; rw [Try.underlying30]
  have a1 : tyAg Try.prog 26 = false := by unfold tyAg; rw [Try.underlying26]
  rw [a0] at R0
  rw [a1] at R1
  obtain ⟨kd, ts, k, m, g, ids, id, e0⟩ := rec_shape S0
  obtain ⟨b, rfl, _, hb⟩ := shp_ints Try.underlying26 Try.underlying5 (by kernel_rfl) S1
  have R0' : Rd W (FAll W) noEnv v0 (Rcd kd false 1 ts k m g false 1 ids id) := by rw [← e0]; exact R0
  have R1' : Rd W (FAll W) noEnv v1 (.slc false 1 (b.map (.int .u8))) := R1
  clear hA0 hval0 hsz0 hsz
  have hK := K4 kd false ts k m g false ids id false b (YtanfmnobanhcnaaH.Crc.isB_wf hb)
  have hv : RdL W (FAll W) noEnv [v0, v1] [Rcd kd false 1 ts k m g false 1 ids id, .slc false 1 (b.map (.int .u8))] := by
    refine ⟨rfl, fun i v d hi hd => ?_⟩
    match i with
    | 0 => simp at hi hd; subst hi hd; exact R0'
    | 1 => simp at hi hd; subst hi hd; exact R1'
    | n + 2 => simp at hi
  refine (law_calls mixed (fun f fn' h => h) oraG_ok hK hv).mono fun e W' ⟨he, bel⟩ => ?_
  subst he
  exact ⟨_, rfl, _, _, _, [], _, [], hW', trodAll_mk1 (shut_bool Try.underlying4 _), (trodAll_cons_mk (Below.trod laidOut (by kernel_rfl) (of_decide_eq_true (by kernel_rfl)) k0 bel lt0) (trodAll_cons_mk (Below.trod laidOut (by kernel_rfl) (of_decide_eq_true (by kernel_rfl)) k1 bel lt1) trodAll_mk0)), rfl, bel.frame _, fun h => by cases h⟩
theorem over : Rows.recordAllRow.holds Try.pinned (OpenSpec.ofChange Rows.recordAllSpec) :=
  OpenClaim.holds_of_wide 4 Try.f4 rfl rfl rfl rfl rfl rfl rfl ⟨rfl, rfl, rfl, rfl, rfl⟩ rfl rfl rfl rfl rfl (by kernel_rfl) Try.func4 (by kernel_rfl)
    (of_decide_eq_true (by kernel_rfl)) (by unfold Func.isWrapper; first | (rw [if_pos (by decide +kernel)]; kernel_rfl) | (rw [if_neg (by decide +kernel)]; exact ⟨rfl, rfl⟩))
    (fun os started H enc _ => lifted os started H enc)
theorem proved : Rows.RecordAllSaid := over
#print axioms proved
end Go.Proofs.Ytanfmnobanhcnaa.recordAll
namespace Go.Proofs.Ytanfmnobanhcnaa
/-- The row, under a short name, for the claim. -/
theorem recordAll_holds : Rows.RecordAllSaid := recordAll.proved
end Go.Proofs.Ytanfmnobanhcnaa
