-- The row of the law thresherlaw16_RecordTurns, out of its Pure and the walk.
import Derived.Test.YtanfmnobanhcnaaRows
import Derived.Test.YtanfmnobanhcnaaPRec3x9
import Derived.Test.YtanfmnobanhcnaaPureRecordTurns
import Derived.Test.YtanfmnobanhcnaaHOpen
import Derived.Test.YtanfmnobanhcnaaHArr
import Derived.WalkKit
import Derived.ProofKit
import Derived.OpenShut
import Derived.ShutString
import Derived.ChangeOld
import Derived.Below
import Derived.SizedLaws
namespace Go.Proofs.Ytanfmnobanhcnaa.recordTurns
open Go.RowKit Go.Proofs.YtanfmnobanhcnaaW.PrintWords Go.Proofs.YtanfmnobanhcnaaW.PrintLast Go.Proofs.YtanfmnobanhcnaaW.PrintMore
open Go.ChangeShapes Go.WideShapes Go.ChangeAt Go.RowKit
open Go.ChangeMaps (open_string shut_string)
set_option linter.unusedVariables false
theorem own : ownKnob Try.prog.godebug = none := by kernel_rfl
theorem laidOut : laidOutB Try.prog = true := by kernel_rfl
set_option maxRecDepth 100000 in
theorem lifted (os : Os) (started : os.Started) (H : Type) (enc : TypeId × Value → H) :
    ReturnsInHanded {} Try.checked os 7 .any (Rows.recordTurnsSpec.pre6 enc Try.prog Try.f7 Rows.recordTurnsRow.domain false) (Rows.recordTurnsSpec.post enc Try.prog Try.f7 false true false false) := by
  refine returnsInHanded_of_change_sized (C := Try.checked) own started (by kernel_rfl) Try.func7
    (ChangeSpec.witness6 (enc := enc) (C := Try.checked) false ⟨#[], #[.agg #[.int .u16 0, .int .u16 0], .agg #[.int .u8 0, .int .u8 0]], []⟩ 8 (by kernel_rfl) (by kernel_rfl) (by kernel_rfl) (by kernel_rfl)) ?_
  intro W base args ds gs before hval0 hW hcnd hsz0 _
  have hsz : (DataW.weightsEach Try.prog (Try.f7.params.toList ++ Rows.recordTurnsSpec.plain.varTypes Try.prog) (ds ++ gs)).all (· ≤ reachBytes) = true := hsz0
  have hval : ∀ (j : Nat) t v, Try.f7.params[j]? = some t → args[j]? = some v → Value.okWide Try.prog W .any base t v := hval0
  have hW' := hW
  obtain ⟨p, q, hA0, hV, rfl, hfz, hnd⟩ := hW
  have hA : DataW.TrodAll enc Try.prog W 0 (fun _ => true) true Try.f7.params.toList args.toList ds p := hA0
  rw [Try.params7] at hA hval hsz
  obtain ⟨v0, vs0, d0, ds0, p0, q0, hargs, rfl, rfl, h0, r0⟩ := trodAll_cons hA
  obtain ⟨v1, vs1, d1, ds1, p1, q1, rfl, rfl, rfl, h1, r1⟩ := trodAll_cons r0
  obtain ⟨rfl, rfl, rfl⟩ := trodAll_nil r1
  obtain rfl : args = #[v0, v1] := by cases args; simp_all
  obtain ⟨rfl, rfl⟩ := trodVars_none hV
  have k0 := h0
  have lt0 : ∀ x ∈ p0, x.block < W.heap.size := by obtain ⟨m, hm⟩ := k0; exact DataW.trod_lt m _ _ _ hm
  obtain ⟨xs0, hx0, hv0, hw0⟩ := YtanfmnobanhcnaaH.arr_open (k := .u16) Try.underlying48 Try.underlying41 (by kernel_rfl) (by kernel_rfl) (hval 0 48 v0 rfl rfl) h0
  obtain ⟨a0_0, a0_1, rfl⟩ := YtanfmnobanhcnaaH.two_of hx0
  have hv0' : v0 = .agg #[.int .u16 a0_0, .int .u16 a0_1] := hv0
  clear hv0
  subst hv0'
  have k1 := h1
  have lt1 : ∀ x ∈ p1, x.block < W.heap.size := by obtain ⟨m, hm⟩ := k1; exact DataW.trod_lt m _ _ _ hm
  obtain ⟨xs1, hx1, hv1, hw1⟩ := YtanfmnobanhcnaaH.arr_open (k := .u8) Try.underlying49 Try.underlying5 (by kernel_rfl) (by kernel_rfl) (hval 1 49 v1 rfl rfl) h1
  obtain ⟨a1_0, a1_1, rfl⟩ := YtanfmnobanhcnaaH.two_of hx1
  have hv1' : v1 = .agg #[.int .u8 a1_0, .int .u8 a1_1] := hv1
  clear hv1
  subst hv1'
  clear hA0 hval0 hsz0 hsz
  have hp := Pure.RecordTurns a0_0 a0_1 a1_0 a1_1 ⟨hw0 _ (by simp), hw0 _ (by simp)⟩ ⟨hw1 _ (by simp), hw1 _ (by simp)⟩
  refine (PRec3.thresherlaw16_RecordTurns.calls a0_0 a0_1 a1_0 a1_1 true W  hp).mono fun e W' ⟨he, bel⟩ => ?_
  subst he
  have bel : Below W.heap.size W W' := by first | exact bel | exact bel.below
  exact ⟨_, rfl, _, _, _, [], _, [], hW', trodAll_mk1 (shut_bool Try.underlying4 _), (trodAll_cons_mk (Below.trod laidOut (by kernel_rfl) (of_decide_eq_true (by kernel_rfl)) k0 bel lt0) (trodAll_cons_mk (Below.trod laidOut (by kernel_rfl) (of_decide_eq_true (by kernel_rfl)) k1 bel lt1) trodAll_mk0)), rfl, bel.frame _, fun h => by cases h⟩
theorem over : Rows.recordTurnsRow.holds Try.pinned (OpenSpec.ofChange Rows.recordTurnsSpec) :=
  OpenClaim.holds_of_wide 7 Try.f7 rfl rfl rfl rfl rfl rfl rfl ⟨rfl, rfl, rfl, rfl, rfl⟩ rfl rfl rfl rfl rfl (by kernel_rfl) Try.func7 (by kernel_rfl)
    (of_decide_eq_true (by kernel_rfl)) (by unfold Func.isWrapper; first | (rw [if_pos (by decide +kernel)]; kernel_rfl) | (rw [if_neg (by decide +kernel)]; exact ⟨rfl, rfl⟩))
    (fun os started H enc _ => lifted os started H enc)
theorem proved : Rows.RecordTurnsSaid := over
#print axioms proved
end Go.Proofs.Ytanfmnobanhcnaa.recordTurns
namespace Go.Proofs.Ytanfmnobanhcnaa
/-- The row, under a short name, for the claim. -/
theorem recordTurns_holds : Rows.RecordTurnsSaid := recordTurns.proved
end Go.Proofs.Ytanfmnobanhcnaa
