-- The row of the law thresherlaw16_RecordJoins, out of its Pure and the walk.
import Derived.Test.YtanfmnobanhcnaaRows
import Derived.Test.YtanfmnobanhcnaaPRec3x10
import Derived.Test.YtanfmnobanhcnaaPureRecordJoins
import Derived.Test.YtanfmnobanhcnaaHOpen
import Derived.Test.YtanfmnobanhcnaaHArr
import Derived.WalkKit
import Derived.ProofKit
import Derived.OpenShut
import Derived.ShutString
import Derived.ChangeOld
import Derived.Below
import Derived.SizedLaws
namespace Go.Proofs.Ytanfmnobanhcnaa.recordJoins
open Go.RowKit Go.Proofs.YtanfmnobanhcnaaW.PrintWords Go.Proofs.YtanfmnobanhcnaaW.PrintLast Go.Proofs.YtanfmnobanhcnaaW.PrintMore
open Go.ChangeShapes Go.WideShapes Go.ChangeAt Go.RowKit
open Go.ChangeMaps (open_string shut_string)
set_option linter.unusedVariables false
theorem own : ownKnob Try.prog.godebug = none := by kernel_rfl
theorem laidOut : laidOutB Try.prog = true := by kernel_rfl
set_option maxRecDepth 100000 in
theorem lifted (os : Os) (started : os.Started) (H : Type) (enc : TypeId × Value → H) :
    ReturnsInHanded {} Try.checked os 8 .any (Rows.recordJoinsSpec.pre6 enc Try.prog Try.f8 Rows.recordJoinsRow.domain false) (Rows.recordJoinsSpec.post enc Try.prog Try.f8 false true false false) := by
  refine returnsInHanded_of_change_sized (C := Try.checked) own started (by kernel_rfl) Try.func8
    (ChangeSpec.witness6 (enc := enc) (C := Try.checked) false ⟨#[], #[.slice none 0 0], []⟩ 8 (by kernel_rfl) (by kernel_rfl) (by kernel_rfl) (by kernel_rfl)) ?_
  intro W base args ds gs before hval0 hW hcnd hsz0 _
  have hsz : (DataW.weightsEach Try.prog (Try.f8.params.toList ++ Rows.recordJoinsSpec.plain.varTypes Try.prog) (ds ++ gs)).all (· ≤ reachBytes) = true := hsz0
  have hval : ∀ (j : Nat) t v, Try.f8.params[j]? = some t → args[j]? = some v → Value.okWide Try.prog W .any base t v := hval0
  have hW' := hW
  obtain ⟨p, q, hA0, hV, rfl, hfz, hnd⟩ := hW
  have hA : DataW.TrodAll enc Try.prog W 0 (fun _ => true) true Try.f8.params.toList args.toList ds p := hA0
  rw [Try.params8] at hA hval hsz
  obtain ⟨v0, vs0, d0, ds0, p0, q0, hargs, rfl, rfl, h0, r0⟩ := trodAll_cons hA
  obtain ⟨rfl, rfl, rfl⟩ := trodAll_nil r0
  obtain rfl : args = #[v0] := by cases args; simp_all
  obtain ⟨rfl, rfl⟩ := trodVars_none hV
  obtain ⟨A0, len0, c0, rfl⟩ := okWide_slice Try.underlying51 (hval 0 51 v0 rfl rfl)
  have k0 := h0
  have lt0 : ∀ x ∈ p0, x.block < W.heap.size := by obtain ⟨m, hm⟩ := k0; exact DataW.trod_lt m _ _ _ hm
  have wt0 : ∀ n ∈ d0.weights Try.prog 51, n ≤ reachBytes := fun n hn => by simpa using List.all_eq_true.1 hsz n (DataW.weights_mem_each (j := 0) (t := 51) (d := d0) rfl rfl n hn)
  obtain ⟨l0, hl0, hlc0, hr0, hw0⟩ : ∃ l : List (Int × Int), len0 = l.length ∧ l.length ≤ c0 ∧ Kd.C (Kd.pair (Kd.int .u16) (Kd.int .u16)) W A0 l.length l ∧ (fun l : List (Int × Int) => l.length * 4 ≤ 140737488351232 ∧ l.length ≤ maxLen ∧ ∀ x ∈ l, (fun x : Int × Int => (Lit.int .u16 x.1).wf = true ∧ (Lit.int .u16 x.2).wf = true) x) l := by
    obtain ⟨fuel, hf⟩ := h0
    obtain ⟨l, ⟨A', c', e1, e2, e3⟩, e4⟩ := (YtanfmnobanhcnaaH.opens_slice (B := 4) Try.underlying51 (by kernel_rfl) (by kernel_rfl) (YtanfmnobanhcnaaH.opens_two (k := .u16) Try.underlying48 Try.underlying41 (by kernel_rfl) (by kernel_rfl))).2 enc W fuel _ _ wt0 hf
    simp [Value.cells] at e1
    obtain ⟨rfl, rfl, rfl⟩ := e1
    exact ⟨l, rfl, e2, e3, e4⟩
  subst hl0
  clear hA0 hval0 hsz0 hsz
  have hp := Pure.RecordJoins l0 hw0
  refine (PRec3.thresherlaw16_RecordJoins.calls A0 c0 l0 true W hr0 hlc0 hp).mono fun e W' ⟨he, bel⟩ => ?_
  subst he
  have bel : Below W.heap.size W W' := by first | exact bel | exact bel.below
  exact ⟨_, rfl, _, _, _, [], _, [], hW', trodAll_mk1 (shut_bool Try.underlying4 _), (trodAll_cons_mk (Below.trod laidOut (by kernel_rfl) (of_decide_eq_true (by kernel_rfl)) k0 bel lt0) trodAll_mk0), rfl, bel.frame _, fun h => by cases h⟩
theorem over : Rows.recordJoinsRow.holds Try.pinned (OpenSpec.ofChange Rows.recordJoinsSpec) :=
  OpenClaim.holds_of_wide 8 Try.f8 rfl rfl rfl rfl rfl rfl rfl ⟨rfl, rfl, rfl, rfl, rfl⟩ rfl rfl rfl rfl rfl (by kernel_rfl) Try.func8 (by kernel_rfl)
    (of_decide_eq_true (by kernel_rfl)) (by unfold Func.isWrapper; first | (rw [if_pos (by decide +kernel)]; kernel_rfl) | (rw [if_neg (by decide +kernel)]; exact ⟨rfl, rfl⟩))
    (fun os started H enc _ => lifted os started H enc)
theorem proved : Rows.RecordJoinsSaid := over
#print axioms proved
end Go.Proofs.Ytanfmnobanhcnaa.recordJoins
namespace Go.Proofs.Ytanfmnobanhcnaa
/-- The row, under a short name, for the claim. -/
theorem recordJoins_holds : Rows.RecordJoinsSaid := recordJoins.proved
end Go.Proofs.Ytanfmnobanhcnaa
