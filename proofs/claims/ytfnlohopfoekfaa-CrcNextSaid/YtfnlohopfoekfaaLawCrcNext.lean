-- The row of the law thresherlaw02_CrcNext, out of its Pure and the walk.
import Derived.Test.YtfnlohopfoekfaaRows
import Derived.Test.YtfnlohopfoekfaaPCrcNextx5
import Derived.Test.YtfnlohopfoekfaaPureCrcNext
import Derived.Test.YtfnlohopfoekfaaHOpen
import Derived.WalkKit
import Derived.ProofKit
import Derived.OpenShut
import Derived.ShutString
import Derived.ChangeOld
import Derived.Below
import Derived.SizedLaws
namespace Go.Proofs.Ytfnlohopfoekfaa.crcNext
open Go.RowKit Go.Proofs.YtfnlohopfoekfaaW.PrintWords Go.Proofs.YtfnlohopfoekfaaW.PrintLast Go.Proofs.YtfnlohopfoekfaaW.PrintMore
open Go.ChangeShapes Go.WideShapes Go.ChangeAt Go.RowKit
open Go.ChangeMaps (open_string shut_string)
set_option linter.unusedVariables false
theorem own : ownKnob Try.prog.godebug = none := by kernel_rfl
theorem laidOut : laidOutB Try.prog = true := by kernel_rfl
set_option maxRecDepth 100000 in
theorem lifted (os : Os) (started : os.Started) (H : Type) (enc : TypeId × Value → H) :
    ReturnsInHanded {} Try.checked os 8 .any (Rows.crcNextSpec.pre6 enc Try.prog Try.f8 Rows.crcNextRow.domain false) (Rows.crcNextSpec.post enc Try.prog Try.f8 false true false false) := by
  refine returnsInHanded_of_change_sized (C := Try.checked) own started (by kernel_rfl) Try.func8
    (ChangeSpec.witness6 (enc := enc) (C := Try.checked) false ⟨#[], #[.slice none 0 0], []⟩ 8 (by kernel_rfl) (by kernel_rfl) (by kernel_rfl) (by kernel_rfl)) ?_
  intro W base args ds gs before hval0 hW hcnd hsz0 _
  have hsz : (DataW.weightsEach Try.prog (Try.f8.params.toList ++ Rows.crcNextSpec.plain.varTypes Try.prog) (ds ++ gs)).all (· ≤ reachBytes) = true := hsz0
  have hval : ∀ (j : Nat) t v, Try.f8.params[j]? = some t → args[j]? = some v → Value.okWide Try.prog W .any base t v := hval0
  have hW' := hW
  obtain ⟨p, q, hA0, hV, rfl, hfz, hnd⟩ := hW
  have hA : DataW.TrodAll enc Try.prog W 0 (fun _ => true) true Try.f8.params.toList args.toList ds p := hA0
  rw [Try.params8] at hA hval hsz
  obtain ⟨v0, vs0, d0, ds0, p0, q0, hargs, rfl, rfl, h0, r0⟩ := trodAll_cons hA
  obtain ⟨rfl, rfl, rfl⟩ := trodAll_nil r0
  obtain rfl : args = #[v0] := by cases args; simp_all
  obtain ⟨rfl, rfl⟩ := trodVars_none hV
  obtain ⟨A0, len0, c0, rfl⟩ := okWide_slice Try.underlying36 (hval 0 36 v0 rfl rfl)
  have k0 := h0
  have lt0 : ∀ x ∈ p0, x.block < W.heap.size := by obtain ⟨m, hm⟩ := k0; exact DataW.trod_lt m _ _ _ hm
  have wt0 : ∀ n ∈ d0.weights Try.prog 36, n ≤ reachBytes := fun n hn => by simpa using List.all_eq_true.1 hsz n (DataW.weights_mem_each (j := 0) (t := 36) (d := d0) rfl rfl n hn)
  obtain ⟨l0, hl0, hlc0, hr0, hw0⟩ : ∃ l : List (List (Int)), len0 = l.length ∧ l.length ≤ c0 ∧ Kd.C (Kd.slice 5 (Kd.int .u8)) W A0 l.length l ∧ (fun l : List (List (Int)) => l.length * 24 ≤ 140737488351232 ∧ l.length ≤ maxLen ∧ ∀ x ∈ l, (fun l : List (Int) => l.length * 1 ≤ 140737488351232 ∧ l.length ≤ maxLen ∧ ∀ x ∈ l, (fun x : Int => (Lit.int .u8 x).wf = true) x) x) l := by
    obtain ⟨fuel, hf⟩ := h0
    obtain ⟨l, ⟨A', c', e1, e2, e3⟩, e4⟩ := (YtfnlohopfoekfaaH.opens_slice (B := 24) Try.underlying36 (by kernel_rfl) (by kernel_rfl) (YtfnlohopfoekfaaH.opens_slice (B := 1) Try.underlying22 (by kernel_rfl) (by kernel_rfl) (YtfnlohopfoekfaaH.opens_int Try.underlying5 (by kernel_rfl)))).2 enc W fuel _ _ wt0 hf
    simp [Value.cells] at e1
    obtain ⟨rfl, rfl, rfl⟩ := e1
    exact ⟨l, rfl, e2, e3, e4⟩
  subst hl0
  clear hA0 hval0 hsz0 hsz
  have hp := Pure.CrcNext l0 hw0
  obtain ⟨k, hp⟩ := hp
  refine (PCrcNext.thresherlaw02_CrcNext.calls k A0 c0 l0 true W hr0 hlc0 hp).mono fun e W' ⟨he, bel⟩ => ?_
  subst he
  have bel : Below W.heap.size W W' := by first | exact bel | exact bel.below
  exact ⟨_, rfl, _, _, _, [], _, [], hW', trodAll_mk1 (shut_bool Try.underlying4 _), (trodAll_cons_mk (Below.trod laidOut (by kernel_rfl) (of_decide_eq_true (by kernel_rfl)) k0 bel lt0) trodAll_mk0), rfl, bel.frame _, fun h => by cases h⟩
theorem over : Rows.crcNextRow.holds Try.pinned (OpenSpec.ofChange Rows.crcNextSpec) :=
  OpenClaim.holds_of_wide 8 Try.f8 rfl rfl rfl rfl rfl rfl rfl ⟨rfl, rfl, rfl, rfl, rfl⟩ rfl rfl rfl rfl rfl (by kernel_rfl) Try.func8 (by kernel_rfl)
    (of_decide_eq_true (by kernel_rfl)) (by unfold Func.isWrapper; first | (rw [if_pos (by decide +kernel)]; kernel_rfl) | (rw [if_neg (by decide +kernel)]; exact ⟨rfl, rfl⟩))
    (fun os started H enc _ => lifted os started H enc)
theorem proved : Rows.CrcNextSaid := over
#print axioms proved
end Go.Proofs.Ytfnlohopfoekfaa.crcNext
namespace Go.Proofs.Ytfnlohopfoekfaa
/-- The row, under a short name, for the claim. -/
theorem crcNext_holds : Rows.CrcNextSaid := crcNext.proved
end Go.Proofs.Ytfnlohopfoekfaa
