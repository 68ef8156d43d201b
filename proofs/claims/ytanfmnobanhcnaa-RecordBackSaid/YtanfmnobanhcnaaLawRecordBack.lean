-- The row of the law thresherlaw16_RecordBack, out of its Pure and the walk.
import Derived.Test.YtanfmnobanhcnaaHShape
import Derived.Test.YtanfmnobanhcnaaRows
import Derived.Test.YtanfmnobanhcnaaPRec3x13
import Derived.Test.YtanfmnobanhcnaaPureRecordBack
import Derived.Test.YtanfmnobanhcnaaHOpen
import Derived.Test.YtanfmnobanhcnaaHArr
import Derived.WalkKit
import Derived.ProofKit
import Derived.OpenShut
import Derived.ShutString
import Derived.ChangeOld
import Derived.Below
import Derived.SizedLaws
namespace Go.Proofs.Ytanfmnobanhcnaa.recordBack
open Go.RowKit Go.Proofs.YtanfmnobanhcnaaW.PrintWords Go.Proofs.YtanfmnobanhcnaaW.PrintLast Go.Proofs.YtanfmnobanhcnaaW.PrintMore
open Go.ChangeShapes Go.WideShapes Go.ChangeAt Go.RowKit
open Go.ChangeMaps (open_string shut_string)
set_option linter.unusedVariables false
theorem own : ownKnob Try.prog.godebug = none := by kernel_rfl
theorem laidOut : laidOutB Try.prog = true := by kernel_rfl
set_option maxRecDepth 100000 in
theorem lifted (os : Os) (started : os.Started) (H : Type) (enc : TypeId × Value → H) :
    ReturnsInHanded {} Try.checked os 5 .any (Rows.recordBackSpec.pre6 enc Try.prog Try.f5 Rows.recordBackRow.domain false) (Rows.recordBackSpec.post enc Try.prog Try.f5 false true false false) := by
  refine returnsInHanded_of_change_sized (C := Try.checked) own started (by kernel_rfl) Try.func5
    (ChangeSpec.witness6 (enc := enc) (C := Try.checked) false ⟨#[], #[.agg #[.int .u8 0, .int .u8 0, .int .u8 0, .int .u8 0, .int .u8 0, .int .u8 0, .int .u8 0, .int .u8 0, .int .u8 0, .int .u8 0, .int .u8 0, .int .u8 0], .agg #[.int .u16 0, .int .u16 0, .int .u16 0], .slice none 0 0], []⟩ 8 (by kernel_rfl) (by kernel_rfl) (by kernel_rfl) (by kernel_rfl)) ?_
  intro W base args ds gs before hval0 hW hcnd hsz0 _
  have hsz : (DataW.weightsEach Try.prog (Try.f5.params.toList ++ Rows.recordBackSpec.plain.varTypes Try.prog) (ds ++ gs)).all (· ≤ reachBytes) = true := hsz0
  have hval : ∀ (j : Nat) t v, Try.f5.params[j]? = some t → args[j]? = some v → Value.okWide Try.prog W .any base t v := hval0
  have hW' := hW
  obtain ⟨p, q, hA0, hV, rfl, hfz, hnd⟩ := hW
  have hA : DataW.TrodAll enc Try.prog W 0 (fun _ => true) true Try.f5.params.toList args.toList ds p := hA0
  rw [Try.params5] at hA hval hsz
  obtain ⟨v0, vs0, d0, ds0, p0, q0, hargs, rfl, rfl, h0, r0⟩ := trodAll_cons hA
  obtain ⟨v1, vs1, d1, ds1, p1, q1, rfl, rfl, rfl, h1, r1⟩ := trodAll_cons r0
  obtain ⟨v2, vs2, d2, ds2, p2, q2, rfl, rfl, rfl, h2, r2⟩ := trodAll_cons r1
  obtain ⟨rfl, rfl, rfl⟩ := trodAll_nil r2
  obtain rfl : args = #[v0, v1, v2] := by cases args; simp_all
  obtain ⟨rfl, rfl⟩ := trodVars_none hV
  have k0 := h0
  have lt0 : ∀ x ∈ p0, x.block < W.heap.size := by obtain ⟨m, hm⟩ := k0; exact DataW.trod_lt m _ _ _ hm
  obtain ⟨xs0, hx0, hv0, hw0⟩ := YtanfmnobanhcnaaH.shape_open Try.underlying40 Try.underlying38 Try.underlying5 (by kernel_rfl) (by kernel_rfl) (by kernel_rfl) rfl (hval 0 40 v0 rfl rfl) h0
  obtain ⟨a0_0, a0_1, a0_2, a0_3, a0_4, a0_5, a0_6, a0_7, a0_8, a0_9, a0_10, a0_11, rfl⟩ := YtanfmnobanhcnaaH.twelve_of hx0
  have hv0' : v0 = .agg #[.int .u8 a0_0, .int .u8 a0_1, .int .u8 a0_2, .int .u8 a0_3, .int .u8 a0_4, .int .u8 a0_5, .int .u8 a0_6, .int .u8 a0_7, .int .u8 a0_8, .int .u8 a0_9, .int .u8 a0_10, .int .u8 a0_11] := hv0
  clear hv0
  subst hv0'
  have k1 := h1
  have lt1 : ∀ x ∈ p1, x.block < W.heap.size := by obtain ⟨m, hm⟩ := k1; exact DataW.trod_lt m _ _ _ hm
  obtain ⟨xs1, hx1, hv1, hw1⟩ := YtanfmnobanhcnaaH.arr_open (k := .u16) Try.underlying42 Try.underlying41 (by kernel_rfl) (by kernel_rfl) (hval 1 42 v1 rfl rfl) h1
  obtain ⟨a1_0, a1_1, a1_2, rfl⟩ := YtanfmnobanhcnaaH.three_of hx1
  have hv1' : v1 = .agg #[.int .u16 a1_0, .int .u16 a1_1, .int .u16 a1_2] := hv1
  clear hv1
  subst hv1'
  obtain ⟨A2, len2, c2, rfl⟩ := okWide_slice Try.underlying43 (hval 2 43 v2 rfl rfl)
  have k2 := h2
  have lt2 : ∀ x ∈ p2, x.block < W.heap.size := by obtain ⟨m, hm⟩ := k2; exact DataW.trod_lt m _ _ _ hm
  have wt2 : ∀ n ∈ d2.weights Try.prog 43, n ≤ reachBytes := fun n hn => by simpa using List.all_eq_true.1 hsz n (DataW.weights_mem_each (j := 2) (t := 43) (d := d2) rfl rfl n hn)
  obtain ⟨l2, hl2, hlc2, hr2, hw2⟩ : ∃ l : List (Int), len2 = l.length ∧ l.length ≤ c2 ∧ Kd.C (Kd.int .u16) W A2 l.length l ∧ (fun l : List (Int) => l.length * 2 ≤ 140737488351232 ∧ l.length ≤ maxLen ∧ ∀ x ∈ l, (fun x : Int => (Lit.int .u16 x).wf = true) x) l := by
    obtain ⟨fuel, hf⟩ := h2
    obtain ⟨l, ⟨A', c', e1, e2, e3⟩, e4⟩ := (YtanfmnobanhcnaaH.opens_slice (B := 2) Try.underlying43 (by kernel_rfl) (by kernel_rfl) (YtanfmnobanhcnaaH.opens_int Try.underlying41 (by kernel_rfl))).2 enc W fuel _ _ wt2 hf
    simp [Value.cells] at e1
    obtain ⟨rfl, rfl, rfl⟩ := e1
    exact ⟨l, rfl, e2, e3, e4⟩
  subst hl2
  clear hA0 hval0 hsz0 hsz
  have hp := Pure.RecordBack a0_0 a0_1 a0_2 a0_3 a0_4 a0_5 a0_6 a0_7 a0_8 a0_9 a0_10 a0_11 a1_0 a1_1 a1_2 l2 ⟨hw0 _ (by simp), hw0 _ (by simp), hw0 _ (by simp), hw0 _ (by simp), hw0 _ (by simp), hw0 _ (by simp), hw0 _ (by simp), hw0 _ (by simp), hw0 _ (by simp), hw0 _ (by simp), hw0 _ (by simp), hw0 _ (by simp)⟩ ⟨hw1 _ (by simp), hw1 _ (by simp), hw1 _ (by simp)⟩ hw2
  refine (PRec3.thresherlaw16_RecordBack.calls a0_0 a0_1 a0_2 a0_3 a0_4 a0_5 a0_6 a0_7 a0_8 a0_9 a0_10 a0_11 a1_0 a1_1 a1_2 A2 c2 l2 true W hr2 hlc2 hp).mono fun e W' ⟨he, bel⟩ => ?_
  subst he
  have bel : Below W.heap.size W W' := by first | exact bel | exact bel.below
  exact ⟨_, rfl, _, _, _, [], _, [], hW', trodAll_mk1 (shut_bool Try.underlying4 _), (trodAll_cons_mk (Below.trod laidOut (by kernel_rfl) (of_decide_eq_true (by kernel_rfl)) k0 bel lt0) (trodAll_cons_mk (Below.trod laidOut (by kernel_rfl) (of_decide_eq_true (by kernel_rfl)) k1 bel lt1) (trodAll_cons_mk (Below.trod laidOut (by kernel_rfl) (of_decide_eq_true (by kernel_rfl)) k2 bel lt2) trodAll_mk0))), rfl, bel.frame _, fun h => by cases h⟩
theorem over : Rows.recordBackRow.holds Try.pinned (OpenSpec.ofChange Rows.recordBackSpec) :=
  OpenClaim.holds_of_wide 5 Try.f5 rfl rfl rfl rfl rfl rfl rfl ⟨rfl, rfl, rfl, rfl, rfl⟩ rfl rfl rfl rfl rfl (by kernel_rfl) Try.func5 (by kernel_rfl)
    (of_decide_eq_true (by kernel_rfl)) (by unfold Func.isWrapper; first | (rw [if_pos (by decide +kernel)]; kernel_rfl) | (rw [if_neg (by decide +kernel)]; exact ⟨rfl, rfl⟩))
    (fun os started H enc _ => lifted os started H enc)
theorem proved : Rows.RecordBackSaid := over
#print axioms proved
end Go.Proofs.Ytanfmnobanhcnaa.recordBack
namespace Go.Proofs.Ytanfmnobanhcnaa
/-- The row, under a short name, for the claim. -/
theorem recordBack_holds : Rows.RecordBackSaid := recordBack.proved
end Go.Proofs.Ytanfmnobanhcnaa
