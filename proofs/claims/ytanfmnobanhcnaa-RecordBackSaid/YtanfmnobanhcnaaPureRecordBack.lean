/-
The statement RecordBack of the given program: a record that was put is taken, whatever is behind; and a part of it is none; of every input, no condition.
-/
import Derived.Test.YtanfmnobanhcnaaPRec3x13
import Derived.Test.YtanfmnobanhcnaaHOpen
import Derived.Test.YtanfmnobanhcnaaHArr
set_option linter.unusedVariables false
set_option linter.unusedSimpArgs false
set_option maxHeartbeats 2000000
namespace Go.Proofs.Ytanfmnobanhcnaa
open Go.RowKit Go.Proofs.YtanfmnobanhcnaaW.PrintWords Go.Proofs.YtanfmnobanhcnaaW.PrintLast Go.Proofs.YtanfmnobanhcnaaW.PrintMore
/-- What is left to show of RecordBack: plain. -/
def PRec3.thresherlaw16_RecordBack.Pure : Prop := ∀ (a0_0 a0_1 a0_2 a0_3 a0_4 a0_5 a0_6 a0_7 a0_8 a0_9 a0_10 a0_11 : Int) (a1_0 a1_1 a1_2 : Int) (l2 : List (Int)), ((Lit.int .u8 a0_0).wf = true ∧ (Lit.int .u8 a0_1).wf = true ∧ (Lit.int .u8 a0_2).wf = true ∧ (Lit.int .u8 a0_3).wf = true ∧ (Lit.int .u8 a0_4).wf = true ∧ (Lit.int .u8 a0_5).wf = true ∧ (Lit.int .u8 a0_6).wf = true ∧ (Lit.int .u8 a0_7).wf = true ∧ (Lit.int .u8 a0_8).wf = true ∧ (Lit.int .u8 a0_9).wf = true ∧ (Lit.int .u8 a0_10).wf = true ∧ (Lit.int .u8 a0_11).wf = true) → ((Lit.int .u16 a1_0).wf = true ∧ (Lit.int .u16 a1_1).wf = true ∧ (Lit.int .u16 a1_2).wf = true) → (fun l : List (Int) => l.length * 2 ≤ 140737488351232 ∧ l.length ≤ maxLen ∧ ∀ x ∈ l, (fun x : Int => (Lit.int .u16 x).wf = true) x) l2 → thresherlaw16_RecordBack.f a0_0 a0_1 a0_2 a0_3 a0_4 a0_5 a0_6 a0_7 a0_8 a0_9 a0_10 a0_11 a1_0 a1_1 a1_2 l2 = some true
end Go.Proofs.Ytanfmnobanhcnaa
namespace Go.Proofs.Ytanfmnobanhcnaa.Pure
open Go.Proofs.Ytanfmnobanhcnaa.PRec3 Go.RowKit Go.Proofs.YtanfmnobanhcnaaW.PrintWords Go.Proofs.YtanfmnobanhcnaaW.PrintLast Go.Proofs.YtanfmnobanhcnaaW.PrintMore

theorem RecordBack : thresherlaw16_RecordBack.Pure := by
  intro s0 s1 s2 s3 s4 s5 s6 s7 s8 s9 s10 s11 n0 n1 n2 l2 h0 h1 h2
  refine if_pos ?_
  rw [Bool.and_eq_true, Bool.and_eq_true]
  refine ⟨?_, ?_, List.all_eq_true.2 h2.2.2⟩
  · simp only [List.all_cons, List.all_nil, Bool.and_true, Bool.and_eq_true]
    exact h0
  · simp only [List.all_cons, List.all_nil, Bool.and_true, Bool.and_eq_true]
    exact h1

end Go.Proofs.Ytanfmnobanhcnaa.Pure
