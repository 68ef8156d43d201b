/-
The statement RecordJoins of the given program: records that are put one behind the other are taken one by one, each as it was, and each has other bytes than an unlike one; of every input, no condition.
-/
import Derived.Test.YtanfmnobanhcnaaPRec3x10
import Derived.Test.YtanfmnobanhcnaaHOpen
import Derived.Test.YtanfmnobanhcnaaHArr
set_option linter.unusedVariables false
set_option linter.unusedSimpArgs false
set_option maxHeartbeats 2000000
namespace Go.Proofs.Ytanfmnobanhcnaa
open Go.RowKit Go.Proofs.YtanfmnobanhcnaaW.PrintWords Go.Proofs.YtanfmnobanhcnaaW.PrintLast Go.Proofs.YtanfmnobanhcnaaW.PrintMore
/-- What is left to show of RecordJoins: plain. -/
def PRec3.thresherlaw16_RecordJoins.Pure : Prop := ∀ (l0 : List (Int × Int)), (fun l : List (Int × Int) => l.length * 4 ≤ 140737488351232 ∧ l.length ≤ maxLen ∧ ∀ x ∈ l, (fun x : Int × Int => (Lit.int .u16 x.1).wf = true ∧ (Lit.int .u16 x.2).wf = true) x) l0 → thresherlaw16_RecordJoins.f l0 = some true
end Go.Proofs.Ytanfmnobanhcnaa
namespace Go.Proofs.Ytanfmnobanhcnaa.Pure
open Go.Proofs.Ytanfmnobanhcnaa.PRec3 Go.RowKit Go.Proofs.YtanfmnobanhcnaaW.PrintWords Go.Proofs.YtanfmnobanhcnaaW.PrintLast Go.Proofs.YtanfmnobanhcnaaW.PrintMore

theorem RecordJoins : thresherlaw16_RecordJoins.Pure := by
  intro l0 h0
  refine if_pos (List.all_eq_true.2 fun x hx => ?_)
  rw [Bool.and_eq_true]
  exact h0.2.2 x hx

end Go.Proofs.Ytanfmnobanhcnaa.Pure
