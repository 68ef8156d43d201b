/-
The statement RecordTurns of the given program: any byte of a record that is changed is told; of every input, no condition.
-/
import Derived.Test.YtanfmnobanhcnaaPRec3x9
import Derived.Test.YtanfmnobanhcnaaHOpen
import Derived.Test.YtanfmnobanhcnaaHArr
set_option linter.unusedVariables false
set_option linter.unusedSimpArgs false
set_option maxHeartbeats 2000000
namespace Go.Proofs.Ytanfmnobanhcnaa
open Go.RowKit Go.Proofs.YtanfmnobanhcnaaW.PrintWords Go.Proofs.YtanfmnobanhcnaaW.PrintLast Go.Proofs.YtanfmnobanhcnaaW.PrintMore
/-- What is left to show of RecordTurns: plain. -/
def PRec3.thresherlaw16_RecordTurns.Pure : Prop := ∀ (a0_0 a0_1 : Int) (a1_0 a1_1 : Int), ((Lit.int .u16 a0_0).wf = true ∧ (Lit.int .u16 a0_1).wf = true) → ((Lit.int .u8 a1_0).wf = true ∧ (Lit.int .u8 a1_1).wf = true) → thresherlaw16_RecordTurns.f a0_0 a0_1 a1_0 a1_1 = some true
end Go.Proofs.Ytanfmnobanhcnaa
namespace Go.Proofs.Ytanfmnobanhcnaa.Pure
open Go.Proofs.Ytanfmnobanhcnaa.PRec3 Go.RowKit Go.Proofs.YtanfmnobanhcnaaW.PrintWords Go.Proofs.YtanfmnobanhcnaaW.PrintLast Go.Proofs.YtanfmnobanhcnaaW.PrintMore

theorem RecordTurns : thresherlaw16_RecordTurns.Pure := by
  intro n0 n1 a0 a1 h0 h1
  exact if_pos ⟨h0, h1⟩

end Go.Proofs.Ytanfmnobanhcnaa.Pure
