/-
The statement RecordRefuses of the given program: numbers that are too great, or below 0, a swap of fewer than two, an add of some, and a kind that is none, are not put; of every input, no condition.
-/
import Derived.Test.YtanfmnobanhcnaaPRecordRefusesx5
import Derived.Test.YtanfmnobanhcnaaHOpen
set_option linter.unusedVariables false
set_option linter.unusedSimpArgs false
set_option maxHeartbeats 2000000
namespace Go.Proofs.Ytanfmnobanhcnaa
open Go.RowKit Go.Proofs.YtanfmnobanhcnaaW.PrintWords Go.Proofs.YtanfmnobanhcnaaW.PrintLast Go.Proofs.YtanfmnobanhcnaaW.PrintMore
/-- What is left to show of RecordRefuses: plain. -/
def PRecordRefuses.thresherlaw16_RecordRefuses.Pure : Prop := ∀ (a0 : Int) (a1 : Int) (a2 : Int), (fun x : Int => (Lit.int .i64 x).wf = true) a0 → (fun x : Int => (Lit.int .i64 x).wf = true) a1 → (fun x : Int => (Lit.int .u8 x).wf = true) a2 → thresherlaw16_RecordRefuses.f a0 a1 a2 = some true
end Go.Proofs.Ytanfmnobanhcnaa
namespace Go.Proofs.Ytanfmnobanhcnaa.Pure
open Go.Proofs.Ytanfmnobanhcnaa.PRecordRefuses Go.RowKit Go.Proofs.YtanfmnobanhcnaaW.PrintWords Go.Proofs.YtanfmnobanhcnaaW.PrintLast Go.Proofs.YtanfmnobanhcnaaW.PrintMore

theorem RecordRefuses : thresherlaw16_RecordRefuses.Pure := by
  intro a0 a1 a2 h0 h1 h2
  unfold thresherlaw16_RecordRefuses.f
  rw [if_pos ⟨h0, h1, h2⟩]

end Go.Proofs.Ytanfmnobanhcnaa.Pure
