/-
The statement RecordOne of the given program: any bytes that are taken as a record are what is put of what they say, also of frames whose sum is right; of every input, no condition.
-/
import Derived.Test.YtanfmnobanhcnaaPRecordOnex12
import Derived.Test.YtanfmnobanhcnaaHOpen
set_option linter.unusedVariables false
set_option linter.unusedSimpArgs false
set_option maxHeartbeats 2000000
namespace Go.Proofs.Ytanfmnobanhcnaa
open Go.RowKit Go.Proofs.YtanfmnobanhcnaaW.PrintWords Go.Proofs.YtanfmnobanhcnaaW.PrintLast Go.Proofs.YtanfmnobanhcnaaW.PrintMore
/-- What is left to show of RecordOne: plain. -/
def PRecordOne.thresherlaw16_RecordOne.Pure : Prop := ∀ (l0 : List (Int)), (fun l : List (Int) => l.length * 1 ≤ 140737488351232 ∧ l.length ≤ maxLen ∧ ∀ x ∈ l, (fun x : Int => (Lit.int .u8 x).wf = true) x) l0 → thresherlaw16_RecordOne.f l0 = some true
end Go.Proofs.Ytanfmnobanhcnaa
namespace Go.Proofs.Ytanfmnobanhcnaa.Pure
open Go.Proofs.Ytanfmnobanhcnaa.PRecordOne Go.RowKit Go.Proofs.YtanfmnobanhcnaaW.PrintWords Go.Proofs.YtanfmnobanhcnaaW.PrintLast Go.Proofs.YtanfmnobanhcnaaW.PrintMore

theorem RecordOne : thresherlaw16_RecordOne.Pure := by
  intro l0 h0
  unfold thresherlaw16_RecordOne.f
  exact if_pos (show YtanfmnobanhcnaaH.Crc.isB l0 from fun x hx => YtanfmnobanhcnaaH.Crc.wf_u8 (h0.2.2 x hx))

end Go.Proofs.Ytanfmnobanhcnaa.Pure
