/-
The statement CrcAll of the given program: the sum, and the frame, of any bytes, and what any bytes say as a frame, is as the document says; of every input, no condition.
-/
import Derived.Test.YtfnlohopfoekfaaPCrcAllx7
import Derived.Test.YtfnlohopfoekfaaHFrame
set_option linter.unusedVariables false
set_option linter.unusedSimpArgs false
set_option maxHeartbeats 2000000
namespace Go.Proofs.Ytfnlohopfoekfaa.Pure
open Go.RowKit Go.Proofs.Ytfnlohopfoekfaa.PCrcAll Go.Proofs.YtfnlohopfoekfaaW.PrintWords Go.Proofs.YtfnlohopfoekfaaW.PrintLast Go.Proofs.YtfnlohopfoekfaaW.PrintMore

theorem shown_true : thresherlaw02_shown.f = some true := by
  unfold thresherlaw02_shown.f crc_Sum.f
  rw [if_pos (by decide), Option.bind_some, YtfnlohopfoekfaaH.Crc.crc_shown]
  rfl
theorem short_is (l : List Int) : thresherlaw02_short.f l = some (l.take 300) := by
  unfold thresherlaw02_short.f
  by_cases h : (l.length : Int) > 300
  · rw [if_pos h, if_pos (by omega)]
  · rw [if_neg h, List.take_of_length_le (by omega)]
theorem CrcAll : thresherlaw02_CrcAll.Pure := by
  intro l0 l1 hl hl2 hw hm hm2 hw1
  have hB0 := YtfnlohopfoekfaaH.Crc.isB_wf hw
  have hB1 := YtfnlohopfoekfaaH.Crc.isB_wf hw1
  have hB : YtfnlohopfoekfaaH.Crc.isB (l0.take 300) := YtfnlohopfoekfaaH.Var.isB_take hB0 300
  have hC : YtfnlohopfoekfaaH.Crc.isB (l1.take 300) := YtfnlohopfoekfaaH.Var.isB_take hB1 300
  have hlen : (l0.take 300).length ≤ 300 := List.length_take_le _ _
  have hs := short_is l0
  have hs1 := short_is l1
  generalize l0.take 300 = b at hs hB hlen
  generalize l1.take 300 = c at hs1 hC
  have hu : crc_Unframe.f c = some (YtfnlohopfoekfaaH.Fr.unframeI c) := by unfold crc_Unframe.f; rw [if_pos hC]
  have hu2 : thresherref02_Unframe.f c = some (YtfnlohopfoekfaaH.Fr.unframeI c) := by unfold thresherref02_Unframe.f; rw [if_pos hC]
  have hf : crc_Frame.f b = some (YtfnlohopfoekfaaH.Fr.frameI b) := by unfold crc_Frame.f; rw [if_pos ⟨hB, by omega⟩]
  have hf2 : thresherref02_Frame.f b = some (YtfnlohopfoekfaaH.Fr.frameI b) := by unfold thresherref02_Frame.f; rw [if_pos ⟨hB, by omega⟩]
  have hc : crc_Sum.f b = some (YtfnlohopfoekfaaH.Crc.crcI b) := by unfold crc_Sum.f; rw [if_pos hB]
  have hc2 : thresherref02_Sum.f b = some (YtfnlohopfoekfaaH.Crc.crcI b) := by unfold thresherref02_Sum.f; rw [if_pos hB]
  unfold thresherlaw02_CrcAll.f
  rw [shown_true, Option.bind_some, hs, Option.bind_some, hs1, Option.bind_some, hu, Option.bind_some, hu2, Option.bind_some, if_pos rfl, hc, Option.bind_some, hc2, Option.bind_some, if_pos rfl, hf, Option.bind_some, hf2, Option.bind_some, if_pos rfl, if_pos rfl, if_pos rfl, beq_self_eq_true]

end Go.Proofs.Ytfnlohopfoekfaa.Pure
