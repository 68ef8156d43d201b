/-
The statement CrcSwaps of the given program: two unlike bytes that stand next to each other and change places change the sum; of every input, no condition.
-/
import Derived.Test.YtfnlohopfoekfaaPCrcSwapsx1
import Derived.Test.YtfnlohopfoekfaaHCrc
set_option linter.unusedVariables false
set_option linter.unusedSimpArgs false
set_option maxHeartbeats 2000000
namespace Go.Proofs.Ytfnlohopfoekfaa.Pure
open Go.RowKit Go.Proofs.Ytfnlohopfoekfaa.PCrcSwaps Go.Proofs.YtfnlohopfoekfaaW.PrintWords Go.Proofs.YtfnlohopfoekfaaW.PrintLast Go.Proofs.YtfnlohopfoekfaaW.PrintMore

theorem shown_true : thresherlaw02_shown.f = some true := by
  unfold thresherlaw02_shown.f crc_Sum.f
  rw [if_pos (by decide), Option.bind_some, YtfnlohopfoekfaaH.Crc.crc_shown]
  rfl
theorem short_is (l : List Int) : thresherlaw02_short.f l = some (l.take 300) := by
  unfold thresherlaw02_short.f
  by_cases h : (l.length : Int) > 300
  · rw [if_pos h, if_pos (by omega)]
  · rw [if_neg h, List.take_of_length_le (by omega)]
theorem sum_is (l : List Int) (h : YtfnlohopfoekfaaH.Crc.isB l) : crc_Sum.f l = some (YtfnlohopfoekfaaH.Crc.crcI l) := by
  unfold crc_Sum.f
  rw [if_pos h]
theorem CrcSwaps : thresherlaw02_CrcSwaps.Pure := by
  intro l0 x y hl hl2 hw hx hy
  have hB0 := YtfnlohopfoekfaaH.Crc.isB_wf hw
  have hx := YtfnlohopfoekfaaH.Crc.wf_u8 hx
  have hy := YtfnlohopfoekfaaH.Crc.wf_u8 hy
  have hB : YtfnlohopfoekfaaH.Crc.isB (l0.take 300) := fun z hz => hB0 z (List.mem_of_mem_take hz)
  have hlen : (l0.take 300).length ≤ 300 := List.length_take_le _ _
  have hs := short_is l0
  generalize l0.take 300 = b at hs hB hlen
  have s1 := sum_is ([x, y] ++ b) (YtfnlohopfoekfaaH.Crc.isB_append' (YtfnlohopfoekfaaH.Crc.isB_two hx hy) hB)
  have s2 := sum_is ([y, x] ++ b) (YtfnlohopfoekfaaH.Crc.isB_append' (YtfnlohopfoekfaaH.Crc.isB_two hy hx) hB)
  have s3 := sum_is (b ++ [x, y]) (YtfnlohopfoekfaaH.Crc.isB_append' hB (YtfnlohopfoekfaaH.Crc.isB_two hx hy))
  have s4 := sum_is (b ++ [y, x]) (YtfnlohopfoekfaaH.Crc.isB_append' hB (YtfnlohopfoekfaaH.Crc.isB_two hy hx))
  have f1 := YtfnlohopfoekfaaH.Crc.swapped_front x y hx hy b hB
  have f2 := YtfnlohopfoekfaaH.Crc.swapped_back x y hx hy b hB
  generalize YtfnlohopfoekfaaH.Crc.crcI ([x, y] ++ b) = c1 at s1 f1
  generalize YtfnlohopfoekfaaH.Crc.crcI ([y, x] ++ b) = c2 at s2 f1
  generalize YtfnlohopfoekfaaH.Crc.crcI (b ++ [x, y]) = c3 at s3 f2
  generalize YtfnlohopfoekfaaH.Crc.crcI (b ++ [y, x]) = c4 at s4 f2
  have g1 : ((c1 == c2) == (x == y)) = true := by
    rw [beq_iff_eq, Bool.eq_iff_iff, beq_iff_eq, beq_iff_eq]
    exact f1
  have g2 : ((c3 == c4) == (x == y)) = true := by
    rw [beq_iff_eq, Bool.eq_iff_iff, beq_iff_eq, beq_iff_eq]
    exact f2
  unfold thresherlaw02_CrcSwaps.f
  rw [shown_true, Option.bind_some, Option.bind_some, hs, Option.bind_some, if_pos (by simp; omega), Option.bind_some, Option.bind_some, if_pos (by simp; omega), Option.bind_some, Option.bind_some, if_pos (by simp; omega), Option.bind_some, Option.bind_some, if_pos (by simp; omega), Option.bind_some, Option.bind_some, if_pos (by simp; omega), Option.bind_some, Option.bind_some, if_pos (by simp; omega), if_pos rfl, s1, Option.bind_some, s2, Option.bind_some, if_pos g1, List.nil_append, s3, Option.bind_some, s4, Option.bind_some, g2]

end Go.Proofs.Ytfnlohopfoekfaa.Pure
