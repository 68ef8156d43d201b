/-
The statement CrcBack of the given program: what was framed is told whatever is behind it, a part of a frame is none, and what is handed in stays; of every input, no condition.
-/
import Derived.Test.YtfnlohopfoekfaaPCrcBackx4
import Derived.Test.YtfnlohopfoekfaaHFrame
set_option linter.unusedVariables false
set_option linter.unusedSimpArgs false
set_option maxHeartbeats 2000000
namespace Go.Proofs.Ytfnlohopfoekfaa.Pure
open Go.RowKit Go.Proofs.Ytfnlohopfoekfaa.PCrcBack Go.Proofs.YtfnlohopfoekfaaW.PrintWords Go.Proofs.YtfnlohopfoekfaaW.PrintLast Go.Proofs.YtfnlohopfoekfaaW.PrintMore

theorem shown_true : thresherlaw02_shown.f = some true := by
  unfold thresherlaw02_shown.f crc_Sum.f
  rw [if_pos (by decide), Option.bind_some, YtfnlohopfoekfaaH.Crc.crc_shown]
  rfl
theorem short_is (l : List Int) : thresherlaw02_short.f l = some (l.take 300) := by
  unfold thresherlaw02_short.f
  by_cases h : (l.length : Int) > 300
  · rw [if_pos h, if_pos (by omega)]
  · rw [if_neg h, List.take_of_length_le (by omega)]
theorem unframe_is (l : List Int) (h : YtfnlohopfoekfaaH.Crc.isB l) : crc_Unframe.f l = some (YtfnlohopfoekfaaH.Fr.unframeI l) := by
  unfold crc_Unframe.f
  rw [if_pos h]
theorem frame_is (l : List Int) (h : YtfnlohopfoekfaaH.Crc.isB l) (hl : l.length ≤ 1000) : crc_Frame.f l = some (YtfnlohopfoekfaaH.Fr.frameI l) := by
  unfold crc_Frame.f
  rw [if_pos ⟨h, by omega⟩]
theorem CrcBack : thresherlaw02_CrcBack.Pure := by
  intro l0 l1 a hl hl2 hw hm hm2 hw1 ha
  have hB0 := YtfnlohopfoekfaaH.Crc.isB_wf hw
  have hB1 := YtfnlohopfoekfaaH.Crc.isB_wf hw1
  have ha := YtfnlohopfoekfaaH.Crc.wf_u16 ha
  have hB : YtfnlohopfoekfaaH.Crc.isB (l0.take 300) := YtfnlohopfoekfaaH.Var.isB_take hB0 300
  have hC : YtfnlohopfoekfaaH.Crc.isB (l1.take 300) := YtfnlohopfoekfaaH.Var.isB_take hB1 300
  have hlen : (l0.take 300).length ≤ 300 := List.length_take_le _ _
  have hlen1 : (l1.take 300).length ≤ 300 := List.length_take_le _ _
  have hs := short_is l0
  have hs1 := short_is l1
  generalize l0.take 300 = b at hs hB hlen
  generalize l1.take 300 = c at hs1 hC hlen1
  have hf := frame_is b hB (by omega)
  have hfl := YtfnlohopfoekfaaH.Fr.frameI_len b
  have hp := YtfnlohopfoekfaaH.Var.putI_pos (b.length : Int)
  have h10 := YtfnlohopfoekfaaH.Var.putI_len10 (b.length : Int) (by omega)
  have hFB := YtfnlohopfoekfaaH.Fr.isB_frame hB
  have u1 := unframe_is (YtfnlohopfoekfaaH.Fr.frameI b ++ c) (YtfnlohopfoekfaaH.Var.isB_append hFB hC)
  rw [YtfnlohopfoekfaaH.Fr.unframe_frame b c (by omega)] at u1
  have hpart := YtfnlohopfoekfaaH.Fr.unframe_part b (by omega)
  generalize YtfnlohopfoekfaaH.Fr.frameI b = f at hf hfl hFB u1 hpart
  have hmod : Int.tmod (wrap64 a) (f.length : Int) = ((a.toNat % f.length : Nat) : Int) := by
    rw [YtfnlohopfoekfaaH.Crc.wrap64_in _ (by omega) (by omega)]
    obtain ⟨n, rfl⟩ := Int.eq_ofNat_of_zero_le ha.1
    rw [YtfnlohopfoekfaaH.Crc.tmod_nat, Int.toNat_natCast]
  have hlt : a.toNat % f.length < f.length := Nat.mod_lt _ (by omega)
  have u2 := unframe_is (f.take (a.toNat % f.length)) (YtfnlohopfoekfaaH.Var.isB_take hFB _)
  rw [hpart _ hlt] at u2
  generalize a.toNat % f.length = q at hmod hlt u2
  unfold thresherlaw02_CrcBack.f
  rw [shown_true, Option.bind_some, hs, Option.bind_some, hf, Option.bind_some, if_neg (by omega), Option.bind_some, if_pos (by simp; omega), Option.bind_some, hs1, Option.bind_some, List.nil_append, if_pos (by omega), u1, Option.bind_some, if_neg (by omega), hmod, if_pos (by omega), if_pos (by omega), Int.toNat_natCast, u2, Option.bind_some]
  simp

end Go.Proofs.Ytfnlohopfoekfaa.Pure
