/-
The statement CrcNext of the given program: frames stand one behind the other, and each is told as it was; of every input, no condition.
-/
import Derived.Test.YtfnlohopfoekfaaPCrcNextx5
import Derived.Test.YtfnlohopfoekfaaHOpen
import Derived.Test.YtfnlohopfoekfaaHFrame
set_option linter.unusedVariables false
set_option linter.unusedSimpArgs false
set_option maxHeartbeats 2000000
namespace Go.Proofs.Ytfnlohopfoekfaa
open Go.RowKit Go.Proofs.YtfnlohopfoekfaaW.PrintWords Go.Proofs.YtfnlohopfoekfaaW.PrintLast Go.Proofs.YtfnlohopfoekfaaW.PrintMore
/-- What is left to show of CrcNext: plain. -/
def PCrcNext.thresherlaw02_CrcNext.Pure : Prop := ∀ (l0 : List (List (Int))), (fun l : List (List (Int)) => l.length * 24 ≤ 140737488351232 ∧ l.length ≤ maxLen ∧ ∀ x ∈ l, (fun l : List (Int) => l.length * 1 ≤ 140737488351232 ∧ l.length ≤ maxLen ∧ ∀ x ∈ l, (fun x : Int => (Lit.int .u8 x).wf = true) x) x) l0 → ∃ k, thresherlaw02_CrcNext.f k l0 = some true
end Go.Proofs.Ytfnlohopfoekfaa
namespace Go.Proofs.Ytfnlohopfoekfaa.Pure
open Go.Proofs.Ytfnlohopfoekfaa.PCrcNext Go.RowKit Go.Proofs.YtfnlohopfoekfaaW.PrintWords Go.Proofs.YtfnlohopfoekfaaW.PrintLast Go.Proofs.YtfnlohopfoekfaaW.PrintMore

theorem shown_true : thresherlaw02_shown.f = some true := by
  unfold thresherlaw02_shown.f crc_Sum.f
  rw [if_pos (by decide), Option.bind_some, YtfnlohopfoekfaaH.Crc.crc_shown]
  rfl
theorem short_is (l : List Int) : thresherlaw02_short.f l = some (l.take 300) := by
  unfold thresherlaw02_short.f
  by_cases h : (l.length : Int) > 300
  · rw [if_pos h, if_pos (by omega)]
  · rw [if_neg h, List.take_of_length_le (by omega)]
theorem unframe_is (l : List Int) (h : YtfnlohopfoekfaaH.Crc.isB l) : crc_Unframe.f l = some (YtfnlohopfoekfaaH.Fr.unframeI l) := by
  unfold crc_Unframe.f
  rw [if_pos h]
theorem frame_is (l : List Int) (h : YtfnlohopfoekfaaH.Crc.isB l) (hl : l.length ≤ 1000) : crc_Frame.f l = some (YtfnlohopfoekfaaH.Fr.frameI l) := by
  unfold crc_Frame.f
  rw [if_pos ⟨h, by omega⟩]
/-- The frames of some rows, one behind the other. -/
def frames : List (List Int) → List Int
  | [] => []
  | b :: r => YtfnlohopfoekfaaH.Fr.frameI b ++ frames r
theorem frames_append (a b : List (List Int)) : frames (a ++ b) = frames a ++ frames b := by
  induction a with
  | nil => rfl
  | cons x a ih => simp [frames, ih]
theorem isB_frames : ∀ (L : List (List Int)), (∀ b ∈ L, YtfnlohopfoekfaaH.Crc.isB b) → YtfnlohopfoekfaaH.Crc.isB (frames L)
  | [], _ => by simp [frames, YtfnlohopfoekfaaH.Crc.isB]
  | b :: r, h => YtfnlohopfoekfaaH.Var.isB_append (YtfnlohopfoekfaaH.Fr.isB_frame (h b List.mem_cons_self)) (isB_frames r (fun x hx => h x (List.mem_cons_of_mem _ hx)))
theorem frames_len : ∀ (L : List (List Int)), (∀ b ∈ L, b.length ≤ 300) → (frames L).length ≤ 320 * L.length
  | [], _ => by simp [frames]
  | b :: r, h => by
    have h1 := frames_len r (fun x hx => h x (List.mem_cons_of_mem _ hx))
    have h2 := h b List.mem_cons_self
    have h3 := YtfnlohopfoekfaaH.Fr.frameI_len b
    have h4 := YtfnlohopfoekfaaH.Var.putI_len10 (b.length : Int) (by omega)
    simp only [frames, List.length_append, List.length_cons]
    omega
theorem unframe_nil : YtfnlohopfoekfaaH.Fr.unframeI [] = ([], 0, 10) := by
  have := YtfnlohopfoekfaaH.Fr.unframe_part [] (by simp) 0 (by rw [YtfnlohopfoekfaaH.Fr.frameI_len]; omega)
  simpa using this
theorem wrap_small (i : Nat) (h : i < 1000) : wrap64 ((i : Int) + 1) = ((i + 1 : Nat) : Int) := by
  rw [YtfnlohopfoekfaaH.Crc.wrap64_in _ (by omega) (by omega)]
  omega
theorem second (l0 L : List (List Int)) (hn : L.length = min l0.length 10) (hl : ∀ b ∈ L, b.length ≤ 300) (hB : ∀ b ∈ L, YtfnlohopfoekfaaH.Crc.isB b) (hat : ∀ i (h : i < L.length), thresherlaw02_short.f (rd_L4 l0 (i : Int)) = some L[i]) :
    ∀ d i, i + d = L.length → ∃ k, thresherlaw02_CrcNext.l1 k l0 true (frames (L.drop i)) (i : Int) = some true := by
  intro d
  induction d with
  | zero =>
    intro i hi
    refine ⟨2, ?_⟩
    have e : frames (L.drop i) = [] := by rw [List.drop_of_length_le (by omega)]; rfl
    rw [e]
    have hj : thresherlaw02_CrcNext.j3 1 l0 true [] (i : Int) false = some true := by
      simp only [thresherlaw02_CrcNext.j3]
      rw [if_neg (by decide), unframe_is [] (by simp [YtfnlohopfoekfaaH.Crc.isB]), unframe_nil]
      rfl
    simp only [thresherlaw02_CrcNext.l1]
    by_cases h : (i : Int) < (l0.length : Int)
    · rw [if_pos h, decide_eq_false (by omega), hj]
    · rw [if_neg h, hj]
  | succ d ih =>
    intro i hi
    obtain ⟨k, hk⟩ := ih (i + 1) (by omega)
    refine ⟨k + 2, ?_⟩
    have hi' : i < L.length := by omega
    have e : frames (L.drop i) = YtfnlohopfoekfaaH.Fr.frameI L[i] ++ frames (L.drop (i + 1)) := by rw [List.drop_eq_getElem_cons hi']; rfl
    have hm : L[i] ∈ L := List.getElem_mem hi'
    have hBr : YtfnlohopfoekfaaH.Crc.isB (frames (L.drop (i + 1))) := isB_frames _ (fun b hb => hB b (List.mem_of_mem_drop hb))
    have hu := unframe_is (frames (L.drop i)) (isB_frames _ (fun b hb => hB b (List.mem_of_mem_drop hb)))
    have hd : (frames (L.drop i)).drop (YtfnlohopfoekfaaH.Fr.frameI L[i]).length = frames (L.drop (i + 1)) := by rw [e]; exact List.drop_left
    have hlen : (YtfnlohopfoekfaaH.Fr.frameI L[i]).length ≤ (frames (L.drop i)).length := by rw [e, List.length_append]; omega
    have hu' : YtfnlohopfoekfaaH.Fr.unframeI (frames (L.drop i)) = (L[i], ((YtfnlohopfoekfaaH.Fr.frameI L[i]).length : Int), 0) := by rw [e]; exact YtfnlohopfoekfaaH.Fr.unframe_frame _ _ (by have := hl _ hm; omega)
    have h5 : 5 ≤ (YtfnlohopfoekfaaH.Fr.frameI L[i]).length := by
      have := YtfnlohopfoekfaaH.Fr.frameI_len L[i]
      have := YtfnlohopfoekfaaH.Var.putI_pos ((L[i]).length : Int)
      omega
    rw [hu'] at hu
    generalize (YtfnlohopfoekfaaH.Fr.frameI L[i]).length = n at hu hd hlen h5
    generalize frames (L.drop i) = all at hu hd hlen
    have hs := hat i hi'
    have hj : thresherlaw02_CrcNext.j3 (k + 1) l0 true all (i : Int) true = some true := by
      simp only [thresherlaw02_CrcNext.j3]
      rw [if_pos trivial, hu, Option.bind_some]
      simp only
      rw [if_pos trivial, if_pos (by omega), if_pos (by omega), hs, Option.bind_some, if_pos rfl, if_neg (by omega), if_neg (by omega), if_pos (by omega), if_pos (by omega), Int.toNat_natCast, hd, wrap_small i (by omega), hk]
    simp only [thresherlaw02_CrcNext.l1]
    rw [if_pos (by omega), decide_eq_true (by omega), hj]
theorem first_ (l0 L : List (List Int)) (hn : L.length = min l0.length 10) (hl : ∀ b ∈ L, b.length ≤ 300) (hB : ∀ b ∈ L, YtfnlohopfoekfaaH.Crc.isB b) (hat : ∀ i (h : i < L.length), thresherlaw02_short.f (rd_L4 l0 (i : Int)) = some L[i]) :
    ∀ d i, i + d = L.length → ∃ k, thresherlaw02_CrcNext.l0 k l0 true (frames (L.take i)) (i : Int) = some true := by
  intro d
  induction d with
  | zero =>
    intro i hi
    obtain ⟨k, hk⟩ := second l0 L hn hl hB hat L.length 0 (by omega)
    refine ⟨k + 2, ?_⟩
    have e : frames (L.take i) = frames (L.drop 0) := by rw [List.take_of_length_le (by omega), List.drop_zero]
    rw [e]
    have hj : thresherlaw02_CrcNext.j1 (k + 1) l0 true (frames (L.drop 0)) (i : Int) false = some true := by
      simp only [thresherlaw02_CrcNext.j1]
      rw [if_neg (by decide)]
      exact hk
    simp only [thresherlaw02_CrcNext.l0]
    by_cases h : (i : Int) < (l0.length : Int)
    · rw [if_pos h, decide_eq_false (by omega), hj]
    · rw [if_neg h, hj]
  | succ d ih =>
    intro i hi
    obtain ⟨k, hk⟩ := ih (i + 1) (by omega)
    refine ⟨k + 2, ?_⟩
    have hi' : i < L.length := by omega
    have e : frames (L.take (i + 1)) = frames (L.take i) ++ YtfnlohopfoekfaaH.Fr.frameI L[i] := by rw [List.take_succ_eq_append_getElem hi', frames_append]; simp [frames]
    have hm : L[i] ∈ L := List.getElem_mem hi'
    have hs := hat i hi'
    have hf := frame_is L[i] (hB _ hm) (by have := hl _ hm; omega)
    have hle := frames_len (L.take (i + 1)) (fun b hb => hl b (List.mem_of_mem_take hb))
    rw [List.length_take, e, List.length_append] at hle
    have hj : thresherlaw02_CrcNext.j1 (k + 1) l0 true (frames (L.take i)) (i : Int) true = some true := by
      simp only [thresherlaw02_CrcNext.j1]
      rw [if_pos trivial, if_pos (by omega), if_pos (by omega), hs, Option.bind_some, hf, Option.bind_some, if_pos (by omega), ← e, wrap_small i (by omega), hk]
    simp only [thresherlaw02_CrcNext.l0]
    rw [if_pos (by omega), decide_eq_true (by omega), hj]
theorem CrcNext : thresherlaw02_CrcNext.Pure := by
  intro l0 hw
  have hat : ∀ i (h : i < ((l0.take 10).map (List.take 300)).length), thresherlaw02_short.f (rd_L4 l0 (i : Int)) = some ((l0.take 10).map (List.take 300))[i] := by
    intro i h
    simp only [List.length_map, List.length_take] at h
    rw [short_is]
    unfold rd_L4
    rw [Int.toNat_natCast, List.getElem_map, List.getElem_take, List.getD_eq_getElem?_getD, List.getElem?_eq_getElem (by omega)]
    rfl
  obtain ⟨k, hk⟩ := first_ l0 ((l0.take 10).map (List.take 300)) (by simp; omega) (by
      intro b hb
      obtain ⟨c, _, rfl⟩ := List.mem_map.1 hb
      exact List.length_take_le _ _) (by
      intro b hb
      obtain ⟨c, hc, rfl⟩ := List.mem_map.1 hb
      exact YtfnlohopfoekfaaH.Var.isB_take (YtfnlohopfoekfaaH.Crc.isB_wf (hw.2.2 c (List.mem_of_mem_take hc)).2.2) 300) hat ((l0.take 10).map (List.take 300)).length 0 (by omega)
  refine ⟨k, ?_⟩
  unfold thresherlaw02_CrcNext.f
  rw [shown_true, Option.bind_some]
  exact hk

end Go.Proofs.Ytfnlohopfoekfaa.Pure
