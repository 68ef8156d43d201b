/-
The statement CrcTurns of the given program: up to 32 bits in a row that are turned, of the bytes within a frame, are told, and none are told by themselves; of every input, no condition.
-/
import Derived.Test.YtfnlohopfoekfaaPCrcTurnsx4
import Derived.Test.YtfnlohopfoekfaaHFrame
set_option linter.unusedVariables false
set_option linter.unusedSimpArgs false
set_option maxHeartbeats 2000000
namespace Go.Proofs.Ytfnlohopfoekfaa.Pure
open Go.RowKit Go.Proofs.Ytfnlohopfoekfaa.PCrcTurns Go.Proofs.YtfnlohopfoekfaaW.PrintWords Go.Proofs.YtfnlohopfoekfaaW.PrintLast Go.Proofs.YtfnlohopfoekfaaW.PrintMore

theorem shown_true : thresherlaw02_shown.f = some true := by
  unfold thresherlaw02_shown.f crc_Sum.f
  rw [if_pos (by decide), Option.bind_some, YtfnlohopfoekfaaH.Crc.crc_shown]
  rfl
theorem short_is (l : List Int) : thresherlaw02_short.f l = some (l.take 300) := by
  unfold thresherlaw02_short.f
  by_cases h : (l.length : Int) > 300
  · rw [if_pos h, if_pos (by omega)]
  · rw [if_neg h, List.take_of_length_le (by omega)]
theorem unframe_is (l : List Int) (h : YtfnlohopfoekfaaH.Crc.isB l) : crc_Unframe.f l = some (YtfnlohopfoekfaaH.Fr.unframeI l) := by
  unfold crc_Unframe.f
  rw [if_pos h]
theorem frame_is (l : List Int) (h : YtfnlohopfoekfaaH.Crc.isB l) (hl : l.length ≤ 1000) : crc_Frame.f l = some (YtfnlohopfoekfaaH.Fr.frameI l) := by
  unfold crc_Frame.f
  rw [if_pos ⟨h, by omega⟩]
/-- The head of a frame, ahead of its bytes. -/
def hd (b : List Int) : List Int := YtfnlohopfoekfaaH.Var.putI b.length ++ YtfnlohopfoekfaaH.Fr.sum4 (YtfnlohopfoekfaaH.Crc.crcI b)
theorem frame_hd (b : List Int) : YtfnlohopfoekfaaH.Fr.frameI b = hd b ++ b := by simp [hd, YtfnlohopfoekfaaH.Fr.frameI]
theorem hd_len (b : List Int) : (hd b).length = (YtfnlohopfoekfaaH.Var.putI b.length).length + 4 := by simp [hd, YtfnlohopfoekfaaH.Fr.sum4_len]
/-- What a frame whose bytes are others of the same length says. -/
theorem unframe_other (b d : List Int) (hb : b.length ≤ 1048576) (h : d.length = b.length) : YtfnlohopfoekfaaH.Fr.unframeI (hd b ++ d) = if YtfnlohopfoekfaaH.Fr.sum4 (YtfnlohopfoekfaaH.Crc.crcI d) = YtfnlohopfoekfaaH.Fr.sum4 (YtfnlohopfoekfaaH.Crc.crcI b) then (d, (((hd b).length + d.length : Nat) : Int), 0) else ([], 0, 11) := by
  have hv : YtfnlohopfoekfaaH.Var.varI (hd b ++ d) = ((b.length : Int), ((YtfnlohopfoekfaaH.Var.putI b.length).length : Int)) := by
    unfold hd
    rw [List.append_assoc]
    exact YtfnlohopfoekfaaH.Var.varI_put _ (by omega) (by omega) _
  have hp := YtfnlohopfoekfaaH.Var.putI_pos (b.length : Int)
  have hl := hd_len b
  unfold YtfnlohopfoekfaaH.Fr.unframeI
  rw [hv]
  simp only
  rw [if_neg (by rw [List.length_append]; omega)]
  have e1 : ((YtfnlohopfoekfaaH.Var.putI b.length).length + 4 + b.length : Int).toNat = (hd b ++ d).length := by rw [List.length_append]; omega
  have e2 : ((YtfnlohopfoekfaaH.Var.putI b.length).length + 4 : Int).toNat = (hd b).length := by omega
  have e3 : ((YtfnlohopfoekfaaH.Var.putI b.length).length : Int).toNat = (YtfnlohopfoekfaaH.Var.putI b.length).length := by omega
  rw [e1, e2, e3, List.take_length, List.drop_left, List.take_left]
  have d2 : (hd b).drop (YtfnlohopfoekfaaH.Var.putI b.length).length = YtfnlohopfoekfaaH.Fr.sum4 (YtfnlohopfoekfaaH.Crc.crcI b) := by
    unfold hd
    rw [List.drop_left]
  rw [d2]
  split
  · simp only [Prod.mk.injEq, and_true, true_and]
    omega
  · rfl
/-- The bits of a mask, from the first one on. -/
def low (mask i : Nat) : Nat := mask % 2 ^ i
theorem low_succ (mask i : Nat) : low mask (i + 1) = low mask i ^^^ (if mask.testBit i then 2 ^ i else 0) := by
  unfold low
  apply Nat.eq_of_testBit_eq
  intro j
  rw [Nat.testBit_xor, Nat.testBit_mod_two_pow, Nat.testBit_mod_two_pow]
  by_cases h : mask.testBit i
  · rw [if_pos h, Nat.testBit_two_pow]
    by_cases hj : i = j
    · subst hj
      simp [h]
    · by_cases hlt : j < i
      · have h1 : j < i + 1 := by omega
        simp [hlt, h1, hj]
      · have h1 : ¬ (j < i + 1) := by omega
        simp [hlt, h1, hj]
  · rw [if_neg h, Nat.zero_testBit]
    by_cases hj : i = j
    · subst hj
      simp [h]
    · by_cases hlt : j < i
      · have h1 : j < i + 1 := by omega
        simp [hlt, h1]
      · have h1 : ¬ (j < i + 1) := by omega
        simp [hlt, h1]
theorem low_zero (mask : Nat) : low mask 0 = 0 := by simp [low, Nat.mod_one]
theorem low_lt (mask i : Nat) (hi : i ≤ 32) : low mask i < 4294967296 := by
  have h1 : mask % 2 ^ i < 2 ^ i := Nat.mod_lt _ (Nat.pow_pos (by decide))
  have h2 : 2 ^ i ≤ 2 ^ 32 := Nat.pow_le_pow_right (by decide) hi
  have h3 : (2 : Nat) ^ 32 = 4294967296 := by decide
  unfold low
  omega
theorem xor_mul (x y p : Nat) : (x ^^^ y) * 2 ^ p = x * 2 ^ p ^^^ y * 2 ^ p := by
  have := Nat.shiftLeft_xor_distrib (a := x) (b := y) (i := p)
  simpa [Nat.shiftLeft_eq] using this
/-- What is known of the turned bytes d, when the first i of the mask's bits are through: from bit p on. -/
structure Turned (b : List Int) (mask p i : Nat) (d : List Int) (none_ : Bool) : Prop where
  B : YtfnlohopfoekfaaH.Crc.isB d
  len : d.length = b.length
  num : YtfnlohopfoekfaaH.Crc.numLE (YtfnlohopfoekfaaH.Crc.nats d) = YtfnlohopfoekfaaH.Crc.numLE (YtfnlohopfoekfaaH.Crc.nats b) ^^^ (low mask i * 2 ^ p)
  non : none_ = true → low mask i = 0 ∧ d = b
  som : none_ = false → low mask i ≠ 0
theorem end_is (b : List Int) (hB : YtfnlohopfoekfaaH.Crc.isB b) (hb : b.length ≤ 301) (mask p i : Nat) (hi : i ≤ 32) (hp : p ≤ 8 * b.length) (d : List Int) (nn : Bool) (h : Turned b mask p i d nn) :
    crc_Unframe.f (hd b ++ d) = some (if nn = true then (b, (((hd b ++ b).length : Nat) : Int), 0) else ([], 0, 11)) := by
  have hhB : YtfnlohopfoekfaaH.Crc.isB (hd b) := YtfnlohopfoekfaaH.Var.isB_append (YtfnlohopfoekfaaH.Var.isB_put _) (YtfnlohopfoekfaaH.Fr.isB_sum4 _)
  rw [unframe_is _ (YtfnlohopfoekfaaH.Var.isB_append hhB h.B), unframe_other b d (by omega) h.len]
  cases nn with
  | true =>
    obtain ⟨_, rfl⟩ := h.non rfl
    rw [if_pos rfl, if_pos rfl, List.length_append]
  | false =>
    rw [if_neg (show ¬ (false = true) from by decide), if_neg]
    intro hs
    have hc := YtfnlohopfoekfaaH.Fr.sum4_inj (YtfnlohopfoekfaaH.Crc.crcI_range h.B) (YtfnlohopfoekfaaH.Crc.crcI_range hB) hs
    have hlen : (YtfnlohopfoekfaaH.Crc.nats b).length = (YtfnlohopfoekfaaH.Crc.nats d).length := by rw [YtfnlohopfoekfaaH.Var.nats_len, YtfnlohopfoekfaaH.Var.nats_len, h.len]
    exact YtfnlohopfoekfaaH.Crc.burst (YtfnlohopfoekfaaH.Crc.nats b) (YtfnlohopfoekfaaH.Crc.nats d) (YtfnlohopfoekfaaH.Crc.nats_lt hB) (YtfnlohopfoekfaaH.Crc.nats_lt h.B) hlen p (low mask i) (by rw [YtfnlohopfoekfaaH.Var.nats_len]; exact hp) (low_lt mask i hi) (h.som rfl) h.num (YtfnlohopfoekfaaH.Crc.crcI_inj_iff.1 hc).symm
theorem shr_bit (mask i : Nat) (hm : mask < 4294967296) (hi : i ≤ 32) : Go.bits .and .u32 (shr .u32 (mask : Int) (i : Int)) 1 = if mask.testBit i then 1 else 0 := by
  have e1 : shr .u32 (mask : Int) (i : Int) = ((mask / 2 ^ i : Nat) : Int) := by
    unfold shr
    have : min ((i : Int).toNat) (IntKind.u32.bits) = i := by
      have : IntKind.u32.bits = 32 := rfl
      rw [this]
      omega
    rw [this]
    simp
  have hlt : mask / 2 ^ i < 4294967296 := Nat.lt_of_le_of_lt (Nat.div_le_self _ _) hm
  rw [e1]
  have h2 := YtfnlohopfoekfaaH.Crc.u32_and (mask / 2 ^ i) 1 hlt (by decide)
  rw [Nat.and_one_is_mod] at h2
  have h3 : (1 : Int) = ((1 : Nat) : Int) := rfl
  rw [h3, h2]
  by_cases h : mask.testBit i
  · rw [if_pos h]
    rw [Nat.testBit_eq_decide_div_mod_eq, decide_eq_true_iff] at h
    rw [h]
  · rw [if_neg h]
    rw [Nat.testBit_eq_decide_div_mod_eq, decide_eq_true_iff] at h
    have : mask / 2 ^ i % 2 = 0 := by omega
    rw [this]
    rfl
theorem shl_bit (c : Nat) (hc : c < 8) : shl .u8 1 (c : Int) = ((2 ^ c : Nat) : Int) := by
  have h : ∀ c : Fin 8, shl .u8 1 ((c.val : Nat) : Int) = ((2 ^ c.val : Nat) : Int) := by decide
  exact h ⟨c, hc⟩
theorem turn_step (b : List Int) (mask p i : Nat) (d : List Int) (nn : Bool) (h : Turned b mask p i d nn) (hbit : mask.testBit i) (hpi : p + i < 8 * b.length) (n : Nat) (hn : d.getD ((p + i) / 8) 0 = (n : Int)) :
    Turned b mask p (i + 1) (d.set ((p + i) / 8) ((n ^^^ 2 ^ ((p + i) % 8) : Nat) : Int)) false := by
  have hj : (p + i) / 8 < d.length := by rw [h.len]; omega
  have hdj : d[(p + i) / 8] = (n : Int) := by
    rw [← hn, List.getD_eq_getElem?_getD, List.getElem?_eq_getElem hj]
    rfl
  have hn256 : n < 256 := by
    have := h.B _ (List.getElem_mem hj)
    rw [hdj] at this
    omega
  have h8 : (p + i) % 8 < 8 := Nat.mod_lt _ (by decide)
  have h2 : 2 ^ ((p + i) % 8) < 256 := by
    have : 2 ^ ((p + i) % 8) < 2 ^ 8 := Nat.pow_lt_pow_right (by decide) h8
    simpa using this
  have hx : n ^^^ 2 ^ ((p + i) % 8) < 256 := Nat.xor_lt_two_pow (n := 8) hn256 h2
  have hls := low_succ mask i
  rw [if_pos hbit] at hls
  refine ⟨?_, by rw [List.length_set]; exact h.len, ?_, fun hf => (by cases hf), fun _ => ?_⟩
  · intro x hx'
    rcases List.mem_or_eq_of_mem_set hx' with hm | rfl
    · exact h.B x hm
    · omega
  · have hnl : (p + i) / 8 < (YtfnlohopfoekfaaH.Crc.nats d).length := by rw [YtfnlohopfoekfaaH.Var.nats_len]; exact hj
    have hset : YtfnlohopfoekfaaH.Crc.nats (d.set ((p + i) / 8) ((n ^^^ 2 ^ ((p + i) % 8) : Nat) : Int)) = (YtfnlohopfoekfaaH.Crc.nats d).set ((p + i) / 8) ((YtfnlohopfoekfaaH.Crc.nats d)[(p + i) / 8] ^^^ 2 ^ ((p + i) % 8)) := by
      have hg : (YtfnlohopfoekfaaH.Crc.nats d)[(p + i) / 8] = n := by
        simp only [YtfnlohopfoekfaaH.Crc.nats, List.getElem_map]
        rw [hdj, Int.toNat_natCast]
      rw [hg]
      simp [YtfnlohopfoekfaaH.Crc.nats, List.map_set]
    rw [hset, YtfnlohopfoekfaaH.Crc.numLE_set _ (YtfnlohopfoekfaaH.Crc.nats_lt h.B) _ _ hnl h8, h.num, hls, xor_mul, Nat.xor_assoc]
    congr 2
    rw [← Nat.pow_add]
    congr 1
    omega
  · rw [hls]
    intro h0
    have h3 : low mask i = 2 ^ i := YtfnlohopfoekfaaH.Crc.xor_eq_zero h0
    have h4 : mask % 2 ^ i < 2 ^ i := Nat.mod_lt _ (Nat.pow_pos (by decide))
    unfold low at h3
    omega
theorem skip_step (b : List Int) (mask p i : Nat) (d : List Int) (nn : Bool) (h : Turned b mask p i d nn) (hbit : ¬ mask.testBit i) : Turned b mask p (i + 1) d nn := by
  have hls := low_succ mask i
  rw [if_neg hbit, Nat.xor_zero] at hls
  exact ⟨h.B, h.len, by rw [hls]; exact h.num, fun hf => by rw [hls]; exact h.non hf, fun hf => by rw [hls]; exact h.som hf⟩
theorem loop_is (b : List Int) (hB : YtfnlohopfoekfaaH.Crc.isB b) (hb : b.length ≤ 301) (mask p : Nat) (hm : mask < 4294967296) (hp : p < 8 * b.length) (w : Nat) : ∀ (i : Nat) (d : List Int) (nn : Bool), i + w = 32 → Turned b mask p i d nn →
    Ev (fun k => thresherlaw02_CrcTurns.l0 k b (mask : Int) true (hd b ++ b) ((hd b).length : Int) (p : Int) (hd b ++ d) nn (i : Int)) true := by
  have fin : ∀ (i : Nat) (d : List Int) (nn : Bool), i ≤ 32 → Turned b mask p i d nn → Ev (fun k => thresherlaw02_CrcTurns.j2 k b (mask : Int) true (hd b ++ b) ((hd b).length : Int) (p : Int) (hd b ++ d) nn (i : Int) false) true := by
    intro i d nn hi h
    refine Ev.step (f := fun _ => some true) (fun k => ?_) (Ev.now _)
    have he := end_is b hB hb mask p i hi (by omega) d nn h
    simp only [thresherlaw02_CrcTurns.j2]
    rw [if_neg (by decide), he, Option.bind_some]
    cases nn with
    | true => simp
    | false => simp
  induction w with
  | zero =>
    intro i d nn hi h
    refine Ev.step (fun k => ?_) (fin i d nn (by omega) h)
    simp only [thresherlaw02_CrcTurns.l0]
    rw [if_neg (by omega)]
  | succ w ih =>
    intro i d nn hi h
    have w1 : wrap64 ((p : Int) + (i : Int)) = ((p + i : Nat) : Int) := by rw [YtfnlohopfoekfaaH.Crc.wrap64_in _ (by omega) (by omega)]; omega
    have w2 : wrap64 (8 * (b.length : Int)) = ((8 * b.length : Nat) : Int) := by rw [YtfnlohopfoekfaaH.Crc.wrap64_in _ (by omega) (by omega)]; omega
    replace w1 := Aside0.mk w1
    replace w2 := Aside0.mk w2
    by_cases hpi : p + i < 8 * b.length
    · have hdec : decide (((p + i : Nat) : Int) < ((8 * b.length : Nat) : Int)) = true := by simp; omega
      have head : ∀ k, thresherlaw02_CrcTurns.l0 (k + 1) b (mask : Int) true (hd b ++ b) ((hd b).length : Int) (p : Int) (hd b ++ d) nn (i : Int) = thresherlaw02_CrcTurns.j2 k b (mask : Int) true (hd b ++ b) ((hd b).length : Int) (p : Int) (hd b ++ d) nn (i : Int) true := by
        intro k
        simp only [thresherlaw02_CrcTurns.l0]
        rw [if_pos (by omega), w1.out, w2.out, hdec]
      have hbitf0 := shr_bit mask i hm (by omega)
      by_cases hbit : mask.testBit i
      · rw [if_pos hbit] at hbitf0
        have hbitf := Aside0.mk hbitf0
        clear hbitf0
        have hj : (p + i) / 8 < d.length := by rw [h.len]; omega
        have hdb : 0 ≤ d.getD ((p + i) / 8) 0 ∧ d.getD ((p + i) / 8) 0 < 256 := by
          rw [List.getD_eq_getElem?_getD, List.getElem?_eq_getElem hj]
          exact h.B _ (List.getElem_mem hj)
        obtain ⟨n, hn⟩ := Int.eq_ofNat_of_zero_le hdb.1
        have hnext := ih (i + 1) _ false (by omega) (turn_step b mask p i d nn h hbit hpi n hn)
        have t1 := Aside0.mk (show Int.tdiv ((p + i : Nat) : Int) 8 = (((p + i) / 8 : Nat) : Int) from YtfnlohopfoekfaaH.Crc.tdiv_nat (p + i) 8)
        have t2 := Aside0.mk (show Int.tmod ((p + i : Nat) : Int) 8 = (((p + i) % 8 : Nat) : Int) from YtfnlohopfoekfaaH.Crc.tmod_nat (p + i) 8)
        have hl := hd_len b
        have hp10 := YtfnlohopfoekfaaH.Var.putI_len10 (b.length : Int) (by omega)
        have w3 := Aside0.mk (show wrap64 (((p + i) / 8 : Nat) : Int) = (((p + i) / 8 : Nat) : Int) from YtfnlohopfoekfaaH.Crc.wrap64_in _ (by omega) (by omega))
        have w4 := Aside0.mk (show wrap64 (((hd b).length : Int) + (((p + i) / 8 : Nat) : Int)) = (((hd b).length + (p + i) / 8 : Nat) : Int) from by rw [YtfnlohopfoekfaaH.Crc.wrap64_in _ (by omega) (by omega)]; omega)
        have hrd : rd (hd b ++ d) (((hd b).length + (p + i) / 8 : Nat) : Int) = (n : Int) := by
          unfold rd
          rw [Int.toNat_natCast, List.getD_eq_getElem?_getD, List.getElem?_append_right (by omega)]
          have : (hd b).length + (p + i) / 8 - (hd b).length = (p + i) / 8 := by omega
          rw [this, ← List.getD_eq_getElem?_getD, hn]
        replace hrd := Aside0.mk hrd
        have h8 : (p + i) % 8 < 8 := Nat.mod_lt _ (by decide)
        have h2 : 2 ^ ((p + i) % 8) < 256 := by
          have : 2 ^ ((p + i) % 8) < 2 ^ 8 := Nat.pow_lt_pow_right (by decide) h8
          simpa using this
        have hset : (hd b ++ d).set ((hd b).length + (p + i) / 8) ((n ^^^ 2 ^ ((p + i) % 8) : Nat) : Int) = hd b ++ d.set ((p + i) / 8) ((n ^^^ 2 ^ ((p + i) % 8) : Nat) : Int) := by
          rw [List.set_append_right _ _ (by omega)]
          congr 2
          omega
        have hxor := Aside0.mk (u8_xor_nat n (2 ^ ((p + i) % 8)) (by omega) h2)
        have hshl := Aside0.mk (shl_bit ((p + i) % 8) h8)
        replace hset := Aside0.mk hset
        refine Ev.step head (Ev.step (fun k => ?_) hnext)
        simp only [thresherlaw02_CrcTurns.j2]
        rw [if_pos trivial, if_pos (by omega), hbitf.out, if_pos rfl, w1.out, t1.out, t2.out, w3.out, w4.out, if_pos (by omega), if_pos (by rw [List.length_append]; omega), if_pos (by omega), hrd.out, hshl.out, hxor.out, Int.toNat_natCast, hset.out, YtfnlohopfoekfaaH.Crc.wrap64_in _ (by omega) (by omega)]
        rfl
      · rw [if_neg hbit] at hbitf0
        have hbitf := Aside0.mk hbitf0
        clear hbitf0
        refine Ev.step head (Ev.step (fun k => ?_) (ih (i + 1) d nn (by omega) (skip_step b mask p i d nn h hbit)))
        simp only [thresherlaw02_CrcTurns.j2]
        rw [if_pos trivial, if_pos (by omega), hbitf.out, if_neg (by decide), YtfnlohopfoekfaaH.Crc.wrap64_in _ (by omega) (by omega)]
        rfl
    · have hdec : decide (((p + i : Nat) : Int) < ((8 * b.length : Nat) : Int)) = false := by simp; omega
      refine Ev.step (fun k => ?_) (fin i d nn (by omega) h)
      simp only [thresherlaw02_CrcTurns.l0]
      rw [if_pos (by omega), w1.out, w2.out, hdec]
theorem CrcTurns : thresherlaw02_CrcTurns.Pure := by
  intro l0 a m hl hl2 hw ha hm
  have hB0 := YtfnlohopfoekfaaH.Crc.isB_wf hw
  have ha := YtfnlohopfoekfaaH.Crc.wf_u16 ha
  have hm := YtfnlohopfoekfaaH.Crc.wf_u32 hm
  have hB1 : YtfnlohopfoekfaaH.Crc.isB (l0.take 300) := YtfnlohopfoekfaaH.Var.isB_take hB0 300
  have hlen : (l0.take 300).length ≤ 300 := List.length_take_le _ _
  have hs := short_is l0
  generalize l0.take 300 = c at hs hB1 hlen
  have hB : YtfnlohopfoekfaaH.Crc.isB ([7] ++ c) := YtfnlohopfoekfaaH.Var.isB_append (by intro x hx; rw [List.mem_singleton.1 hx]; decide) hB1
  have hbl : ([7] ++ c).length = 1 + c.length := by simp; omega
  obtain ⟨b, hbe⟩ : ∃ b, [7] ++ c = b := ⟨_, rfl⟩
  rw [hbe] at hB hbl
  have hf := frame_is b hB (by omega)
  rw [frame_hd] at hf
  have hhl := hd_len b
  have hp := YtfnlohopfoekfaaH.Var.putI_pos (b.length : Int)
  have h10 := YtfnlohopfoekfaaH.Var.putI_len10 (b.length : Int) (by omega)
  obtain ⟨mask, rfl⟩ := Int.eq_ofNat_of_zero_le hm.1
  obtain ⟨p, rfl⟩ := Int.eq_ofNat_of_zero_le ha.1
  have hq : p % (8 * b.length) < 8 * b.length := Nat.mod_lt _ (by omega)
  have hloop := loop_is b hB (by omega) mask (p % (8 * b.length)) (by omega) hq 32 0 b true rfl ⟨hB, rfl, by rw [low_zero, Nat.zero_mul, Nat.xor_zero], fun _ => ⟨low_zero _, rfl⟩, fun h => by cases h⟩
  have wk : wrap64 (((hd b ++ b).length : Int) - (b.length : Int)) = ((hd b).length : Int) := by rw [List.length_append, YtfnlohopfoekfaaH.Crc.wrap64_in _ (by omega) (by omega)]; omega
  have wp : wrap64 (p : Int) = (p : Int) := YtfnlohopfoekfaaH.Crc.wrap64_in _ (by omega) (by omega)
  have w8 : wrap64 (8 * (b.length : Int)) = ((8 * b.length : Nat) : Int) := by rw [YtfnlohopfoekfaaH.Crc.wrap64_in _ (by omega) (by omega)]; omega
  have hmod : Int.tmod (p : Int) ((8 * b.length : Nat) : Int) = ((p % (8 * b.length) : Nat) : Int) := YtfnlohopfoekfaaH.Crc.tmod_nat _ _
  replace wk := Aside0.mk wk
  replace wp := Aside0.mk wp
  replace w8 := Aside0.mk w8
  replace hmod := Aside0.mk hmod
  have hj : Ev (fun k => thresherlaw02_CrcTurns.j0 k b (p : Int) (mask : Int) true (hd b ++ b) ((hd b).length : Int) false) true := by
    refine Ev.step (fun k => ?_) hloop
    simp only [thresherlaw02_CrcTurns.j0]
    rw [if_neg (by decide), w8.out, if_neg (by omega), Option.bind_some, if_pos (by rw [List.length_append]; simp; omega), wp.out, hmod.out, List.nil_append]
    rfl
  obtain ⟨k, hk⟩ := hj.rounds
  refine ⟨k, ?_⟩
  unfold thresherlaw02_CrcTurns.f
  have hdec : decide (((hd b).length : Int) > 15) = false := by simp; omega
  rw [shown_true, Option.bind_some, Option.bind_some, hs, Option.bind_some, if_pos (by simp; omega), Option.bind_some, hbe, hf, Option.bind_some, wk.out, if_neg (by omega), hdec]
  exact hk

end Go.Proofs.Ytfnlohopfoekfaa.Pure
