-- Written by hp.py (own driver over print.py) out of the translation, hand-made functions among it. Lean checks it.
import Derived.Test.YtfnlohopfoekfaaPCrcLinearx0
namespace Go.Proofs.Ytfnlohopfoekfaa.PCrcLinear
open Go.RowKit Go.Proofs.YtfnlohopfoekfaaW.PrintWords Go.Proofs.YtfnlohopfoekfaaW.PrintLast Go.Proofs.YtfnlohopfoekfaaW.PrintMore
attribute [local go_sem] max2_int min2_int max_two min_two max_three min_three max_four min_four   -- for this text's walks alone
set_option linter.unusedVariables false
set_option linter.unusedSimpArgs false

/-! ### crc_step_p: function 17 -/
def crc_step_p.l0 : Nat → Int → Int → Option (Int)
  | 0, _, _ => none
  | k + 1, x0, x4 => if x4 < 8 then (crc_step_p.l0 k (Go.bits .xor .u32 (x0 / 2) (Go.bits .and .u32 3988292384 ((-(Go.bits .and .u32 x0 1)) % 4294967296))) (wrap64 (x4 + 1))) else (some x0)
def crc_step_p.f (k : Nat) (a0 : Int) : Option (Int) := crc_step_p.l0 k a0 0
theorem crc_step_p.mono_l : ∀ k, (∀ y0 y1, LeO (crc_step_p.l0 k y0 y1) (crc_step_p.l0 (k + 1) y0 y1))
  | 0 => fun _ _ r h => by simp [crc_step_p.l0] at h
  | k + 1 => by
    have ih0 := crc_step_p.mono_l k
    · intro y0 y1
      unfold crc_step_p.l0
      repeat' first
      | (with_reducible exact ih0 _ _)
      | (with_reducible exact LeO.refl _)
      | (with_reducible exact LeO.none _)
      | (with_reducible refine LeO.ite ?_ ?_)
      | (with_reducible refine LeO.bind ?_ (fun _ => ?_))
      | exact ih0 _ _
      | exact LeO.none _
      | refine LeO.ite ?_ ?_
      | refine LeO.bind ?_ (fun _ => ?_)
theorem crc_step_p.mono : ∀ a0 k, LeO (crc_step_p.f k a0) (crc_step_p.f (k + 1) a0) := by
  intro a0 k
  have ih0 := crc_step_p.mono_l k
  unfold crc_step_p.f
  repeat' first
      | (with_reducible exact ih0 _ _)
      | (with_reducible exact LeO.refl _)
      | (with_reducible exact LeO.none _)
      | (with_reducible refine LeO.ite ?_ ?_)
      | (with_reducible refine LeO.bind ?_ (fun _ => ?_))
      | exact ih0 _ _
      | exact LeO.none _
      | refine LeO.ite ?_ ?_
      | refine LeO.bind ?_ (fun _ => ?_)
set_option maxHeartbeats 8000000 in
set_option maxRecDepth 100000 in
theorem crc_step_p.calls (k : Nat) (a0 : Int) (r : Int) (w : World) (h : crc_step_p.f k a0 = some r) :
    Calls Try.prog 17 #[.int .u32 a0] w fun e w' => e = .returned (.int .u32 r) ∧ Drawn0 w w' := by
  have H : (crc_step_p.l0 k a0 0) = some r := h
  clear h
  have H' := Aside0.mk H
  clear H
  go_enter Try.func17, Try.ntmps17
  go_wp2
  go_loopg [0, 4] k (fun kq v0 v4 w' => ∃ (x0_1 : Int) (x4_1 : Int), v0 = .int .u32 x0_1 ∧ v4 = .int .i64 x4_1 ∧ Aside0 (crc_step_p.l0 kq x0_1 x4_1 = some r) ∧ Aside0 (kq ≤ k) ∧ Drawn0 w w')
  case atStart => exact ⟨(a0), (0), (by first | rfl | (simp; done) | (simp [*]; done)), (by first | rfl | (simp; done) | (simp [*]; done)), H', ⟨Nat.le_refl _⟩, by repeat (first | exact Drawn0.refl _ | apply Drawn0.step)⟩
  case round =>
    clear H'
    try clear c1
    obtain ⟨x0_1, x4_1, rfl, rfl, HA, HK1, ⟨m1, rfl⟩⟩ := hrel
    cases gk with
    | zero => exact absurd HA.out (by simp [crc_step_p.l0])
    | succ k1 =>
      have H := HA.out
      clear HA
      simp only [crc_step_p.l0] at H
      by_cases c2 : x4_1 < 8
      · rw [if_pos c2] at H
        have c2b0 : decide (x4_1 < 8) = true := decide_eq_true c2
        clear c2
        have H' := Aside0.mk H
        clear H
        go_wp2
        go_roundg k1
        case measure => have := HK1.out; omega
        case rel => exact ⟨(Go.bits .xor .u32 (x0_1 / 2) (Go.bits .and .u32 3988292384 ((-(Go.bits .and .u32 x0_1 1)) % 4294967296))), (wrap64 (x4_1 + 1)), (by first | rfl | (simp; done) | (simp [*]; done)), (by first | rfl | (simp; done) | (simp [*]; done)), H', ⟨by have := HK1.out; omega⟩, by repeat (first | exact Drawn0.refl _ | apply Drawn0.step)⟩
      · rw [if_neg c2] at H
        have c2b0 : decide (x4_1 < 8) = false := decide_eq_false c2
        clear c2
        obtain rfl := Option.some.inj H
        go_wp2
        go_ret
        exact ⟨by first | rfl | (simp; done) | (simp [*]; done), by repeat (first | exact Drawn0.refl _ | apply Drawn0.step)⟩

/-! ### crc_step: plain, of function 17 -/
def crc_step.f (a0 : Int) : Option Int := if 0 ≤ a0 ∧ a0 < 4294967296 then some (YtfnlohopfoekfaaH.Crc.Mn 8 a0.toNat : Nat) else none
set_option maxHeartbeats 2000000 in
theorem crc_step.loop (d : Nat) : ∀ (x i : Nat), x < 4294967296 → i + d = 8 → Ev (fun k => crc_step_p.l0 k (x : Int) (i : Int)) ((YtfnlohopfoekfaaH.Crc.Mn d x : Nat) : Int) := by
  induction d with
  | zero =>
    intro x i hx hi
    refine Ev.step (f := fun _ => some ((x : Nat) : Int)) (fun k => ?_) (Ev.now _)
    simp only [crc_step_p.l0]
    rw [if_neg (by omega)]
  | succ d ih =>
    intro x i hx hi
    refine Ev.step (fun k => ?_) (ih (YtfnlohopfoekfaaH.Crc.M x) (i + 1) (YtfnlohopfoekfaaH.Crc.M_lt x hx) (by omega))
    simp only [crc_step_p.l0]
    rw [if_pos (by omega), YtfnlohopfoekfaaH.Crc.bits_step x hx, YtfnlohopfoekfaaH.Crc.wrap64_in _ (by omega) (by omega)]
    rfl
set_option maxHeartbeats 2000000 in
theorem crc_step.ev (a0 : Int) (r : Int) (h : crc_step.f a0 = some r) : Ev (fun k => crc_step_p.f k a0) r := by
  unfold crc_step.f at h
  split at h
  · obtain ⟨n, rfl⟩ := Int.eq_ofNat_of_zero_le ‹0 ≤ a0 ∧ a0 < 4294967296›.1
    obtain rfl := Option.some.inj h
    exact crc_step.loop 8 n 0 (by omega) rfl
  · cases h
theorem crc_step.calls (a0 : Int) (r : Int) (w : World) (h : crc_step.f a0 = some r) :
    Calls Try.prog 17 #[.int .u32 a0] w fun e w' => e = .returned (.int .u32 r) ∧ Drawn0 w w' := by
  obtain ⟨k, hk⟩ := (crc_step.ev a0 _ h ).rounds
  exact crc_step_p.calls k a0 r w hk

/-! ### crc_Sum_p: function 10 -/
def crc_Sum_p.l0 : Nat → Int → List Int → Int → Int → Option (Int)
  | 0, _, _, _, _ => none
  | k + 1, x3, x6, x7, x8 => if x8 < x7 then (if 0 ≤ x8 then (if x8 < (x6.length : Int) then ((crc_step.f ((Go.bits .xor .u8 ((x3) % 256) (rd x6 x8)) % 4294967296)).bind fun t102 => (crc_Sum_p.l0 k (Go.bits .xor .u32 (x3 / 256) t102) x6 x7 (wrap64 (x8 + 1)))) else (none)) else (none)) else (some (Go.bits .xor .u32 4294967295 x3))
def crc_Sum_p.f (k : Nat) (l0 : List Int) : Option (Int) := crc_Sum_p.l0 k 4294967295 l0 (l0.length : Int) 0
theorem crc_Sum_p.mono_l : ∀ k, (∀ y0 y1 y2 y3, LeO (crc_Sum_p.l0 k y0 y1 y2 y3) (crc_Sum_p.l0 (k + 1) y0 y1 y2 y3))
  | 0 => fun _ _ _ _ r h => by simp [crc_Sum_p.l0] at h
  | k + 1 => by
    have ih0 := crc_Sum_p.mono_l k
    · intro y0 y1 y2 y3
      unfold crc_Sum_p.l0
      repeat' first
      | (with_reducible exact ih0 _ _ _ _)
      | (with_reducible exact LeO.refl _)
      | (with_reducible exact LeO.none _)
      | (with_reducible refine LeO.ite ?_ ?_)
      | (with_reducible refine LeO.bind ?_ (fun _ => ?_))
      | exact ih0 _ _ _ _
      | exact LeO.none _
      | refine LeO.ite ?_ ?_
      | refine LeO.bind ?_ (fun _ => ?_)
theorem crc_Sum_p.mono : ∀ a0 k, LeO (crc_Sum_p.f k a0) (crc_Sum_p.f (k + 1) a0) := by
  intro a0 k
  have ih0 := crc_Sum_p.mono_l k
  unfold crc_Sum_p.f
  repeat' first
      | (with_reducible exact ih0 _ _ _ _)
      | (with_reducible exact LeO.refl _)
      | (with_reducible exact LeO.none _)
      | (with_reducible refine LeO.ite ?_ ?_)
      | (with_reducible refine LeO.bind ?_ (fun _ => ?_))
      | exact ih0 _ _ _ _
      | exact LeO.none _
      | refine LeO.ite ?_ ?_
      | refine LeO.bind ?_ (fun _ => ?_)
set_option maxHeartbeats 8000000 in
set_option maxRecDepth 100000 in
theorem crc_Sum_p.calls (k : Nat) (A0 : Option Addr) (c0 : Nat) (l0 : List Int) (r : Int) (w : World) (hr0 : Kd.C (Kd.int .u8) w A0 l0.length l0) (hc0 : l0.length ≤ c0) (h : crc_Sum_p.f k l0 = some r) :
    Calls Try.prog 10 #[.slice A0 l0.length c0] w fun e w' => e = .returned (.int .u32 r) ∧ Drawn0 w w' := by
  have HR0 := Aside0.mk hr0
  have HC0 := Aside0.mk hc0
  clear hr0 hc0
  have H : (crc_Sum_p.l0 k 4294967295 l0 (l0.length : Int) 0) = some r := h
  clear h
  have H' := Aside0.mk H
  clear H
  go_enter Try.func10, Try.ntmps10
  go_wp2
  go_loopg [3, 8] k (fun kq v3 v8 w' => ∃ (x3_1 : Int) (x8_1 : Int), v3 = .int .u32 x3_1 ∧ v8 = .int .i64 x8_1 ∧ Aside0 (crc_Sum_p.l0 kq x3_1 l0 (l0.length : Int) x8_1 = some r) ∧ Aside0 (kq ≤ k) ∧ Drawn0 w w')
  case atStart => exact ⟨(4294967295), (0), (by first | rfl | (simp; done) | (simp [*]; done)), (by first | rfl | (simp; done) | (simp [*]; done)), H', ⟨Nat.le_refl _⟩, by repeat (first | exact Drawn0.refl _ | apply Drawn0.step)⟩
  case round =>
    clear H'
    try clear c1
    obtain ⟨x3_1, x8_1, rfl, rfl, HA, HK1, ⟨m1, rfl⟩⟩ := hrel
    cases gk with
    | zero => exact absurd HA.out (by simp [crc_Sum_p.l0])
    | succ k1 =>
      have H := HA.out
      clear HA
      simp only [crc_Sum_p.l0] at H
      by_cases c2 : x8_1 < (l0.length : Int)
      · rw [if_pos c2] at H
        have c2b0 : decide (x8_1 < (l0.length : Int)) = true := decide_eq_true c2
        clear c2
        by_cases c3 : 0 ≤ x8_1
        · rw [if_pos c3] at H
          have c3b0 : decide (0 ≤ x8_1) = true := decide_eq_true c3
          clear c3
          by_cases c4 : x8_1 < (l0.length : Int)
          · rw [if_pos c4] at H
            have c4b0 : decide (x8_1 < (l0.length : Int)) = true := decide_eq_true c4
            clear c4
            replace H := Option.bind_eq_some_iff.mp H
            obtain ⟨t102, A50, H⟩ := H
            replace H : (crc_Sum_p.l0 k1 (Go.bits .xor .u32 (x3_1 / 256) t102) l0 (l0.length : Int) (wrap64 (x8_1 + 1))) = some r := H
            have A5 := Aside0.mk A50
            clear A50
            have H' := Aside0.mk H
            clear H
            have p101 : 0 ≤ (x8_1 : Int) := of_decide_eq_true (by first | (with_reducible assumption) | assumption)
            have q101 : x8_1 < (l0.length : Int) := of_decide_eq_true (by first | (with_reducible assumption) | assumption)
            obtain ⟨ad101, e101, hx101_0⟩ := Kd.at_int HR0.out x8_1 p101 q101
            cases e101
            replace p101 := eq_true p101
            replace q101 := eq_true q101
            go_wp2_with (first | ((with_reducible refine gate_callee (f := 17) rfl ?_); refine goesL_ (some 19) rfl rfl Try.func17 (by kernel_rfl) rfl #[.int .u32 ((Go.bits .xor .u8 ((x3_1) % 256) (rd l0 x8_1)) % 4294967296)] rfl (by (try simp only [List.map_toArray, List.map_cons, List.map_nil]); first | done | rfl | (simp only [List.length_drop, List.length_take]; rfl)) ?_; (with_reducible refine (crc_step.calls ((Go.bits .xor .u8 ((x3_1) % 256) (rd l0 x8_1)) % 4294967296) t102 _ A5.out).mono ?_); rintro e w' ⟨rfl, ⟨nd, rfl⟩⟩; refine ⟨_, rfl, ?_⟩))
            go_roundg k1
            case measure => have := HK1.out; omega
            case rel => exact ⟨(Go.bits .xor .u32 (x3_1 / 256) t102), (wrap64 (x8_1 + 1)), (by first | rfl | (simp; done) | (simp [*]; done)), (by first | rfl | (simp; done) | (simp [*]; done)), H', ⟨by have := HK1.out; omega⟩, by repeat (first | exact Drawn0.refl _ | apply Drawn0.step)⟩
          · rw [if_neg c4] at H
            exact absurd H (by simp)
        · rw [if_neg c3] at H
          exact absurd H (by simp)
      · rw [if_neg c2] at H
        have c2b0 : decide (x8_1 < (l0.length : Int)) = false := decide_eq_false c2
        clear c2
        obtain rfl := Option.some.inj H
        go_wp2
        go_ret
        exact ⟨by first | rfl | (simp; done) | (simp [*]; done), by repeat (first | exact Drawn0.refl _ | apply Drawn0.step)⟩

/-! ### crc_Sum: plain, of function 10 -/
def crc_Sum.f (l0 : List Int) : Option Int := if YtfnlohopfoekfaaH.Crc.isB l0 then some (YtfnlohopfoekfaaH.Crc.crcI l0) else none
set_option maxHeartbeats 2000000 in
theorem crc_Sum.loop (l : List Int) (hl : l.length ≤ 9223372036854775807) (hB : YtfnlohopfoekfaaH.Crc.isB l) (t : List Int) : ∀ (r i : Nat), r < 4294967296 → i + t.length = l.length → l.drop i = t →
    Ev (fun k => crc_Sum_p.l0 k (r : Int) l (l.length : Int) (i : Int)) ((YtfnlohopfoekfaaH.Crc.crcReg r (YtfnlohopfoekfaaH.Crc.nats t) ^^^ 4294967295 : Nat) : Int) := by
  induction t with
  | nil =>
    intro r i hr hi ht
    refine Ev.step (fun k => ?_) (Ev.now _)
    simp only [crc_Sum_p.l0]
    rw [if_neg (by simp at hi; omega)]
    have e2 : (4294967295 : Int) = ((4294967295 : Nat) : Int) := rfl
    rw [e2, YtfnlohopfoekfaaH.Crc.u32_xor _ _ (by decide) hr, Nat.xor_comm]
    rfl
  | cons c t ih =>
    intro r i hr hi ht
    have hil : i < l.length := by simp at hi; omega
    have hc : l[i] = c := by
      rw [List.drop_eq_getElem_cons hil] at ht
      exact (List.cons.inj ht).1
    have ht' : l.drop (i + 1) = t := by
      rw [List.drop_eq_getElem_cons hil] at ht
      exact (List.cons.inj ht).2
    have hrd : rd l (i : Int) = c := by
      unfold rd
      rw [Int.toNat_natCast, List.getD_eq_getElem?_getD, List.getElem?_eq_getElem hil, hc]
      rfl
    have hcb : 0 ≤ c ∧ c < 256 := hB c (by rw [← hc]; exact List.getElem_mem hil)
    obtain ⟨n, rfl⟩ := Int.eq_ofNat_of_zero_le hcb.1
    have hn : n < 256 := by omega
    have hx : r % 256 ^^^ n < 4294967296 := Nat.lt_trans (Nat.xor_lt_two_pow (n := 8) (by omega) hn) (by decide)
    have hx8 : r % 256 ^^^ n < 256 := Nat.xor_lt_two_pow (n := 8) (by omega) hn
    have e : YtfnlohopfoekfaaH.Crc.nats (((n : Nat) : Int) :: t) = n :: YtfnlohopfoekfaaH.Crc.nats t := by simp [YtfnlohopfoekfaaH.Crc.nats]
    rw [e, YtfnlohopfoekfaaH.Crc.crcReg_cons, YtfnlohopfoekfaaH.Crc.byte_step]
    refine Ev.step (fun k => ?_) (ih (r / 256 ^^^ YtfnlohopfoekfaaH.Crc.Mn 8 (r % 256 ^^^ n)) (i + 1) (Nat.xor_lt_two_pow (n := 32) (by omega) (YtfnlohopfoekfaaH.Crc.Mn_lt _ _ hx)) (by simp at hi; omega) ht')
    simp only [crc_Sum_p.l0]
    rw [if_pos (by omega), if_pos (by omega), if_pos (by omega), hrd]
    have e1 : ((r : Int) % 256) = ((r % 256 : Nat) : Int) := by omega
    have e2 : ((r : Int) / 256) = ((r / 256 : Nat) : Int) := by omega
    have e4 : (((r % 256 ^^^ n : Nat) : Int) % 4294967296) = ((r % 256 ^^^ n : Nat) : Int) := by omega
    rw [e1, e2, u8_xor_nat _ _ (by omega) hn, e4]
    unfold crc_step.f
    rw [if_pos (by omega), Int.toNat_natCast]
    rw [Option.bind_some]
    rw [YtfnlohopfoekfaaH.Crc.u32_xor _ _ (by omega) (YtfnlohopfoekfaaH.Crc.Mn_lt _ _ hx), YtfnlohopfoekfaaH.Crc.wrap64_in _ (by omega) (by omega)]
    rfl
set_option maxHeartbeats 2000000 in
theorem crc_Sum.ev (l0 : List Int) (r : Int) (h : crc_Sum.f l0 = some r) (hl : l0.length ≤ 9223372036854775807) : Ev (fun k => crc_Sum_p.f k l0) r := by
  unfold crc_Sum.f at h
  split at h
  · obtain rfl := Option.some.inj h
    exact crc_Sum.loop l0 hl ‹_› l0 4294967295 0 (by decide) (by simp) rfl
  · cases h
theorem crc_Sum.calls (A0 : Option Addr) (c0 : Nat) (l0 : List Int) (r : Int) (w : World) (hr0 : Kd.C (Kd.int .u8) w A0 l0.length l0) (hc0 : l0.length ≤ c0) (h : crc_Sum.f l0 = some r) :
    Calls Try.prog 10 #[.slice A0 l0.length c0] w fun e w' => e = .returned (.int .u32 r) ∧ Drawn0 w w' := by
  obtain ⟨k, hk⟩ := (crc_Sum.ev l0 _ h (by first | exact hr0.2.1 | exact (Kd.V_reads' hs0).2.2.2.1 | exact (Kd.R_reads' ho0).2.2.2.1)).rounds
  exact crc_Sum_p.calls k A0 c0 l0 r w hr0 hc0 hk

/-! ### thresherlaw02_shown: function 9 -/
def thresherlaw02_shown.f : Option Bool := (crc_Sum.f [49, 50, 51, 52, 53, 54, 55, 56, 57]).bind fun t => some (t == 3421780262)
set_option maxHeartbeats 1000000 in
set_option maxRecDepth 100000 in
theorem thresherlaw02_shown.calls (r : Bool) (w : World) (h : thresherlaw02_shown.f = some r) :
    Calls Try.prog 9 #[] w fun e w' => e = .returned (.bool r) ∧ Below w.heap.size w w' := by
  obtain ⟨t, ht, hr⟩ := Option.bind_eq_some_iff.mp h
  obtain rfl := Option.some.inj hr
  have kc := fun (w : World) (C : Array Value) (n c : Nat) => Lib.run_convert_bytes_const (P := Try.prog) w 22 5 C n c Try.underlying22 Try.underlying5
  have H := Aside0.mk ht
  clear h ht hr
  go_enter Try.func9, Try.ntmps9
  go_wp2_with fail
  refine (crc_Sum.calls _ _ [49, 50, 51, 52, 53, 54, 55, 56, 57] t _ ?_ (by decide) H.out).mono ?_
  · exact YtfnlohopfoekfaaH.C_lit .u8 _ _ _ [49, 50, 51, 52, 53, 54, 55, 56, 57] _ _ rfl rfl (by decide)
  rintro e w' ⟨rfl, ⟨nd, rfl⟩⟩
  go_wp2_with fail
  go_ret
  exact ⟨rfl, pw_below_drewN (YtfnlohopfoekfaaH.below_alloc1 _ _) _⟩

end Go.Proofs.Ytfnlohopfoekfaa.PCrcLinear
