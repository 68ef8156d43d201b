-- Written by hp.py (own driver over print.py) out of the translation, hand-made functions among it. Lean checks it.
import Derived.Test.YtfnlohopfoekfaaPCrcAllx0
namespace Go.Proofs.Ytfnlohopfoekfaa.PCrcAll
open Go.RowKit Go.Proofs.YtfnlohopfoekfaaW.PrintWords Go.Proofs.YtfnlohopfoekfaaW.PrintLast Go.Proofs.YtfnlohopfoekfaaW.PrintMore
attribute [local go_sem] max2_int min2_int max_two min_two max_three min_three max_four min_four   -- for this text's walks alone
set_option linter.unusedVariables false
set_option linter.unusedSimpArgs false

/-! ### crc_step_p: function 17 -/
def crc_step_p.l0 : Nat → Int → Int → Option (Int)
  | 0, _, _ => none
  | k + 1, x0, x4 => if x4 < 8 then (crc_step_p.l0 k (Go.bits .xor .u32 (x0 / 2) (Go.bits .and .u32 3988292384 ((-(Go.bits .and .u32 x0 1)) % 4294967296))) (wrap64 (x4 + 1))) else (some x0)
def crc_step_p.f (k : Nat) (a0 : Int) : Option (Int) := crc_step_p.l0 k a0 0
theorem crc_step_p.mono_l : ∀ k, (∀ y0 y1, LeO (crc_step_p.l0 k y0 y1) (crc_step_p.l0 (k + 1) y0 y1))
  | 0 => fun _ _ r h => by simp [crc_step_p.l0] at h
  | k + 1 => by
    have ih0 := crc_step_p.mono_l k
    · intro y0 y1
      unfold crc_step_p.l0
      repeat' first
      | (with_reducible exact ih0 _ _)
      | (with_reducible exact LeO.refl _)
      | (with_reducible exact LeO.none _)
      | (with_reducible refine LeO.ite ?_ ?_)
      | (with_reducible refine LeO.bind ?_ (fun _ => ?_))
      | exact ih0 _ _
      | exact LeO.none _
      | refine LeO.ite ?_ ?_
      | refine LeO.bind ?_ (fun _ => ?_)
theorem crc_step_p.mono : ∀ a0 k, LeO (crc_step_p.f k a0) (crc_step_p.f (k + 1) a0) := by
  intro a0 k
  have ih0 := crc_step_p.mono_l k
  unfold crc_step_p.f
  repeat' first
      | (with_reducible exact ih0 _ _)
      | (with_reducible exact LeO.refl _)
      | (with_reducible exact LeO.none _)
      | (with_reducible refine LeO.ite ?_ ?_)
      | (with_reducible refine LeO.bind ?_ (fun _ => ?_))
      | exact ih0 _ _
      | exact LeO.none _
      | refine LeO.ite ?_ ?_
      | refine LeO.bind ?_ (fun _ => ?_)
set_option maxHeartbeats 8000000 in
set_option maxRecDepth 100000 in
theorem crc_step_p.calls (k : Nat) (a0 : Int) (r : Int) (w : World) (h : crc_step_p.f k a0 = some r) :
    Calls Try.prog 17 #[.int .u32 a0] w fun e w' => e = .returned (.int .u32 r) ∧ Drawn0 w w' := by
  have H : (crc_step_p.l0 k a0 0) = some r := h
  clear h
  have H' := Aside0.mk H
  clear H
  go_enter Try.func17, Try.ntmps17
  go_wp2
  go_loopg [0, 4] k (fun kq v0 v4 w' => ∃ (x0_1 : Int) (x4_1 : Int), v0 = .int .u32 x0_1 ∧ v4 = .int .i64 x4_1 ∧ Aside0 (crc_step_p.l0 kq x0_1 x4_1 = some r) ∧ Aside0 (kq ≤ k) ∧ Drawn0 w w')
  case atStart => exact ⟨(a0), (0), (by first | rfl | (simp; done) | (simp [*]; done)), (by first | rfl | (simp; done) | (simp [*]; done)), H', ⟨Nat.le_refl _⟩, by repeat (first | exact Drawn0.refl _ | apply Drawn0.step)⟩
  case round =>
    clear H'
    try clear c1
    obtain ⟨x0_1, x4_1, rfl, rfl, HA, HK1, ⟨m1, rfl⟩⟩ := hrel
    cases gk with
    | zero => exact absurd HA.out (by simp [crc_step_p.l0])
    | succ k1 =>
      have H := HA.out
      clear HA
      simp only [crc_step_p.l0] at H
      by_cases c2 : x4_1 < 8
      · rw [if_pos c2] at H
        have c2b0 : decide (x4_1 < 8) = true := decide_eq_true c2
        clear c2
        have H' := Aside0.mk H
        clear H
        go_wp2
        go_roundg k1
        case measure => have := HK1.out; omega
        case rel => exact ⟨(Go.bits .xor .u32 (x0_1 / 2) (Go.bits .and .u32 3988292384 ((-(Go.bits .and .u32 x0_1 1)) % 4294967296))), (wrap64 (x4_1 + 1)), (by first | rfl | (simp; done) | (simp [*]; done)), (by first | rfl | (simp; done) | (simp [*]; done)), H', ⟨by have := HK1.out; omega⟩, by repeat (first | exact Drawn0.refl _ | apply Drawn0.step)⟩
      · rw [if_neg c2] at H
        have c2b0 : decide (x4_1 < 8) = false := decide_eq_false c2
        clear c2
        obtain rfl := Option.some.inj H
        go_wp2
        go_ret
        exact ⟨by first | rfl | (simp; done) | (simp [*]; done), by repeat (first | exact Drawn0.refl _ | apply Drawn0.step)⟩

/-! ### crc_step: plain, of function 17 -/
def crc_step.f (a0 : Int) : Option Int := if 0 ≤ a0 ∧ a0 < 4294967296 then some (YtfnlohopfoekfaaH.Crc.Mn 8 a0.toNat : Nat) else none
set_option maxHeartbeats 2000000 in
theorem crc_step.loop (d : Nat) : ∀ (x i : Nat), x < 4294967296 → i + d = 8 → Ev (fun k => crc_step_p.l0 k (x : Int) (i : Int)) ((YtfnlohopfoekfaaH.Crc.Mn d x : Nat) : Int) := by
  induction d with
  | zero =>
    intro x i hx hi
    refine Ev.step (f := fun _ => some ((x : Nat) : Int)) (fun k => ?_) (Ev.now _)
    simp only [crc_step_p.l0]
    rw [if_neg (by omega)]
  | succ d ih =>
    intro x i hx hi
    refine Ev.step (fun k => ?_) (ih (YtfnlohopfoekfaaH.Crc.M x) (i + 1) (YtfnlohopfoekfaaH.Crc.M_lt x hx) (by omega))
    simp only [crc_step_p.l0]
    rw [if_pos (by omega), YtfnlohopfoekfaaH.Crc.bits_step x hx, YtfnlohopfoekfaaH.Crc.wrap64_in _ (by omega) (by omega)]
    rfl
set_option maxHeartbeats 2000000 in
theorem crc_step.ev (a0 : Int) (r : Int) (h : crc_step.f a0 = some r) : Ev (fun k => crc_step_p.f k a0) r := by
  unfold crc_step.f at h
  split at h
  · obtain ⟨n, rfl⟩ := Int.eq_ofNat_of_zero_le ‹0 ≤ a0 ∧ a0 < 4294967296›.1
    obtain rfl := Option.some.inj h
    exact crc_step.loop 8 n 0 (by omega) rfl
  · cases h
theorem crc_step.calls (a0 : Int) (r : Int) (w : World) (h : crc_step.f a0 = some r) :
    Calls Try.prog 17 #[.int .u32 a0] w fun e w' => e = .returned (.int .u32 r) ∧ Drawn0 w w' := by
  obtain ⟨k, hk⟩ := (crc_step.ev a0 _ h ).rounds
  exact crc_step_p.calls k a0 r w hk

/-! ### crc_Sum_p: function 10 -/
def crc_Sum_p.l0 : Nat → Int → List Int → Int → Int → Option (Int)
  | 0, _, _, _, _ => none
  | k + 1, x3, x6, x7, x8 => if x8 < x7 then (if 0 ≤ x8 then (if x8 < (x6.length : Int) then ((crc_step.f ((Go.bits .xor .u8 ((x3) % 256) (rd x6 x8)) % 4294967296)).bind fun t102 => (crc_Sum_p.l0 k (Go.bits .xor .u32 (x3 / 256) t102) x6 x7 (wrap64 (x8 + 1)))) else (none)) else (none)) else (some (Go.bits .xor .u32 4294967295 x3))
def crc_Sum_p.f (k : Nat) (l0 : List Int) : Option (Int) := crc_Sum_p.l0 k 4294967295 l0 (l0.length : Int) 0
theorem crc_Sum_p.mono_l : ∀ k, (∀ y0 y1 y2 y3, LeO (crc_Sum_p.l0 k y0 y1 y2 y3) (crc_Sum_p.l0 (k + 1) y0 y1 y2 y3))
  | 0 => fun _ _ _ _ r h => by simp [crc_Sum_p.l0] at h
  | k + 1 => by
    have ih0 := crc_Sum_p.mono_l k
    · intro y0 y1 y2 y3
      unfold crc_Sum_p.l0
      repeat' first
      | (with_reducible exact ih0 _ _ _ _)
      | (with_reducible exact LeO.refl _)
      | (with_reducible exact LeO.none _)
      | (with_reducible refine LeO.ite ?_ ?_)
      | (with_reducible refine LeO.bind ?_ (fun _ => ?_))
      | exact ih0 _ _ _ _
      | exact LeO.none _
      | refine LeO.ite ?_ ?_
      | refine LeO.bind ?_ (fun _ => ?_)
theorem crc_Sum_p.mono : ∀ a0 k, LeO (crc_Sum_p.f k a0) (crc_Sum_p.f (k + 1) a0) := by
  intro a0 k
  have ih0 := crc_Sum_p.mono_l k
  unfold crc_Sum_p.f
  repeat' first
      | (with_reducible exact ih0 _ _ _ _)
      | (with_reducible exact LeO.refl _)
      | (with_reducible exact LeO.none _)
      | (with_reducible refine LeO.ite ?_ ?_)
      | (with_reducible refine LeO.bind ?_ (fun _ => ?_))
      | exact ih0 _ _ _ _
      | exact LeO.none _
      | refine LeO.ite ?_ ?_
      | refine LeO.bind ?_ (fun _ => ?_)
set_option maxHeartbeats 8000000 in
set_option maxRecDepth 100000 in
theorem crc_Sum_p.calls (k : Nat) (A0 : Option Addr) (c0 : Nat) (l0 : List Int) (r : Int) (w : World) (hr0 : Kd.C (Kd.int .u8) w A0 l0.length l0) (hc0 : l0.length ≤ c0) (h : crc_Sum_p.f k l0 = some r) :
    Calls Try.prog 10 #[.slice A0 l0.length c0] w fun e w' => e = .returned (.int .u32 r) ∧ Drawn0 w w' := by
  have HR0 := Aside0.mk hr0
  have HC0 := Aside0.mk hc0
  clear hr0 hc0
  have H : (crc_Sum_p.l0 k 4294967295 l0 (l0.length : Int) 0) = some r := h
  clear h
  have H' := Aside0.mk H
  clear H
  go_enter Try.func10, Try.ntmps10
  go_wp2
  go_loopg [3, 8] k (fun kq v3 v8 w' => ∃ (x3_1 : Int) (x8_1 : Int), v3 = .int .u32 x3_1 ∧ v8 = .int .i64 x8_1 ∧ Aside0 (crc_Sum_p.l0 kq x3_1 l0 (l0.length : Int) x8_1 = some r) ∧ Aside0 (kq ≤ k) ∧ Drawn0 w w')
  case atStart => exact ⟨(4294967295), (0), (by first | rfl | (simp; done) | (simp [*]; done)), (by first | rfl | (simp; done) | (simp [*]; done)), H', ⟨Nat.le_refl _⟩, by repeat (first | exact Drawn0.refl _ | apply Drawn0.step)⟩
  case round =>
    clear H'
    try clear c1
    obtain ⟨x3_1, x8_1, rfl, rfl, HA, HK1, ⟨m1, rfl⟩⟩ := hrel
    cases gk with
    | zero => exact absurd HA.out (by simp [crc_Sum_p.l0])
    | succ k1 =>
      have H := HA.out
      clear HA
      simp only [crc_Sum_p.l0] at H
      by_cases c2 : x8_1 < (l0.length : Int)
      · rw [if_pos c2] at H
        have c2b0 : decide (x8_1 < (l0.length : Int)) = true := decide_eq_true c2
        clear c2
        by_cases c3 : 0 ≤ x8_1
        · rw [if_pos c3] at H
          have c3b0 : decide (0 ≤ x8_1) = true := decide_eq_true c3
          clear c3
          by_cases c4 : x8_1 < (l0.length : Int)
          · rw [if_pos c4] at H
            have c4b0 : decide (x8_1 < (l0.length : Int)) = true := decide_eq_true c4
            clear c4
            replace H := Option.bind_eq_some_iff.mp H
            obtain ⟨t102, A50, H⟩ := H
            replace H : (crc_Sum_p.l0 k1 (Go.bits .xor .u32 (x3_1 / 256) t102) l0 (l0.length : Int) (wrap64 (x8_1 + 1))) = some r := H
            have A5 := Aside0.mk A50
            clear A50
            have H' := Aside0.mk H
            clear H
            have p101 : 0 ≤ (x8_1 : Int) := of_decide_eq_true (by first | (with_reducible assumption) | assumption)
            have q101 : x8_1 < (l0.length : Int) := of_decide_eq_true (by first | (with_reducible assumption) | assumption)
            obtain ⟨ad101, e101, hx101_0⟩ := Kd.at_int HR0.out x8_1 p101 q101
            cases e101
            replace p101 := eq_true p101
            replace q101 := eq_true q101
            go_wp2_with (first | ((with_reducible refine gate_callee (f := 17) rfl ?_); refine goesL_ (some 19) rfl rfl Try.func17 (by kernel_rfl) rfl #[.int .u32 ((Go.bits .xor .u8 ((x3_1) % 256) (rd l0 x8_1)) % 4294967296)] rfl (by (try simp only [List.map_toArray, List.map_cons, List.map_nil]); first | done | rfl | (simp only [List.length_drop, List.length_take]; rfl)) ?_; (with_reducible refine (crc_step.calls ((Go.bits .xor .u8 ((x3_1) % 256) (rd l0 x8_1)) % 4294967296) t102 _ A5.out).mono ?_); rintro e w' ⟨rfl, ⟨nd, rfl⟩⟩; refine ⟨_, rfl, ?_⟩))
            go_roundg k1
            case measure => have := HK1.out; omega
            case rel => exact ⟨(Go.bits .xor .u32 (x3_1 / 256) t102), (wrap64 (x8_1 + 1)), (by first | rfl | (simp; done) | (simp [*]; done)), (by first | rfl | (simp; done) | (simp [*]; done)), H', ⟨by have := HK1.out; omega⟩, by repeat (first | exact Drawn0.refl _ | apply Drawn0.step)⟩
          · rw [if_neg c4] at H
            exact absurd H (by simp)
        · rw [if_neg c3] at H
          exact absurd H (by simp)
      · rw [if_neg c2] at H
        have c2b0 : decide (x8_1 < (l0.length : Int)) = false := decide_eq_false c2
        clear c2
        obtain rfl := Option.some.inj H
        go_wp2
        go_ret
        exact ⟨by first | rfl | (simp; done) | (simp [*]; done), by repeat (first | exact Drawn0.refl _ | apply Drawn0.step)⟩

/-! ### crc_Sum: plain, of function 10 -/
def crc_Sum.f (l0 : List Int) : Option Int := if YtfnlohopfoekfaaH.Crc.isB l0 then some (YtfnlohopfoekfaaH.Crc.crcI l0) else none
set_option maxHeartbeats 2000000 in
theorem crc_Sum.loop (l : List Int) (hl : l.length ≤ 9223372036854775807) (hB : YtfnlohopfoekfaaH.Crc.isB l) (t : List Int) : ∀ (r i : Nat), r < 4294967296 → i + t.length = l.length → l.drop i = t →
    Ev (fun k => crc_Sum_p.l0 k (r : Int) l (l.length : Int) (i : Int)) ((YtfnlohopfoekfaaH.Crc.crcReg r (YtfnlohopfoekfaaH.Crc.nats t) ^^^ 4294967295 : Nat) : Int) := by
  induction t with
  | nil =>
    intro r i hr hi ht
    refine Ev.step (fun k => ?_) (Ev.now _)
    simp only [crc_Sum_p.l0]
    rw [if_neg (by simp at hi; omega)]
    have e2 : (4294967295 : Int) = ((4294967295 : Nat) : Int) := rfl
    rw [e2, YtfnlohopfoekfaaH.Crc.u32_xor _ _ (by decide) hr, Nat.xor_comm]
    rfl
  | cons c t ih =>
    intro r i hr hi ht
    have hil : i < l.length := by simp at hi; omega
    have hc : l[i] = c := by
      rw [List.drop_eq_getElem_cons hil] at ht
      exact (List.cons.inj ht).1
    have ht' : l.drop (i + 1) = t := by
      rw [List.drop_eq_getElem_cons hil] at ht
      exact (List.cons.inj ht).2
    have hrd : rd l (i : Int) = c := by
      unfold rd
      rw [Int.toNat_natCast, List.getD_eq_getElem?_getD, List.getElem?_eq_getElem hil, hc]
      rfl
    have hcb : 0 ≤ c ∧ c < 256 := hB c (by rw [← hc]; exact List.getElem_mem hil)
    obtain ⟨n, rfl⟩ := Int.eq_ofNat_of_zero_le hcb.1
    have hn : n < 256 := by omega
    have hx : r % 256 ^^^ n < 4294967296 := Nat.lt_trans (Nat.xor_lt_two_pow (n := 8) (by omega) hn) (by decide)
    have hx8 : r % 256 ^^^ n < 256 := Nat.xor_lt_two_pow (n := 8) (by omega) hn
    have e : YtfnlohopfoekfaaH.Crc.nats (((n : Nat) : Int) :: t) = n :: YtfnlohopfoekfaaH.Crc.nats t := by simp [YtfnlohopfoekfaaH.Crc.nats]
    rw [e, YtfnlohopfoekfaaH.Crc.crcReg_cons, YtfnlohopfoekfaaH.Crc.byte_step]
    refine Ev.step (fun k => ?_) (ih (r / 256 ^^^ YtfnlohopfoekfaaH.Crc.Mn 8 (r % 256 ^^^ n)) (i + 1) (Nat.xor_lt_two_pow (n := 32) (by omega) (YtfnlohopfoekfaaH.Crc.Mn_lt _ _ hx)) (by simp at hi; omega) ht')
    simp only [crc_Sum_p.l0]
    rw [if_pos (by omega), if_pos (by omega), if_pos (by omega), hrd]
    have e1 : ((r : Int) % 256) = ((r % 256 : Nat) : Int) := by omega
    have e2 : ((r : Int) / 256) = ((r / 256 : Nat) : Int) := by omega
    have e4 : (((r % 256 ^^^ n : Nat) : Int) % 4294967296) = ((r % 256 ^^^ n : Nat) : Int) := by omega
    rw [e1, e2, u8_xor_nat _ _ (by omega) hn, e4]
    unfold crc_step.f
    rw [if_pos (by omega), Int.toNat_natCast]
    rw [Option.bind_some]
    rw [YtfnlohopfoekfaaH.Crc.u32_xor _ _ (by omega) (YtfnlohopfoekfaaH.Crc.Mn_lt _ _ hx), YtfnlohopfoekfaaH.Crc.wrap64_in _ (by omega) (by omega)]
    rfl
set_option maxHeartbeats 2000000 in
theorem crc_Sum.ev (l0 : List Int) (r : Int) (h : crc_Sum.f l0 = some r) (hl : l0.length ≤ 9223372036854775807) : Ev (fun k => crc_Sum_p.f k l0) r := by
  unfold crc_Sum.f at h
  split at h
  · obtain rfl := Option.some.inj h
    exact crc_Sum.loop l0 hl ‹_› l0 4294967295 0 (by decide) (by simp) rfl
  · cases h
theorem crc_Sum.calls (A0 : Option Addr) (c0 : Nat) (l0 : List Int) (r : Int) (w : World) (hr0 : Kd.C (Kd.int .u8) w A0 l0.length l0) (hc0 : l0.length ≤ c0) (h : crc_Sum.f l0 = some r) :
    Calls Try.prog 10 #[.slice A0 l0.length c0] w fun e w' => e = .returned (.int .u32 r) ∧ Drawn0 w w' := by
  obtain ⟨k, hk⟩ := (crc_Sum.ev l0 _ h (by first | exact hr0.2.1 | exact (Kd.V_reads' hs0).2.2.2.1 | exact (Kd.R_reads' ho0).2.2.2.1)).rounds
  exact crc_Sum_p.calls k A0 c0 l0 r w hr0 hc0 hk

/-! ### thresherlaw02_shown: function 9 -/
def thresherlaw02_shown.f : Option Bool := (crc_Sum.f [49, 50, 51, 52, 53, 54, 55, 56, 57]).bind fun t => some (t == 3421780262)
set_option maxHeartbeats 1000000 in
set_option maxRecDepth 100000 in
theorem thresherlaw02_shown.calls (r : Bool) (w : World) (h : thresherlaw02_shown.f = some r) :
    Calls Try.prog 9 #[] w fun e w' => e = .returned (.bool r) ∧ Below w.heap.size w w' := by
  obtain ⟨t, ht, hr⟩ := Option.bind_eq_some_iff.mp h
  obtain rfl := Option.some.inj hr
  have kc := fun (w : World) (C : Array Value) (n c : Nat) => Lib.run_convert_bytes_const (P := Try.prog) w 22 5 C n c Try.underlying22 Try.underlying5
  have H := Aside0.mk ht
  clear h ht hr
  go_enter Try.func9, Try.ntmps9
  go_wp2_with fail
  refine (crc_Sum.calls _ _ [49, 50, 51, 52, 53, 54, 55, 56, 57] t _ ?_ (by decide) H.out).mono ?_
  · exact YtfnlohopfoekfaaH.C_lit .u8 _ _ _ [49, 50, 51, 52, 53, 54, 55, 56, 57] _ _ rfl rfl (by decide)
  rintro e w' ⟨rfl, ⟨nd, rfl⟩⟩
  go_wp2_with fail
  go_ret
  exact ⟨rfl, pw_below_drewN (YtfnlohopfoekfaaH.below_alloc1 _ _) _⟩

/-! ### thresherlaw02_short: function 11 -/
def thresherlaw02_short.f (l0 : List Int) : Option (List Int) := if (l0.length : Int) > 300 then (if 300 ≤ (l0.length : Int) then (some (l0.take 300)) else (none)) else (some l0)
set_option maxHeartbeats 8000000 in
set_option maxRecDepth 100000 in
theorem thresherlaw02_short.calls (P0_ : Nat → Prop) (A0 : Option Addr) (c0 : Nat) (l0 : List Int) (r : List Int) (w : World) (hs0 : Kd.V (Kd.int .u8) 5 w w.heap.size (fun k_ => P0_ k_) (.slice A0 l0.length c0) l0) (h : thresherlaw02_short.f l0 = some r) :
    Calls Try.prog 11 #[.slice A0 l0.length c0] w fun e w' => ∃ v0_ : Value, e = .returned (v0_) ∧ Kd.V (Kd.int .u8) 5 w' w.heap.size (fun k_ => (P0_ k_ ∨ w.heap.size ≤ k_)) v0_ r ∧ Below w.heap.size w w' := by
  have HO0 := Aside0.mk (show Kd.V (Kd.int .u8) 5 w w.heap.size (fun k_ => (P0_ k_ ∨ w.heap.size ≤ k_)) (.slice A0 l0.length c0) l0 from Kd.V_mono hs0 (fun k_ hk => .inl hk))
  have HB := Aside0.mk (Below.refl w.heap.size w)
  have H : (if (l0.length : Int) > 300 then (if 300 ≤ (l0.length : Int) then (some (l0.take 300)) else (none)) else (some l0)) = some r := h
  clear h
  by_cases c2 : (l0.length : Int) > 300
  · rw [if_pos c2] at H
    have c2b0 : decide (300 < (l0.length : Int)) = true := decide_eq_true c2
    have c2b1 : decide (300 < l0.length) = true := decide_eq_true (by omega)
    clear c2
    by_cases c3 : 300 ≤ (l0.length : Int)
    · rw [if_pos c3] at H
      have c3b0 := eq_true c3
      have c3b1 : decide (300 ≤ (l0.length : Int)) = true := decide_eq_true c3
      clear c3
      obtain ⟨y103, hy103⟩ : ∃ y_ : List Int, y_ = (l0.take 300) := ⟨_, rfl⟩
      replace H : (some y103) = some r := by first | (rw [hy103]; with_reducible exact H) | (have H2_ := (Option.bind_some _ _).symm.trans H; rw [hy103]; with_reducible exact H2_) | (have H2_ := (Option.bind_some _ _).symm.trans H; with_reducible exact H2_) | with_reducible exact H | (rw [hy103]; exact H) | exact H
      have Ny103 := Aside0.mk hy103
      clear hy103
      obtain rfl := Option.some.inj H
      have q4 : (300 : Int) ≤ ((l0.length : Int) : Int) := of_decide_eq_true (by first | (with_reducible assumption) | assumption)
      obtain ⟨i04, hi04, _, hsz4, _⟩ := info_parts info5
      have hroom4 : l0.length ≤ c0 := (Kd.V_reads' HO0.out).2.1
      have hC4 : Kd.F (Kd.int .u8) _ _ A0 l0.length l0 := (Kd.V_at (base := w.heap.size) HO0.out).2.2
      have hcut4 := cut_to (P := Try.prog) 22 5 .i64 Try.underlying22 hi04 A0 l0.length c0 300 (by omega) q4 hroom4
      have hr4 := Kd.F_take (m := 300) hC4 (by omega)
      have hy4 : y103.length = (300 : Int).toNat := (by rw [Ny103.out, List.length_take]; omega)
      rw [← Ny103.out] at hr4
      rw [← hy4] at hcut4
      have HO107 := Aside0.mk (show Kd.V (Kd.int .u8) 5 _ w.heap.size _ (.slice A0 y103.length c0) y103 from Kd.V_mk (by omega) hr4)
      have HC107 := Aside0.mk (show y103.length ≤ c0 from by omega)
      clear hr4 hC4 hroom4 hi04 hsz4
      have KY4 := Aside0.mk hy4
      clear hy4
      replace q4 := eq_true q4
      go_enter Try.func11, Try.ntmps11
      go_wp2
      go_ret
      exact ⟨_, by first | rfl | (simp [errW_none, errW_some] <;> rfl) | (simp [*, errW_none, errW_some] <;> rfl), by (with_reducible repeat (first | apply Kd.V_alloc | apply Kd.V_drewN | apply Kd.V_drew)); exact HO107.out, by repeat (first | (with_reducible first | exact HB.out | apply below_alloc | apply pw_below_drewN | apply below_drew1) | exact HB.out)⟩
    · rw [if_neg c3] at H
      exact absurd H (by simp)
  · rw [if_neg c2] at H
    have c2b0 : decide (300 < (l0.length : Int)) = false := decide_eq_false c2
    have c2b1 : decide (300 < l0.length) = false := decide_eq_false (by omega)
    clear c2
    obtain rfl := Option.some.inj H
    go_enter Try.func11, Try.ntmps11
    go_wp2
    go_ret
    exact ⟨_, by first | rfl | (simp [errW_none, errW_some] <;> rfl) | (simp [*, errW_none, errW_some] <;> rfl), by (with_reducible repeat (first | apply Kd.V_alloc | apply Kd.V_drewN | apply Kd.V_drew)); exact HO0.out, by repeat (first | (with_reducible first | exact HB.out | apply below_alloc | apply pw_below_drewN | apply below_drew1) | exact HB.out)⟩

/-! ### bits_Len64: function 27 -/
def bits_Len64.f (a0 : Int) : Option Int := if 0 ≤ a0 ∧ a0 ≤ 18446744073709551615 then some (Lib.bitLen a0.toNat : Nat) else none
set_option maxHeartbeats 2000000 in
theorem bits_Len64.calls (a0 : Int) (r : Int) (w : World) (h : bits_Len64.f a0 = some r) :
    Calls Try.prog 27 #[.int .u64 a0] w fun e w' => e = .returned (.int .i64 r) ∧ Drawn0 w w' := by
  unfold bits_Len64.f at h
  split at h
  · rename_i hx
    obtain rfl := Option.some.inj h
    refine (YtfnlohopfoekfaaH.Len64_calls a0 w hx.1 hx.2).mono ?_
    rintro e w' ⟨rfl, rfl⟩
    exact ⟨rfl, Drawn0.refl _⟩
  · cases h

/-! ### num_Var_p: function 18 -/
mutual
def num_Var_p.l0 : Nat → Int → Int → List Int → Int → Int → Option (Int × Int)
  | 0, _, _, _, _, _ => none
  | k + 1, x4, x5, x9, x10, x11 => if x11 < x10 then (if 0 ≤ x11 then (if x11 < (x9.length : Int) then ((bits_Len64.f (IntKind.u64.wrap (Go.bits .andNot .u8 (rd x9 x11) 128))).bind fun t109 => (if (wrap64 (x5 + t109)) > 64 then (some (0, 0)) else (if (rd x9 x11) < 128 then (if (rd x9 x11) = 0 then (num_Var_p.j1 k x4 x5 x11 (rd x9 x11) (IntKind.u64.wrap (Go.bits .andNot .u8 (rd x9 x11) 128)) x9 x10 x11 (decide (x11 > 0))) else (num_Var_p.j1 k x4 x5 x11 (rd x9 x11) (IntKind.u64.wrap (Go.bits .andNot .u8 (rd x9 x11) 128)) x9 x10 x11 false)) else (num_Var_p.j1 k x4 x5 x11 (rd x9 x11) (IntKind.u64.wrap (Go.bits .andNot .u8 (rd x9 x11) 128)) x9 x10 x11 false)))) else (none)) else (none)) else (some (0, 0))
def num_Var_p.j1 : Nat → Int → Int → Int → Int → Int → List Int → Int → Int → Bool → Option (Int × Int)
  | 0, _, _, _, _, _, _, _, _, _ => none
  | k + 1, x4, x5, x6, x7, x8, x9, x10, x11, x25 => if x25 = true then (some (0, 0)) else (if 0 ≤ x5 then (if x7 < 128 then (some (Go.bits .or .u64 x4 (shl .u64 x8 x5), wrap64 (x6 + 1))) else (num_Var_p.l0 k (Go.bits .or .u64 x4 (shl .u64 x8 x5)) (wrap64 (x5 + 7)) x9 x10 (wrap64 (x11 + 1)))) else (none))
end
def num_Var_p.f (k : Nat) (l0 : List Int) : Option (Int × Int) := num_Var_p.l0 k 0 0 l0 (l0.length : Int) 0
theorem num_Var_p.mono_l : ∀ k, (∀ y0 y1 y2 y3 y4, LeO (num_Var_p.l0 k y0 y1 y2 y3 y4) (num_Var_p.l0 (k + 1) y0 y1 y2 y3 y4)) ∧ (∀ y0 y1 y2 y3 y4 y5 y6 y7 y8, LeO (num_Var_p.j1 k y0 y1 y2 y3 y4 y5 y6 y7 y8) (num_Var_p.j1 (k + 1) y0 y1 y2 y3 y4 y5 y6 y7 y8))
  | 0 => ⟨fun _ _ _ _ _ r h => by simp [num_Var_p.l0] at h, fun _ _ _ _ _ _ _ _ _ r h => by simp [num_Var_p.j1] at h⟩
  | k + 1 => by
    obtain ⟨ih0, ih1⟩ := num_Var_p.mono_l k
    refine ⟨?_, ?_⟩
    · intro y0 y1 y2 y3 y4
      unfold num_Var_p.l0
      repeat' first
      | (with_reducible exact ih0 _ _ _ _ _)
      | (with_reducible exact ih1 _ _ _ _ _ _ _ _ _)
      | (with_reducible exact LeO.refl _)
      | (with_reducible exact LeO.none _)
      | (with_reducible refine LeO.ite ?_ ?_)
      | (with_reducible refine LeO.bind ?_ (fun _ => ?_))
      | exact ih0 _ _ _ _ _
      | exact ih1 _ _ _ _ _ _ _ _ _
      | exact LeO.none _
      | refine LeO.ite ?_ ?_
      | refine LeO.bind ?_ (fun _ => ?_)
    · intro y0 y1 y2 y3 y4 y5 y6 y7 y8
      unfold num_Var_p.j1
      repeat' first
      | (with_reducible exact ih0 _ _ _ _ _)
      | (with_reducible exact ih1 _ _ _ _ _ _ _ _ _)
      | (with_reducible exact LeO.refl _)
      | (with_reducible exact LeO.none _)
      | (with_reducible refine LeO.ite ?_ ?_)
      | (with_reducible refine LeO.bind ?_ (fun _ => ?_))
      | exact ih0 _ _ _ _ _
      | exact ih1 _ _ _ _ _ _ _ _ _
      | exact LeO.none _
      | refine LeO.ite ?_ ?_
      | refine LeO.bind ?_ (fun _ => ?_)
theorem num_Var_p.mono : ∀ a0 k, LeO (num_Var_p.f k a0) (num_Var_p.f (k + 1) a0) := by
  intro a0 k
  obtain ⟨ih0, ih1⟩ := num_Var_p.mono_l k
  unfold num_Var_p.f
  repeat' first
      | (with_reducible exact ih0 _ _ _ _ _)
      | (with_reducible exact ih1 _ _ _ _ _ _ _ _ _)
      | (with_reducible exact LeO.refl _)
      | (with_reducible exact LeO.none _)
      | (with_reducible refine LeO.ite ?_ ?_)
      | (with_reducible refine LeO.bind ?_ (fun _ => ?_))
      | exact ih0 _ _ _ _ _
      | exact ih1 _ _ _ _ _ _ _ _ _
      | exact LeO.none _
      | refine LeO.ite ?_ ?_
      | refine LeO.bind ?_ (fun _ => ?_)
set_option maxHeartbeats 8000000 in
set_option maxRecDepth 100000 in
theorem num_Var_p.calls (k : Nat) (A0 : Option Addr) (c0 : Nat) (l0 : List Int) (r1 : Int) (r2 : Int) (w : World) (hr0 : Kd.C (Kd.int .u8) w A0 l0.length l0) (hc0 : l0.length ≤ c0) (h : num_Var_p.f k l0 = some (r1, r2)) :
    Calls Try.prog 18 #[.slice A0 l0.length c0] w fun e w' => e = .returned (.tuple #[.int .u64 r1, .int .i64 r2]) ∧ Drawn0 w w' := by
  have HR0 := Aside0.mk hr0
  have HC0 := Aside0.mk hc0
  clear hr0 hc0
  have H : (num_Var_p.l0 k 0 0 l0 (l0.length : Int) 0) = some (r1, r2) := h
  clear h
  have H' := Aside0.mk H
  clear H
  go_enter Try.func18, Try.ntmps18
  go_wp2
  go_loopg [4, 5, 11] k (fun kq v4 v5 v11 w' => ∃ (x4_1 : Int) (x5_1 : Int) (x11_1 : Int), v4 = .int .u64 x4_1 ∧ v5 = .int .i64 x5_1 ∧ v11 = .int .i64 x11_1 ∧ Aside0 (num_Var_p.l0 kq x4_1 x5_1 l0 (l0.length : Int) x11_1 = some (r1, r2)) ∧ Aside0 (kq ≤ k) ∧ Drawn0 w w')
  case atStart => exact ⟨(0), (0), (0), (by first | rfl | (simp; done) | (simp [*]; done)), (by first | rfl | (simp; done) | (simp [*]; done)), (by first | rfl | (simp; done) | (simp [*]; done)), H', ⟨Nat.le_refl _⟩, by repeat (first | exact Drawn0.refl _ | apply Drawn0.step)⟩
  case round =>
    clear H'
    try clear c1
    obtain ⟨x4_1, x5_1, x11_1, rfl, rfl, rfl, HA, HK1, ⟨m1, rfl⟩⟩ := hrel
    cases gk with
    | zero => exact absurd HA.out (by simp [num_Var_p.l0])
    | succ k1 =>
      have H := HA.out
      clear HA
      simp only [num_Var_p.l0] at H
      by_cases c2 : x11_1 < (l0.length : Int)
      · rw [if_pos c2] at H
        have c2b0 : decide (x11_1 < (l0.length : Int)) = true := decide_eq_true c2
        clear c2
        by_cases c3 : 0 ≤ x11_1
        · rw [if_pos c3] at H
          have c3b0 : decide (0 ≤ x11_1) = true := decide_eq_true c3
          clear c3
          by_cases c4 : x11_1 < (l0.length : Int)
          · rw [if_pos c4] at H
            have c4b0 : decide (x11_1 < (l0.length : Int)) = true := decide_eq_true c4
            clear c4
            replace H := Option.bind_eq_some_iff.mp H
            obtain ⟨t109, A50, H⟩ := H
            replace H : (if (wrap64 (x5_1 + t109)) > 64 then (some (0, 0)) else (if (rd l0 x11_1) < 128 then (if (rd l0 x11_1) = 0 then (num_Var_p.j1 k1 x4_1 x5_1 x11_1 (rd l0 x11_1) (IntKind.u64.wrap (Go.bits .andNot .u8 (rd l0 x11_1) 128)) l0 (l0.length : Int) x11_1 (decide (x11_1 > 0))) else (num_Var_p.j1 k1 x4_1 x5_1 x11_1 (rd l0 x11_1) (IntKind.u64.wrap (Go.bits .andNot .u8 (rd l0 x11_1) 128)) l0 (l0.length : Int) x11_1 false)) else (num_Var_p.j1 k1 x4_1 x5_1 x11_1 (rd l0 x11_1) (IntKind.u64.wrap (Go.bits .andNot .u8 (rd l0 x11_1) 128)) l0 (l0.length : Int) x11_1 false))) = some (r1, r2) := H
            have A5 := Aside0.mk A50
            clear A50
            by_cases c6 : (wrap64 (x5_1 + t109)) > 64
            · rw [if_pos c6] at H
              have c6b0 : decide (64 < (wrap64 (x5_1 + t109))) = true := decide_eq_true c6
              clear c6
              simp only [Option.some.injEq, Prod.mk.injEq] at H
              obtain ⟨rfl, rfl⟩ := H
              have p108 : 0 ≤ (x11_1 : Int) := of_decide_eq_true (by first | (with_reducible assumption) | assumption)
              have q108 : x11_1 < (l0.length : Int) := of_decide_eq_true (by first | (with_reducible assumption) | assumption)
              obtain ⟨ad108, e108, hx108_0⟩ := Kd.at_int HR0.out x11_1 p108 q108
              cases e108
              replace p108 := eq_true p108
              replace q108 := eq_true q108
              go_wp2_with (first | ((with_reducible refine gate_callee (f := 27) rfl ?_); refine goesL_ (some 22) rfl rfl Try.func27 (by kernel_rfl) rfl #[.int .u64 (IntKind.u64.wrap (Go.bits .andNot .u8 (rd l0 x11_1) 128))] rfl (by (try simp only [List.map_toArray, List.map_cons, List.map_nil]); first | done | rfl | (simp only [List.length_drop, List.length_take]; rfl)) ?_; (with_reducible refine (bits_Len64.calls (IntKind.u64.wrap (Go.bits .andNot .u8 (rd l0 x11_1) 128)) t109 _ A5.out).mono ?_); rintro e w' ⟨rfl, ⟨nd, rfl⟩⟩; refine ⟨_, rfl, ?_⟩))
              go_ret2
              exact ⟨by first | rfl | (simp; done) | (simp [*]; done), by repeat (first | exact Drawn0.refl _ | apply Drawn0.step)⟩
            · rw [if_neg c6] at H
              have c6b0 : decide (64 < (wrap64 (x5_1 + t109))) = false := decide_eq_false c6
              clear c6
              have HC7 := Aside0.mk H
              clear H
              have p108 : 0 ≤ (x11_1 : Int) := of_decide_eq_true (by first | (with_reducible assumption) | assumption)
              have q108 : x11_1 < (l0.length : Int) := of_decide_eq_true (by first | (with_reducible assumption) | assumption)
              obtain ⟨ad108, e108, hx108_0⟩ := Kd.at_int HR0.out x11_1 p108 q108
              cases e108
              replace p108 := eq_true p108
              replace q108 := eq_true q108
              go_upto_region 8 with (first | ((with_reducible refine gate_callee (f := 27) rfl ?_); refine goesL_ (some 22) rfl rfl Try.func27 (by kernel_rfl) rfl #[.int .u64 (IntKind.u64.wrap (Go.bits .andNot .u8 (rd l0 x11_1) 128))] rfl (by (try simp only [List.map_toArray, List.map_cons, List.map_nil]); first | done | rfl | (simp only [List.length_drop, List.length_take]; rfl)) ?_; (with_reducible refine (bits_Len64.calls (IntKind.u64.wrap (Go.bits .andNot .u8 (rd l0 x11_1) 128)) t109 _ A5.out).mono ?_); rintro e w' ⟨rfl, ⟨nd, rfl⟩⟩; refine ⟨_, rfl, ?_⟩))
              (try simp only [Act.put, List.setIfInBounds_toArray, List.set_cons_zero, List.set_cons_succ])
              go_cut [25] (fun v25 wc => ∃ (kq : Nat) (x25_6 : Bool), v25 = .bool x25_6 ∧ Aside0 (num_Var_p.j1 kq x4_1 x5_1 x11_1 (rd l0 x11_1) (IntKind.u64.wrap (Go.bits .andNot .u8 (rd l0 x11_1) 128)) l0 (l0.length : Int) x11_1 x25_6 = some (r1, r2)) ∧ Aside0 (kq ≤ k1) ∧ Drawn0 w wc)
              case first =>
                have H := HC7.out
                clear HC7
                by_cases c8 : (rd l0 x11_1) < 128
                · rw [if_pos c8] at H
                  have c8b0 : decide ((rd l0 x11_1) < 128) = true := decide_eq_true c8
                  clear c8
                  (first | rw [c8b0] | (simp only [i64_w, i32_w]; rw [c8b0]) | skip)
                  by_cases c9 : (rd l0 x11_1) = 0
                  · rw [if_pos c9] at H
                    have c9b0 : ((rd l0 x11_1) == 0) = true := beq_iff_eq.mpr c9
                    have c9b1 : ((rd l0 x11_1) != 0) = false := bne_eq_false_iff_eq.mpr c9
                    clear c9
                    have H' := Aside0.mk H
                    clear H
                    go_wp2
                    go_meet
                    case rel => exact ⟨_, (decide (x11_1 > 0)), (by first | rfl | (simp; done) | (simp [*]; done)), H', ⟨by have := HK1.out; first | omega | exact Nat.le_refl _⟩, by repeat (first | exact Drawn0.refl _ | apply Drawn0.step)⟩
                  · rw [if_neg c9] at H
                    have c9b0 : ((rd l0 x11_1) == 0) = false := beq_eq_false_iff_ne.mpr c9
                    have c9b1 : ((rd l0 x11_1) != 0) = true := bne_iff_ne.mpr c9
                    have H' := Aside0.mk H
                    clear H
                    go_wp2
                    go_meet
                    case rel => exact ⟨_, (false), (by first | rfl | (simp; done) | (simp [*]; done)), H', ⟨by have := HK1.out; first | omega | exact Nat.le_refl _⟩, by repeat (first | exact Drawn0.refl _ | apply Drawn0.step)⟩
                · rw [if_neg c8] at H
                  have c8b0 : decide ((rd l0 x11_1) < 128) = false := decide_eq_false c8
                  clear c8
                  (first | rw [c8b0] | (simp only [i64_w, i32_w]; rw [c8b0]) | skip)
                  have H' := Aside0.mk H
                  clear H
                  go_wp2
                  go_meet
                  case rel => exact ⟨_, (false), (by first | rfl | (simp; done) | (simp [*]; done)), H', ⟨by have := HK1.out; first | omega | exact Nat.le_refl _⟩, by repeat (first | exact Drawn0.refl _ | apply Drawn0.step)⟩
              case rest =>
                clear HC7
                try clear c1
                try clear p1
                try clear q1
                try clear hx1
                try clear c2
                try clear c2b0
                try clear p2
                try clear c3
                try clear c3b0
                try clear c4
                try clear c4b0
                try clear c6
                try clear c6b0
                try clear p6
                try clear c8
                try clear c8b0
                try clear c9
                try clear c9b0
                try clear c9b1
                try clear hx108_0
                try clear p108
                try clear q108
                obtain ⟨kq, x25_6, rfl, HA, HJ6, ⟨mc6, rfl⟩⟩ := hcut
                cases kq with
                | zero => exact absurd HA.out (by simp [num_Var_p.j1])
                | succ kj6 =>
                  have H := HA.out
                  clear HA
                  simp only [num_Var_p.j1] at H
                  by_cases c10 : x25_6 = true
                  · subst c10
                    have H1 : (some (0, 0)) = some (r1, r2) := by rw [if_pos rfl] at H; exact H
                    clear H
                    have H := H1
                    clear H1
                    simp only [Option.some.injEq, Prod.mk.injEq] at H
                    obtain ⟨rfl, rfl⟩ := H
                    go_wp2
                    go_ret2
                    exact ⟨by first | rfl | (simp; done) | (simp [*]; done), by repeat (first | exact Drawn0.refl _ | apply Drawn0.step)⟩
                  · replace c10 := Bool.eq_false_iff.mpr c10
                    subst c10
                    have H1 : (if 0 ≤ x5_1 then (if (rd l0 x11_1) < 128 then (some (Go.bits .or .u64 x4_1 (shl .u64 (IntKind.u64.wrap (Go.bits .andNot .u8 (rd l0 x11_1) 128)) x5_1), wrap64 (x11_1 + 1))) else (num_Var_p.l0 kj6 (Go.bits .or .u64 x4_1 (shl .u64 (IntKind.u64.wrap (Go.bits .andNot .u8 (rd l0 x11_1) 128)) x5_1)) (wrap64 (x5_1 + 7)) l0 (l0.length : Int) (wrap64 (x11_1 + 1)))) else (none)) = some (r1, r2) := by rw [if_neg (show ¬ (false = true) by decide)] at H; exact H
                    clear H
                    have H := H1
                    clear H1
                    by_cases c11 : 0 ≤ x5_1
                    · rw [if_pos c11] at H
                      have c11b0 := eq_true c11
                      have c11b1 : decide (0 ≤ x5_1) = true := decide_eq_true c11
                      clear c11
                      obtain ⟨ji12, hji12⟩ : ∃ j_ : Int, (shl .u64 (IntKind.u64.wrap (Go.bits .andNot .u8 (rd l0 x11_1) 128)) x5_1) = j_ := ⟨_, rfl⟩
                      replace H : (if (rd l0 x11_1) < 128 then (some (Go.bits .or .u64 x4_1 (ji12), wrap64 (x11_1 + 1))) else (num_Var_p.l0 kj6 (Go.bits .or .u64 x4_1 (ji12)) (wrap64 (x5_1 + 7)) l0 (l0.length : Int) (wrap64 (x11_1 + 1)))) = some (r1, r2) := by first | (rw [hji12] at H; exact H) | (simp only [hji12] at H ⊢; exact H)
                      have hji12_ : (IntKind.u64.wrap ((IntKind.u64.wrap (Go.bits .andNot .u8 (rd l0 x11_1) 128)) * 2 ^ min x5_1.toNat 64)) = ji12 := hji12
                      have hji12z : x5_1 ≤ 64 → (IntKind.u64.wrap ((IntKind.u64.wrap (Go.bits .andNot .u8 (rd l0 x11_1) 128)) * 2 ^ x5_1.toNat)) = ji12 := shl_small hji12
                      by_cases c13 : (rd l0 x11_1) < 128
                      · rw [if_pos c13] at H
                        have c13b0 : decide ((rd l0 x11_1) < 128) = true := decide_eq_true c13
                        clear c13
                        simp only [Option.some.injEq, Prod.mk.injEq] at H
                        obtain ⟨rfl, rfl⟩ := H
                        go_wp2
                        go_ret2
                        exact ⟨by first | rfl | (simp; done) | (simp only [← hji12] <;> (first | rfl | simp)) | (simp [*]; done), by repeat (first | exact Drawn0.refl _ | apply Drawn0.step)⟩
                      · rw [if_neg c13] at H
                        have c13b0 : decide ((rd l0 x11_1) < 128) = false := decide_eq_false c13
                        clear c13
                        have H' := Aside0.mk H
                        clear H
                        go_wp2
                        go_roundg kj6
                        case measure => have := HK1.out; have := HJ6.out; omega
                        case rel => exact ⟨(Go.bits .or .u64 x4_1 (ji12)), (wrap64 (x5_1 + 7)), (wrap64 (x11_1 + 1)), (by first | rfl | (simp; done) | (simp only [← hji12] <;> (first | rfl | simp)) | (simp [*]; done)), (by first | rfl | (simp; done) | (simp [*]; done)), (by first | rfl | (simp; done) | (simp [*]; done)), H', ⟨by have := HK1.out; have := HJ6.out; omega⟩, by repeat (first | exact Drawn0.refl _ | apply Drawn0.step)⟩
                    · rw [if_neg c11] at H
                      exact absurd H (by simp)
          · rw [if_neg c4] at H
            exact absurd H (by simp)
        · rw [if_neg c3] at H
          exact absurd H (by simp)
      · rw [if_neg c2] at H
        have c2b0 : decide (x11_1 < (l0.length : Int)) = false := decide_eq_false c2
        clear c2
        simp only [Option.some.injEq, Prod.mk.injEq] at H
        obtain ⟨rfl, rfl⟩ := H
        go_wp2
        go_ret2
        exact ⟨by first | rfl | (simp; done) | (simp [*]; done), by repeat (first | exact Drawn0.refl _ | apply Drawn0.step)⟩

/-! ### num_Var: plain, of function 18 -/
def num_Var.f (l0 : List Int) : Option (Int × Int) := if YtfnlohopfoekfaaH.Crc.isB l0 then some (YtfnlohopfoekfaaH.Var.varI l0) else none
set_option maxHeartbeats 2000000 in
theorem num_Var.loop (l : List Int) (hl : l.length ≤ 9223372036854775807) (hB : YtfnlohopfoekfaaH.Crc.isB l) (t : List Int) : ∀ (x i : Nat), x < 2 ^ (7 * i) → i ≤ 10 → l.drop i = t → i + t.length = l.length →
    Ev (fun k => num_Var_p.l0 k (x : Int) ((7 * i : Nat) : Int) l (l.length : Int) (i : Int)) (((YtfnlohopfoekfaaH.Var.res Lib.bitLen x (7 * i) i (YtfnlohopfoekfaaH.Crc.nats t)).1 : Nat), ((YtfnlohopfoekfaaH.Var.res Lib.bitLen x (7 * i) i (YtfnlohopfoekfaaH.Crc.nats t)).2 : Nat)) := by
  induction t with
  | nil =>
    intro x i hx hi ht hlen
    refine Ev.step (fun k => ?_) (Ev.now _)
    simp only [num_Var_p.l0]
    rw [if_neg (by simp at hlen; omega)]
    rfl
  | cons c t ih =>
    intro x i hx hi ht hlen
    obtain ⟨hrd, hil, ht', hmem⟩ := YtfnlohopfoekfaaH.Var.rd_at ht
    have hcb : 0 ≤ c ∧ c < 256 := hB c hmem
    obtain ⟨n, rfl⟩ := Int.eq_ofNat_of_zero_le hcb.1
    have hn : n < 256 := by omega
    have e : YtfnlohopfoekfaaH.Crc.nats (((n : Nat) : Int) :: t) = n :: YtfnlohopfoekfaaH.Crc.nats t := by simp [YtfnlohopfoekfaaH.Crc.nats]
    have hbl := YtfnlohopfoekfaaH.Var.bl_ok (n % 128) (by omega)
    have hb7 : Lib.bitLen (n % 128) ≤ 7 := by
      by_cases h0 : n % 128 = 0
      · rw [hbl.1 h0]; decide
      · exact (hbl.2 h0).2.1
    have hP : IntKind.u64.wrap (Go.bits .andNot .u8 (rd l (i : Int)) 128) = ((n % 128 : Nat) : Int) := by
      rw [hrd, YtfnlohopfoekfaaH.Var.low7 n hn, IntKind.wrap_u64]
      omega
    have hL : bits_Len64.f ((n % 128 : Nat) : Int) = some ((Lib.bitLen (n % 128) : Nat) : Int) := by
      unfold bits_Len64.f
      rw [if_pos (by omega), Int.toNat_natCast]
    have hW : wrap64 (((7 * i : Nat) : Int) + ((Lib.bitLen (n % 128) : Nat) : Int)) = ((7 * i + Lib.bitLen (n % 128) : Nat) : Int) := by
      rw [YtfnlohopfoekfaaH.Crc.wrap64_in _ (by omega) (by omega)]
      omega
    replace hP := Aside0.mk hP
    replace hL := Aside0.mk hL
    replace hW := Aside0.mk hW
    rw [e]
    simp only [YtfnlohopfoekfaaH.Var.res]
    by_cases h64 : 64 < 7 * i + Lib.bitLen (n % 128)
    · rw [if_pos h64]
      refine Ev.step (fun k => ?_) (Ev.now _)
      simp only [num_Var_p.l0]
      rw [if_pos (by omega), if_pos (by omega), if_pos (by omega), hP.out, hL.out]
      rw [Option.bind_some]
      rw [hW.out, if_pos (by omega)]
      rfl
    · rw [if_neg h64]
      have hi9 : i ≤ 9 := by omega
      have hsmall : n % 128 * 2 ^ (7 * i) < 18446744073709551616 := by
        by_cases h0 : n % 128 = 0
        · rw [h0]; simp
        · obtain ⟨_, _, _, h4⟩ := hbl.2 h0
          have e1 : 2 ^ (Lib.bitLen (n % 128) + 7 * i) ≤ 2 ^ 64 := Nat.pow_le_pow_right (by decide) (by omega)
          rw [Nat.pow_add] at e1
          have e2 : n % 128 * 2 ^ (7 * i) < 2 ^ Lib.bitLen (n % 128) * 2 ^ (7 * i) := Nat.mul_lt_mul_of_pos_right h4 (Nat.pow_pos (by decide))
          have e64 : (2 : Nat) ^ 64 = 18446744073709551616 := by decide
          omega
      have hJ := Aside0.mk (YtfnlohopfoekfaaH.Var.join x (n % 128) i hx hsmall (by omega))
      have head : ∀ (b : Bool), (n < 128 ∧ n = 0 ∧ 0 < i → b = true) → (¬ (n < 128 ∧ n = 0 ∧ 0 < i) → b = false) → ∀ k, num_Var_p.l0 (k + 1) (x : Int) ((7 * i : Nat) : Int) l (l.length : Int) (i : Int) = num_Var_p.j1 k (x : Int) ((7 * i : Nat) : Int) (i : Int) ((n : Nat) : Int) ((n % 128 : Nat) : Int) l (l.length : Int) (i : Int) b := by
        intro b hb1 hb2 k
        simp only [num_Var_p.l0]
        rw [if_pos (by omega), if_pos (by omega), if_pos (by omega), hP.out, hL.out]
        rw [Option.bind_some]
        rw [hW.out, if_neg (by omega), hrd]
        by_cases h128 : n < 128
        · rw [if_pos (by omega)]
          by_cases h0 : n = 0
          · rw [if_pos (by omega)]
            by_cases hi0 : 0 < i
            · rw [hb1 ⟨h128, h0, hi0⟩]
              have : decide ((i : Int) > 0) = true := by simp; omega
              rw [this]
            · rw [hb2 (fun h => hi0 h.2.2)]
              have : decide ((i : Int) > 0) = false := by simp; omega
              rw [this]
          · rw [if_neg (by omega), hb2 (fun h => h0 h.2.1)]
        · rw [if_neg (by omega), hb2 (fun h => h128 h.1)]
      by_cases hz : n < 128 ∧ n = 0 ∧ 0 < i
      · rw [if_pos hz]
        refine Ev.step (head true (fun _ => rfl) (fun h => absurd hz h)) (Ev.step (fun k => ?_) (Ev.now _))
        simp only [num_Var_p.j1]
        rfl
      · rw [if_neg hz]
        by_cases h128 : n < 128
        · rw [if_pos h128]
          refine Ev.step (head false (fun h => absurd h hz) (fun _ => rfl)) (Ev.step (fun k => ?_) (Ev.now _))
          simp only [num_Var_p.j1]
          rw [if_neg (by simp), if_pos (by omega), if_pos (by omega), hJ.out, YtfnlohopfoekfaaH.Crc.wrap64_in _ (by omega) (by omega)]
          rfl
        · rw [if_neg h128]
          have e7 : 7 * (i + 1) = 7 * i + 7 := by omega
          have hx' : x + n % 128 * 2 ^ (7 * i) < 2 ^ (7 * (i + 1)) := by
            have ep : 2 ^ (7 * (i + 1)) = 128 * 2 ^ (7 * i) := by rw [e7, Nat.pow_add]; omega
            have : (n % 128 + 1) * 2 ^ (7 * i) ≤ 128 * 2 ^ (7 * i) := Nat.mul_le_mul_right _ (by omega)
            rw [Nat.add_mul] at this
            omega
          have h := ih (x + n % 128 * 2 ^ (7 * i)) (i + 1) hx' (by omega) ht' (by simp at hlen; omega)
          rw [e7] at h
          refine Ev.step (head false (fun h => absurd h hz) (fun _ => rfl)) (Ev.step (fun k => ?_) h)
          simp only [num_Var_p.j1]
          rw [if_neg (by simp), if_pos (by omega), if_neg (by omega), hJ.out, YtfnlohopfoekfaaH.Crc.wrap64_in _ (by omega) (by omega), YtfnlohopfoekfaaH.Crc.wrap64_in _ (by omega) (by omega)]
          rfl
set_option maxHeartbeats 2000000 in
theorem num_Var.ev (l0 : List Int) (r : Int × Int) (h : num_Var.f l0 = some r) (hl : l0.length ≤ 9223372036854775807) : Ev (fun k => num_Var_p.f k l0) r := by
  unfold num_Var.f at h
  split at h
  · rename_i hB
    obtain rfl := Option.some.inj h
    have := num_Var.loop l0 hl hB l0 0 0 (by decide) (by decide) rfl (by simp)
    rw [YtfnlohopfoekfaaH.Var.res_var Lib.bitLen YtfnlohopfoekfaaH.Var.bl_ok _ (YtfnlohopfoekfaaH.Crc.nats_lt hB)] at this
    exact this
  · cases h
theorem num_Var.calls (A0 : Option Addr) (c0 : Nat) (l0 : List Int) (r1 : Int) (r2 : Int) (w : World) (hr0 : Kd.C (Kd.int .u8) w A0 l0.length l0) (hc0 : l0.length ≤ c0) (h : num_Var.f l0 = some (r1, r2)) :
    Calls Try.prog 18 #[.slice A0 l0.length c0] w fun e w' => e = .returned (.tuple #[.int .u64 r1, .int .i64 r2]) ∧ Drawn0 w w' := by
  obtain ⟨k, hk⟩ := (num_Var.ev l0 _ h (by first | exact hr0.2.1 | exact (Kd.V_reads' hs0).2.2.2.1 | exact (Kd.R_reads' ho0).2.2.2.1)).rounds
  exact num_Var_p.calls k A0 c0 l0 r1 r2 w hr0 hc0 hk

end Go.Proofs.Ytfnlohopfoekfaa.PCrcAll
