-- Written by hp.py (own driver over print.py) out of the translation, hand-made functions among it. Lean checks it.
import Derived.Test.YtfnlohopfoekfaaPCrcAllx0
namespace Go.Proofs.Ytfnlohopfoekfaa.PCrcAll
open Go.RowKit Go.Proofs.YtfnlohopfoekfaaW.PrintWords Go.Proofs.YtfnlohopfoekfaaW.PrintLast Go.Proofs.YtfnlohopfoekfaaW.PrintMore
attribute [local go_sem] max2_int min2_int max_two min_two max_three min_three max_four min_four   -- for this text's walks alone
set_option linter.unusedVariables false
set_option linter.unusedSimpArgs false

/-! ### slices_Equal_byte_byte_p: function 19 -/
def slices_Equal_byte_byte_p.l0 : Nat → List Int → List Int → Int → Int → Option (Bool)
  | 0, _, _, _, _ => none
  | k + 1, x0, x1, x12, x13 => if x13 < x12 then (if 0 ≤ x13 then (if x13 < (x0.length : Int) then (if x13 < (x1.length : Int) then (if (rd x0 x13) = (rd x1 x13) then (slices_Equal_byte_byte_p.l0 k x0 x1 x12 (wrap64 (x13 + 1))) else (some false)) else (none)) else (none)) else (none)) else (some true)
def slices_Equal_byte_byte_p.f (k : Nat) (l0 : List Int) (l1 : List Int) : Option (Bool) := if (l0.length : Int) = (l1.length : Int) then (slices_Equal_byte_byte_p.l0 k l0 l1 (l0.length : Int) 0) else (some false)
theorem slices_Equal_byte_byte_p.mono_l : ∀ k, (∀ y0 y1 y2 y3, LeO (slices_Equal_byte_byte_p.l0 k y0 y1 y2 y3) (slices_Equal_byte_byte_p.l0 (k + 1) y0 y1 y2 y3))
  | 0 => fun _ _ _ _ r h => by simp [slices_Equal_byte_byte_p.l0] at h
  | k + 1 => by
    have ih0 := slices_Equal_byte_byte_p.mono_l k
    · intro y0 y1 y2 y3
      unfold slices_Equal_byte_byte_p.l0
      repeat' first
      | (with_reducible exact ih0 _ _ _ _)
      | (with_reducible exact LeO.refl _)
      | (with_reducible exact LeO.none _)
      | (with_reducible refine LeO.ite ?_ ?_)
      | (with_reducible refine LeO.bind ?_ (fun _ => ?_))
      | exact ih0 _ _ _ _
      | exact LeO.none _
      | refine LeO.ite ?_ ?_
      | refine LeO.bind ?_ (fun _ => ?_)
theorem slices_Equal_byte_byte_p.mono : ∀ a0 a1 k, LeO (slices_Equal_byte_byte_p.f k a0 a1) (slices_Equal_byte_byte_p.f (k + 1) a0 a1) := by
  intro a0 a1 k
  have ih0 := slices_Equal_byte_byte_p.mono_l k
  unfold slices_Equal_byte_byte_p.f
  repeat' first
      | (with_reducible exact ih0 _ _ _ _)
      | (with_reducible exact LeO.refl _)
      | (with_reducible exact LeO.none _)
      | (with_reducible refine LeO.ite ?_ ?_)
      | (with_reducible refine LeO.bind ?_ (fun _ => ?_))
      | exact ih0 _ _ _ _
      | exact LeO.none _
      | refine LeO.ite ?_ ?_
      | refine LeO.bind ?_ (fun _ => ?_)
set_option maxHeartbeats 8000000 in
set_option maxRecDepth 100000 in
theorem slices_Equal_byte_byte_p.calls (k : Nat) (A0 : Option Addr) (c0 : Nat) (l0 : List Int) (A1 : Option Addr) (c1 : Nat) (l1 : List Int) (r : Bool) (w : World) (hr0 : Kd.C (Kd.int .u8) w A0 l0.length l0) (hc0 : l0.length ≤ c0) (hr1 : Kd.C (Kd.int .u8) w A1 l1.length l1) (hc1 : l1.length ≤ c1) (h : slices_Equal_byte_byte_p.f k l0 l1 = some r) :
    Calls Try.prog 19 #[.slice A0 l0.length c0, .slice A1 l1.length c1] w fun e w' => e = .returned (.bool r) ∧ Drawn0 w w' := by
  have HR0 := Aside0.mk hr0
  have HC0 := Aside0.mk hc0
  clear hr0 hc0
  have HR1 := Aside0.mk hr1
  have HC1 := Aside0.mk hc1
  clear hr1 hc1
  have H : (if (l0.length : Int) = (l1.length : Int) then (slices_Equal_byte_byte_p.l0 k l0 l1 (l0.length : Int) 0) else (some false)) = some r := h
  clear h
  by_cases c3 : (l0.length : Int) = (l1.length : Int)
  · rw [if_pos c3] at H
    have c3b0 : ((l0.length : Int) == (l1.length : Int)) = true := beq_iff_eq.mpr c3
    have c3b1 : ((l0.length : Int) != (l1.length : Int)) = false := bne_eq_false_iff_eq.mpr c3
    have c3b2 : (l0.length == l1.length) = true := by first | simpa using c3 | (simp at c3 ⊢; omega)
    clear c3
    have H' := Aside0.mk H
    clear H
    go_enter Try.func19, Try.ntmps19
    go_wp2
    repeat (go_quiet (fail); try go_wp2)
    go_loopg [13] k (fun kq v13 w' => ∃ (x13_1 : Int), v13 = .int .i64 x13_1 ∧ Aside0 (slices_Equal_byte_byte_p.l0 kq l0 l1 (l0.length : Int) x13_1 = some r) ∧ Aside0 (kq ≤ k) ∧ Drawn0 w w')
    case atStart => exact ⟨(0), (by first | rfl | (simp; done) | (simp [*]; done)), H', ⟨Nat.le_refl _⟩, by repeat (first | exact Drawn0.refl _ | apply Drawn0.step)⟩
    case round =>
      clear H'
      try clear c1
      try clear p2
      try clear c3
      try clear c3b0
      try clear c3b1
      try clear c3b2
      obtain ⟨x13_1, rfl, HA, HK1, ⟨m1, rfl⟩⟩ := hrel
      cases gk with
      | zero => exact absurd HA.out (by simp [slices_Equal_byte_byte_p.l0])
      | succ k1 =>
        have H := HA.out
        clear HA
        simp only [slices_Equal_byte_byte_p.l0] at H
        by_cases c4 : x13_1 < (l0.length : Int)
        · rw [if_pos c4] at H
          have c4b0 : decide (x13_1 < (l0.length : Int)) = true := decide_eq_true c4
          clear c4
          by_cases c5 : 0 ≤ x13_1
          · rw [if_pos c5] at H
            have c5b0 : decide (0 ≤ x13_1) = true := decide_eq_true c5
            clear c5
            by_cases c6 : x13_1 < (l0.length : Int)
            · rw [if_pos c6] at H
              have c6b0 : decide (x13_1 < (l0.length : Int)) = true := decide_eq_true c6
              clear c6
              by_cases c7 : x13_1 < (l1.length : Int)
              · rw [if_pos c7] at H
                have c7b0 : decide (x13_1 < (l1.length : Int)) = true := decide_eq_true c7
                clear c7
                by_cases c8 : (rd l0 x13_1) = (rd l1 x13_1)
                · rw [if_pos c8] at H
                  have c8b0 : ((rd l0 x13_1) == (rd l1 x13_1)) = true := beq_iff_eq.mpr c8
                  have c8b1 : ((rd l0 x13_1) != (rd l1 x13_1)) = false := bne_eq_false_iff_eq.mpr c8
                  clear c8
                  have H' := Aside0.mk H
                  clear H
                  have p110 : 0 ≤ (x13_1 : Int) := of_decide_eq_true (by first | (with_reducible assumption) | assumption)
                  have q110 : x13_1 < (l0.length : Int) := of_decide_eq_true (by first | (with_reducible assumption) | assumption)
                  obtain ⟨ad110, e110, hx110_0⟩ := Kd.at_int HR0.out x13_1 p110 q110
                  cases e110
                  replace p110 := eq_true p110
                  replace q110 := eq_true q110
                  have p111 : 0 ≤ (x13_1 : Int) := of_decide_eq_true (by first | (with_reducible assumption) | assumption)
                  have q111 : x13_1 < (l1.length : Int) := of_decide_eq_true (by first | (with_reducible assumption) | assumption)
                  obtain ⟨ad111, e111, hx111_0⟩ := Kd.at_int HR1.out x13_1 p111 q111
                  cases e111
                  replace p111 := eq_true p111
                  replace q111 := eq_true q111
                  go_wp2
                  repeat (go_quiet (fail); try go_wp2)
                  go_roundg k1
                  case measure => have := HK1.out; omega
                  case rel => exact ⟨(wrap64 (x13_1 + 1)), (by first | rfl | (simp; done) | (simp [*]; done)), H', ⟨by have := HK1.out; omega⟩, by repeat (first | exact Drawn0.refl _ | apply Drawn0.step)⟩
                · rw [if_neg c8] at H
                  have c8b0 : ((rd l0 x13_1) == (rd l1 x13_1)) = false := beq_eq_false_iff_ne.mpr c8
                  have c8b1 : ((rd l0 x13_1) != (rd l1 x13_1)) = true := bne_iff_ne.mpr c8
                  obtain rfl := Option.some.inj H
                  have p110 : 0 ≤ (x13_1 : Int) := of_decide_eq_true (by first | (with_reducible assumption) | assumption)
                  have q110 : x13_1 < (l0.length : Int) := of_decide_eq_true (by first | (with_reducible assumption) | assumption)
                  obtain ⟨ad110, e110, hx110_0⟩ := Kd.at_int HR0.out x13_1 p110 q110
                  cases e110
                  replace p110 := eq_true p110
                  replace q110 := eq_true q110
                  have p111 : 0 ≤ (x13_1 : Int) := of_decide_eq_true (by first | (with_reducible assumption) | assumption)
                  have q111 : x13_1 < (l1.length : Int) := of_decide_eq_true (by first | (with_reducible assumption) | assumption)
                  obtain ⟨ad111, e111, hx111_0⟩ := Kd.at_int HR1.out x13_1 p111 q111
                  cases e111
                  replace p111 := eq_true p111
                  replace q111 := eq_true q111
                  go_wp2
                  repeat (go_quiet (fail); try go_wp2)
                  go_ret
                  exact ⟨by first | rfl | (simp; done) | (simp [*]; done), by repeat (first | exact Drawn0.refl _ | apply Drawn0.step)⟩
              · rw [if_neg c7] at H
                exact absurd H (by simp)
            · rw [if_neg c6] at H
              exact absurd H (by simp)
          · rw [if_neg c5] at H
            exact absurd H (by simp)
        · rw [if_neg c4] at H
          have c4b0 : decide (x13_1 < (l0.length : Int)) = false := decide_eq_false c4
          clear c4
          obtain rfl := Option.some.inj H
          go_wp2
          repeat (go_quiet (fail); try go_wp2)
          go_ret
          exact ⟨by first | rfl | (simp; done) | (simp [*]; done), by repeat (first | exact Drawn0.refl _ | apply Drawn0.step)⟩
  · rw [if_neg c3] at H
    have c3b0 : ((l0.length : Int) == (l1.length : Int)) = false := beq_eq_false_iff_ne.mpr c3
    have c3b1 : ((l0.length : Int) != (l1.length : Int)) = true := bne_iff_ne.mpr c3
    have c3b2 : (l0.length == l1.length) = false := by first | simpa using c3 | (simp at c3 ⊢; omega)
    obtain rfl := Option.some.inj H
    go_enter Try.func19, Try.ntmps19
    go_wp2
    repeat (go_quiet (fail); try go_wp2)
    go_ret
    exact ⟨by first | rfl | (simp; done) | (simp [*]; done), by repeat (first | exact Drawn0.refl _ | apply Drawn0.step)⟩

/-! ### slices_Equal_byte_byte: plain, of function 19 -/
def slices_Equal_byte_byte.f (l0 l1 : List Int) : Option Bool := some (decide (l0 = l1))
set_option maxHeartbeats 2000000 in
theorem slices_Equal_byte_byte.loop (l m : List Int) (hl : l.length ≤ 9223372036854775807) (hlm : l.length = m.length) (t : List Int) : ∀ (i : Nat) (u : List Int), i + t.length = l.length → l.drop i = t → m.drop i = u →
    Ev (fun k => slices_Equal_byte_byte_p.l0 k l m (l.length : Int) (i : Int)) (decide (t = u)) := by
  induction t with
  | nil =>
    intro i u hi ht hu
    have : u = [] := by
      rw [← hu]
      exact List.drop_eq_nil_of_le (by simp at hi; omega)
    subst this
    refine Ev.step (fun k => ?_) (Ev.now _)
    simp only [slices_Equal_byte_byte_p.l0]
    rw [if_neg (by simp at hi; omega)]
    rfl
  | cons c t ih =>
    intro i u hi ht hu
    obtain ⟨r1, hil, ht', _⟩ := YtfnlohopfoekfaaH.Var.rd_at ht
    rcases u with _ | ⟨d, u⟩
    · have := List.drop_eq_nil_iff.1 hu
      omega
    obtain ⟨r2, _, hu', _⟩ := YtfnlohopfoekfaaH.Var.rd_at hu
    by_cases hcd : c = d
    · subst hcd
      have e : decide (c :: t = c :: u) = decide (t = u) := by simp
      rw [e]
      refine Ev.step (fun k => ?_) (ih (i + 1) u (by simp at hi; omega) ht' hu')
      simp only [slices_Equal_byte_byte_p.l0]
      rw [if_pos (by omega), if_pos (by omega), if_pos (by omega), if_pos (by omega), r1, r2, if_pos rfl, YtfnlohopfoekfaaH.Crc.wrap64_in _ (by omega) (by omega)]
      rfl
    · have e : decide (c :: t = d :: u) = false := by simp [hcd]
      rw [e]
      refine Ev.step (fun k => ?_) (Ev.now _)
      simp only [slices_Equal_byte_byte_p.l0]
      rw [if_pos (by omega), if_pos (by omega), if_pos (by omega), if_pos (by omega), r1, r2, if_neg hcd]
set_option maxHeartbeats 2000000 in
theorem slices_Equal_byte_byte.ev (l0 l1 : List Int) (r : Bool) (h : slices_Equal_byte_byte.f l0 l1 = some r) (hl : l0.length ≤ 9223372036854775807) (hm : l1.length ≤ 9223372036854775807) : Ev (fun k => slices_Equal_byte_byte_p.f k l0 l1) r := by
  obtain rfl := Option.some.inj h
  by_cases hlm : l0.length = l1.length
  · refine Ev.congr (fun k => ?_) (slices_Equal_byte_byte.loop l0 l1 hl hlm l0 0 l1 (by simp) rfl rfl)
    unfold slices_Equal_byte_byte_p.f
    rw [if_pos (by omega)]
    rfl
  · have e : decide (l0 = l1) = false := decide_eq_false (fun h => hlm (by rw [h]))
    rw [e]
    refine Ev.congr (fun k => ?_) (Ev.now _)
    unfold slices_Equal_byte_byte_p.f
    rw [if_neg (by omega)]
theorem slices_Equal_byte_byte.calls (A0 : Option Addr) (c0 : Nat) (l0 : List Int) (A1 : Option Addr) (c1 : Nat) (l1 : List Int) (r : Bool) (w : World) (hr0 : Kd.C (Kd.int .u8) w A0 l0.length l0) (hc0 : l0.length ≤ c0) (hr1 : Kd.C (Kd.int .u8) w A1 l1.length l1) (hc1 : l1.length ≤ c1) (h : slices_Equal_byte_byte.f l0 l1 = some r) :
    Calls Try.prog 19 #[.slice A0 l0.length c0, .slice A1 l1.length c1] w fun e w' => e = .returned (.bool r) ∧ Drawn0 w w' := by
  obtain ⟨k, hk⟩ := (slices_Equal_byte_byte.ev l0 l1 _ h (by first | exact hr0.2.1 | exact (Kd.V_reads' hs0).2.2.2.1 | exact (Kd.R_reads' ho0).2.2.2.1) (by first | exact hr1.2.1 | exact (Kd.V_reads' hs1).2.2.2.1 | exact (Kd.R_reads' ho1).2.2.2.1)).rounds
  exact slices_Equal_byte_byte_p.calls k A0 c0 l0 A1 c1 l1 r w hr0 hc0 hr1 hc1 hk

/-! ### num_Put64: function 28 -/
def num_Put64.f (a0 : Int) : Option (List Int) := some (YtfnlohopfoekfaaH.le8 a0)
set_option maxHeartbeats 1000000 in
set_option maxRecDepth 100000 in
theorem num_Put64.calls (a0 : Int) (r : List Int) (w : World) (h : num_Put64.f a0 = some r) :
    Calls Try.prog 28 #[.int .u64 a0] w fun e w' => ∃ v0_ : Value, e = .returned v0_ ∧ Kd.V (Kd.int .u8) 5 w' w.heap.size (fun k_ => (w.heap.size ≤ k_)) v0_ r ∧ Below w.heap.size w w' := by
  obtain rfl := Option.some.inj h
  clear h
  go_enter Try.func28, Try.ntmps28
  go_wp2
  go_loopw [5] (fun v5 w' => ∃ k : Nat, k ≤ 8 ∧ v5 = .int .i64 k ∧ w' = w.alloc (.cells (YtfnlohopfoekfaaH.le8c a0 k) 48)) (fun v5 _ => 8 - (intOf v5).toNat)
  case atStart => exact ⟨0, Nat.zero_le _, rfl, rfl⟩
  case round =>
    obtain ⟨k, hk, rfl, hw⟩ := hrel
    have hcases : k = 0 ∨ k = 1 ∨ k = 2 ∨ k = 3 ∨ k = 4 ∨ k = 5 ∨ k = 6 ∨ k = 7 ∨ k = 8 := by omega
    rcases hcases with rfl | rfl | rfl | rfl | rfl | rfl | rfl | rfl | rfl
    rotate_right 1
    · subst hw
      simp only [YtfnlohopfoekfaaH.le8c]
      go_wp2
      go_ret
      exact ⟨_, rfl, YtfnlohopfoekfaaH.V_lit .u8 w _ _ _ _ (YtfnlohopfoekfaaH.le8 a0) _ 8 rfl (by simp [YtfnlohopfoekfaaH.le8, List.range, List.range.loop]) (by simp [YtfnlohopfoekfaaH.le8]), YtfnlohopfoekfaaH.below_alloc1 _ _⟩
    all_goals
      subst hw
      simp only [YtfnlohopfoekfaaH.le8c]
      go_wp2
      exact ⟨⟨_, by decide, rfl, by simp [List.range, List.range.loop]⟩, by simp [intOf]⟩

/-! ### crc_bytes_p: function 20 -/
def crc_bytes_p.f (a0 : Int) : Option (List Int) := (num_Put64.f (IntKind.u64.wrap (a0))).bind fun t112 => (if 4 ≤ (t112.length : Int) then (some (t112.take 4)) else (none))
set_option maxHeartbeats 8000000 in
set_option maxRecDepth 100000 in
theorem crc_bytes_p.calls (a0 : Int) (r : List Int) (w : World) (h : crc_bytes_p.f a0 = some r) :
    Calls Try.prog 20 #[.int .u32 a0] w fun e w' => ∃ v0_ : Value, e = .returned (v0_) ∧ Kd.V (Kd.int .u8) 5 w' w.heap.size (fun k_ => (w.heap.size ≤ k_)) v0_ r ∧ Below w.heap.size w w' := by
  have HB := Aside0.mk (Below.refl w.heap.size w)
  have H : ((num_Put64.f (IntKind.u64.wrap (a0))).bind fun t112 => (if 4 ≤ (t112.length : Int) then (some (t112.take 4)) else (none))) = some r := h
  clear h
  replace H := Option.bind_eq_some_iff.mp H
  obtain ⟨t112, A20, H⟩ := H
  replace H : (if 4 ≤ (t112.length : Int) then (some (t112.take 4)) else (none)) = some r := H
  have A2 := Aside0.mk A20
  clear A20
  by_cases c3 : 4 ≤ (t112.length : Int)
  · rw [if_pos c3] at H
    have c3b0 := eq_true c3
    have c3b1 : decide (4 ≤ (t112.length : Int)) = true := decide_eq_true c3
    clear c3
    obtain ⟨y115, hy115⟩ : ∃ y_ : List Int, y_ = (t112.take 4) := ⟨_, rfl⟩
    replace H : (some y115) = some r := by first | (rw [hy115]; with_reducible exact H) | (have H2_ := (Option.bind_some _ _).symm.trans H; rw [hy115]; with_reducible exact H2_) | (have H2_ := (Option.bind_some _ _).symm.trans H; with_reducible exact H2_) | with_reducible exact H | (rw [hy115]; exact H) | exact H
    have Ny115 := Aside0.mk hy115
    clear hy115
    obtain rfl := Option.some.inj H
    go_enter Try.func20, Try.ntmps20
    go_wp2_with (first | ((with_reducible refine gate_callee (f := 28) rfl ?_); refine goesL_ (some 5) rfl rfl Try.func28 (by kernel_rfl) rfl #[.int .u64 (IntKind.u64.wrap (a0))] rfl (by (try simp only [List.map_toArray, List.map_cons, List.map_nil]); first | done | rfl | (simp only [List.length_drop, List.length_take]; rfl)) ?_; (with_reducible refine (num_Put64.calls (IntKind.u64.wrap (a0)) t112 _ A2.out).mono ?_); rintro e w4 ⟨v113, rfl, ho0, hb⟩; refine ⟨_, rfl, ?_⟩; have n0_ := Aside0.mk (Kd.V_lower (Kd.V_mono (ok' := fun k_ => (w.heap.size ≤ k_)) ho0 (fun k_ hk_ => (Nat.le_trans (below_size (by repeat (first | (with_reducible first | exact HB.out | apply below_alloc | apply pw_below_drewN | apply below_drew1) | exact HB.out))) hk_))) (below_size (by repeat (first | (with_reducible first | exact HB.out | apply below_alloc | apply pw_below_drewN | apply below_drew1) | exact HB.out)))); have n1_ := Aside0.mk (below_step (by repeat (first | (with_reducible first | exact HB.out | apply below_alloc | apply pw_below_drewN | apply below_drew1) | exact HB.out)) hb); clear HB; have HO114 := n0_; have HB := n1_; clear n0_ n1_; (try clear hb); (try clear hb2); (try clear hk); (try clear hi); (try clear ho0); obtain ⟨Ao6, co6, eo6⟩ := Kd.V_slice HO114.out; subst eo6; have q5 : (4 : Int) ≤ ((t112.length : Int) : Int) := of_decide_eq_true (by first | (with_reducible assumption) | assumption); obtain ⟨i05, hi05, _, hsz5, _⟩ := info_parts info5; have hroom5 : t112.length ≤ co6 := (Kd.V_reads' HO114.out).2.1; have hC5 : Kd.F (Kd.int .u8) _ _ Ao6 t112.length t112 := (Kd.V_at (base := w.heap.size) HO114.out).2.2; have hcut5 := cut_to (P := Try.prog) 22 5 .i64 Try.underlying22 hi05 Ao6 t112.length co6 4 (by omega) q5 hroom5; have hr5 := Kd.F_take (m := 4) hC5 (by omega); have hy5 : y115.length = (4 : Int).toNat := (by rw [Ny115.out, List.length_take]; omega); rw [← Ny115.out] at hr5; rw [← hy5] at hcut5; have HO119 := Aside0.mk (show Kd.V (Kd.int .u8) 5 _ w.heap.size _ (.slice Ao6 y115.length co6) y115 from Kd.V_mk (by omega) hr5); have HC119 := Aside0.mk (show y115.length ≤ co6 from by omega); clear hr5 hC5 hroom5 hi05 hsz5; have KY5 := Aside0.mk hy5; clear hy5; replace q5 := eq_true q5))
    go_ret
    exact ⟨_, by first | rfl | (simp [errW_none, errW_some] <;> rfl) | (simp [*, errW_none, errW_some] <;> rfl), by (with_reducible repeat (first | apply Kd.V_alloc | apply Kd.V_drewN | apply Kd.V_drew)); exact HO119.out, by repeat (first | (with_reducible first | exact HB.out | apply below_alloc | apply pw_below_drewN | apply below_drew1) | exact HB.out)⟩
  · rw [if_neg c3] at H
    exact absurd H (by simp)

/-! ### crc_bytes: plain, of function 20 -/
def crc_bytes.f (a0 : Int) : Option (List Int) := if 0 ≤ a0 ∧ a0 < 4294967296 then some (YtfnlohopfoekfaaH.Fr.sum4 a0) else none
set_option maxHeartbeats 2000000 in
theorem crc_bytes.ev (a0 : Int) (r : List Int) (h : crc_bytes.f a0 = some r) : crc_bytes_p.f a0 = some r := by
  unfold crc_bytes.f at h
  split at h
  · rename_i hx
    obtain rfl := Option.some.inj h
    unfold crc_bytes_p.f num_Put64.f
    have e : IntKind.u64.wrap a0 = a0 := by rw [IntKind.wrap_u64]; omega
    rw [e]
    rw [Option.bind_some]
    rw [if_pos (by rw [YtfnlohopfoekfaaH.Fr.le8_len]; decide)]
    rfl
  · cases h
theorem crc_bytes.calls (a0 : Int) (r : List Int) (w : World) (h : crc_bytes.f a0 = some r) :
    Calls Try.prog 20 #[.int .u32 a0] w fun e w' => ∃ v0_ : Value, e = .returned (v0_) ∧ Kd.V (Kd.int .u8) 5 w' w.heap.size (fun k_ => (w.heap.size ≤ k_)) v0_ r ∧ Below w.heap.size w w' := by
  exact crc_bytes_p.calls a0 r w (crc_bytes.ev a0 _ h )

/-! ### slices_Clone_byte_byte: function 21 -/
def slices_Clone_byte_byte.f (l0 : List Int) : Option (List Int) := if l0.length * 1 ≤ 140737488355328 then some l0 else none
set_option maxHeartbeats 1000000 in
set_option maxRecDepth 100000 in
theorem slices_Clone_byte_byte.calls (A0 : Option Addr) (c0 : Nat) (l0 : List Int) (r : List Int) (w : World) (hr0 : Kd.C (Kd.int .u8) w A0 l0.length l0) (hc0 : l0.length ≤ c0) (h : slices_Clone_byte_byte.f l0 = some r) :
    Calls Try.prog 21 #[.slice A0 l0.length c0] w fun e w' => ∃ v0_ : Value, e = .returned v0_ ∧ Kd.R (Kd.int .u8) 5 w' w.heap.size (fun _ => True) v0_ r ∧ Below w.heap.size w w' := by
  have hlim : l0.length * 1 ≤ 140737488355328 ∧ l0 = r := by
    unfold slices_Clone_byte_byte.f at h
    split at h
    · exact ⟨by assumption, Option.some.inj h⟩
    · cases h
  obtain ⟨hlim, rfl⟩ := hlim
  have HL := Aside0.mk hlim
  have HR0 := Aside0.mk hr0
  clear h hr0 hlim
  rcases A0 with _ | ad
  · have hl : l0 = [] := by
      rcases l0 with _ | ⟨x, l⟩
      · rfl
      · obtain ⟨ad, h, _⟩ := HR0.out.2.2 (by simp)
        cases h
    subst hl
    have kn := fun (W : World) => Go.run_eql_slice_nil (P := Try.prog) W 22 5 none 0 c0 Try.underlying22
    simp only [Option.isNone_none] at kn
    go_enter Try.func21, Try.ntmps21
    go_wp2
    go_ret
    exact ⟨_, rfl, Kd.R_nil _ _ _ _ _, Below.refl _ _⟩
  · have kn := fun (W : World) => Go.run_eql_slice_nil (P := Try.prog) W 22 5 (some ad) l0.length c0 Try.underlying22
    simp only [Option.isNone_some] at kn
    go_enter Try.func21, Try.ntmps21
    go_wp2_with (first | ((with_reducible refine gate_dst (N := 5) rfl ?_); go_must (refine Kd.R_lit (Kd.int .u8) (w0 := w) w.heap.size 5 ?hg (N := 5) ?hd (xs := ([] : List Int)) (inner := []) (ok := fun _ => True) (okp := fun _ => True) ?hr ?hp (fun _ hk => hk) trivial (Below.refl _ _) (Nat.le_refl _) (by simp) ?_); (case hd => rfl); (case hg => rfl); (case hr => first | (go_simp; done) | (go_simp; rfl)); (case hp => exact (Reps.none _ _)); intro v1 w1 ho hb hg_ hnew_; clear hg_ hnew_; have HV := Aside0.mk ho; have HB := Aside0.mk hb; clear ho hb) | (at_builtin; go_must (refine Kd.R_append_rows (Kd.int .u8) (w0 := w) w.heap.size rfl _ _ 22 5 (.int .u8 0) 1 rfl Try.underlying22 info5 rfl (by decide) (by omega) v1 [] l0 (some ad) _ c0 (fun _ => True) (fun _ => False) rfl rfl HV.out (Kd.C_below HR0.out HB.out) (fun _ _ h => h) (fun _ h => h.elim) (fun _ _ => trivial) HB.out (below_size HB.out) (by have h1 := HL.out; simpa using h1) ?_); intro v2 w2 ho hb hg hat))
    go_ret
    exact ⟨_, rfl, ho, hb⟩

end Go.Proofs.Ytfnlohopfoekfaa.PCrcAll
