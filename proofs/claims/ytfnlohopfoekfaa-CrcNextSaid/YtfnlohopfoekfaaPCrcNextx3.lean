-- Written by hp.py (own driver over print.py) out of the translation, hand-made functions among it. Lean checks it.
import Derived.Test.YtfnlohopfoekfaaPCrcNextx0
import Derived.Test.YtfnlohopfoekfaaPCrcNextx1
import Derived.Test.YtfnlohopfoekfaaPCrcNextx2
namespace Go.Proofs.Ytfnlohopfoekfaa.PCrcNext
open Go.RowKit Go.Proofs.YtfnlohopfoekfaaW.PrintWords Go.Proofs.YtfnlohopfoekfaaW.PrintLast Go.Proofs.YtfnlohopfoekfaaW.PrintMore
attribute [local go_sem] max2_int min2_int max_two min_two max_three min_three max_four min_four   -- for this text's walks alone
set_option linter.unusedVariables false
set_option linter.unusedSimpArgs false

/-! ### crc_Unframe_p: function 12 -/
def crc_Unframe_p.j0 : Nat → List Int → Int → Int → Bool → Option (List Int × Int × Int)
  | 0, _, _, _, _ => none
  | k + 1, x0, x5, x6, x28 => if x28 = true then (some (([] : List Int), 0, 10)) else (if 0 ≤ (wrap64 (x6 + 4)) then (if (wrap64 (x6 + 4)) ≤ (wrap64 ((wrap64 (x6 + 4)) + (wrap64 (x5)))) then (if (wrap64 ((wrap64 (x6 + 4)) + (wrap64 (x5)))) ≤ (x0.length : Int) then ((crc_Sum.f ((x0.take ((wrap64 ((wrap64 (x6 + 4)) + (wrap64 (x5)))) : Int).toNat).drop ((wrap64 (x6 + 4)) : Int).toNat)).bind fun t123 => ((crc_bytes.f t123).bind fun t124 => (if 0 ≤ x6 then (if x6 ≤ (wrap64 (x6 + 4)) then (if (wrap64 (x6 + 4)) ≤ (x0.length : Int) then ((slices_Equal_byte_byte.f t124 ((x0.take ((wrap64 (x6 + 4)) : Int).toNat).drop (x6 : Int).toNat)).bind fun t128 => (if t128 = true then ((slices_Clone_byte_byte.f ((x0.take ((wrap64 ((wrap64 (x6 + 4)) + (wrap64 (x5)))) : Int).toNat).drop ((wrap64 (x6 + 4)) : Int).toNat)).bind fun t130 => (some (t130, wrap64 ((wrap64 (x6 + 4)) + (wrap64 (x5))), 0))) else (some (([] : List Int), 0, 11)))) else (none)) else (none)) else (none)))) else (none)) else (none)) else (none))
def crc_Unframe_p.f (k : Nat) (l0 : List Int) : Option (List Int × Int × Int) := (num_Var.f l0).bind fun bt120 => (if bt120.2 = 0 then (crc_Unframe_p.j0 k l0 bt120.1 bt120.2 true) else (if bt120.1 > 1048576 then (crc_Unframe_p.j0 k l0 bt120.1 bt120.2 true) else (crc_Unframe_p.j0 k l0 bt120.1 bt120.2 (decide ((IntKind.u64.wrap (wrap64 ((l0.length : Int) - bt120.2))) < (IntKind.u64.wrap (bt120.1 + 4)))))))
theorem crc_Unframe_p.mono_l : ∀ k, (∀ y0 y1 y2 y3, LeO (crc_Unframe_p.j0 k y0 y1 y2 y3) (crc_Unframe_p.j0 (k + 1) y0 y1 y2 y3))
  | 0 => fun _ _ _ _ r h => by simp [crc_Unframe_p.j0] at h
  | k + 1 => by
    have ih0 := crc_Unframe_p.mono_l k
    · intro y0 y1 y2 y3
      unfold crc_Unframe_p.j0
      repeat' first
      | (with_reducible exact ih0 _ _ _ _)
      | (with_reducible exact LeO.refl _)
      | (with_reducible exact LeO.none _)
      | (with_reducible refine LeO.ite ?_ ?_)
      | (with_reducible refine LeO.bind ?_ (fun _ => ?_))
      | exact ih0 _ _ _ _
      | exact LeO.none _
      | refine LeO.ite ?_ ?_
      | refine LeO.bind ?_ (fun _ => ?_)
theorem crc_Unframe_p.mono : ∀ a0 k, LeO (crc_Unframe_p.f k a0) (crc_Unframe_p.f (k + 1) a0) := by
  intro a0 k
  have ih0 := crc_Unframe_p.mono_l k
  unfold crc_Unframe_p.f
  repeat' first
      | (with_reducible exact ih0 _ _ _ _)
      | (with_reducible exact LeO.refl _)
      | (with_reducible exact LeO.none _)
      | (with_reducible refine LeO.ite ?_ ?_)
      | (with_reducible refine LeO.bind ?_ (fun _ => ?_))
      | exact ih0 _ _ _ _
      | exact LeO.none _
      | refine LeO.ite ?_ ?_
      | refine LeO.bind ?_ (fun _ => ?_)
def crc_Unframe_p.T5 : Bool × List (List Nat × List Nat) := (true, [([], []), ([], []), ([1], [1]), ([], []), ([0, 2, 3], [0, 2, 3]), ([4], [4]), ([5, 5], [5]), ([], []), ([], []), ([], []), ([9], [9]), ([7, 8, 10], [7, 8, 10]), ([6, 11, 6], [6, 11]), ([12], [12])])
def crc_Unframe_p.B5 : List Nat := [0, 0, 2, 0, 15, 31, 63, 0, 0, 0, 512, 1920, 4095, 8191]
theorem crc_Unframe_p.tab5 : rtab .any (opsOf Try.f12 5) = crc_Unframe_p.T5 := by kernel_rfl
theorem crc_Unframe_p.bits5 : waitsOk crc_Unframe_p.T5.2 crc_Unframe_p.B5 = true := by kernel_rfl
set_option maxHeartbeats 8000000 in
set_option maxRecDepth 100000 in
theorem crc_Unframe_p.calls (k : Nat) (A0 : Option Addr) (c0 : Nat) (l0 : List Int) (r1 : List Int) (r2 : Int) (r3 : Int) (w : World) (hr0 : Kd.C (Kd.int .u8) w A0 l0.length l0) (hc0 : l0.length ≤ c0) (h : crc_Unframe_p.f k l0 = some (r1, r2, r3)) :
    Calls Try.prog 12 #[.slice A0 l0.length c0] w fun e w' => ∃ v0_ : Value, e = .returned (.tuple #[v0_, .int .i64 r2, .int .i64 r3]) ∧ Kd.R (Kd.int .u8) 5 w' w.heap.size (fun _ => True) v0_ r1 ∧ Below w.heap.size w w' := by
  have HR0 := Aside0.mk hr0
  have HC0 := Aside0.mk hc0
  clear hr0 hc0
  have HB := Aside0.mk (Below.refl w.heap.size w)
  have H : ((num_Var.f l0).bind fun bt120 => (if bt120.2 = 0 then (crc_Unframe_p.j0 k l0 bt120.1 bt120.2 true) else (if bt120.1 > 1048576 then (crc_Unframe_p.j0 k l0 bt120.1 bt120.2 true) else (crc_Unframe_p.j0 k l0 bt120.1 bt120.2 (decide ((IntKind.u64.wrap (wrap64 ((l0.length : Int) - bt120.2))) < (IntKind.u64.wrap (bt120.1 + 4)))))))) = some (r1, r2, r3) := h
  clear h
  replace H := Option.bind_eq_some_iff.mp H
  obtain ⟨⟨t120, t121⟩, A20, H⟩ := H
  replace H : (if t121 = 0 then (crc_Unframe_p.j0 k l0 t120 t121 true) else (if t120 > 1048576 then (crc_Unframe_p.j0 k l0 t120 t121 true) else (crc_Unframe_p.j0 k l0 t120 t121 (decide ((IntKind.u64.wrap (wrap64 ((l0.length : Int) - t121))) < (IntKind.u64.wrap (t120 + 4))))))) = some (r1, r2, r3) := H
  have A2 := Aside0.mk A20
  clear A20
  have HC3 := Aside0.mk H
  clear H
  go_enter Try.func12, Try.ntmps12
  go_upto_region 2 with (first | ((with_reducible refine gate_callee (f := 18) rfl ?_); refine goesL_ (some 10) rfl rfl Try.func18 (by kernel_rfl) rfl #[.slice A0 l0.length c0] rfl (by (try simp only [List.map_toArray, List.map_cons, List.map_nil]); first | done | rfl | (simp only [List.length_drop, List.length_take]; rfl)) ?_; (with_reducible refine (num_Var.calls _ _ l0 t120 t121 _ ?side1 ?side2 A2.out).mono ?_); (case side1 => repeat (first | exact HR0.out | (with_reducible refine Kd.C_alloc ?_ _) | (with_reducible refine Kd.C_drewN ?_ _) | (with_reducible refine Kd.C_drew ?_))); (case side2 => exact HC0.out); rintro e w' ⟨rfl, ⟨nd, rfl⟩⟩; refine ⟨_, rfl, ?_⟩))
  (try simp only [Act.put, List.setIfInBounds_toArray, List.set_cons_zero, List.set_cons_succ])
  go_cut [28] (fun v28 wc => ∃ (kq : Nat) (x28_2 : Bool), v28 = .bool x28_2 ∧ Aside0 (crc_Unframe_p.j0 kq l0 t120 t121 x28_2 = some (r1, r2, r3)) ∧ Aside0 (kq ≤ k) ∧ Aside0 (Below w.heap.size w wc))
  case first =>
    have H := HC3.out
    clear HC3
    by_cases c4 : t121 = 0
    · rw [if_pos c4] at H
      have c4b0 : (t121 == 0) = true := beq_iff_eq.mpr c4
      have c4b1 : (t121 != 0) = false := bne_eq_false_iff_eq.mpr c4
      clear c4
      (first | rw [c4b0] | (simp only [i64_w, i32_w]; rw [c4b0]) | skip)
      have H' := Aside0.mk H
      clear H
      go_wp2
      go_meet
      case rel => exact ⟨_, (true), (by first | rfl | (simp; done) | (simp [*]; done)), H', ⟨by first | omega | exact Nat.le_refl _⟩, ⟨by repeat (first | (with_reducible first | exact HB.out | apply below_alloc | apply pw_below_drewN | apply below_drew1) | exact HB.out)⟩⟩
    · rw [if_neg c4] at H
      have c4b0 : (t121 == 0) = false := beq_eq_false_iff_ne.mpr c4
      have c4b1 : (t121 != 0) = true := bne_iff_ne.mpr c4
      (first | rw [c4b0] | (simp only [i64_w, i32_w]; rw [c4b0]) | skip)
      by_cases c5 : t120 > 1048576
      · rw [if_pos c5] at H
        have c5b0 : decide (1048576 < t120) = true := decide_eq_true c5
        clear c5
        have H' := Aside0.mk H
        clear H
        go_wp2
        go_meet
        case rel => exact ⟨_, (true), (by first | rfl | (simp; done) | (simp [*]; done)), H', ⟨by first | omega | exact Nat.le_refl _⟩, ⟨by repeat (first | (with_reducible first | exact HB.out | apply below_alloc | apply pw_below_drewN | apply below_drew1) | exact HB.out)⟩⟩
      · rw [if_neg c5] at H
        have c5b0 : decide (1048576 < t120) = false := decide_eq_false c5
        clear c5
        have H' := Aside0.mk H
        clear H
        go_wp2
        go_meet
        case rel => exact ⟨_, (decide ((IntKind.u64.wrap (wrap64 ((l0.length : Int) - t121))) < (IntKind.u64.wrap (t120 + 4)))), (by first | rfl | (simp; done) | (simp [*]; done)), H', ⟨by first | omega | exact Nat.le_refl _⟩, ⟨by repeat (first | (with_reducible first | exact HB.out | apply below_alloc | apply pw_below_drewN | apply below_drew1) | exact HB.out)⟩⟩
  case rest =>
    clear HC3
    try clear c1
    try clear p2
    try clear c4
    try clear c4b0
    try clear c4b1
    try clear c5
    try clear c5b0
    obtain ⟨kq, x28_2, rfl, HA, HJ2, HB⟩ := hcut
    cases kq with
    | zero => exact absurd HA.out (by simp [crc_Unframe_p.j0])
    | succ kj2 =>
      have H := HA.out
      clear HA
      simp only [crc_Unframe_p.j0] at H
      by_cases c6 : x28_2 = true
      · subst c6
        have H1 : (some (([] : List Int), 0, 10)) = some (r1, r2, r3) := by rw [if_pos rfl] at H; exact H
        clear H
        have H := H1
        clear H1
        simp only [Option.some.injEq, Prod.mk.injEq] at H
        obtain ⟨rfl, rfl, rfl⟩ := H
        go_wp2
        go_ret3
        exact ⟨_, by first | rfl | (simp [errW_none, errW_some] <;> rfl) | (simp [*, errW_none, errW_some] <;> rfl), by first | exact Kd.R_nil _ _ _ _ _ | exact Kd.N_nil _ _ _ _ _ | exact Kd.V_nil _ _ _ _ _ | exact Kd.Q_nil _ _ _ _ _ | exact Kd.S_nil _ _ _ _ _, by repeat (first | (with_reducible first | exact HB.out | apply below_alloc | apply pw_below_drewN | apply below_drew1) | exact HB.out)⟩
      · replace c6 := Bool.eq_false_iff.mpr c6
        subst c6
        have H1 : (if 0 ≤ (wrap64 (t121 + 4)) then (if (wrap64 (t121 + 4)) ≤ (wrap64 ((wrap64 (t121 + 4)) + (wrap64 (t120)))) then (if (wrap64 ((wrap64 (t121 + 4)) + (wrap64 (t120)))) ≤ (l0.length : Int) then ((crc_Sum.f ((l0.take ((wrap64 ((wrap64 (t121 + 4)) + (wrap64 (t120)))) : Int).toNat).drop ((wrap64 (t121 + 4)) : Int).toNat)).bind fun t123 => ((crc_bytes.f t123).bind fun t124 => (if 0 ≤ t121 then (if t121 ≤ (wrap64 (t121 + 4)) then (if (wrap64 (t121 + 4)) ≤ (l0.length : Int) then ((slices_Equal_byte_byte.f t124 ((l0.take ((wrap64 (t121 + 4)) : Int).toNat).drop (t121 : Int).toNat)).bind fun t128 => (if t128 = true then ((slices_Clone_byte_byte.f ((l0.take ((wrap64 ((wrap64 (t121 + 4)) + (wrap64 (t120)))) : Int).toNat).drop ((wrap64 (t121 + 4)) : Int).toNat)).bind fun t130 => (some (t130, wrap64 ((wrap64 (t121 + 4)) + (wrap64 (t120))), 0))) else (some (([] : List Int), 0, 11)))) else (none)) else (none)) else (none)))) else (none)) else (none)) else (none)) = some (r1, r2, r3) := by rw [if_neg (show ¬ (false = true) by decide)] at H; exact H
        clear H
        have H := H1
        clear H1
        obtain ⟨ji7, hji7⟩ : ∃ j_ : Int, (wrap64 (t121 + 4)) = j_ := ⟨_, rfl⟩
        replace H : (if 0 ≤ (ji7) then (if (ji7) ≤ (wrap64 ((ji7) + (wrap64 (t120)))) then (if (wrap64 ((ji7) + (wrap64 (t120)))) ≤ (l0.length : Int) then ((crc_Sum.f ((l0.take ((wrap64 ((ji7) + (wrap64 (t120)))) : Int).toNat).drop ((ji7) : Int).toNat)).bind fun t123 => ((crc_bytes.f t123).bind fun t124 => (if 0 ≤ t121 then (if t121 ≤ (ji7) then (if (ji7) ≤ (l0.length : Int) then ((slices_Equal_byte_byte.f t124 ((l0.take ((ji7) : Int).toNat).drop (t121 : Int).toNat)).bind fun t128 => (if t128 = true then ((slices_Clone_byte_byte.f ((l0.take ((wrap64 ((ji7) + (wrap64 (t120)))) : Int).toNat).drop ((ji7) : Int).toNat)).bind fun t130 => (some (t130, wrap64 ((ji7) + (wrap64 (t120))), 0))) else (some (([] : List Int), 0, 11)))) else (none)) else (none)) else (none)))) else (none)) else (none)) else (none)) = some (r1, r2, r3) := by first | (rw [hji7] at H; exact H) | (simp only [hji7] at H ⊢; exact H)
        have hji7w : (IntKind.i64.wrap (t121 + 4)) = ji7 := (i64_w _).trans hji7
        by_cases c8 : 0 ≤ (ji7)
        · rw [if_pos c8] at H
          have c8b0 := eq_true c8
          have c8b1 : decide (0 ≤ (ji7)) = true := decide_eq_true c8
          clear c8
          by_cases c9 : (ji7) ≤ (wrap64 ((ji7) + (wrap64 (t120))))
          · rw [if_pos c9] at H
            have c9b0 := eq_true c9
            have c9b1 : decide ((ji7) ≤ (wrap64 ((ji7) + (wrap64 (t120))))) = true := decide_eq_true c9
            by_cases c10 : (wrap64 ((ji7) + (wrap64 (t120)))) ≤ (l0.length : Int)
            · rw [if_pos c10] at H
              have c10b0 := eq_true c10
              have c10b1 : decide ((wrap64 ((ji7) + (wrap64 (t120)))) ≤ (l0.length : Int)) = true := decide_eq_true c10
              replace H := Option.bind_eq_some_iff.mp H
              obtain ⟨t123, A110, H⟩ := H
              replace H : ((crc_bytes.f t123).bind fun t124 => (if 0 ≤ t121 then (if t121 ≤ (ji7) then (if (ji7) ≤ (l0.length : Int) then ((slices_Equal_byte_byte.f t124 ((l0.take ((ji7) : Int).toNat).drop (t121 : Int).toNat)).bind fun t128 => (if t128 = true then ((slices_Clone_byte_byte.f ((l0.take ((wrap64 ((ji7) + (wrap64 (t120)))) : Int).toNat).drop ((ji7) : Int).toNat)).bind fun t130 => (some (t130, wrap64 ((ji7) + (wrap64 (t120))), 0))) else (some (([] : List Int), 0, 11)))) else (none)) else (none)) else (none))) = some (r1, r2, r3) := H
              have A11 := Aside0.mk A110
              clear A110
              replace H := Option.bind_eq_some_iff.mp H
              obtain ⟨t124, A120, H⟩ := H
              replace H : (if 0 ≤ t121 then (if t121 ≤ (ji7) then (if (ji7) ≤ (l0.length : Int) then ((slices_Equal_byte_byte.f t124 ((l0.take ((ji7) : Int).toNat).drop (t121 : Int).toNat)).bind fun t128 => (if t128 = true then ((slices_Clone_byte_byte.f ((l0.take ((wrap64 ((ji7) + (wrap64 (t120)))) : Int).toNat).drop ((ji7) : Int).toNat)).bind fun t130 => (some (t130, wrap64 ((ji7) + (wrap64 (t120))), 0))) else (some (([] : List Int), 0, 11)))) else (none)) else (none)) else (none)) = some (r1, r2, r3) := H
              have A12 := Aside0.mk A120
              clear A120
              by_cases c13 : 0 ≤ t121
              · rw [if_pos c13] at H
                have c13b0 := eq_true c13
                have c13b1 : decide (0 ≤ t121) = true := decide_eq_true c13
                clear c13
                by_cases c14 : t121 ≤ (ji7)
                · rw [if_pos c14] at H
                  have c14b0 := eq_true c14
                  have c14b1 : decide (t121 ≤ (ji7)) = true := decide_eq_true c14
                  clear c14
                  by_cases c15 : (ji7) ≤ (l0.length : Int)
                  · rw [if_pos c15] at H
                    have c15b0 := eq_true c15
                    have c15b1 : decide ((ji7) ≤ (l0.length : Int)) = true := decide_eq_true c15
                    clear c15
                    replace H := Option.bind_eq_some_iff.mp H
                    obtain ⟨t128, A160, H⟩ := H
                    replace H : (if t128 = true then ((slices_Clone_byte_byte.f ((l0.take ((wrap64 ((ji7) + (wrap64 (t120)))) : Int).toNat).drop ((ji7) : Int).toNat)).bind fun t130 => (some (t130, wrap64 ((ji7) + (wrap64 (t120))), 0))) else (some (([] : List Int), 0, 11))) = some (r1, r2, r3) := H
                    have A16 := Aside0.mk A160
                    clear A160
                    by_cases c17 : t128 = true
                    · subst c17
                      have H1 : ((slices_Clone_byte_byte.f ((l0.take ((wrap64 ((ji7) + (wrap64 (t120)))) : Int).toNat).drop ((ji7) : Int).toNat)).bind fun t130 => (some (t130, wrap64 ((ji7) + (wrap64 (t120))), 0))) = some (r1, r2, r3) := by rw [if_pos rfl] at H; exact H
                      clear H
                      have H := H1
                      clear H1
                      have c18b0 := eq_true (of_decide_eq_true (by first | (with_reducible assumption) | assumption) : 0 ≤ (ji7))
                      have c19b0 := eq_true (of_decide_eq_true (by first | (with_reducible assumption) | assumption) : (ji7) ≤ (wrap64 ((ji7) + (wrap64 (t120)))))
                      have c20b0 := eq_true (of_decide_eq_true (by first | (with_reducible assumption) | assumption) : (wrap64 ((ji7) + (wrap64 (t120)))) ≤ (l0.length : Int))
                      replace H := Option.bind_eq_some_iff.mp H
                      obtain ⟨t130, A210, H⟩ := H
                      replace H : (some (t130, wrap64 ((ji7) + (wrap64 (t120))), 0)) = some (r1, r2, r3) := H
                      have A21 := Aside0.mk A210
                      clear A210
                      simp only [Option.some.injEq, Prod.mk.injEq] at H
                      obtain ⟨rfl, rfl, rfl⟩ := H
                      try go_wp2
                      have n0_ := Aside0.mk (below_drew1 HB.out)
                      clear HB
                      have HB := n0_
                      clear n0_
                      obtain ⟨i023, hi023, _, hsz23, _⟩ := info_parts info5
                      obtain ⟨A23, hcut23, hA23, hC23⟩ := print_mid_of (P := Try.prog) (Value.int .u8) 0 22 5 .i64 .i64 Try.underlying22 hi023 hsz23 A0 c0 l0 (ji7) (wrap64 ((ji7) + (wrap64 (t120)))) (of_decide_eq_true (by first | (with_reducible assumption) | assumption)) (by first | omega | exact of_decide_eq_true (by first | (with_reducible assumption) | assumption)) (of_decide_eq_true (by first | (with_reducible assumption) | assumption)) HC0.out
                      have HR122 := Aside0.mk (Kd.C_of_reads (h1 := fun _ => rfl) (hA23 _ (Kd.reads_of_C HR0.out)))
                      have HC122 := Aside0.mk hC23
                      clear hA23 hC23 hi023 hsz23
                      obtain ⟨i024, hi024, _, hsz24, _⟩ := info_parts info5
                      obtain ⟨A24, hcut24, hA24, hC24⟩ := print_mid_of (P := Try.prog) (Value.int .u8) 0 22 5 .i64 .i64 Try.underlying22 hi024 hsz24 A0 c0 l0 t121 (ji7) (of_decide_eq_true (by first | (with_reducible assumption) | assumption)) (by first | omega | exact of_decide_eq_true (by first | (with_reducible assumption) | assumption)) (of_decide_eq_true (by first | (with_reducible assumption) | assumption)) HC0.out
                      have HR127 := Aside0.mk (Kd.C_of_reads (h1 := fun _ => rfl) (hA24 _ (Kd.reads_of_C HR0.out)))
                      have HC127 := Aside0.mk hC24
                      clear hA24 hC24 hi024 hsz24
                      refine start_ (n := 14) (S := fun w' => True) (ds := []) #[false, false, false, false, false, false, false, false, false, false, false, false, false, false] (by kernel_rfl) rfl rfl trivial (fun hHeld => ?_); refine with_tabW crc_Unframe_p.tab5 crc_Unframe_p.bits5 (fun HT_ HW_ => ?_)
                      generalize wc.drew = w22 at HB HR122 HR127 hHeld ⊢
                      refine pure_ (i := 0) (N := some 34) (v := ?_) (a' := ?_) #[true, false, false, false, false, false, false, false, false, false, false, false, false, false] rfl rfl (any_of HT_.out (by kernel_rfl)) (fun _ _ _ h => h) (Or.inl ⟨by rfl, ?_⟩) ?_ ?_
                      rotate_left
                      · intro w'
                        go_simp
                        with_reducible rfl
                      rotate_left
                      · simp only [Act.put, List.setIfInBounds_toArray, List.set_cons_zero, List.set_cons_succ, i64_w, i32_w]
                        rfl
                      refine pure_ (i := 1) (N := some 35) (v := ?_) (a' := ?_) #[true, true, false, false, false, false, false, false, false, false, false, false, false, false] rfl rfl (any_of HT_.out (by kernel_rfl)) (fun _ _ _ h => h) (Or.inl ⟨by rfl, ?_⟩) ?_ ?_
                      rotate_left
                      · intro w'
                        go_simp
                        with_reducible rfl
                      rotate_left
                      · simp only [Act.put, List.setIfInBounds_toArray, List.set_cons_zero, List.set_cons_succ, i64_w, i32_w]
                        rfl
                      refine pure_ (i := 2) (N := some 36) (v := ?_) (a' := ?_) #[true, true, true, false, false, false, false, false, false, false, false, false, false, false] rfl rfl (any_of HT_.out (by kernel_rfl)) (fun _ _ _ h => h) (Or.inl ⟨by rfl, ?_⟩) ?_ ?_
                      rotate_left
                      · intro w'
                        go_simp
                        with_reducible rfl
                      rotate_left
                      · simp only [Act.put, List.setIfInBounds_toArray, List.set_cons_zero, List.set_cons_succ, i64_w, i32_w]
                        rfl
                      refine pure_ (i := 3) (N := some 37) (v := ?_) (a' := ?_) #[true, true, true, true, false, false, false, false, false, false, false, false, false, false] rfl rfl (any_of HT_.out (by kernel_rfl)) (fun _ _ _ h => h) (Or.inl ⟨by rfl, ?_⟩) ?_ ?_
                      rotate_left
                      · intro w'
                        go_simp
                        with_reducible rfl
                      rotate_left
                      · simp only [Act.put, List.setIfInBounds_toArray, List.set_cons_zero, List.set_cons_succ, i64_w, i32_w]
                        rfl
                      refine pure_ (i := 4) (N := some 38) (v := ?_) (a' := ?_) #[true, true, true, true, true, false, false, false, false, false, false, false, false, false] rfl rfl (any_of HT_.out (by kernel_rfl)) (fun _ _ _ h => h) (Or.inl ⟨by rfl, ?_⟩) ?_ ?_
                      rotate_left
                      · intro w'
                        go_simp
                        with_reducible rfl
                      rotate_left
                      · simp only [Act.put, List.setIfInBounds_toArray, List.set_cons_zero, List.set_cons_succ, i64_w, i32_w]
                        rfl
                      refine pure_ (i := 7) (N := some 41) (v := ?_) (a' := ?_) #[true, true, true, true, true, false, false, true, false, false, false, false, false, false] rfl rfl (any_of HT_.out (by kernel_rfl)) (fun _ _ _ h => h) (Or.inl ⟨by rfl, ?_⟩) ?_ ?_
                      rotate_left
                      · intro w'
                        go_simp
                        with_reducible rfl
                      rotate_left
                      · simp only [Act.put, List.setIfInBounds_toArray, List.set_cons_zero, List.set_cons_succ, i64_w, i32_w]
                        rfl
                      refine pure_ (i := 8) (N := some 42) (v := ?_) (a' := ?_) #[true, true, true, true, true, false, false, true, true, false, false, false, false, false] rfl rfl (any_of HT_.out (by kernel_rfl)) (fun _ _ _ h => h) (Or.inl ⟨by rfl, ?_⟩) ?_ ?_
                      rotate_left
                      · intro w'
                        go_simp
                        with_reducible rfl
                      rotate_left
                      · simp only [Act.put, List.setIfInBounds_toArray, List.set_cons_zero, List.set_cons_succ, i64_w, i32_w]
                        rfl
                      refine pure_ (i := 9) (N := some 43) (v := ?_) (a' := ?_) #[true, true, true, true, true, false, false, true, true, true, false, false, false, false] rfl rfl (any_of HT_.out (by kernel_rfl)) (fun _ _ _ h => h) (Or.inl ⟨by rfl, ?_⟩) ?_ ?_
                      rotate_left
                      · intro w'
                        go_simp
                        with_reducible rfl
                      rotate_left
                      · simp only [Act.put, List.setIfInBounds_toArray, List.set_cons_zero, List.set_cons_succ, i64_w, i32_w]
                        rfl
                      refine pure_ (i := 10) (N := some 44) (v := ?_) (a' := ?_) #[true, true, true, true, true, false, false, true, true, true, true, false, false, false] rfl rfl (any_of HT_.out (by kernel_rfl)) (fun _ _ _ h => h) (Or.inl ⟨by rfl, ?_⟩) ?_ ?_
                      rotate_left
                      · intro w'
                        go_simp
                        with_reducible rfl
                      rotate_left
                      · simp only [Act.put, List.setIfInBounds_toArray, List.set_cons_zero, List.set_cons_succ, i64_w, i32_w]
                        rfl
                      refine pure_ (i := 11) (N := some 45) (v := ?_) (a' := ?_) #[true, true, true, true, true, false, false, true, true, true, true, true, false, false] rfl rfl (any_of HT_.out (by kernel_rfl)) (fun _ _ _ h => h) (Or.inl ⟨by rfl, ?_⟩) ?_ ?_
                      rotate_left
                      · intro w'
                        go_simp
                        with_reducible rfl
                      rotate_left
                      · simp only [Act.put, List.setIfInBounds_toArray, List.set_cons_zero, List.set_cons_succ, i64_w, i32_w]
                        rfl
                      refine one_ (i := 5) (N := some 39) #[true, true, true, true, true, true, false, true, true, true, true, true, false, false] rfl rfl (one_of HT_.out (by kernel_rfl)) (by decide) (fun K hK => ?_)
                      refine goes_ Try.func10 (by kernel_rfl) rfl #[.slice A23 ((l0.take ((wrap64 ((ji7) + (wrap64 (t120)))) : Int).toNat).drop ((ji7) : Int).toNat).length (c0 - (ji7).toNat)] (by rfl) rfl rfl (by (try simp only [List.map_toArray, List.map_cons, List.map_nil]); first | done | (rw [show ((l0.take ((wrap64 ((ji7) + (wrap64 (t120)))) : Int).toNat).drop ((ji7) : Int).toNat).length = ((wrap64 ((ji7) + (wrap64 (t120)))).toNat - (ji7).toNat) from (by rw [List.length_drop, List.length_take]; have h_ : ((wrap64 ((ji7) + (wrap64 (t120)))) : Int) ≤ (l0.length : Int) := of_decide_eq_true (by first | (with_reducible assumption) | assumption); omega)] <;> rfl) | (simp only [hji7]; rfl) | rfl | (simp only [List.length_drop, List.length_take]; rfl)) ?_
                      with_reducible refine (crc_Sum.calls _ _ ((l0.take ((wrap64 ((ji7) + (wrap64 (t120)))) : Int).toNat).drop ((ji7) : Int).toNat) t123 _ ?side1 ?side2 A11.out).mono ?_
                      (case side1 => repeat (first | exact (Kd.C_below HR122.out HB.out) | (with_reducible refine Kd.C_alloc ?_ _) | (with_reducible refine Kd.C_drewN ?_ _) | (with_reducible refine Kd.C_drew ?_)))
                      (case side2 => exact HC122.out)
                      rintro e w' ⟨rfl, ⟨nd, rfl⟩⟩
                      refine ⟨_, rfl, ?_⟩
                      refine hK.out _ _ trivial (fun hHeld => ?_)
                      clear hK K
                      refine norm_ (a' := ?_) ?_ ?_
                      rotate_left
                      · show Act.put _ (some 39) _ = _
                        simp only [Act.put, List.setIfInBounds_toArray, List.set_cons_zero, List.set_cons_succ, i64_w, i32_w]
                        rfl
                      refine one_ (i := 6) (N := some 40) #[true, true, true, true, true, true, true, true, true, true, true, true, false, false] rfl rfl (one_of HT_.out (by kernel_rfl)) (by decide) (fun K hK => ?_)
                      refine goes_ Try.func20 (by kernel_rfl) rfl #[.int .u32 t123] (by rfl) rfl rfl (by (try simp only [List.map_toArray, List.map_cons, List.map_nil]); first | done | rfl | (simp only [List.length_drop, List.length_take]; rfl)) ?_
                      with_reducible refine (crc_bytes.calls t123 t124 _ A12.out).mono ?_
                      rintro e w25 ⟨v125, rfl, ho0, hb⟩
                      refine ⟨_, rfl, ?_⟩
                      have n0_ := Aside0.mk (Kd.V_lower (Kd.V_mono (ok' := fun k_ => True) ho0 (fun k_ hk_ => trivial)) (below_size (by repeat (first | (with_reducible first | exact HB.out | apply below_alloc | apply pw_below_drewN | apply below_drew1) | exact HB.out))))
                      have n1_ := Aside0.mk (below_step (by repeat (first | (with_reducible first | exact HB.out | apply below_alloc | apply pw_below_drewN | apply below_drew1) | exact HB.out)) hb)
                      clear HB
                      have HO126 := n0_
                      have HB := n1_
                      clear n0_ n1_
                      (try clear hb)
                      (try clear hb2)
                      (try clear hk)
                      (try clear hi)
                      (try clear ho0)
                      obtain ⟨Ao26, co26, eo26⟩ := Kd.V_slice HO126.out
                      (first | subst eo26 | (injection eo26 with f1_ f2_ f3_; have f4_ := f1_.symm; have f5_ := f3_.symm; clear f1_ f2_ f3_; subst f4_; subst f5_))
                      refine hK.out _ _ trivial (fun hHeld => ?_)
                      clear hK K
                      refine norm_ (a' := ?_) ?_ ?_
                      rotate_left
                      · show Act.put _ (some 40) _ = _
                        simp only [Act.put, List.setIfInBounds_toArray, List.set_cons_zero, List.set_cons_succ, i64_w, i32_w]
                        rfl
                      refine one_ (i := 12) (N := some 46) #[true, true, true, true, true, true, true, true, true, true, true, true, true, false] rfl rfl (one_of HT_.out (by kernel_rfl)) (by decide) (fun K hK => ?_)
                      refine goes_ Try.func19 (by kernel_rfl) rfl #[.slice Ao26 t124.length co26, .slice A24 ((l0.take ((ji7) : Int).toNat).drop (t121 : Int).toNat).length (c0 - t121.toNat)] (by rfl) rfl rfl (by (try simp only [List.map_toArray, List.map_cons, List.map_nil]); first | done | (rw [show ((l0.take ((ji7) : Int).toNat).drop (t121 : Int).toNat).length = ((ji7).toNat - t121.toNat) from (by rw [List.length_drop, List.length_take]; have h_ : ((ji7) : Int) ≤ (l0.length : Int) := of_decide_eq_true (by first | (with_reducible assumption) | assumption); omega)] <;> rfl) | (simp only [hji7]; rfl) | rfl | (simp only [List.length_drop, List.length_take]; rfl)) ?_
                      with_reducible refine (slices_Equal_byte_byte.calls _ _ t124 _ _ ((l0.take ((ji7) : Int).toNat).drop (t121 : Int).toNat) true _ ?side1 ?side2 ?side3 ?side4 A16.out).mono ?_
                      (case side1 => repeat (first | exact (Kd.V_reads' HO126.out).2.2 | (with_reducible refine Kd.C_alloc ?_ _) | (with_reducible refine Kd.C_drewN ?_ _) | (with_reducible refine Kd.C_drew ?_)))
                      (case side2 => exact (Kd.V_reads' HO126.out).2.1)
                      (case side3 => repeat (first | exact (Kd.C_below HR127.out HB.out) | (with_reducible refine Kd.C_alloc ?_ _) | (with_reducible refine Kd.C_drewN ?_ _) | (with_reducible refine Kd.C_drew ?_)))
                      (case side4 => exact HC127.out)
                      rintro e w' ⟨rfl, ⟨nd, rfl⟩⟩
                      refine ⟨_, rfl, ?_⟩
                      refine hK.out _ _ trivial (fun hHeld => ?_)
                      clear hK K
                      refine norm_ (a' := ?_) ?_ ?_
                      rotate_left
                      · show Act.put _ (some 46) _ = _
                        simp only [Act.put, List.setIfInBounds_toArray, List.set_cons_zero, List.set_cons_succ, i64_w, i32_w]
                        rfl
                      refine pure_ (i := 13) (N := some 47) (v := ?_) (a' := ?_) #[true, true, true, true, true, true, true, true, true, true, true, true, true, true] rfl rfl (any_of HT_.out (by kernel_rfl)) (fun _ _ _ h => h) (Or.inl ⟨by rfl, ?_⟩) ?_ ?_
                      rotate_left
                      · intro w'
                        go_simp
                        with_reducible rfl
                      rotate_left
                      · simp only [Act.put, List.setIfInBounds_toArray, List.set_cons_zero, List.set_cons_succ, i64_w, i32_w]
                        rfl
                      refine done_ (done_of HT_.out (by kernel_rfl)) ?_
                      obtain ⟨i027, hi027, _, hsz27, _⟩ := info_parts info5
                      (try clear hcut23)
                      obtain ⟨A27, hcut27, hA27, hC27⟩ := print_mid_of (P := Try.prog) (Value.int .u8) 0 22 5 .i64 .i64 Try.underlying22 hi027 hsz27 A0 c0 l0 (ji7) (wrap64 ((ji7) + (wrap64 (t120)))) (of_decide_eq_true (by first | (with_reducible assumption) | assumption)) (by first | omega | exact of_decide_eq_true (by first | (with_reducible assumption) | assumption)) (of_decide_eq_true (by first | (with_reducible assumption) | assumption)) HC0.out
                      have HR129 := Aside0.mk (Kd.C_of_reads (h1 := fun _ => rfl) (hA27 _ (Kd.reads_of_C HR0.out)))
                      have HC129 := Aside0.mk hC27
                      clear hA27 hC27 hi027 hsz27
                      try go_wp2_with (first | ((with_reducible refine gate_callee (f := 21) rfl ?_); refine goesL_ (some 53) rfl rfl Try.func21 (by kernel_rfl) rfl #[.slice A27 ((l0.take ((wrap64 ((ji7) + (wrap64 (t120)))) : Int).toNat).drop ((ji7) : Int).toNat).length (c0 - (ji7).toNat)] rfl (by (try simp only [List.map_toArray, List.map_cons, List.map_nil]); first | done | (rw [show ((l0.take ((wrap64 ((ji7) + (wrap64 (t120)))) : Int).toNat).drop ((ji7) : Int).toNat).length = ((wrap64 ((ji7) + (wrap64 (t120)))).toNat - (ji7).toNat) from (by rw [List.length_drop, List.length_take]; have h_ : ((wrap64 ((ji7) + (wrap64 (t120)))) : Int) ≤ (l0.length : Int) := of_decide_eq_true (by first | (with_reducible assumption) | assumption); omega)] <;> rfl) | (simp only [hji7]; rfl) | rfl | (simp only [List.length_drop, List.length_take]; rfl)) ?_; (with_reducible refine (slices_Clone_byte_byte.calls _ _ ((l0.take ((wrap64 ((ji7) + (wrap64 (t120)))) : Int).toNat).drop ((ji7) : Int).toNat) t130 _ ?side1 ?side2 A21.out).mono ?_); (case side1 => repeat (first | exact (Kd.C_below HR129.out (by repeat (first | (with_reducible first | exact HB.out | apply below_alloc | apply pw_below_drewN | apply below_drew1) | exact HB.out))) | (with_reducible refine Kd.C_alloc ?_ _) | (with_reducible refine Kd.C_drewN ?_ _) | (with_reducible refine Kd.C_drew ?_))); (case side2 => exact HC129.out); rintro e w28 ⟨v131, rfl, ho0, hb⟩; refine ⟨_, rfl, ?_⟩; have n0_ := Aside0.mk (Kd.V_elder' (by (with_reducible repeat (first | apply Kd.V_alloc | apply Kd.V_drewN | apply Kd.V_drew)); exact HO126.out) (Kd.R_base ho0) hb); have n1_ := Aside0.mk (Kd.R_lower ho0 (below_size (by repeat (first | (with_reducible first | exact HB.out | apply below_alloc | apply pw_below_drewN | apply below_drew1) | exact HB.out)))); have n2_ := Aside0.mk (below_step (by repeat (first | (with_reducible first | exact HB.out | apply below_alloc | apply pw_below_drewN | apply below_drew1) | exact HB.out)) hb); clear HO126; clear HB; have HO126 := n0_; have HO132 := n1_; have HB := n2_; clear n0_ n1_ n2_; (try clear hb); (try clear hb2); (try clear hk); (try clear hi); (try clear ho0)))
                      go_ret3
                      exact ⟨_, by first | rfl | (simp [errW_none, errW_some] <;> rfl) | (simp only [← hji7]; first | rfl | (simp [errW_none, errW_some] <;> rfl)) | (simp [*, errW_none, errW_some] <;> rfl), by (with_reducible repeat (first | apply Kd.R_alloc | apply Kd.R_drewN | apply Kd.R_drew)); exact HO132.out, by repeat (first | (with_reducible first | exact HB.out | apply below_alloc | apply pw_below_drewN | apply below_drew1) | exact HB.out)⟩
                    · replace c17 := Bool.eq_false_iff.mpr c17
                      subst c17
                      have H1 : (some (([] : List Int), 0, 11)) = some (r1, r2, r3) := by rw [if_neg (show ¬ (false = true) by decide)] at H; exact H
                      clear H
                      have H := H1
                      clear H1
                      simp only [Option.some.injEq, Prod.mk.injEq] at H
                      obtain ⟨rfl, rfl, rfl⟩ := H
                      try go_wp2
                      have n0_ := Aside0.mk (below_drew1 HB.out)
                      clear HB
                      have HB := n0_
                      clear n0_
                      obtain ⟨i030, hi030, _, hsz30, _⟩ := info_parts info5
                      (try clear hcut23); (try clear hcut27)
                      obtain ⟨A30, hcut30, hA30, hC30⟩ := print_mid_of (P := Try.prog) (Value.int .u8) 0 22 5 .i64 .i64 Try.underlying22 hi030 hsz30 A0 c0 l0 (ji7) (wrap64 ((ji7) + (wrap64 (t120)))) (of_decide_eq_true (by first | (with_reducible assumption) | assumption)) (by first | omega | exact of_decide_eq_true (by first | (with_reducible assumption) | assumption)) (of_decide_eq_true (by first | (with_reducible assumption) | assumption)) HC0.out
                      have HR122 := Aside0.mk (Kd.C_of_reads (h1 := fun _ => rfl) (hA30 _ (Kd.reads_of_C HR0.out)))
                      have HC122 := Aside0.mk hC30
                      clear hA30 hC30 hi030 hsz30
                      obtain ⟨i031, hi031, _, hsz31, _⟩ := info_parts info5
                      (try clear hcut24)
                      obtain ⟨A31, hcut31, hA31, hC31⟩ := print_mid_of (P := Try.prog) (Value.int .u8) 0 22 5 .i64 .i64 Try.underlying22 hi031 hsz31 A0 c0 l0 t121 (ji7) (of_decide_eq_true (by first | (with_reducible assumption) | assumption)) (by first | omega | exact of_decide_eq_true (by first | (with_reducible assumption) | assumption)) (of_decide_eq_true (by first | (with_reducible assumption) | assumption)) HC0.out
                      have HR127 := Aside0.mk (Kd.C_of_reads (h1 := fun _ => rfl) (hA31 _ (Kd.reads_of_C HR0.out)))
                      have HC127 := Aside0.mk hC31
                      clear hA31 hC31 hi031 hsz31
                      refine start_ (n := 14) (S := fun w' => True) (ds := []) #[false, false, false, false, false, false, false, false, false, false, false, false, false, false] (by kernel_rfl) rfl rfl trivial (fun hHeld => ?_); refine with_tabW crc_Unframe_p.tab5 crc_Unframe_p.bits5 (fun HT_ HW_ => ?_)
                      generalize wc.drew = w29 at HB HR122 HR127 hHeld ⊢
                      refine pure_ (i := 0) (N := some 34) (v := ?_) (a' := ?_) #[true, false, false, false, false, false, false, false, false, false, false, false, false, false] rfl rfl (any_of HT_.out (by kernel_rfl)) (fun _ _ _ h => h) (Or.inl ⟨by rfl, ?_⟩) ?_ ?_
                      rotate_left
                      · intro w'
                        go_simp
                        with_reducible rfl
                      rotate_left
                      · simp only [Act.put, List.setIfInBounds_toArray, List.set_cons_zero, List.set_cons_succ, i64_w, i32_w]
                        rfl
                      refine pure_ (i := 1) (N := some 35) (v := ?_) (a' := ?_) #[true, true, false, false, false, false, false, false, false, false, false, false, false, false] rfl rfl (any_of HT_.out (by kernel_rfl)) (fun _ _ _ h => h) (Or.inl ⟨by rfl, ?_⟩) ?_ ?_
                      rotate_left
                      · intro w'
                        go_simp
                        with_reducible rfl
                      rotate_left
                      · simp only [Act.put, List.setIfInBounds_toArray, List.set_cons_zero, List.set_cons_succ, i64_w, i32_w]
                        rfl
                      refine pure_ (i := 2) (N := some 36) (v := ?_) (a' := ?_) #[true, true, true, false, false, false, false, false, false, false, false, false, false, false] rfl rfl (any_of HT_.out (by kernel_rfl)) (fun _ _ _ h => h) (Or.inl ⟨by rfl, ?_⟩) ?_ ?_
                      rotate_left
                      · intro w'
                        go_simp
                        with_reducible rfl
                      rotate_left
                      · simp only [Act.put, List.setIfInBounds_toArray, List.set_cons_zero, List.set_cons_succ, i64_w, i32_w]
                        rfl
                      refine pure_ (i := 3) (N := some 37) (v := ?_) (a' := ?_) #[true, true, true, true, false, false, false, false, false, false, false, false, false, false] rfl rfl (any_of HT_.out (by kernel_rfl)) (fun _ _ _ h => h) (Or.inl ⟨by rfl, ?_⟩) ?_ ?_
                      rotate_left
                      · intro w'
                        go_simp
                        with_reducible rfl
                      rotate_left
                      · simp only [Act.put, List.setIfInBounds_toArray, List.set_cons_zero, List.set_cons_succ, i64_w, i32_w]
                        rfl
                      refine pure_ (i := 4) (N := some 38) (v := ?_) (a' := ?_) #[true, true, true, true, true, false, false, false, false, false, false, false, false, false] rfl rfl (any_of HT_.out (by kernel_rfl)) (fun _ _ _ h => h) (Or.inl ⟨by rfl, ?_⟩) ?_ ?_
                      rotate_left
                      · intro w'
                        go_simp
                        with_reducible rfl
                      rotate_left
                      · simp only [Act.put, List.setIfInBounds_toArray, List.set_cons_zero, List.set_cons_succ, i64_w, i32_w]
                        rfl
                      refine pure_ (i := 7) (N := some 41) (v := ?_) (a' := ?_) #[true, true, true, true, true, false, false, true, false, false, false, false, false, false] rfl rfl (any_of HT_.out (by kernel_rfl)) (fun _ _ _ h => h) (Or.inl ⟨by rfl, ?_⟩) ?_ ?_
                      rotate_left
                      · intro w'
                        go_simp
                        with_reducible rfl
                      rotate_left
                      · simp only [Act.put, List.setIfInBounds_toArray, List.set_cons_zero, List.set_cons_succ, i64_w, i32_w]
                        rfl
                      refine pure_ (i := 8) (N := some 42) (v := ?_) (a' := ?_) #[true, true, true, true, true, false, false, true, true, false, false, false, false, false] rfl rfl (any_of HT_.out (by kernel_rfl)) (fun _ _ _ h => h) (Or.inl ⟨by rfl, ?_⟩) ?_ ?_
                      rotate_left
                      · intro w'
                        go_simp
                        with_reducible rfl
                      rotate_left
                      · simp only [Act.put, List.setIfInBounds_toArray, List.set_cons_zero, List.set_cons_succ, i64_w, i32_w]
                        rfl
                      refine pure_ (i := 9) (N := some 43) (v := ?_) (a' := ?_) #[true, true, true, true, true, false, false, true, true, true, false, false, false, false] rfl rfl (any_of HT_.out (by kernel_rfl)) (fun _ _ _ h => h) (Or.inl ⟨by rfl, ?_⟩) ?_ ?_
                      rotate_left
                      · intro w'
                        go_simp
                        with_reducible rfl
                      rotate_left
                      · simp only [Act.put, List.setIfInBounds_toArray, List.set_cons_zero, List.set_cons_succ, i64_w, i32_w]
                        rfl
                      refine pure_ (i := 10) (N := some 44) (v := ?_) (a' := ?_) #[true, true, true, true, true, false, false, true, true, true, true, false, false, false] rfl rfl (any_of HT_.out (by kernel_rfl)) (fun _ _ _ h => h) (Or.inl ⟨by rfl, ?_⟩) ?_ ?_
                      rotate_left
                      · intro w'
                        go_simp
                        with_reducible rfl
                      rotate_left
                      · simp only [Act.put, List.setIfInBounds_toArray, List.set_cons_zero, List.set_cons_succ, i64_w, i32_w]
                        rfl
                      refine pure_ (i := 11) (N := some 45) (v := ?_) (a' := ?_) #[true, true, true, true, true, false, false, true, true, true, true, true, false, false] rfl rfl (any_of HT_.out (by kernel_rfl)) (fun _ _ _ h => h) (Or.inl ⟨by rfl, ?_⟩) ?_ ?_
                      rotate_left
                      · intro w'
                        go_simp
                        with_reducible rfl
                      rotate_left
                      · simp only [Act.put, List.setIfInBounds_toArray, List.set_cons_zero, List.set_cons_succ, i64_w, i32_w]
                        rfl
                      refine one_ (i := 5) (N := some 39) #[true, true, true, true, true, true, false, true, true, true, true, true, false, false] rfl rfl (one_of HT_.out (by kernel_rfl)) (by decide) (fun K hK => ?_)
                      refine goes_ Try.func10 (by kernel_rfl) rfl #[.slice A30 ((l0.take ((wrap64 ((ji7) + (wrap64 (t120)))) : Int).toNat).drop ((ji7) : Int).toNat).length (c0 - (ji7).toNat)] (by rfl) rfl rfl (by (try simp only [List.map_toArray, List.map_cons, List.map_nil]); first | done | (rw [show ((l0.take ((wrap64 ((ji7) + (wrap64 (t120)))) : Int).toNat).drop ((ji7) : Int).toNat).length = ((wrap64 ((ji7) + (wrap64 (t120)))).toNat - (ji7).toNat) from (by rw [List.length_drop, List.length_take]; have h_ : ((wrap64 ((ji7) + (wrap64 (t120)))) : Int) ≤ (l0.length : Int) := of_decide_eq_true (by first | (with_reducible assumption) | assumption); omega)] <;> rfl) | (simp only [hji7]; rfl) | rfl | (simp only [List.length_drop, List.length_take]; rfl)) ?_
                      with_reducible refine (crc_Sum.calls _ _ ((l0.take ((wrap64 ((ji7) + (wrap64 (t120)))) : Int).toNat).drop ((ji7) : Int).toNat) t123 _ ?side1 ?side2 A11.out).mono ?_
                      (case side1 => repeat (first | exact (Kd.C_below HR122.out HB.out) | (with_reducible refine Kd.C_alloc ?_ _) | (with_reducible refine Kd.C_drewN ?_ _) | (with_reducible refine Kd.C_drew ?_)))
                      (case side2 => exact HC122.out)
                      rintro e w' ⟨rfl, ⟨nd, rfl⟩⟩
                      refine ⟨_, rfl, ?_⟩
                      refine hK.out _ _ trivial (fun hHeld => ?_)
                      clear hK K
                      refine norm_ (a' := ?_) ?_ ?_
                      rotate_left
                      · show Act.put _ (some 39) _ = _
                        simp only [Act.put, List.setIfInBounds_toArray, List.set_cons_zero, List.set_cons_succ, i64_w, i32_w]
                        rfl
                      refine one_ (i := 6) (N := some 40) #[true, true, true, true, true, true, true, true, true, true, true, true, false, false] rfl rfl (one_of HT_.out (by kernel_rfl)) (by decide) (fun K hK => ?_)
                      refine goes_ Try.func20 (by kernel_rfl) rfl #[.int .u32 t123] (by rfl) rfl rfl (by (try simp only [List.map_toArray, List.map_cons, List.map_nil]); first | done | rfl | (simp only [List.length_drop, List.length_take]; rfl)) ?_
                      with_reducible refine (crc_bytes.calls t123 t124 _ A12.out).mono ?_
                      rintro e w32 ⟨v125, rfl, ho0, hb⟩
                      refine ⟨_, rfl, ?_⟩
                      have n0_ := Aside0.mk (Kd.V_lower (Kd.V_mono (ok' := fun k_ => True) ho0 (fun k_ hk_ => trivial)) (below_size (by repeat (first | (with_reducible first | exact HB.out | apply below_alloc | apply pw_below_drewN | apply below_drew1) | exact HB.out))))
                      have n1_ := Aside0.mk (below_step (by repeat (first | (with_reducible first | exact HB.out | apply below_alloc | apply pw_below_drewN | apply below_drew1) | exact HB.out)) hb)
                      clear HB
                      have HO126 := n0_
                      have HB := n1_
                      clear n0_ n1_
                      (try clear hb)
                      (try clear hb2)
                      (try clear hk)
                      (try clear hi)
                      (try clear ho0)
                      obtain ⟨Ao33, co33, eo33⟩ := Kd.V_slice HO126.out
                      (first | subst eo33 | (injection eo33 with f1_ f2_ f3_; have f4_ := f1_.symm; have f5_ := f3_.symm; clear f1_ f2_ f3_; subst f4_; subst f5_))
                      refine hK.out _ _ trivial (fun hHeld => ?_)
                      clear hK K
                      refine norm_ (a' := ?_) ?_ ?_
                      rotate_left
                      · show Act.put _ (some 40) _ = _
                        simp only [Act.put, List.setIfInBounds_toArray, List.set_cons_zero, List.set_cons_succ, i64_w, i32_w]
                        rfl
                      refine one_ (i := 12) (N := some 46) #[true, true, true, true, true, true, true, true, true, true, true, true, true, false] rfl rfl (one_of HT_.out (by kernel_rfl)) (by decide) (fun K hK => ?_)
                      refine goes_ Try.func19 (by kernel_rfl) rfl #[.slice Ao33 t124.length co33, .slice A31 ((l0.take ((ji7) : Int).toNat).drop (t121 : Int).toNat).length (c0 - t121.toNat)] (by rfl) rfl rfl (by (try simp only [List.map_toArray, List.map_cons, List.map_nil]); first | done | (rw [show ((l0.take ((ji7) : Int).toNat).drop (t121 : Int).toNat).length = ((ji7).toNat - t121.toNat) from (by rw [List.length_drop, List.length_take]; have h_ : ((ji7) : Int) ≤ (l0.length : Int) := of_decide_eq_true (by first | (with_reducible assumption) | assumption); omega)] <;> rfl) | (simp only [hji7]; rfl) | rfl | (simp only [List.length_drop, List.length_take]; rfl)) ?_
                      with_reducible refine (slices_Equal_byte_byte.calls _ _ t124 _ _ ((l0.take ((ji7) : Int).toNat).drop (t121 : Int).toNat) false _ ?side1 ?side2 ?side3 ?side4 A16.out).mono ?_
                      (case side1 => repeat (first | exact (Kd.V_reads' HO126.out).2.2 | (with_reducible refine Kd.C_alloc ?_ _) | (with_reducible refine Kd.C_drewN ?_ _) | (with_reducible refine Kd.C_drew ?_)))
                      (case side2 => exact (Kd.V_reads' HO126.out).2.1)
                      (case side3 => repeat (first | exact (Kd.C_below HR127.out HB.out) | (with_reducible refine Kd.C_alloc ?_ _) | (with_reducible refine Kd.C_drewN ?_ _) | (with_reducible refine Kd.C_drew ?_)))
                      (case side4 => exact HC127.out)
                      rintro e w' ⟨rfl, ⟨nd, rfl⟩⟩
                      refine ⟨_, rfl, ?_⟩
                      refine hK.out _ _ trivial (fun hHeld => ?_)
                      clear hK K
                      refine norm_ (a' := ?_) ?_ ?_
                      rotate_left
                      · show Act.put _ (some 46) _ = _
                        simp only [Act.put, List.setIfInBounds_toArray, List.set_cons_zero, List.set_cons_succ, i64_w, i32_w]
                        rfl
                      refine pure_ (i := 13) (N := some 47) (v := ?_) (a' := ?_) #[true, true, true, true, true, true, true, true, true, true, true, true, true, true] rfl rfl (any_of HT_.out (by kernel_rfl)) (fun _ _ _ h => h) (Or.inl ⟨by rfl, ?_⟩) ?_ ?_
                      rotate_left
                      · intro w'
                        go_simp
                        with_reducible rfl
                      rotate_left
                      · simp only [Act.put, List.setIfInBounds_toArray, List.set_cons_zero, List.set_cons_succ, i64_w, i32_w]
                        rfl
                      refine done_ (done_of HT_.out (by kernel_rfl)) ?_
                      try go_wp2
                      go_ret3
                      exact ⟨_, by first | rfl | (simp [errW_none, errW_some] <;> rfl) | (simp only [← hji7]; first | rfl | (simp [errW_none, errW_some] <;> rfl)) | (simp [*, errW_none, errW_some] <;> rfl), by first | exact Kd.R_nil _ _ _ _ _ | exact Kd.N_nil _ _ _ _ _ | exact Kd.V_nil _ _ _ _ _ | exact Kd.Q_nil _ _ _ _ _ | exact Kd.S_nil _ _ _ _ _, by repeat (first | (with_reducible first | exact HB.out | apply below_alloc | apply pw_below_drewN | apply below_drew1) | exact HB.out)⟩
                  · rw [if_neg c15] at H
                    exact absurd H (by simp)
                · rw [if_neg c14] at H
                  exact absurd H (by simp)
              · rw [if_neg c13] at H
                exact absurd H (by simp)
            · rw [if_neg c10] at H
              exact absurd H (by simp)
          · rw [if_neg c9] at H
            exact absurd H (by simp)
        · rw [if_neg c8] at H
          exact absurd H (by simp)

/-! ### crc_Unframe: plain, of function 12 -/
def crc_Unframe.f (l0 : List Int) : Option (List Int × Int × Int) := if YtfnlohopfoekfaaH.Crc.isB l0 then some (YtfnlohopfoekfaaH.Fr.unframeI l0) else none
set_option maxHeartbeats 2000000 in
theorem crc_Unframe.ev (l0 : List Int) (r : List Int × Int × Int) (h : crc_Unframe.f l0 = some r) (hl : l0.length ≤ 9223372036854775807) : Ev (fun k => crc_Unframe_p.f k l0) r := by
  unfold crc_Unframe.f at h
  split at h
  · rename_i hB
    obtain rfl := Option.some.inj h
    have hr := YtfnlohopfoekfaaH.Var.varI_range l0
    have hv := YtfnlohopfoekfaaH.Var.varI_some l0 hB (YtfnlohopfoekfaaH.Var.varI l0).1 (YtfnlohopfoekfaaH.Var.varI l0).2 rfl
    have hf : num_Var.f l0 = some (YtfnlohopfoekfaaH.Var.varI l0) := by unfold num_Var.f; rw [if_pos hB]
    unfold YtfnlohopfoekfaaH.Fr.unframeI
    generalize YtfnlohopfoekfaaH.Var.varI l0 = p at hr hv hf ⊢
    obtain ⟨n, k0⟩ := p
    simp only at hr hv ⊢
    have hj : ∀ b : Bool, b = decide (k0 = 0 ∨ n > 1048576 ∨ (l0.length : Int) - k0 < n + 4) → Ev (fun k => crc_Unframe_p.j0 k l0 n k0 b) (if k0 = 0 ∨ n > 1048576 ∨ (l0.length : Int) - k0 < n + 4 then ([], 0, 10)
        else if YtfnlohopfoekfaaH.Fr.sum4 (YtfnlohopfoekfaaH.Crc.crcI ((l0.take (k0 + 4 + n).toNat).drop (k0 + 4).toNat)) = (l0.take (k0 + 4).toNat).drop k0.toNat then ((l0.take (k0 + 4 + n).toNat).drop (k0 + 4).toNat, k0 + 4 + n, 0) else ([], 0, 11)) := by
      intro b hb
      by_cases hc : k0 = 0 ∨ n > 1048576 ∨ (l0.length : Int) - k0 < n + 4
      · rw [decide_eq_true hc] at hb
        subst hb
        rw [if_pos hc]
        refine Ev.step (fun k => ?_) (Ev.now _)
        simp only [crc_Unframe_p.j0]
        rw [if_pos trivial]
      · rw [decide_eq_false hc] at hb
        subst hb
        rw [if_neg hc]
        have hv' := hv (fun h => hc (Or.inl h))
        have hn : n ≤ 1048576 := by
          refine Classical.byContradiction fun h => hc (Or.inr (Or.inl (by omega)))
        have hlen : n + 4 ≤ l0.length - k0 := by
          refine Classical.byContradiction fun h => hc (Or.inr (Or.inr (by omega)))
        have w1 : wrap64 (k0 + 4) = k0 + 4 := YtfnlohopfoekfaaH.Crc.wrap64_in _ (by omega) (by omega)
        have w2 : wrap64 n = n := YtfnlohopfoekfaaH.Crc.wrap64_in _ (by omega) (by omega)
        have w3 : wrap64 (k0 + 4 + n) = k0 + 4 + n := YtfnlohopfoekfaaH.Crc.wrap64_in _ (by omega) (by omega)
        have hBd : YtfnlohopfoekfaaH.Crc.isB ((l0.take (k0 + 4 + n).toNat).drop (k0 + 4).toNat) := YtfnlohopfoekfaaH.Var.isB_drop (YtfnlohopfoekfaaH.Var.isB_take hB _) _
        have hcr := YtfnlohopfoekfaaH.Crc.crcI_range hBd
        refine Ev.step (f := fun _ => some (if YtfnlohopfoekfaaH.Fr.sum4 (YtfnlohopfoekfaaH.Crc.crcI ((l0.take (k0 + 4 + n).toNat).drop (k0 + 4).toNat)) = (l0.take (k0 + 4).toNat).drop k0.toNat then ((l0.take (k0 + 4 + n).toNat).drop (k0 + 4).toNat, k0 + 4 + n, 0) else ([], 0, 11))) (fun k => ?_) (Ev.now _)
        simp only [crc_Unframe_p.j0]
        rw [if_neg (by simp), w1, w2, w3, if_pos (by omega), if_pos (by omega), if_pos (by omega)]
        unfold crc_Sum.f
        rw [if_pos hBd]
        rw [Option.bind_some]
        unfold crc_bytes.f
        rw [if_pos hcr]
        rw [Option.bind_some]
        rw [if_pos (by omega), if_pos (by omega), if_pos (by omega)]
        unfold slices_Equal_byte_byte.f
        rw [Option.bind_some]; simp only [decide_eq_true_eq]
        by_cases hs : YtfnlohopfoekfaaH.Fr.sum4 (YtfnlohopfoekfaaH.Crc.crcI ((l0.take (k0 + 4 + n).toNat).drop (k0 + 4).toNat)) = (l0.take (k0 + 4).toNat).drop k0.toNat
        · rw [if_pos hs, if_pos hs]
          unfold slices_Clone_byte_byte.f
          rw [if_pos (by rw [List.length_drop, List.length_take]; omega)]
          rfl
        · rw [if_neg hs, if_neg hs]
    have wl : wrap64 ((l0.length : Int) - k0) = (l0.length : Int) - k0 := YtfnlohopfoekfaaH.Crc.wrap64_in _ (by omega) (by omega)
    by_cases h0 : k0 = 0
    · refine Ev.congr (fun k => ?_) (hj true (by simp [h0]))
      unfold crc_Unframe_p.f
      rw [hf]
      rw [Option.bind_some]
      rw [if_pos h0]
    · by_cases h1 : n > 1048576
      · refine Ev.congr (fun k => ?_) (hj true (by simp [h1]))
        unfold crc_Unframe_p.f
        rw [hf]
        rw [Option.bind_some]
        rw [if_neg h0, if_pos h1]
      · refine Ev.congr (fun k => ?_) (hj (decide ((l0.length : Int) - k0 < n + 4)) (by simp [h0, h1]))
        unfold crc_Unframe_p.f
        rw [hf]
        rw [Option.bind_some]
        rw [if_neg h0, if_neg h1, wl]
        have u1 : IntKind.u64.wrap ((l0.length : Int) - k0) = (l0.length : Int) - k0 := by rw [IntKind.wrap_u64]; omega
        have u2 : IntKind.u64.wrap (n + 4) = n + 4 := by rw [IntKind.wrap_u64]; omega
        rw [u1, u2]
  · cases h
theorem crc_Unframe.calls (A0 : Option Addr) (c0 : Nat) (l0 : List Int) (r1 : List Int) (r2 : Int) (r3 : Int) (w : World) (hr0 : Kd.C (Kd.int .u8) w A0 l0.length l0) (hc0 : l0.length ≤ c0) (h : crc_Unframe.f l0 = some (r1, r2, r3)) :
    Calls Try.prog 12 #[.slice A0 l0.length c0] w fun e w' => ∃ v0_ : Value, e = .returned (.tuple #[v0_, .int .i64 r2, .int .i64 r3]) ∧ Kd.R (Kd.int .u8) 5 w' w.heap.size (fun _ => True) v0_ r1 ∧ Below w.heap.size w w' := by
  obtain ⟨k, hk⟩ := (crc_Unframe.ev l0 _ h (by first | exact hr0.2.1 | exact (Kd.V_reads' hs0).2.2.2.1 | exact (Kd.R_reads' ho0).2.2.2.1)).rounds
  exact crc_Unframe_p.calls k A0 c0 l0 r1 r2 r3 w hr0 hc0 hk

/-! ### slices_Grow_byte_byte: function 30 -/
set_option maxHeartbeats 1000000 in
set_option maxRecDepth 100000 in
/-- slices.Grow of nil: an empty row of one's own. -/
theorem slices_Grow_byte_byte.calls_nil (n : Int) (w : World) (h0 : 0 ≤ n) (hn : n.toNat * 1 ≤ 140737488355328) :
    Calls Try.prog 30 #[.slice none 0 0, .int .i64 n] w fun e w' => ∃ v0_ : Value, e = .returned v0_ ∧ Kd.R (Kd.int .u8) 5 w' w.heap.size (fun _ => True) v0_ [] ∧ Below w.heap.size w w' := by
  have hn' : n ≤ 140737488355328 := by omega
  have h0b : decide (n < 0) = false := by simpa using h0
  by_cases hp : 0 < n
  · have hpb : decide (0 < n) = true := by simpa using hp
    go_enter Try.func30, Try.ntmps30
    go_wp2_with (first | (at_builtin; refine Kd.R_append_zeros (Kd.int .u8) (w0 := w) w.heap.size rfl _ _ 22 3 5 (.int .u8 0) 1 rfl Try.underlying22 Try.underlying3 info5 rfl (by decide) (by omega) (.slice none 0 0) [] 0 n (fun _ => True) rfl rfl rfl (fun _ _ => trivial) (Kd.R_nil _ _ _ _ _) h0 ?hB ?hS ?hL ?_; (case hB => exact Below.refl _ _); (case hS => exact Nat.le_refl _); (case hL => simp; omega); intro v1 w1 ho hb hg hat; obtain ⟨Ao, co, eo⟩ := Kd.R_slice ho; subst eo))
    go_ret
    exact ⟨_, rfl, by have := Kd.R_take ho (m := 0) (Nat.zero_le _); simpa using this, hb⟩
  · have hz : n = 0 := by omega
    subst hz
    go_enter Try.func30, Try.ntmps30
    go_wp2
    go_ret
    exact ⟨_, rfl, Kd.R_nil _ _ _ _ _, Below.refl _ _⟩

/-! ### slices_Concat_byte_byte: function 24 -/
def slices_Concat_byte_byte.f (l0 : List (List Int)) : Option (List Int) := if l0.flatten.length * 1 < 140737488355328 then some l0.flatten else none
set_option maxHeartbeats 1000000 in
set_option maxRecDepth 100000 in
theorem slices_Concat_byte_byte.calls (A0 : Option Addr) (c0 : Nat) (l0 : List (List Int)) (r : List Int) (w : World) (hr0 : Kd.C (Kd.slice 5 (Kd.int .u8)) w A0 l0.length l0) (hc0 : l0.length ≤ c0) (h : slices_Concat_byte_byte.f l0 = some r) :
    Calls Try.prog 24 #[.slice A0 l0.length c0] w fun e w' => ∃ v0_ : Value, e = .returned v0_ ∧ Kd.R (Kd.int .u8) 5 w' w.heap.size (fun _ => True) v0_ r ∧ Below w.heap.size w w' := by
  have hlim : l0.flatten.length * 1 < 140737488355328 ∧ l0.flatten = r := by
    unfold slices_Concat_byte_byte.f at h
    split at h
    · exact ⟨by assumption, Option.some.inj h⟩
    · cases h
  obtain ⟨hlim, hres⟩ := hlim
  subst hres
  have HL := Aside0.mk hlim
  have HR0 := Aside0.mk hr0
  have HC0 := Aside0.mk hc0
  have hlen : l0.length ≤ 9223372036854775807 := hr0.2.1
  clear h hr0 hc0 hlim
  go_enter Try.func24, Try.ntmps24
  go_wp2
  go_loop [3, 11] (fun v3 v11 => ∃ k : Nat, k ≤ l0.length ∧ v11 = .int .i64 k ∧ v3 = .int .i64 (YtfnlohopfoekfaaH.flen l0 k : Nat)) (fun _ v11 => l0.length - (intOf v11).toNat)
  case atStart => exact ⟨0, Nat.zero_le _, rfl, rfl⟩
  case round =>
    obtain ⟨k, hk, rfl, rfl⟩ := hrel
    have hlb : YtfnlohopfoekfaaH.flen l0 k ≤ 140737488355328 := by have := HL.out; have := YtfnlohopfoekfaaH.flen_le l0 k; omega
    by_cases hlt : k < l0.length
    · obtain ⟨ad, A1, c1, rfl, hcell, hlen1, hC1⟩ := YtfnlohopfoekfaaH.at_row HR0.out k hlt
      have hn := Aside0.mk (YtfnlohopfoekfaaH.flen_succ l0 k hlt)
      have hpre2 : YtfnlohopfoekfaaH.flen l0 k + l0[k].length ≤ 140737488355328 := by
        have h1 := YtfnlohopfoekfaaH.flen_le l0 (k + 1)
        rw [hn.out] at h1
        have := HL.out
        omega
      have hneg : decide ((YtfnlohopfoekfaaH.flen l0 k : Int) + (l0[k].length : Int) < 0) = false := by simp; omega
      have HcC := Aside0.mk hC1
      have HL1 := Aside0.mk hlen1
      clear hC1 hlen1
      go_wp2
      go_round
      case rel => exact ⟨k + 1, by omega, by go_num, by rw [hn.out]; go_num⟩
      case measure => simp [intOf]; omega
    · have hkk : k = l0.length := by omega
      subst hkk
      have htk := Aside0.mk (YtfnlohopfoekfaaH.flen_all l0)
      clear hlt hk
      go_wp2_with fail
      refine (slices_Grow_byte_byte.calls_nil _ _ (by omega) (by have := HL.out; have := htk.out; omega)).mono ?_
      rintro e w1 ⟨v, rfl, hv, hb⟩
      have HV := Aside0.mk hv
      have HB := Aside0.mk hb
      clear hv hb
      go_wp2_with fail
      go_loopw [6, 27] (fun v6 v27 w' => ∃ k : Nat, k ≤ l0.length ∧ v27 = .int .i64 k ∧ Aside0 (Kd.R (Kd.int .u8) 5 w' w.heap.size (fun _ => True) v6 (l0.take k).flatten) ∧ Aside0 (Below w.heap.size w w')) (fun _ v27 _ => l0.length - (intOf v27).toNat)
      case atStart => exact ⟨0, Nat.zero_le _, rfl, HV, HB⟩
      case round =>
        obtain ⟨k, hk, rfl, hv, hb⟩ := hrel
        clear HV HB
        have HV := Aside0.mk hv.out
        have HB := Aside0.mk hb.out
        clear hv hb
        by_cases hlt : k < l0.length
        · obtain ⟨ad, A1, c1, rfl, hcell, hlen1, hC1⟩ := YtfnlohopfoekfaaH.at_row (Kd.C_below HR0.out HB.out) k hlt
          have hn := Aside0.mk (YtfnlohopfoekfaaH.flat_take_succ l0 k hlt)
          have hpre2 : YtfnlohopfoekfaaH.flen l0 k + l0[k].length ≤ l0.flatten.length := by
            have h1 := YtfnlohopfoekfaaH.flen_le l0 (k + 1)
            rw [YtfnlohopfoekfaaH.flen_succ l0 k hlt] at h1
            exact h1
          have HL2 := Aside0.mk hpre2
          have HcC := Aside0.mk hC1
          have HL1 := Aside0.mk hlen1
          clear hC1 hlen1 hpre2
          go_wp2_with (first | (at_builtin; go_must (refine Kd.R_append_rows (Kd.int .u8) (w0 := w) w.heap.size rfl _ _ 22 5 (.int .u8 0) 1 rfl Try.underlying22 info5 rfl (by decide) (by omega) _ (l0.take k).flatten l0[k] A1 _ c1 (fun _ => True) (fun _ => False) rfl rfl HV.out HcC.out (fun _ _ h => h) (fun _ h => h.elim) (fun _ _ => trivial) HB.out (below_size HB.out) (by have h1 := HL.out; have h2 := HL2.out; unfold YtfnlohopfoekfaaH.flen at h2; omega) ?_); intro v1 w2 ho hb hg hat))
          go_round
          case rel => exact ⟨k + 1, by omega, by go_num, ⟨by rw [hn.out]; exact ho⟩, ⟨hb⟩⟩
          case measure => simp [intOf]; omega
        · have hkk : k = l0.length := by omega
          subst hkk
          clear hlt hk
          go_wp2
          go_ret
          exact ⟨_, rfl, by have := HV.out; rwa [List.take_length] at this, HB.out⟩

/-! ### num_PutVar_p: function 25 -/
def num_PutVar_p.l0 : Nat → Int → List Int → Option (List Int)
  | 0, _, _ => none
  | k + 1, x0, x3 => if x0 ≥ 128 then (if x3.length < 140737488355328 then (num_PutVar_p.l0 k (x0 / 128) (x3 ++ [Go.bits .or .u8 ((x0) % 256) 128])) else (none)) else (if x3.length < 140737488355328 then (some (x3 ++ [(x0) % 256])) else (none))
def num_PutVar_p.f (k : Nat) (a0 : Int) : Option (List Int) := num_PutVar_p.l0 k a0 ([] : List Int)
theorem num_PutVar_p.mono_l : ∀ k, (∀ y0 y1, LeO (num_PutVar_p.l0 k y0 y1) (num_PutVar_p.l0 (k + 1) y0 y1))
  | 0 => fun _ _ r h => by simp [num_PutVar_p.l0] at h
  | k + 1 => by
    have ih0 := num_PutVar_p.mono_l k
    · intro y0 y1
      unfold num_PutVar_p.l0
      repeat' first
      | (with_reducible exact ih0 _ _)
      | (with_reducible exact LeO.refl _)
      | (with_reducible exact LeO.none _)
      | (with_reducible refine LeO.ite ?_ ?_)
      | (with_reducible refine LeO.bind ?_ (fun _ => ?_))
      | exact ih0 _ _
      | exact LeO.none _
      | refine LeO.ite ?_ ?_
      | refine LeO.bind ?_ (fun _ => ?_)
theorem num_PutVar_p.mono : ∀ a0 k, LeO (num_PutVar_p.f k a0) (num_PutVar_p.f (k + 1) a0) := by
  intro a0 k
  have ih0 := num_PutVar_p.mono_l k
  unfold num_PutVar_p.f
  repeat' first
      | (with_reducible exact ih0 _ _)
      | (with_reducible exact LeO.refl _)
      | (with_reducible exact LeO.none _)
      | (with_reducible refine LeO.ite ?_ ?_)
      | (with_reducible refine LeO.bind ?_ (fun _ => ?_))
      | exact ih0 _ _
      | exact LeO.none _
      | refine LeO.ite ?_ ?_
      | refine LeO.bind ?_ (fun _ => ?_)
set_option maxHeartbeats 8000000 in
set_option maxRecDepth 100000 in
theorem num_PutVar_p.calls (k : Nat) (a0 : Int) (r : List Int) (w : World) (h : num_PutVar_p.f k a0 = some r) :
    Calls Try.prog 25 #[.int .u64 a0] w fun e w' => ∃ v0_ : Value, e = .returned (v0_) ∧ Kd.R (Kd.int .u8) 5 w' w.heap.size (fun _ => True) v0_ r ∧ Below w.heap.size w w' := by
  have HB := Aside0.mk (Below.refl w.heap.size w)
  have H : (num_PutVar_p.l0 k a0 ([] : List Int)) = some r := h
  clear h
  have H' := Aside0.mk H
  clear H
  go_enter Try.func25, Try.ntmps25
  go_wp2
  go_loopg [0, 3] k (fun kq v0 v3 w' => ∃ (x0_1 : Int) (x3_1 : List Int), v0 = .int .u64 x0_1 ∧ Aside0 (num_PutVar_p.l0 kq x0_1 x3_1 = some r) ∧ Aside0 (kq ≤ k) ∧ Aside0 (Kd.R (Kd.int .u8) 5 w' w.heap.size (fun _ => True) v3 x3_1) ∧ Aside0 (Below w.heap.size w w'))
  case atStart => exact ⟨(a0), (([] : List Int)), (by first | rfl | (simp; done) | (simp [*]; done)), H', ⟨Nat.le_refl _⟩, ⟨by first | exact Kd.R_nil _ _ _ _ _ | exact Kd.N_nil _ _ _ _ _ | exact Kd.V_nil _ _ _ _ _ | exact Kd.Q_nil _ _ _ _ _ | exact Kd.S_nil _ _ _ _ _⟩, ⟨by repeat (first | (with_reducible first | exact HB.out | apply below_alloc | apply pw_below_drewN | apply below_drew1) | exact HB.out)⟩⟩
  case round =>
    clear H'
    obtain ⟨x0_1, x3_1, rfl, HA, HK1, HO_3, HB⟩ := hrel
    cases gk with
    | zero => exact absurd HA.out (by simp [num_PutVar_p.l0])
    | succ k1 =>
      have H := HA.out
      clear HA
      simp only [num_PutVar_p.l0] at H
      by_cases c2 : x0_1 ≥ 128
      · rw [if_pos c2] at H
        have c2b0 : decide (128 ≤ x0_1) = true := decide_eq_true c2
        clear c2
        by_cases c3 : x3_1.length < 140737488355328
        · rw [if_pos c3] at H
          have LMc3 := Aside0.mk c3
          clear c3
          obtain ⟨y133, hy133⟩ : ∃ y_ : List Int, y_ = (x3_1 ++ [Go.bits .or .u8 ((x0_1) % 256) 128]) := ⟨_, rfl⟩
          replace H : (num_PutVar_p.l0 k1 (x0_1 / 128) y133) = some r := by first | (rw [hy133]; with_reducible exact H) | (have H2_ := (Option.bind_some _ _).symm.trans H; rw [hy133]; with_reducible exact H2_) | (have H2_ := (Option.bind_some _ _).symm.trans H; with_reducible exact H2_) | with_reducible exact H | (rw [hy133]; exact H) | exact H
          have Ny133 := Aside0.mk hy133
          clear hy133
          have H' := Aside0.mk H
          clear H
          go_wp2_with (first | ((with_reducible refine gate_builtin (b := .append) (xs := #[.tmp 8, .tmp 12]) rfl ?_); at_builtin; refine Kd.R_append (Kd.int .u8) (w0 := w) w.heap.size rfl (.tmp 8) (.tmp 12) 22 5 (.int .u8 0) 1 rfl Try.underlying22 info5 rfl (by decide) (by omega) u3 x3_1 (Go.bits .or .u8 ((x0_1) % 256) 128) [.int .u8 (Go.bits .or .u8 ((x0_1) % 256) 128)] (fun _ => True) (fun _ => False) rfl rfl ?aP (fun _ hk => hk.elim) ?aF ?aO ?aB ?aS ?aL ?_; (case aP => exact rfl); (case aB => exact (by repeat (first | (with_reducible first | exact HB.out | apply below_alloc | apply pw_below_drewN | apply below_drew1) | exact HB.out))); (case aF => exact (fun _ _ => trivial)); (case aO => exact (by (with_reducible repeat (first | apply Kd.R_alloc | apply Kd.R_drewN | apply Kd.R_drew)); exact HO_3.out)); (case aS => exact (below_size (by repeat (first | (with_reducible first | exact HB.out | apply below_alloc | apply pw_below_drewN | apply below_drew1) | exact HB.out)))); (case aL => have := LMc3.out; omega); intro v134 w4 ho hb hg hat; rw [← Ny133.out] at ho; have n0_ := Aside0.mk (hb); have n1_ := Aside0.mk (ho); clear HB; clear HO_3; have HB := n0_; have HO135 := n1_; clear n0_ n1_; clear ho hb hg hat))
          go_roundg k1
          case measure => have := HK1.out; omega
          case rel => exact ⟨(x0_1 / 128), (y133), (by first | rfl | (simp; done) | (simp [*]; done)), H', ⟨by have := HK1.out; omega⟩, ⟨by (with_reducible repeat (first | apply Kd.R_alloc | apply Kd.R_drewN | apply Kd.R_drew)); exact HO135.out⟩, ⟨by repeat (first | (with_reducible first | exact HB.out | apply below_alloc | apply pw_below_drewN | apply below_drew1) | exact HB.out)⟩⟩
        · rw [if_neg c3] at H
          exact absurd H (by simp)
      · rw [if_neg c2] at H
        have c2b0 : decide (128 ≤ x0_1) = false := decide_eq_false c2
        clear c2
        by_cases c5 : x3_1.length < 140737488355328
        · rw [if_pos c5] at H
          have LMc5 := Aside0.mk c5
          clear c5
          obtain ⟨y136, hy136⟩ : ∃ y_ : List Int, y_ = (x3_1 ++ [(x0_1) % 256]) := ⟨_, rfl⟩
          replace H : (some y136) = some r := by first | (rw [hy136]; with_reducible exact H) | (have H2_ := (Option.bind_some _ _).symm.trans H; rw [hy136]; with_reducible exact H2_) | (have H2_ := (Option.bind_some _ _).symm.trans H; with_reducible exact H2_) | with_reducible exact H | (rw [hy136]; exact H) | exact H
          have Ny136 := Aside0.mk hy136
          clear hy136
          obtain rfl := Option.some.inj H
          go_wp2_with (first | ((with_reducible refine gate_builtin (b := .append) (xs := #[.tmp 14, .tmp 17]) rfl ?_); at_builtin; refine Kd.R_append (Kd.int .u8) (w0 := w) w.heap.size rfl (.tmp 14) (.tmp 17) 22 5 (.int .u8 0) 1 rfl Try.underlying22 info5 rfl (by decide) (by omega) u3 x3_1 ((x0_1) % 256) [.int .u8 ((x0_1) % 256)] (fun _ => True) (fun _ => False) rfl rfl ?aP (fun _ hk => hk.elim) ?aF ?aO ?aB ?aS ?aL ?_; (case aP => exact rfl); (case aB => exact (by repeat (first | (with_reducible first | exact HB.out | apply below_alloc | apply pw_below_drewN | apply below_drew1) | exact HB.out))); (case aF => exact (fun _ _ => trivial)); (case aO => exact (by (with_reducible repeat (first | apply Kd.R_alloc | apply Kd.R_drewN | apply Kd.R_drew)); exact HO_3.out)); (case aS => exact (below_size (by repeat (first | (with_reducible first | exact HB.out | apply below_alloc | apply pw_below_drewN | apply below_drew1) | exact HB.out)))); (case aL => have := LMc5.out; omega); intro v137 w6 ho hb hg hat; rw [← Ny136.out] at ho; have n0_ := Aside0.mk (hb); have n1_ := Aside0.mk (ho); clear HB; clear HO_3; have HB := n0_; have HO138 := n1_; clear n0_ n1_; clear ho hb hg hat))
          go_ret
          exact ⟨_, by first | rfl | (simp [errW_none, errW_some] <;> rfl) | (simp [*, errW_none, errW_some] <;> rfl), by (with_reducible repeat (first | apply Kd.R_alloc | apply Kd.R_drewN | apply Kd.R_drew)); exact HO138.out, by repeat (first | (with_reducible first | exact HB.out | apply below_alloc | apply pw_below_drewN | apply below_drew1) | exact HB.out)⟩
        · rw [if_neg c5] at H
          exact absurd H (by simp)

/-! ### num_PutVar: plain, of function 25 -/
def num_PutVar.f (a0 : Int) : Option (List Int) := if 0 ≤ a0 ∧ a0 < 18446744073709551616 then some (YtfnlohopfoekfaaH.Var.putI a0) else none
set_option maxHeartbeats 2000000 in
theorem num_PutVar.loop (x : Nat) : ∀ (acc : List Int), acc.length + (YtfnlohopfoekfaaH.Var.putN x).length < 140737488355328 → Ev (fun k => num_PutVar_p.l0 k (x : Int) acc) (acc ++ YtfnlohopfoekfaaH.Var.ints (YtfnlohopfoekfaaH.Var.putN x)) := by
  induction x using Nat.strongRecOn with
  | _ x ih =>
    intro acc hacc
    have hp := YtfnlohopfoekfaaH.Var.putN_pos x
    by_cases hx : x < 128
    · rw [YtfnlohopfoekfaaH.Var.putN_small hx]
      refine Ev.step (fun k => ?_) (Ev.now _)
      simp only [num_PutVar_p.l0]
      rw [if_neg (by omega), if_pos (by omega)]
      have e : ((x : Int) % 256) = ((x : Nat) : Int) := by omega
      rw [e]
      rfl
    · rw [YtfnlohopfoekfaaH.Var.putN_big hx] at hacc ⊢
      have h := ih (x / 128) (by omega) (acc ++ [((x % 128 + 128 : Nat) : Int)]) (by simp at hacc ⊢; omega)
      have e : YtfnlohopfoekfaaH.Var.ints ((x % 128 + 128) :: YtfnlohopfoekfaaH.Var.putN (x / 128)) = [((x % 128 + 128 : Nat) : Int)] ++ YtfnlohopfoekfaaH.Var.ints (YtfnlohopfoekfaaH.Var.putN (x / 128)) := rfl
      rw [e, ← List.append_assoc]
      refine Ev.step (fun k => ?_) h
      simp only [num_PutVar_p.l0]
      rw [if_pos (by omega), if_pos (by omega)]
      have e1 : ((x : Int) % 256) = ((x % 256 : Nat) : Int) := by omega
      have e2 : ((x : Int) / 128) = ((x / 128 : Nat) : Int) := by omega
      have e3 : x % 256 % 128 = x % 128 := by omega
      rw [e1, e2, YtfnlohopfoekfaaH.Fr.or128 _ (by omega), e3]
set_option maxHeartbeats 2000000 in
theorem num_PutVar.ev (a0 : Int) (r : List Int) (h : num_PutVar.f a0 = some r) : Ev (fun k => num_PutVar_p.f k a0) r := by
  unfold num_PutVar.f at h
  split at h
  · rename_i hx
    obtain ⟨n, rfl⟩ := Int.eq_ofNat_of_zero_le hx.1
    obtain rfl := Option.some.inj h
    have := YtfnlohopfoekfaaH.Var.putN_len10 n (by omega)
    exact num_PutVar.loop n [] (by simp; omega)
  · cases h
theorem num_PutVar.calls (a0 : Int) (r : List Int) (w : World) (h : num_PutVar.f a0 = some r) :
    Calls Try.prog 25 #[.int .u64 a0] w fun e w' => ∃ v0_ : Value, e = .returned (v0_) ∧ Kd.R (Kd.int .u8) 5 w' w.heap.size (fun _ => True) v0_ r ∧ Below w.heap.size w w' := by
  obtain ⟨k, hk⟩ := (num_PutVar.ev a0 _ h ).rounds
  exact num_PutVar_p.calls k a0 r w hk

end Go.Proofs.Ytfnlohopfoekfaa.PCrcNext
