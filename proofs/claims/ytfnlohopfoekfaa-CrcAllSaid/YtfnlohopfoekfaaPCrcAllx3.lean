-- Written by hp.py (own driver over print.py) out of the translation, hand-made functions among it. Lean checks it.
import Derived.Test.YtfnlohopfoekfaaPCrcAllx0
import Derived.Test.YtfnlohopfoekfaaPCrcAllx1
import Derived.Test.YtfnlohopfoekfaaPCrcAllx2
namespace Go.Proofs.Ytfnlohopfoekfaa.PCrcAll
open Go.RowKit Go.Proofs.YtfnlohopfoekfaaW.PrintWords Go.Proofs.YtfnlohopfoekfaaW.PrintLast Go.Proofs.YtfnlohopfoekfaaW.PrintMore
attribute [local go_sem] max2_int min2_int max_two min_two max_three min_three max_four min_four   -- for this text's walks alone
set_option linter.unusedVariables false
set_option linter.unusedSimpArgs false

/-! ### crc_Unframe_p: function 12 -/
def crc_Unframe_p.j0 : Nat → List Int → Int → Int → Bool → Option (List Int × Int × Int)
  | 0, _, _, _, _ => none
  | k + 1, x0, x5, x6, x28 => if x28 = true then (some (([] : List Int), 0, 10)) else (if 0 ≤ (wrap64 (x6 + 4)) then (if (wrap64 (x6 + 4)) ≤ (wrap64 ((wrap64 (x6 + 4)) + (wrap64 (x5)))) then (if (wrap64 ((wrap64 (x6 + 4)) + (wrap64 (x5)))) ≤ (x0.length : Int) then ((crc_Sum.f ((x0.take ((wrap64 ((wrap64 (x6 + 4)) + (wrap64 (x5)))) : Int).toNat).drop ((wrap64 (x6 + 4)) : Int).toNat)).bind fun t123 => ((crc_bytes.f t123).bind fun t124 => (if 0 ≤ x6 then (if x6 ≤ (wrap64 (x6 + 4)) then (if (wrap64 (x6 + 4)) ≤ (x0.length : Int) then ((slices_Equal_byte_byte.f t124 ((x0.take ((wrap64 (x6 + 4)) : Int).toNat).drop (x6 : Int).toNat)).bind fun t128 => (if t128 = true then ((slices_Clone_byte_byte.f ((x0.take ((wrap64 ((wrap64 (x6 + 4)) + (wrap64 (x5)))) : Int).toNat).drop ((wrap64 (x6 + 4)) : Int).toNat)).bind fun t130 => (some (t130, wrap64 ((wrap64 (x6 + 4)) + (wrap64 (x5))), 0))) else (some (([] : List Int), 0, 11)))) else (none)) else (none)) else (none)))) else (none)) else (none)) else (none))
def crc_Unframe_p.f (k : Nat) (l0 : List Int) : Option (List Int × Int × Int) := (num_Var.f l0).bind fun bt120 => (if bt120.2 = 0 then (crc_Unframe_p.j0 k l0 bt120.1 bt120.2 true) else (if bt120.1 > 1048576 then (crc_Unframe_p.j0 k l0 bt120.1 bt120.2 true) else (crc_Unframe_p.j0 k l0 bt120.1 bt120.2 (decide ((IntKind.u64.wrap (wrap64 ((l0.length : Int) - bt120.2))) < (IntKind.u64.wrap (bt120.1 + 4)))))))
theorem crc_Unframe_p.mono_l : ∀ k, (∀ y0 y1 y2 y3, LeO (crc_Unframe_p.j0 k y0 y1 y2 y3) (crc_Unframe_p.j0 (k + 1) y0 y1 y2 y3))
  | 0 => fun _ _ _ _ r h => by simp [crc_Unframe_p.j0] at h
  | k + 1 => by
    have ih0 := crc_Unframe_p.mono_l k
    · intro y0 y1 y2 y3
      unfold crc_Unframe_p.j0
      repeat' first
      | (with_reducible exact ih0 _ _ _ _)
      | (with_reducible exact LeO.refl _)
      | (with_reducible exact LeO.none _)
      | (with_reducible refine LeO.ite ?_ ?_)
      | (with_reducible refine LeO.bind ?_ (fun _ => ?_))
      | exact ih0 _ _ _ _
      | exact LeO.none _
      | refine LeO.ite ?_ ?_
      | refine LeO.bind ?_ (fun _ => ?_)
theorem crc_Unframe_p.mono : ∀ a0 k, LeO (crc_Unframe_p.f k a0) (crc_Unframe_p.f (k + 1) a0) := by
  intro a0 k
  have ih0 := crc_Unframe_p.mono_l k
  unfold crc_Unframe_p.f
  repeat' first
      | (with_reducible exact ih0 _ _ _ _)
      | (with_reducible exact LeO.refl _)
      | (with_reducible exact LeO.none _)
      | (with_reducible refine LeO.ite ?_ ?_)
      | (with_reducible refine LeO.bind ?_ (fun _ => ?_))
      | exact ih0 _ _ _ _
      | exact LeO.none _
      | refine LeO.ite ?_ ?_
      | refine LeO.bind ?_ (fun _ => ?_)
def crc_Unframe_p.T5 : Bool × List (List Nat × List Nat) := (true, [([], []), ([], []), ([1], [1]), ([], []), ([0, 2, 3], [0, 2, 3]), ([4], [4]), ([5, 5], [5]), ([], []), ([], []), ([], []), ([9], [9]), ([7, 8, 10], [7, 8, 10]), ([6, 11, 6], [6, 11]), ([12], [12])])
def crc_Unframe_p.B5 : List Nat := [0, 0, 2, 0, 15, 31, 63, 0, 0, 0, 512, 1920, 4095, 8191]
theorem crc_Unframe_p.tab5 : rtab .any (opsOf Try.f12 5) = crc_Unframe_p.T5 := by kernel_rfl
theorem crc_Unframe_p.bits5 : waitsOk crc_Unframe_p.T5.2 crc_Unframe_p.B5 = true := by kernel_rfl
set_option maxHeartbeats 8000000 in
set_option maxRecDepth 100000 in
theorem crc_Unframe_p.calls (k : Nat) (A0 : Option Addr) (c0 : Nat) (l0 : List Int) (r1 : List Int) (r2 : Int) (r3 : Int) (w : World) (hr0 : Kd.C (Kd.int .u8) w A0 l0.length l0) (hc0 : l0.length ≤ c0) (h : crc_Unframe_p.f k l0 = some (r1, r2, r3)) :
    Calls Try.prog 12 #[.slice A0 l0.length c0] w fun e w' => ∃ v0_ : Value, e = .returned (.tuple #[v0_, .int .i64 r2, .int .i64 r3]) ∧ Kd.R (Kd.int .u8) 5 w' w.heap.size (fun _ => True) v0_ r1 ∧ Below w.heap.size w w' := by
  have HR0 := Aside0.mk hr0
  have HC0 := Aside0.mk hc0
  clear hr0 hc0
  have HB := Aside0.mk (Below.refl w.heap.size w)
  have H : ((num_Var.f l0).bind fun bt120 => (if bt120.2 = 0 then (crc_Unframe_p.j0 k l0 bt120.1 bt120.2 true) else (if bt120.1 > 1048576 then (crc_Unframe_p.j0 k l0 bt120.1 bt120.2 true) else (crc_Unframe_p.j0 k l0 bt120.1 bt120.2 (decide ((IntKind.u64.wrap (wrap64 ((l0.length : Int) - bt120.2))) < (IntKind.u64.wrap (bt120.1 + 4)))))))) = some (r1, r2, r3) := h
  clear h
  replace H := Option.bind_eq_some_iff.mp H
  obtain ⟨⟨t120, t121⟩, A20, H⟩ := H
  replace H : (if t121 = 0 then (crc_Unframe_p.j0 k l0 t120 t121 true) else (if t120 > 1048576 then (crc_Unframe_p.j0 k l0 t120 t121 true) else (crc_Unframe_p.j0 k l0 t120 t121 (decide ((IntKind.u64.wrap (wrap64 ((l0.length : Int) - t121))) < (IntKind.u64.wrap (t120 + 4))))))) = some (r1, r2, r3) := H
  have A2 := Aside0.mk A20
  clear A20
  have HC3 := Aside0.mk H
  clear H
  go_enter Try.func12, Try.ntmps12
  go_upto_region 2 with (first | ((with_reducible refine gate_callee (f := 18) rfl ?_); refine goesL_ (some 10) rfl rfl Try.func18 (by kernel_rfl) rfl #[.slice A0 l0.length c0] rfl (by (try simp only [List.map_toArray, List.map_cons, List.map_nil]); first | done | rfl | (simp only [List.length_drop, List.length_take]; rfl)) ?_; (with_reducible refine (num_Var.calls _ _ l0 t120 t121 _ ?side1 ?side2 A2.out).mono ?_); (case side1 => repeat (first | exact HR0.out | (with_reducible refine Kd.C_alloc ?_ _) | (with_reducible refine Kd.C_drewN ?_ _) | (with_reducible refine Kd.C_drew ?_))); (case side2 => exact HC0.out); rintro e w' ⟨rfl, ⟨nd, rfl⟩⟩; refine ⟨_, rfl, ?_⟩))
  (try simp only [Act.put, List.setIfInBounds_toArray, List.set_cons_zero, List.set_cons_succ])
  go_cut [28] (fun v28 wc => ∃ (kq : Nat) (x28_2 : Bool), v28 = .bool x28_2 ∧ Aside0 (crc_Unframe_p.j0 kq l0 t120 t121 x28_2 = some (r1, r2, r3)) ∧ Aside0 (kq ≤ k) ∧ Aside0 (Below w.heap.size w wc))
  case first =>
    have H := HC3.out
    clear HC3
    by_cases c4 : t121 = 0
    · rw [if_pos c4] at H
      have c4b0 : (t121 == 0) = true := beq_iff_eq.mpr c4
      have c4b1 : (t121 != 0) = false := bne_eq_false_iff_eq.mpr c4
      clear c4
      (first | rw [c4b0] | (simp only [i64_w, i32_w]; rw [c4b0]) | skip)
      have H' := Aside0.mk H
      clear H
      go_wp2
      go_meet
      case rel => exact ⟨_, (true), (by first | rfl | (simp; done) | (simp [*]; done)), H', ⟨by first | omega | exact Nat.le_refl _⟩, ⟨by repeat (first | (with_reducible first | exact HB.out | apply below_alloc | apply pw_below_drewN | apply below_drew1) | exact HB.out)⟩⟩
    · rw [if_neg c4] at H
      have c4b0 : (t121 == 0) = false := beq_eq_false_iff_ne.mpr c4
      have c4b1 : (t121 != 0) = true := bne_iff_ne.mpr c4
      (first | rw [c4b0] | (simp only [i64_w, i32_w]; rw [c4b0]) | skip)
      by_cases c5 : t120 > 1048576
      · rw [if_pos c5] at H
        have c5b0 : decide (1048576 < t120) = true := decide_eq_true c5
        clear c5
        have H' := Aside0.mk H
        clear H
        go_wp2
        go_meet
        case rel => exact ⟨_, (true), (by first | rfl | (simp; done) | (simp [*]; done)), H', ⟨by first | omega | exact Nat.le_refl _⟩, ⟨by repeat (first | (with_reducible first | exact HB.out | apply below_alloc | apply pw_below_drewN | apply below_drew1) | exact HB.out)⟩⟩
      · rw [if_neg c5] at H
        have c5b0 : decide (1048576 < t120) = false := decide_eq_false c5
        clear c5
        have H' := Aside0.mk H
        clear H
        go_wp2
        go_meet
        case rel => exact ⟨_, (decide ((IntKind.u64.wrap (wrap64 ((l0.length : Int) - t121))) < (IntKind.u64.wrap (t120 + 4)))), (by first | rfl | (simp; done) | (simp [*]; done)), H', ⟨by first | omega | exact Nat.le_refl _⟩, ⟨by repeat (first | (with_reducible first | exact HB.out | apply below_alloc | apply pw_below_drewN | apply below_drew1) | exact HB.out)⟩⟩
  case rest =>
    clear HC3
    try clear c1
    try clear p2
    try clear c4
    try clear c4b0
    try clear c4b1
    try clear c5
    try clear c5b0
    obtain ⟨kq, x28_2, rfl, HA, HJ2, HB⟩ := hcut
    cases kq with
    | zero => exact absurd HA.out (by simp [crc_Unframe_p.j0])
    | succ kj2 =>
      have H := HA.out
      clear HA
      simp only [crc_Unframe_p.j0] at H
      by_cases c6 : x28_2 = true
      · subst c6
        have H1 : (some (([] : List Int), 0, 10)) = some (r1, r2, r3) := by rw [if_pos rfl] at H; exact H
        clear H
        have H := H1
        clear H1
        simp only [Option.some.injEq, Prod.mk.injEq] at H
        obtain ⟨rfl, rfl, rfl⟩ := H
        go_wp2
        go_ret3
        exact ⟨_, by first | rfl | (simp [errW_none, errW_some] <;> rfl) | (simp [*, errW_none, errW_some] <;> rfl), by first | exact Kd.R_nil _ _ _ _ _ | exact Kd.N_nil _ _ _ _ _ | exact Kd.V_nil _ _ _ _ _ | exact Kd.Q_nil _ _ _ _ _ | exact Kd.S_nil _ _ _ _ _, by repeat (first | (with_reducible first | exact HB.out | apply below_alloc | apply pw_below_drewN | apply below_drew1) | exact HB.out)⟩
      · replace c6 := Bool.eq_false_iff.mpr c6
        subst c6
        have H1 : (if 0 ≤ (wrap64 (t121 + 4)) then (if (wrap64 (t121 + 4)) ≤ (wrap64 ((wrap64 (t121 + 4)) + (wrap64 (t120)))) then (if (wrap64 ((wrap64 (t121 + 4)) + (wrap64 (t120)))) ≤ (l0.length : Int) then ((crc_Sum.f ((l0.take ((wrap64 ((wrap64 (t121 + 4)) + (wrap64 (t120)))) : Int).toNat).drop ((wrap64 (t121 + 4)) : Int).toNat)).bind fun t123 => ((crc_bytes.f t123).bind fun t124 => (if 0 ≤ t121 then (if t121 ≤ (wrap64 (t121 + 4)) then (if (wrap64 (t121 + 4)) ≤ (l0.length : Int) then ((slices_Equal_byte_byte.f t124 ((l0.take ((wrap64 (t121 + 4)) : Int).toNat).drop (t121 : Int).toNat)).bind fun t128 => (if t128 = true then ((slices_Clone_byte_byte.f ((l0.take ((wrap64 ((wrap64 (t121 + 4)) + (wrap64 (t120)))) : Int).toNat).drop ((wrap64 (t121 + 4)) : Int).toNat)).bind fun t130 => (some (t130, wrap64 ((wrap64 (t121 + 4)) + (wrap64 (t120))), 0))) else (some (([] : List Int), 0, 11)))) else (none)) else (none)) else (none)))) else (none)) else (none)) else (none)) = some (r1, r2, r3) := by rw [if_neg (show ¬ (false = true) by decide)] at H; exact H
        clear H
        have H := H1
        clear H1
        obtain ⟨ji7, hji7⟩ : ∃ j_ : Int, (wrap64 (t121 + 4)) = j_ := ⟨_, rfl⟩
        replace H : (if 0 ≤ (ji7) then (if (ji7) ≤ (wrap64 ((ji7) + (wrap64 (t120)))) then (if (wrap64 ((ji7) + (wrap64 (t120)))) ≤ (l0.length : Int) then ((crc_Sum.f ((l0.take ((wrap64 ((ji7) + (wrap64 (t120)))) : Int).toNat).drop ((ji7) : Int).toNat)).bind fun t123 => ((crc_bytes.f t123).bind fun t124 => (if 0 ≤ t121 then (if t121 ≤ (ji7) then (if (ji7) ≤ (l0.length : Int) then ((slices_Equal_byte_byte.f t124 ((l0.take ((ji7) : Int).toNat).drop (t121 : Int).toNat)).bind fun t128 => (if t128 = true then ((slices_Clone_byte_byte.f ((l0.take ((wrap64 ((ji7) + (wrap64 (t120)))) : Int).toNat).drop ((ji7) : Int).toNat)).bind fun t130 => (some (t130, wrap64 ((ji7) + (wrap64 (t120))), 0))) else (some (([] : List Int), 0, 11)))) else (none)) else (none)) else (none)))) else (none)) else (none)) else (none)) = some (r1, r2, r3) := by first | (rw [hji7] at H; exact H) | (simp only [hji7] at H ⊢; exact H)
        have hji7w : (IntKind.i64.wrap (t121 + 4)) = ji7 := (i64_w _).trans hji7
        by_cases c8 : 0 ≤ (ji7)
        · rw [if_pos c8] at H
          have c8b0 := eq_true c8
          have c8b1 : decide (0 ≤ (ji7)) = true := decide_eq_true c8
          clear c8
          by_cases c9 : (ji7) ≤ (wrap64 ((ji7) + (wrap64 (t120))))
          · rw [if_pos c9] at H
            have c9b0 := eq_true c9
            have c9b1 : decide ((ji7) ≤ (wrap64 ((ji7) + (wrap64 (t120))))) = true := decide_eq_true c9
            by_cases c10 : (wrap64 ((ji7) + (wrap64 (t120)))) ≤ (l0.length : Int)
            · rw [if_pos c10] at H
              have c10b0 := eq_true c10
              have c10b1 : decide ((wrap64 ((ji7) + (wrap64 (t120)))) ≤ (l0.length : Int)) = true := decide_eq_true c10
              replace H := Option.bind_eq_some_iff.mp H
              obtain ⟨t123, A110, H⟩ := H
              replace H : ((crc_bytes.f t123).bind fun t124 => (if 0 ≤ t121 then (if t121 ≤ (ji7) then (if (ji7) ≤ (l0.length : Int) then ((slices_Equal_byte_byte.f t124 ((l0.take ((ji7) : Int).toNat).drop (t121 : Int).toNat)).bind fun t128 => (if t128 = true then ((slices_Clone_byte_byte.f ((l0.take ((wrap64 ((ji7) + (wrap64 (t120)))) : Int).toNat).drop ((ji7) : Int).toNat)).bind fun t130 => (some (t130, wrap64 ((ji7) + (wrap64 (t120))), 0))) else (some (([] : List Int), 0, 11)))) else (none)) else (none)) else (none))) = some (r1, r2, r3) := H
              have A11 := Aside0.mk A110
              clear A110
              replace H := Option.bind_eq_some_iff.mp H
              obtain ⟨t124, A120, H⟩ := H
              replace H : (if 0 ≤ t121 then (if t121 ≤ (ji7) then (if (ji7) ≤ (l0.length : Int) then ((slices_Equal_byte_byte.f t124 ((l0.take ((ji7) : Int).toNat).drop (t121 : Int).toNat)).bind fun t128 => (if t128 = true then ((slices_Clone_byte_byte.f ((l0.take ((wrap64 ((ji7) + (wrap64 (t120)))) : Int).toNat).drop ((ji7) : Int).toNat)).bind fun t130 => (some (t130, wrap64 ((ji7) + (wrap64 (t120))), 0))) else (some (([] : List Int), 0, 11)))) else (none)) else (none)) else (none)) = some (r1, r2, r3) := H
              have A12 := Aside0.mk A120
              clear A120
              by_cases c13 : 0 ≤ t121
              · rw [if_pos c13] at H
                have c13b0 := eq_true c13
                have c13b1 : decide (0 ≤ t121) = true := decide_eq_true c13
                clear c13
                by_cases c14 : t121 ≤ (ji7)
                · rw [if_pos c14] at H
                  have c14b0 := eq_true c14
                  have c14b1 : decide (t121 ≤ (ji7)) = true := decide_eq_true c14
                  clear c14
                  by_cases c15 : (ji7) ≤ (l0.length : Int)
                  · rw [if_pos c15] at H
                    have c15b0 := eq_true c15
                    have c15b1 : decide ((ji7) ≤ (l0.length : Int)) = true := decide_eq_true c15
                    clear c15
                    replace H := Option.bind_eq_some_iff.mp H
                    obtain ⟨t128, A160, H⟩ := H
                    replace H : (if t128 = true then ((slices_Clone_byte_byte.f ((l0.take ((wrap64 ((ji7) + (wrap64 (t120)))) : Int).toNat).drop ((ji7) : Int).toNat)).bind fun t130 => (some (t130, wrap64 ((ji7) + (wrap64 (t120))), 0))) else (some (([] : List Int), 0, 11))) = some (r1, r2, r3) := H
                    have A16 := Aside0.mk A160
                    clear A160
                    by_cases c17 : t128 = true
                    · subst c17
                      have H1 : ((slices_Clone_byte_byte.f ((l0.take ((wrap64 ((ji7) + (wrap64 (t120)))) : Int).toNat).drop ((ji7) : Int).toNat)).bind fun t130 => (some (t130, wrap64 ((ji7) + (wrap64 (t120))), 0))) = some (r1, r2, r3) := by rw [if_pos rfl] at H; exact H
                      clear H
                      have H := H1
                      clear H1
                      have c18b0 := eq_true (of_decide_eq_true (by first | (with_reducible assumption) | assumption) : 0 ≤ (ji7))
                      have c19b0 := eq_true (of_decide_eq_true (by first | (with_reducible assumption) | assumption) : (ji7) ≤ (wrap64 ((ji7) + (wrap64 (t120)))))
                      have c20b0 := eq_true (of_decide_eq_true (by first | (with_reducible assumption) | assumption) : (wrap64 ((ji7) + (wrap64 (t120)))) ≤ (l0.length : Int))
                      replace H := Option.bind_eq_some_iff.mp H
                      obtain ⟨t130, A210, H⟩ := H
                      replace H : (some (t130, wrap64 ((ji7) + (wrap64 (t120))), 0)) = some (r1, r2, r3) := H
                      have A21 := Aside0.mk A210
                      clear A210
                      simp only [Option.some.injEq, Prod.mk.injEq] at H
                      obtain ⟨rfl, rfl, rfl⟩ := H
                      try go_wp2
                      have n0_ := Aside0.mk (below_drew1 HB.out)
                      clear HB
                      have HB := n0_
                      clear n0_
                      obtain ⟨i023, hi023, _, hsz23, _⟩ := info_parts info5
                      obtain ⟨A23, hcut23, hA23, hC23⟩ := print_mid_of (P := Try.prog) (Value.int .u8) 0 22 5 .i64 .i64 Try.underlying22 hi023 hsz23 A0 c0 l0 (ji7) (wrap64 ((ji7) + (wrap64 (t120)))) (of_decide_eq_true (by first | (with_reducible assumption) | assumption)) (by first | omega | exact of_decide_eq_true (by first | (with_reducible assumption) | assumption)) (of_decide_eq_true (by first | (with_reducible assumption) | assumption)) HC0.out
                      have HR122 := Aside0.mk (Kd.C_of_reads (h1 := fun _ => rfl) (hA23 _ (Kd.reads_of_C HR0.out)))
                      have HC122 := Aside0.mk hC23
                      clear hA23 hC23 hi023 hsz23
                      obtain ⟨i024, hi024, _, hsz24, _⟩ := info_parts info5
                      obtain ⟨A24, hcut24, hA24, hC24⟩ := print_mid_of (P := Try.prog) (Value.int .u8) 0 22 5 .i64 .i64 Try.underlying22 hi024 hsz24 A0 c0 l0 t121 (ji7) (of_decide_eq_true (by first | (with_reducible assumption) | assumption)) (by first | omega | exact of_decide_eq_true (by first | (with_reducible assumption) | assumption)) (of_decide_eq_true (by first | (with_reducible assumption) | assumption)) HC0.out
                      have HR127 := Aside0.mk (Kd.C_of_reads (h1 := fun _ => rfl) (hA24 _ (Kd.reads_of_C HR0.out)))
                      have HC127 := Aside0.mk hC24
                      clear hA24 hC24 hi024 hsz24
                      refine start_ (n := 14) (S := fun w' => True) (ds := []) #[false, false, false, false, false, false, false, false, false, false, false, false, false, false] (by kernel_rfl) rfl rfl trivial (fun hHeld => ?_); refine with_tabW crc_Unframe_p.tab5 crc_Unframe_p.bits5 (fun HT_ HW_ => ?_)
                      generalize wc.drew = w22 at HB HR122 HR127 hHeld ⊢
                      refine pure_ (i := 0) (N := some 34) (v := ?_) (a' := ?_) #[true, false, false, false, false, false, false, false, false, false, false, false, false, false] rfl rfl (any_of HT_.out (by kernel_rfl)) (fun _ _ _ h => h) (Or.inl ⟨by rfl, ?_⟩) ?_ ?_
                      rotate_left
                      · intro w'
                        go_simp
                        with_reducible rfl
                      rotate_left
                      · simp only [Act.put, List.setIfInBounds_toArray, List.set_cons_zero, List.set_cons_succ, i64_w, i32_w]
                        rfl
                      refine pure_ (i := 1) (N := some 35) (v := ?_) (a' := ?_) #[true, true, false, false, false, false, false, false, false, false, false, false, false, false] rfl rfl (any_of HT_.out (by kernel_rfl)) (fun _ _ _ h => h) (Or.inl ⟨by rfl, ?_⟩) ?_ ?_
                      rotate_left
                      · intro w'
                        go_simp
                        with_reducible rfl
                      rotate_left
                      · simp only [Act.put, List.setIfInBounds_toArray, List.set_cons_zero, List.set_cons_succ, i64_w, i32_w]
                        rfl
                      refine pure_ (i := 2) (N := some 36) (v := ?_) (a' := ?_) #[true, true, true, false, false, false, false, false, false, false, false, false, false, false] rfl rfl (any_of HT_.out (by kernel_rfl)) (fun _ _ _ h => h) (Or.inl ⟨by rfl, ?_⟩) ?_ ?_
                      rotate_left
                      · intro w'
                        go_simp
                        with_reducible rfl
                      rotate_left
                      · simp only [Act.put, List.setIfInBounds_toArray, List.set_cons_zero, List.set_cons_succ, i64_w, i32_w]
                        rfl
                      refine pure_ (i := 3) (N := some 37) (v := ?_) (a' := ?_) #[true, true, true, true, false, false, false, false, false, false, false, false, false, false] rfl rfl (any_of HT_.out (by kernel_rfl)) (fun _ _ _ h => h) (Or.inl ⟨by rfl, ?_⟩) ?_ ?_
                      rotate_left
                      · intro w'
                        go_simp
                        with_reducible rfl
                      rotate_left
                      · simp only [Act.put, List.setIfInBounds_toArray, List.set_cons_zero, List.set_cons_succ, i64_w, i32_w]
                        rfl
                      refine pure_ (i := 4) (N := some 38) (v := ?_) (a' := ?_) #[true, true, true, true, true, false, false, false, false, false, false, false, false, false] rfl rfl (any_of HT_.out (by kernel_rfl)) (fun _ _ _ h => h) (Or.inl ⟨by rfl, ?_⟩) ?_ ?_
                      rotate_left
                      · intro w'
                        go_simp
                        with_reducible rfl
                      rotate_left
                      · simp only [Act.put, List.setIfInBounds_toArray, List.set_cons_zero, List.set_cons_succ, i64_w, i32_w]
                        rfl
                      refine pure_ (i := 7) (N := some 41) (v := ?_) (a' := ?_) #[true, true, true, true, true, false, false, true, false, false, false, false, false, false] rfl rfl (any_of HT_.out (by kernel_rfl)) (fun _ _ _ h => h) (Or.inl ⟨by rfl, ?_⟩) ?_ ?_
                      rotate_left
                      · intro w'
                        go_simp
                        with_reducible rfl
                      rotate_left
                      · simp only [Act.put, List.setIfInBounds_toArray, List.set_cons_zero, List.set_cons_succ, i64_w, i32_w]
                        rfl
                      refine pure_ (i := 8) (N := some 42) (v := ?_) (a' := ?_) #[true, true, true, true, true, false, false, true, true, false, false, false, false, false] rfl rfl (any_of HT_.out (by kernel_rfl)) (fun _ _ _ h => h) (Or.inl ⟨by rfl, ?_⟩) ?_ ?_
                      rotate_left
                      · intro w'
                        go_simp
                        with_reducible rfl
                      rotate_left
                      · simp only [Act.put, List.setIfInBounds_toArray, List.set_cons_zero, List.set_cons_succ, i64_w, i32_w]
                        rfl
                      refine pure_ (i := 9) (N := some 43) (v := ?_) (a' := ?_) #[true, true, true, true, true, false, false, true, true, true, false, false, false, false] rfl rfl (any_of HT_.out (by kernel_rfl)) (fun _ _ _ h => h) (Or.inl ⟨by rfl, ?_⟩) ?_ ?_
                      rotate_left
                      · intro w'
                        go_simp
                        with_reducible rfl
                      rotate_left
                      · simp only [Act.put, List.setIfInBounds_toArray, List.set_cons_zero, List.set_cons_succ, i64_w, i32_w]
                        rfl
                      refine pure_ (i := 10) (N := some 44) (v := ?_) (a' := ?_) #[true, true, true, true, true, false, false, true, true, true, true, false, false, false] rfl rfl (any_of HT_.out (by kernel_rfl)) (fun _ _ _ h => h) (Or.inl ⟨by rfl, ?_⟩) ?_ ?_
                      rotate_left
                      · intro w'
                        go_simp
                        with_reducible rfl
                      rotate_left
                      · simp only [Act.put, List.setIfInBounds_toArray, List.set_cons_zero, List.set_cons_succ, i64_w, i32_w]
                        rfl
                      refine pure_ (i := 11) (N := some 45) (v := ?_) (a' := ?_) #[true, true, true, true, true, false, false, true, true, true, true, true, false, false] rfl rfl (any_of HT_.out (by kernel_rfl)) (fun _ _ _ h => h) (Or.inl ⟨by rfl, ?_⟩) ?_ ?_
                      rotate_left
                      · intro w'
                        go_simp
                        with_reducible rfl
                      rotate_left
                      · simp only [Act.put, List.setIfInBounds_toArray, List.set_cons_zero, List.set_cons_succ, i64_w, i32_w]
                        rfl
                      refine one_ (i := 5) (N := some 39) #[true, true, true, true, true, true, false, true, true, true, true, true, false, false] rfl rfl (one_of HT_.out (by kernel_rfl)) (by decide) (fun K hK => ?_)
                      refine goes_ Try.func10 (by kernel_rfl) rfl #[.slice A23 ((l0.take ((wrap64 ((ji7) + (wrap64 (t120)))) : Int).toNat).drop ((ji7) : Int).toNat).length (c0 - (ji7).toNat)] (by rfl) rfl rfl (by (try simp only [List.map_toArray, List.map_cons, List.map_nil]); first | done | (rw [show ((l0.take ((wrap64 ((ji7) + (wrap64 (t120)))) : Int).toNat).drop ((ji7) : Int).toNat).length = ((wrap64 ((ji7) + (wrap64 (t120)))).toNat - (ji7).toNat) from (by rw [List.length_drop, List.length_take]; have h_ : ((wrap64 ((ji7) + (wrap64 (t120)))) : Int) ≤ (l0.length : Int) := of_decide_eq_true (by first | (with_reducible assumption) | assumption); omega)] <;> rfl) | (simp only [hji7]; rfl) | rfl | (simp only [List.length_drop, List.length_take]; rfl)) ?_
                      with_reducible refine (crc_Sum.calls _ _ ((l0.take ((wrap64 ((ji7) + (wrap64 (t120)))) : Int).toNat).drop ((ji7) : Int).toNat) t123 _ ?side1 ?side2 A11.out).mono ?_
                      (case side1 => repeat (first | exact (Kd.C_below HR122.out HB.out) | (with_reducible refine Kd.C_alloc ?_ _) | (with_reducible refine Kd.C_drewN ?_ _) | (with_reducible refine Kd.C_drew ?_)))
                      (case side2 => exact HC122.out)
                      rintro e w' ⟨rfl, ⟨nd, rfl⟩⟩
                      refine ⟨_, rfl, ?_⟩
                      refine hK.out _ _ trivial (fun hHeld => ?_)
                      clear hK K
                      refine norm_ (a' := ?_) ?_ ?_
                      rotate_left
                      · show Act.put _ (some 39) _ = _
                        simp only [Act.put, List.setIfInBounds_toArray, List.set_cons_zero, List.set_cons_succ, i64_w, i32_w]
                        rfl
                      refine one_ (i := 6) (N := some 40) #[true, true, true, true, true, true, true, true, true, true, true, true, false, false] rfl rfl (one_of HT_.out (by kernel_rfl)) (by decide) (fun K hK => ?_)
                      refine goes_ Try.func20 (by kernel_rfl) rfl #[.int .u32 t123] (by rfl) rfl rfl (by (try simp only [List.map_toArray, List.map_cons, List.map_nil]); first | done | rfl | (simp only [List.length_drop, List.length_take]; rfl)) ?_
                      with_reducible refine (crc_bytes.calls t123 t124 _ A12.out).mono ?_
                      rintro e w25 ⟨v125, rfl, ho0, hb⟩
                      refine ⟨_, rfl, ?_⟩
                      have n0_ := Aside0.mk (Kd.V_lower (Kd.V_mono (ok' := fun k_ => True) ho0 (fun k_ hk_ => trivial)) (below_size (by repeat (first | (with_reducible first | exact HB.out | apply below_alloc | apply pw_below_drewN | apply below_drew1) | exact HB.out))))
                      have n1_ := Aside0.mk (below_step (by repeat (first | (with_reducible first | exact HB.out | apply below_alloc | apply pw_below_drewN | apply below_drew1) | exact HB.out)) hb)
                      clear HB
                      have HO126 := n0_
                      have HB := n1_
                      clear n0_ n1_
                      (try clear hb)
                      (try clear hb2)
                      (try clear hk)
                      (try clear hi)
                      (try clear ho0)
                      obtain ⟨Ao26, co26, eo26⟩ := Kd.V_slice HO126.out
                      (first | subst eo26 | (injection eo26 with f1_ f2_ f3_; have f4_ := f1_.symm; have f5_ := f3_.symm; clear f1_ f2_ f3_; subst f4_; subst f5_))
                      refine hK.out _ _ trivial (fun hHeld => ?_)
                      clear hK K
                      refine norm_ (a' := ?_) ?_ ?_
                      rotate_left
                      · show Act.put _ (some 40) _ = _
                        simp only [Act.put, List.setIfInBounds_toArray, List.set_cons_zero, List.set_cons_succ, i64_w, i32_w]
                        rfl
                      refine one_ (i := 12) (N := some 46) #[true, true, true, true, true, true, true, true, true, true, true, true, true, false] rfl rfl (one_of HT_.out (by kernel_rfl)) (by decide) (fun K hK => ?_)
                      refine goes_ Try.func19 (by kernel_rfl) rfl #[.slice Ao26 t124.length co26, .slice A24 ((l0.take ((ji7) : Int).toNat).drop (t121 : Int).toNat).length (c0 - t121.toNat)] (by rfl) rfl rfl (by (try simp only [List.map_toArray, List.map_cons, List.map_nil]); first | done | (rw [show ((l0.take ((ji7) : Int).toNat).drop (t121 : Int).toNat).length = ((ji7).toNat - t121.toNat) from (by rw [List.length_drop, List.length_take]; have h_ : ((ji7) : Int) ≤ (l0.length : Int) := of_decide_eq_true (by first | (with_reducible assumption) | assumption); omega)] <;> rfl) | (simp only [hji7]; rfl) | rfl | (simp only [List.length_drop, List.length_take]; rfl)) ?_
                      with_reducible refine (slices_Equal_byte_byte.calls _ _ t124 _ _ ((l0.take ((ji7) : Int).toNat).drop (t121 : Int).toNat) true _ ?side1 ?side2 ?side3 ?side4 A16.out).mono ?_
                      (case side1 => repeat (first | exact (Kd.V_reads' HO126.out).2.2 | (with_reducible refine Kd.C_alloc ?_ _) | (with_reducible refine Kd.C_drewN ?_ _) | (with_reducible refine Kd.C_drew ?_)))
                      (case side2 => exact (Kd.V_reads' HO126.out).2.1)
                      (case side3 => repeat (first | exact (Kd.C_below HR127.out HB.out) | (with_reducible refine Kd.C_alloc ?_ _) | (with_reducible refine Kd.C_drewN ?_ _) | (with_reducible refine Kd.C_drew ?_)))
                      (case side4 => exact HC127.out)
                      rintro e w' ⟨rfl, ⟨nd, rfl⟩⟩
                      refine ⟨_, rfl, ?_⟩
                      refine hK.out _ _ trivial (fun hHeld => ?_)
                      clear hK K
                      refine norm_ (a' := ?_) ?_ ?_
                      rotate_left
                      · show Act.put _ (some 46) _ = _
                        simp only [Act.put, List.setIfInBounds_toArray, List.set_cons_zero, List.set_cons_succ, i64_w, i32_w]
                        rfl
                      refine pure_ (i := 13) (N := some 47) (v := ?_) (a' := ?_) #[true, true, true, true, true, true, true, true, true, true, true, true, true, true] rfl rfl (any_of HT_.out (by kernel_rfl)) (fun _ _ _ h => h) (Or.inl ⟨by rfl, ?_⟩) ?_ ?_
                      rotate_left
                      · intro w'
                        go_simp
                        with_reducible rfl
                      rotate_left
                      · simp only [Act.put, List.setIfInBounds_toArray, List.set_cons_zero, List.set_cons_succ, i64_w, i32_w]
                        rfl
                      refine done_ (done_of HT_.out (by kernel_rfl)) ?_
                      obtain ⟨i027, hi027, _, hsz27, _⟩ := info_parts info5
                      (try clear hcut23)
                      obtain ⟨A27, hcut27, hA27, hC27⟩ := print_mid_of (P := Try.prog) (Value.int .u8) 0 22 5 .i64 .i64 Try.underlying22 hi027 hsz27 A0 c0 l0 (ji7) (wrap64 ((ji7) + (wrap64 (t120)))) (of_decide_eq_true (by first | (with_reducible assumption) | assumption)) (by first | omega | exact of_decide_eq_true (by first | (with_reducible assumption) | assumption)) (of_decide_eq_true (by first | (with_reducible assumption) | assumption)) HC0.out
                      have HR129 := Aside0.mk (Kd.C_of_reads (h1 := fun _ => rfl) (hA27 _ (Kd.reads_of_C HR0.out)))
                      have HC129 := Aside0.mk hC27
                      clear hA27 hC27 hi027 hsz27
                      try go_wp2_with (first | ((with_reducible refine gate_callee (f := 21) rfl ?_); refine goesL_ (some 53) rfl rfl Try.func21 (by kernel_rfl) rfl #[.slice A27 ((l0.take ((wrap64 ((ji7) + (wrap64 (t120)))) : Int).toNat).drop ((ji7) : Int).toNat).length (c0 - (ji7).toNat)] rfl (by (try simp only [List.map_toArray, List.map_cons, List.map_nil]); first | done | (rw [show ((l0.take ((wrap64 ((ji7) + (wrap64 (t120)))) : Int).toNat).drop ((ji7) : Int).toNat).length = ((wrap64 ((ji7) + (wrap64 (t120)))).toNat - (ji7).toNat) from (by rw [List.length_drop, List.length_take]; have h_ : ((wrap64 ((ji7) + (wrap64 (t120)))) : Int) ≤ (l0.length : Int) := of_decide_eq_true (by first | (with_reducible assumption) | assumption); omega)] <;> rfl) | (simp only [hji7]; rfl) | rfl | (simp only [List.length_drop, List.length_take]; rfl)) ?_; (with_reducible refine (slices_Clone_byte_byte.calls _ _ ((l0.take ((wrap64 ((ji7) + (wrap64 (t120)))) : Int).toNat).drop ((ji7) : Int).toNat) t130 _ ?side1 ?side2 A21.out).mono ?_); (case side1 => repeat (first | exact (Kd.C_below HR129.out (by repeat (first | (with_reducible first | exact HB.out | apply below_alloc | apply pw_below_drewN | apply below_drew1) | exact HB.out))) | (with_reducible refine Kd.C_alloc ?_ _) | (with_reducible refine Kd.C_drewN ?_ _) | (with_reducible refine Kd.C_drew ?_))); (case side2 => exact HC129.out); rintro e w28 ⟨v131, rfl, ho0, hb⟩; refine ⟨_, rfl, ?_⟩; have n0_ := Aside0.mk (Kd.V_elder' (by (with_reducible repeat (first | apply Kd.V_alloc | apply Kd.V_drewN | apply Kd.V_drew)); exact HO126.out) (Kd.R_base ho0) hb); have n1_ := Aside0.mk (Kd.R_lower ho0 (below_size (by repeat (first | (with_reducible first | exact HB.out | apply below_alloc | apply pw_below_drewN | apply below_drew1) | exact HB.out)))); have n2_ := Aside0.mk (below_step (by repeat (first | (with_reducible first | exact HB.out | apply below_alloc | apply pw_below_drewN | apply below_drew1) | exact HB.out)) hb); clear HO126; clear HB; have HO126 := n0_; have HO132 := n1_; have HB := n2_; clear n0_ n1_ n2_; (try clear hb); (try clear hb2); (try clear hk); (try clear hi); (try clear ho0)))
                      go_ret3
                      exact ⟨_, by first | rfl | (simp [errW_none, errW_some] <;> rfl) | (simp only [← hji7]; first | rfl | (simp [errW_none, errW_some] <;> rfl)) | (simp [*, errW_none, errW_some] <;> rfl), by (with_reducible repeat (first | apply Kd.R_alloc | apply Kd.R_drewN | apply Kd.R_drew)); exact HO132.out, by repeat (first | (with_reducible first | exact HB.out | apply below_alloc | apply pw_below_drewN | apply below_drew1) | exact HB.out)⟩
                    · replace c17 := Bool.eq_false_iff.mpr c17
                      subst c17
                      have H1 : (some (([] : List Int), 0, 11)) = some (r1, r2, r3) := by rw [if_neg (show ¬ (false = true) by decide)] at H; exact H
                      clear H
                      have H := H1
                      clear H1
                      simp only [Option.some.injEq, Prod.mk.injEq] at H
                      obtain ⟨rfl, rfl, rfl⟩ := H
                      try go_wp2
                      have n0_ := Aside0.mk (below_drew1 HB.out)
                      clear HB
                      have HB := n0_
                      clear n0_
                      obtain ⟨i030, hi030, _, hsz30, _⟩ := info_parts info5
                      (try clear hcut23); (try clear hcut27)
                      obtain ⟨A30, hcut30, hA30, hC30⟩ := print_mid_of (P := Try.prog) (Value.int .u8) 0 22 5 .i64 .i64 Try.underlying22 hi030 hsz30 A0 c0 l0 (ji7) (wrap64 ((ji7) + (wrap64 (t120)))) (of_decide_eq_true (by first | (with_reducible assumption) | assumption)) (by first | omega | exact of_decide_eq_true (by first | (with_reducible assumption) | assumption)) (of_decide_eq_true (by first | (with_reducible assumption) | assumption)) HC0.out
                      have HR122 := Aside0.mk (Kd.C_of_reads (h1 := fun _ => rfl) (hA30 _ (Kd.reads_of_C HR0.out)))
                      have HC122 := Aside0.mk hC30
                      clear hA30 hC30 hi030 hsz30
                      obtain ⟨i031, hi031, _, hsz31, _⟩ := info_parts info5
                      (try clear hcut24)
                      obtain ⟨A31, hcut31, hA31, hC31⟩ := print_mid_of (P := Try.prog) (Value.int .u8) 0 22 5 .i64 .i64 Try.underlying22 hi031 hsz31 A0 c0 l0 t121 (ji7) (of_decide_eq_true (by first | (with_reducible assumption) | assumption)) (by first | omega | exact of_decide_eq_true (by first | (with_reducible assumption) | assumption)) (of_decide_eq_true (by first | (with_reducible assumption) | assumption)) HC0.out
                      have HR127 := Aside0.mk (Kd.C_of_reads (h1 := fun _ => rfl) (hA31 _ (Kd.reads_of_C HR0.out)))
                      have HC127 := Aside0.mk hC31
                      clear hA31 hC31 hi031 hsz31
                      refine start_ (n := 14) (S := fun w' => True) (ds := []) #[false, false, false, false, false, false, false, false, false, false, false, false, false, false] (by kernel_rfl) rfl rfl trivial (fun hHeld => ?_); refine with_tabW crc_Unframe_p.tab5 crc_Unframe_p.bits5 (fun HT_ HW_ => ?_)
                      generalize wc.drew = w29 at HB HR122 HR127 hHeld ⊢
                      refine pure_ (i := 0) (N := some 34) (v := ?_) (a' := ?_) #[true, false, false, false, false, false, false, false, false, false, false, false, false, false] rfl rfl (any_of HT_.out (by kernel_rfl)) (fun _ _ _ h => h) (Or.inl ⟨by rfl, ?_⟩) ?_ ?_
                      rotate_left
                      · intro w'
                        go_simp
                        with_reducible rfl
                      rotate_left
                      · simp only [Act.put, List.setIfInBounds_toArray, List.set_cons_zero, List.set_cons_succ, i64_w, i32_w]
                        rfl
                      refine pure_ (i := 1) (N := some 35) (v := ?_) (a' := ?_) #[true, true, false, false, false, false, false, false, false, false, false, false, false, false] rfl rfl (any_of HT_.out (by kernel_rfl)) (fun _ _ _ h => h) (Or.inl ⟨by rfl, ?_⟩) ?_ ?_
                      rotate_left
                      · intro w'
                        go_simp
                        with_reducible rfl
                      rotate_left
                      · simp only [Act.put, List.setIfInBounds_toArray, List.set_cons_zero, List.set_cons_succ, i64_w, i32_w]
                        rfl
                      refine pure_ (i := 2) (N := some 36) (v := ?_) (a' := ?_) #[true, true, true, false, false, false, false, false, false, false, false, false, false, false] rfl rfl (any_of HT_.out (by kernel_rfl)) (fun _ _ _ h => h) (Or.inl ⟨by rfl, ?_⟩) ?_ ?_
                      rotate_left
                      · intro w'
                        go_simp
                        with_reducible rfl
                      rotate_left
                      · simp only [Act.put, List.setIfInBounds_toArray, List.set_cons_zero, List.set_cons_succ, i64_w, i32_w]
                        rfl
                      refine pure_ (i := 3) (N := some 37) (v := ?_) (a' := ?_) #[true, true, true, true, false, false, false, false, false, false, false, false, false, false] rfl rfl (any_of HT_.out (by kernel_rfl)) (fun _ _ _ h => h) (Or.inl ⟨by rfl, ?_⟩) ?_ ?_
                      rotate_left
                      · intro w'
                        go_simp
                        with_reducible rfl
                      rotate_left
                      · simp only [Act.put, List.setIfInBounds_toArray, List.set_cons_zero, List.set_cons_succ, i64_w, i32_w]
                        rfl
                      refine pure_ (i := 4) (N := some 38) (v := ?_) (a' := ?_) #[true, true, true, true, true, false, false, false, false, false, false, false, false, false] rfl rfl (any_of HT_.out (by kernel_rfl)) (fun _ _ _ h => h) (Or.inl ⟨by rfl, ?_⟩) ?_ ?_
                      rotate_left
                      · intro w'
                        go_simp
                        with_reducible rfl
                      rotate_left
                      · simp only [Act.put, List.setIfInBounds_toArray, List.set_cons_zero, List.set_cons_succ, i64_w, i32_w]
                        rfl
                      refine pure_ (i := 7) (N := some 41) (v := ?_) (a' := ?_) #[true, true, true, true, true, false, false, true, false, false, false, false, false, false] rfl rfl (any_of HT_.out (by kernel_rfl)) (fun _ _ _ h => h) (Or.inl ⟨by rfl, ?_⟩) ?_ ?_
                      rotate_left
                      · intro w'
                        go_simp
                        with_reducible rfl
                      rotate_left
                      · simp only [Act.put, List.setIfInBounds_toArray, List.set_cons_zero, List.set_cons_succ, i64_w, i32_w]
                        rfl
                      refine pure_ (i := 8) (N := some 42) (v := ?_) (a' := ?_) #[true, true, true, true, true, false, false, true, true, false, false, false, false, false] rfl rfl (any_of HT_.out (by kernel_rfl)) (fun _ _ _ h => h) (Or.inl ⟨by rfl, ?_⟩) ?_ ?_
                      rotate_left
                      · intro w'
                        go_simp
                        with_reducible rfl
                      rotate_left
                      · simp only [Act.put, List.setIfInBounds_toArray, List.set_cons_zero, List.set_cons_succ, i64_w, i32_w]
                        rfl
                      refine pure_ (i := 9) (N := some 43) (v := ?_) (a' := ?_) #[true, true, true, true, true, false, false, true, true, true, false, false, false, false] rfl rfl (any_of HT_.out (by kernel_rfl)) (fun _ _ _ h => h) (Or.inl ⟨by rfl, ?_⟩) ?_ ?_
                      rotate_left
                      · intro w'
                        go_simp
                        with_reducible rfl
                      rotate_left
                      · simp only [Act.put, List.setIfInBounds_toArray, List.set_cons_zero, List.set_cons_succ, i64_w, i32_w]
                        rfl
                      refine pure_ (i := 10) (N := some 44) (v := ?_) (a' := ?_) #[true, true, true, true, true, false, false, true, true, true, true, false, false, false] rfl rfl (any_of HT_.out (by kernel_rfl)) (fun _ _ _ h => h) (Or.inl ⟨by rfl, ?_⟩) ?_ ?_
                      rotate_left
                      · intro w'
                        go_simp
                        with_reducible rfl
                      rotate_left
                      · simp only [Act.put, List.setIfInBounds_toArray, List.set_cons_zero, List.set_cons_succ, i64_w, i32_w]
                        rfl
                      refine pure_ (i := 11) (N := some 45) (v := ?_) (a' := ?_) #[true, true, true, true, true, false, false, true, true, true, true, true, false, false] rfl rfl (any_of HT_.out (by kernel_rfl)) (fun _ _ _ h => h) (Or.inl ⟨by rfl, ?_⟩) ?_ ?_
                      rotate_left
                      · intro w'
                        go_simp
                        with_reducible rfl
                      rotate_left
                      · simp only [Act.put, List.setIfInBounds_toArray, List.set_cons_zero, List.set_cons_succ, i64_w, i32_w]
                        rfl
                      refine one_ (i := 5) (N := some 39) #[true, true, true, true, true, true, false, true, true, true, true, true, false, false] rfl rfl (one_of HT_.out (by kernel_rfl)) (by decide) (fun K hK => ?_)
                      refine goes_ Try.func10 (by kernel_rfl) rfl #[.slice A30 ((l0.take ((wrap64 ((ji7) + (wrap64 (t120)))) : Int).toNat).drop ((ji7) : Int).toNat).length (c0 - (ji7).toNat)] (by rfl) rfl rfl (by (try simp only [List.map_toArray, List.map_cons, List.map_nil]); first | done | (rw [show ((l0.take ((wrap64 ((ji7) + (wrap64 (t120)))) : Int).toNat).drop ((ji7) : Int).toNat).length = ((wrap64 ((ji7) + (wrap64 (t120)))).toNat - (ji7).toNat) from (by rw [List.length_drop, List.length_take]; have h_ : ((wrap64 ((ji7) + (wrap64 (t120)))) : Int) ≤ (l0.length : Int) := of_decide_eq_true (by first | (with_reducible assumption) | assumption); omega)] <;> rfl) | (simp only [hji7]; rfl) | rfl | (simp only [List.length_drop, List.length_take]; rfl)) ?_
                      with_reducible refine (crc_Sum.calls _ _ ((l0.take ((wrap64 ((ji7) + (wrap64 (t120)))) : Int).toNat).drop ((ji7) : Int).toNat) t123 _ ?side1 ?side2 A11.out).mono ?_
                      (case side1 => repeat (first | exact (Kd.C_below HR122.out HB.out) | (with_reducible refine Kd.C_alloc ?_ _) | (with_reducible refine Kd.C_drewN ?_ _) | (with_reducible refine Kd.C_drew ?_)))
                      (case side2 => exact HC122.out)
                      rintro e w' ⟨rfl, ⟨nd, rfl⟩⟩
                      refine ⟨_, rfl, ?_⟩
                      refine hK.out _ _ trivial (fun hHeld => ?_)
                      clear hK K
                      refine norm_ (a' := ?_) ?_ ?_
                      rotate_left
                      · show Act.put _ (some 39) _ = _
                        simp only [Act.put, List.setIfInBounds_toArray, List.set_cons_zero, List.set_cons_succ, i64_w, i32_w]
                        rfl
                      refine one_ (i := 6) (N := some 40) #[true, true, true, true, true, true, true, true, true, true, true, true, false, false] rfl rfl (one_of HT_.out (by kernel_rfl)) (by decide) (fun K hK => ?_)
                      refine goes_ Try.func20 (by kernel_rfl) rfl #[.int .u32 t123] (by rfl) rfl rfl (by (try simp only [List.map_toArray, List.map_cons, List.map_nil]); first | done | rfl | (simp only [List.length_drop, List.length_take]; rfl)) ?_
                      with_reducible refine (crc_bytes.calls t123 t124 _ A12.out).mono ?_
                      rintro e w32 ⟨v125, rfl, ho0, hb⟩
                      refine ⟨_, rfl, ?_⟩
                      have n0_ := Aside0.mk (Kd.V_lower (Kd.V_mono (ok' := fun k_ => True) ho0 (fun k_ hk_ => trivial)) (below_size (by repeat (first | (with_reducible first | exact HB.out | apply below_alloc | apply pw_below_drewN | apply below_drew1) | exact HB.out))))
                      have n1_ := Aside0.mk (below_step (by repeat (first | (with_reducible first | exact HB.out | apply below_alloc | apply pw_below_drewN | apply below_drew1) | exact HB.out)) hb)
                      clear HB
                      have HO126 := n0_
                      have HB := n1_
                      clear n0_ n1_
                      (try clear hb)
                      (try clear hb2)
                      (try clear hk)
                      (try clear hi)
                      (try clear ho0)
                      obtain ⟨Ao33, co33, eo33⟩ := Kd.V_slice HO126.out
                      (first | subst eo33 | (injection eo33 with f1_ f2_ f3_; have f4_ := f1_.symm; have f5_ := f3_.symm; clear f1_ f2_ f3_; subst f4_; subst f5_))
                      refine hK.out _ _ trivial (fun hHeld => ?_)
                      clear hK K
                      refine norm_ (a' := ?_) ?_ ?_
                      rotate_left
                      · show Act.put _ (some 40) _ = _
                        simp only [Act.put, List.setIfInBounds_toArray, List.set_cons_zero, List.set_cons_succ, i64_w, i32_w]
                        rfl
                      refine one_ (i := 12) (N := some 46) #[true, true, true, true, true, true, true, true, true, true, true, true, true, false] rfl rfl (one_of HT_.out (by kernel_rfl)) (by decide) (fun K hK => ?_)
                      refine goes_ Try.func19 (by kernel_rfl) rfl #[.slice Ao33 t124.length co33, .slice A31 ((l0.take ((ji7) : Int).toNat).drop (t121 : Int).toNat).length (c0 - t121.toNat)] (by rfl) rfl rfl (by (try simp only [List.map_toArray, List.map_cons, List.map_nil]); first | done | (rw [show ((l0.take ((ji7) : Int).toNat).drop (t121 : Int).toNat).length = ((ji7).toNat - t121.toNat) from (by rw [List.length_drop, List.length_take]; have h_ : ((ji7) : Int) ≤ (l0.length : Int) := of_decide_eq_true (by first | (with_reducible assumption) | assumption); omega)] <;> rfl) | (simp only [hji7]; rfl) | rfl | (simp only [List.length_drop, List.length_take]; rfl)) ?_
                      with_reducible refine (slices_Equal_byte_byte.calls _ _ t124 _ _ ((l0.take ((ji7) : Int).toNat).drop (t121 : Int).toNat) false _ ?side1 ?side2 ?side3 ?side4 A16.out).mono ?_
                      (case side1 => repeat (first | exact (Kd.V_reads' HO126.out).2.2 | (with_reducible refine Kd.C_alloc ?_ _) | (with_reducible refine Kd.C_drewN ?_ _) | (with_reducible refine Kd.C_drew ?_)))
                      (case side2 => exact (Kd.V_reads' HO126.out).2.1)
                      (case side3 => repeat (first | exact (Kd.C_below HR127.out HB.out) | (with_reducible refine Kd.C_alloc ?_ _) | (with_reducible refine Kd.C_drewN ?_ _) | (with_reducible refine Kd.C_drew ?_)))
                      (case side4 => exact HC127.out)
                      rintro e w' ⟨rfl, ⟨nd, rfl⟩⟩
                      refine ⟨_, rfl, ?_⟩
                      refine hK.out _ _ trivial (fun hHeld => ?_)
                      clear hK K
                      refine norm_ (a' := ?_) ?_ ?_
                      rotate_left
                      · show Act.put _ (some 46) _ = _
                        simp only [Act.put, List.setIfInBounds_toArray, List.set_cons_zero, List.set_cons_succ, i64_w, i32_w]
                        rfl
                      refine pure_ (i := 13) (N := some 47) (v := ?_) (a' := ?_) #[true, true, true, true, true, true, true, true, true, true, true, true, true, true] rfl rfl (any_of HT_.out (by kernel_rfl)) (fun _ _ _ h => h) (Or.inl ⟨by rfl, ?_⟩) ?_ ?_
                      rotate_left
                      · intro w'
                        go_simp
                        with_reducible rfl
                      rotate_left
                      · simp only [Act.put, List.setIfInBounds_toArray, List.set_cons_zero, List.set_cons_succ, i64_w, i32_w]
                        rfl
                      refine done_ (done_of HT_.out (by kernel_rfl)) ?_
                      try go_wp2
                      go_ret3
                      exact ⟨_, by first | rfl | (simp [errW_none, errW_some] <;> rfl) | (simp only [← hji7]; first | rfl | (simp [errW_none, errW_some] <;> rfl)) | (simp [*, errW_none, errW_some] <;> rfl), by first | exact Kd.R_nil _ _ _ _ _ | exact Kd.N_nil _ _ _ _ _ | exact Kd.V_nil _ _ _ _ _ | exact Kd.Q_nil _ _ _ _ _ | exact Kd.S_nil _ _ _ _ _, by repeat (first | (with_reducible first | exact HB.out | apply below_alloc | apply pw_below_drewN | apply below_drew1) | exact HB.out)⟩
                  · rw [if_neg c15] at H
                    exact absurd H (by simp)
                · rw [if_neg c14] at H
                  exact absurd H (by simp)
              · rw [if_neg c13] at H
                exact absurd H (by simp)
            · rw [if_neg c10] at H
              exact absurd H (by simp)
          · rw [if_neg c9] at H
            exact absurd H (by simp)
        · rw [if_neg c8] at H
          exact absurd H (by simp)

/-! ### crc_Unframe: plain, of function 12 -/
def crc_Unframe.f (l0 : List Int) : Option (List Int × Int × Int) := if YtfnlohopfoekfaaH.Crc.isB l0 then some (YtfnlohopfoekfaaH.Fr.unframeI l0) else none
set_option maxHeartbeats 2000000 in
theorem crc_Unframe.ev (l0 : List Int) (r : List Int × Int × Int) (h : crc_Unframe.f l0 = some r) (hl : l0.length ≤ 9223372036854775807) : Ev (fun k => crc_Unframe_p.f k l0) r := by
  unfold crc_Unframe.f at h
  split at h
  · rename_i hB
    obtain rfl := Option.some.inj h
    have hr := YtfnlohopfoekfaaH.Var.varI_range l0
    have hv := YtfnlohopfoekfaaH.Var.varI_some l0 hB (YtfnlohopfoekfaaH.Var.varI l0).1 (YtfnlohopfoekfaaH.Var.varI l0).2 rfl
    have hf : num_Var.f l0 = some (YtfnlohopfoekfaaH.Var.varI l0) := by unfold num_Var.f; rw [if_pos hB]
    unfold YtfnlohopfoekfaaH.Fr.unframeI
    generalize YtfnlohopfoekfaaH.Var.varI l0 = p at hr hv hf ⊢
    obtain ⟨n, k0⟩ := p
    simp only at hr hv ⊢
    have hj : ∀ b : Bool, b = decide (k0 = 0 ∨ n > 1048576 ∨ (l0.length : Int) - k0 < n + 4) → Ev (fun k => crc_Unframe_p.j0 k l0 n k0 b) (if k0 = 0 ∨ n > 1048576 ∨ (l0.length : Int) - k0 < n + 4 then ([], 0, 10)
        else if YtfnlohopfoekfaaH.Fr.sum4 (YtfnlohopfoekfaaH.Crc.crcI ((l0.take (k0 + 4 + n).toNat).drop (k0 + 4).toNat)) = (l0.take (k0 + 4).toNat).drop k0.toNat then ((l0.take (k0 + 4 + n).toNat).drop (k0 + 4).toNat, k0 + 4 + n, 0) else ([], 0, 11)) := by
      intro b hb
      by_cases hc : k0 = 0 ∨ n > 1048576 ∨ (l0.length : Int) - k0 < n + 4
      · rw [decide_eq_true hc] at hb
        subst hb
        rw [if_pos hc]
        refine Ev.step (fun k => ?_) (Ev.now _)
        simp only [crc_Unframe_p.j0]
        rw [if_pos trivial]
      · rw [decide_eq_false hc] at hb
        subst hb
        rw [if_neg hc]
        have hv' := hv (fun h => hc (Or.inl h))
        have hn : n ≤ 1048576 := by
          refine Classical.byContradiction fun h => hc (Or.inr (Or.inl (by omega)))
        have hlen : n + 4 ≤ l0.length - k0 := by
          refine Classical.byContradiction fun h => hc (Or.inr (Or.inr (by omega)))
        have w1 : wrap64 (k0 + 4) = k0 + 4 := YtfnlohopfoekfaaH.Crc.wrap64_in _ (by omega) (by omega)
        have w2 : wrap64 n = n := YtfnlohopfoekfaaH.Crc.wrap64_in _ (by omega) (by omega)
        have w3 : wrap64 (k0 + 4 + n) = k0 + 4 + n := YtfnlohopfoekfaaH.Crc.wrap64_in _ (by omega) (by omega)
        have hBd : YtfnlohopfoekfaaH.Crc.isB ((l0.take (k0 + 4 + n).toNat).drop (k0 + 4).toNat) := YtfnlohopfoekfaaH.Var.isB_drop (YtfnlohopfoekfaaH.Var.isB_take hB _) _
        have hcr := YtfnlohopfoekfaaH.Crc.crcI_range hBd
        refine Ev.step (f := fun _ => some (if YtfnlohopfoekfaaH.Fr.sum4 (YtfnlohopfoekfaaH.Crc.crcI ((l0.take (k0 + 4 + n).toNat).drop (k0 + 4).toNat)) = (l0.take (k0 + 4).toNat).drop k0.toNat then ((l0.take (k0 + 4 + n).toNat).drop (k0 + 4).toNat, k0 + 4 + n, 0) else ([], 0, 11))) (fun k => ?_) (Ev.now _)
        simp only [crc_Unframe_p.j0]
        rw [if_neg (by simp), w1, w2, w3, if_pos (by omega), if_pos (by omega), if_pos (by omega)]
        unfold crc_Sum.f
        rw [if_pos hBd]
        rw [Option.bind_some]
        unfold crc_bytes.f
        rw [if_pos hcr]
        rw [Option.bind_some]
        rw [if_pos (by omega), if_pos (by omega), if_pos (by omega)]
        unfold slices_Equal_byte_byte.f
        rw [Option.bind_some]; simp only [decide_eq_true_eq]
        by_cases hs : YtfnlohopfoekfaaH.Fr.sum4 (YtfnlohopfoekfaaH.Crc.crcI ((l0.take (k0 + 4 + n).toNat).drop (k0 + 4).toNat)) = (l0.take (k0 + 4).toNat).drop k0.toNat
        · rw [if_pos hs, if_pos hs]
          unfold slices_Clone_byte_byte.f
          rw [if_pos (by rw [List.length_drop, List.length_take]; omega)]
          rfl
        · rw [if_neg hs, if_neg hs]
    have wl : wrap64 ((l0.length : Int) - k0) = (l0.length : Int) - k0 := YtfnlohopfoekfaaH.Crc.wrap64_in _ (by omega) (by omega)
    by_cases h0 : k0 = 0
    · refine Ev.congr (fun k => ?_) (hj true (by simp [h0]))
      unfold crc_Unframe_p.f
      rw [hf]
      rw [Option.bind_some]
      rw [if_pos h0]
    · by_cases h1 : n > 1048576
      · refine Ev.congr (fun k => ?_) (hj true (by simp [h1]))
        unfold crc_Unframe_p.f
        rw [hf]
        rw [Option.bind_some]
        rw [if_neg h0, if_pos h1]
      · refine Ev.congr (fun k => ?_) (hj (decide ((l0.length : Int) - k0 < n + 4)) (by simp [h0, h1]))
        unfold crc_Unframe_p.f
        rw [hf]
        rw [Option.bind_some]
        rw [if_neg h0, if_neg h1, wl]
        have u1 : IntKind.u64.wrap ((l0.length : Int) - k0) = (l0.length : Int) - k0 := by rw [IntKind.wrap_u64]; omega
        have u2 : IntKind.u64.wrap (n + 4) = n + 4 := by rw [IntKind.wrap_u64]; omega
        rw [u1, u2]
  · cases h
theorem crc_Unframe.calls (A0 : Option Addr) (c0 : Nat) (l0 : List Int) (r1 : List Int) (r2 : Int) (r3 : Int) (w : World) (hr0 : Kd.C (Kd.int .u8) w A0 l0.length l0) (hc0 : l0.length ≤ c0) (h : crc_Unframe.f l0 = some (r1, r2, r3)) :
    Calls Try.prog 12 #[.slice A0 l0.length c0] w fun e w' => ∃ v0_ : Value, e = .returned (.tuple #[v0_, .int .i64 r2, .int .i64 r3]) ∧ Kd.R (Kd.int .u8) 5 w' w.heap.size (fun _ => True) v0_ r1 ∧ Below w.heap.size w w' := by
  obtain ⟨k, hk⟩ := (crc_Unframe.ev l0 _ h (by first | exact hr0.2.1 | exact (Kd.V_reads' hs0).2.2.2.1 | exact (Kd.R_reads' ho0).2.2.2.1)).rounds
  exact crc_Unframe_p.calls k A0 c0 l0 r1 r2 r3 w hr0 hc0 hk

/-! ### thresherref02_Sum_p: function 14 -/
mutual
def thresherref02_Sum_p.l0 : Nat → List Int → Int → Int → Option (Int)
  | 0, _, _, _ => none
  | k + 1, x0, x3, x4 => if x4 < (x0.length : Int) then (if 0 ≤ x4 then (thresherref02_Sum_p.l1 k x0 x3 x4 ((rd x0 x4) % 4294967296) 0) else (none)) else (some ((4294967295 - x3) % 4294967296))
def thresherref02_Sum_p.l1 : Nat → List Int → Int → Int → Int → Int → Option (Int)
  | 0, _, _, _, _, _ => none
  | k + 1, x0, x3, x4, x5, x6 => if x6 < 8 then (if (Int.tmod x5 2) = (Int.tmod x3 2) then (thresherref02_Sum_p.l1 k x0 ((Int.tdiv x3 2) % 4294967296) x4 ((Int.tdiv x5 2) % 4294967296) (wrap64 (x6 + 1))) else (thresherref02_Sum_p.l1 k x0 (Go.bits .xor .u32 ((Int.tdiv x3 2) % 4294967296) 3988292384) x4 ((Int.tdiv x5 2) % 4294967296) (wrap64 (x6 + 1)))) else (thresherref02_Sum_p.l0 k x0 x3 (wrap64 (x4 + 1)))
end
def thresherref02_Sum_p.f (k : Nat) (l0 : List Int) : Option (Int) := thresherref02_Sum_p.l0 k l0 4294967295 0
theorem thresherref02_Sum_p.mono_l : ∀ k, (∀ y0 y1 y2, LeO (thresherref02_Sum_p.l0 k y0 y1 y2) (thresherref02_Sum_p.l0 (k + 1) y0 y1 y2)) ∧ (∀ y0 y1 y2 y3 y4, LeO (thresherref02_Sum_p.l1 k y0 y1 y2 y3 y4) (thresherref02_Sum_p.l1 (k + 1) y0 y1 y2 y3 y4))
  | 0 => ⟨fun _ _ _ r h => by simp [thresherref02_Sum_p.l0] at h, fun _ _ _ _ _ r h => by simp [thresherref02_Sum_p.l1] at h⟩
  | k + 1 => by
    obtain ⟨ih0, ih1⟩ := thresherref02_Sum_p.mono_l k
    refine ⟨?_, ?_⟩
    · intro y0 y1 y2
      unfold thresherref02_Sum_p.l0
      repeat' first
      | (with_reducible exact ih0 _ _ _)
      | (with_reducible exact ih1 _ _ _ _ _)
      | (with_reducible exact LeO.refl _)
      | (with_reducible exact LeO.none _)
      | (with_reducible refine LeO.ite ?_ ?_)
      | (with_reducible refine LeO.bind ?_ (fun _ => ?_))
      | exact ih0 _ _ _
      | exact ih1 _ _ _ _ _
      | exact LeO.none _
      | refine LeO.ite ?_ ?_
      | refine LeO.bind ?_ (fun _ => ?_)
    · intro y0 y1 y2 y3 y4
      unfold thresherref02_Sum_p.l1
      repeat' first
      | (with_reducible exact ih0 _ _ _)
      | (with_reducible exact ih1 _ _ _ _ _)
      | (with_reducible exact LeO.refl _)
      | (with_reducible exact LeO.none _)
      | (with_reducible refine LeO.ite ?_ ?_)
      | (with_reducible refine LeO.bind ?_ (fun _ => ?_))
      | exact ih0 _ _ _
      | exact ih1 _ _ _ _ _
      | exact LeO.none _
      | refine LeO.ite ?_ ?_
      | refine LeO.bind ?_ (fun _ => ?_)
theorem thresherref02_Sum_p.mono : ∀ a0 k, LeO (thresherref02_Sum_p.f k a0) (thresherref02_Sum_p.f (k + 1) a0) := by
  intro a0 k
  obtain ⟨ih0, ih1⟩ := thresherref02_Sum_p.mono_l k
  unfold thresherref02_Sum_p.f
  repeat' first
      | (with_reducible exact ih0 _ _ _)
      | (with_reducible exact ih1 _ _ _ _ _)
      | (with_reducible exact LeO.refl _)
      | (with_reducible exact LeO.none _)
      | (with_reducible refine LeO.ite ?_ ?_)
      | (with_reducible refine LeO.bind ?_ (fun _ => ?_))
      | exact ih0 _ _ _
      | exact ih1 _ _ _ _ _
      | exact LeO.none _
      | refine LeO.ite ?_ ?_
      | refine LeO.bind ?_ (fun _ => ?_)
set_option maxHeartbeats 8000000 in
set_option maxRecDepth 100000 in
theorem thresherref02_Sum_p.calls (k : Nat) (A0 : Option Addr) (c0 : Nat) (l0 : List Int) (r : Int) (w : World) (hr0 : Kd.C (Kd.int .u8) w A0 l0.length l0) (hc0 : l0.length ≤ c0) (h : thresherref02_Sum_p.f k l0 = some r) :
    Calls Try.prog 14 #[.slice A0 l0.length c0] w fun e w' => e = .returned (.int .u32 r) ∧ Drawn0 w w' := by
  have HR0 := Aside0.mk hr0
  have HC0 := Aside0.mk hc0
  clear hr0 hc0
  have H : (thresherref02_Sum_p.l0 k l0 4294967295 0) = some r := h
  clear h
  have H' := Aside0.mk H
  clear H
  go_enter Try.func14, Try.ntmps14
  go_wp2
  go_loopg [3, 4] k (fun kq v3 v4 w' => ∃ (x3_1 : Int) (x4_1 : Int), v3 = .int .u32 x3_1 ∧ v4 = .int .i64 x4_1 ∧ Aside0 (thresherref02_Sum_p.l0 kq l0 x3_1 x4_1 = some r) ∧ Aside0 (kq ≤ k) ∧ Drawn0 w w')
  case atStart => exact ⟨(4294967295), (0), (by first | rfl | (simp; done) | (simp [*]; done)), (by first | rfl | (simp; done) | (simp [*]; done)), H', ⟨Nat.le_refl _⟩, by repeat (first | exact Drawn0.refl _ | apply Drawn0.step)⟩
  case round =>
    clear H'
    try clear c1
    obtain ⟨x3_1, x4_1, rfl, rfl, HA, HK1, ⟨m1, rfl⟩⟩ := hrel
    cases gk with
    | zero => exact absurd HA.out (by simp [thresherref02_Sum_p.l0])
    | succ k1 =>
      have H := HA.out
      clear HA
      simp only [thresherref02_Sum_p.l0] at H
      by_cases c2 : x4_1 < (l0.length : Int)
      · rw [if_pos c2] at H
        have c2b0 : decide (x4_1 < (l0.length : Int)) = true := decide_eq_true c2
        clear c2
        by_cases c3 : 0 ≤ x4_1
        · rw [if_pos c3] at H
          have c3b0 : decide (0 ≤ x4_1) = true := decide_eq_true c3
          clear c3
          have H' := Aside0.mk H
          clear H
          have p133 : 0 ≤ (x4_1 : Int) := of_decide_eq_true (by first | (with_reducible assumption) | assumption)
          have q133 : x4_1 < (l0.length : Int) := of_decide_eq_true (by first | (with_reducible assumption) | assumption)
          obtain ⟨ad133, e133, hx133_0⟩ := Kd.at_int HR0.out x4_1 p133 q133
          cases e133
          replace p133 := eq_true p133
          replace q133 := eq_true q133
          go_wp2
          go_loopg [3, 5, 6] k1 (fun kq v3 v5 v6 w' => ∃ (x3_2 : Int) (x5_2 : Int) (x6_2 : Int), v3 = .int .u32 x3_2 ∧ v5 = .int .u32 x5_2 ∧ v6 = .int .i64 x6_2 ∧ Aside0 (thresherref02_Sum_p.l1 kq l0 x3_2 x4_1 x5_2 x6_2 = some r) ∧ Aside0 (kq ≤ k1) ∧ Drawn0 w w')
          case atStart => exact ⟨(x3_1), ((rd l0 x4_1) % 4294967296), (0), (by first | rfl | (simp; done) | (simp [*]; done)), (by first | rfl | (simp; done) | (simp [*]; done)), (by first | rfl | (simp; done) | (simp [*]; done)), H', ⟨Nat.le_refl _⟩, by repeat (first | exact Drawn0.refl _ | apply Drawn0.step)⟩
          case round =>
            clear H'
            try clear c1
            try clear p1
            try clear q1
            try clear hx1
            try clear c2
            try clear c2b0
            try clear p2
            try clear c3
            try clear c3b0
            try clear hx133_0
            try clear p133
            try clear q133
            obtain ⟨x3_2, x5_2, x6_2, rfl, rfl, rfl, HA, HK2, ⟨m2, rfl⟩⟩ := hrel
            cases gk with
            | zero => exact absurd HA.out (by simp [thresherref02_Sum_p.l1])
            | succ k2 =>
              have H := HA.out
              clear HA
              simp only [thresherref02_Sum_p.l1] at H
              by_cases c4 : x6_2 < 8
              · rw [if_pos c4] at H
                have c4b0 : decide (x6_2 < 8) = true := decide_eq_true c4
                clear c4
                by_cases c5 : (Int.tmod x5_2 2) = (Int.tmod x3_2 2)
                · rw [if_pos c5] at H
                  have c5b0 : ((Int.tmod x5_2 2) == (Int.tmod x3_2 2)) = true := beq_iff_eq.mpr c5
                  have c5b1 : ((Int.tmod x5_2 2) != (Int.tmod x3_2 2)) = false := bne_eq_false_iff_eq.mpr c5
                  clear c5
                  have H' := Aside0.mk H
                  clear H
                  go_wp2
                  go_roundg k2
                  case measure => have := HK1.out; have := HK2.out; omega
                  case rel => exact ⟨((Int.tdiv x3_2 2) % 4294967296), ((Int.tdiv x5_2 2) % 4294967296), (wrap64 (x6_2 + 1)), (by first | rfl | (simp; done) | (simp [*]; done)), (by first | rfl | (simp; done) | (simp [*]; done)), (by first | rfl | (simp; done) | (simp [*]; done)), H', ⟨by have := HK1.out; have := HK2.out; omega⟩, by repeat (first | exact Drawn0.refl _ | apply Drawn0.step)⟩
                · rw [if_neg c5] at H
                  have c5b0 : ((Int.tmod x5_2 2) == (Int.tmod x3_2 2)) = false := beq_eq_false_iff_ne.mpr c5
                  have c5b1 : ((Int.tmod x5_2 2) != (Int.tmod x3_2 2)) = true := bne_iff_ne.mpr c5
                  have H' := Aside0.mk H
                  clear H
                  go_wp2
                  go_roundg k2
                  case measure => have := HK1.out; have := HK2.out; omega
                  case rel => exact ⟨(Go.bits .xor .u32 ((Int.tdiv x3_2 2) % 4294967296) 3988292384), ((Int.tdiv x5_2 2) % 4294967296), (wrap64 (x6_2 + 1)), (by first | rfl | (simp; done) | (simp [*]; done)), (by first | rfl | (simp; done) | (simp [*]; done)), (by first | rfl | (simp; done) | (simp [*]; done)), H', ⟨by have := HK1.out; have := HK2.out; omega⟩, by repeat (first | exact Drawn0.refl _ | apply Drawn0.step)⟩
              · rw [if_neg c4] at H
                have c4b0 : decide (x6_2 < 8) = false := decide_eq_false c4
                clear c4
                have H' := Aside0.mk H
                clear H
                go_wp2
                go_roundg k2
                case measure => have := HK1.out; have := HK2.out; omega
                case rel => exact ⟨(x3_2), (wrap64 (x4_1 + 1)), (by first | rfl | (simp; done) | (simp [*]; done)), (by first | rfl | (simp; done) | (simp [*]; done)), H', ⟨by have := HK1.out; have := HK2.out; omega⟩, by repeat (first | exact Drawn0.refl _ | apply Drawn0.step)⟩
        · rw [if_neg c3] at H
          exact absurd H (by simp)
      · rw [if_neg c2] at H
        have c2b0 : decide (x4_1 < (l0.length : Int)) = false := decide_eq_false c2
        clear c2
        obtain rfl := Option.some.inj H
        go_wp2
        go_ret
        exact ⟨by first | rfl | (simp; done) | (simp [*]; done), by repeat (first | exact Drawn0.refl _ | apply Drawn0.step)⟩

/-! ### thresherref02_Sum: plain, of function 14 -/
def thresherref02_Sum.f (l0 : List Int) : Option Int := if YtfnlohopfoekfaaH.Crc.isB l0 then some (YtfnlohopfoekfaaH.Crc.crcI l0) else none
set_option maxHeartbeats 2000000 in
theorem thresherref02_Sum.inner (l : List Int) (R : Int) (d : Nat) : ∀ (r c i j : Nat), r < 4294967296 → c < 2 ^ d → j + d = 8 → i < 9223372036854775807 →
    Ev (fun k => thresherref02_Sum_p.l0 k l ((YtfnlohopfoekfaaH.Crc.Mn d (r ^^^ c) : Nat) : Int) ((i + 1 : Nat) : Int)) R → Ev (fun k => thresherref02_Sum_p.l1 k l (r : Int) (i : Int) (c : Int) (j : Int)) R := by
  induction d with
  | zero =>
    intro r c i j hr hc hj hi h
    have hc0 : c = 0 := by simpa using hc
    subst hc0
    rw [Nat.xor_zero] at h
    refine Ev.step (fun k => ?_) h
    simp only [thresherref02_Sum_p.l1]
    rw [if_neg (by omega), YtfnlohopfoekfaaH.Crc.wrap64_in _ (by omega) (by omega)]
    rfl
  | succ d ih =>
    intro r c i j hr hc hj hi h
    rw [YtfnlohopfoekfaaH.Crc.bit_step r c d hc] at h
    have hc256 : c < 256 := Nat.lt_of_lt_of_le hc (by show 2 ^ (d + 1) ≤ 2 ^ 8; exact Nat.pow_le_pow_right (by decide) (by omega))
    have hcd : c / 2 < 2 ^ d := by rw [Nat.pow_succ] at hc; omega
    have e2 : (2 : Int) = ((2 : Nat) : Int) := rfl
    have e3 : (3988292384 : Int) = ((3988292384 : Nat) : Int) := rfl
    have dr : Int.tdiv (r : Int) 2 % 4294967296 = ((r / 2 : Nat) : Int) := by rw [e2, YtfnlohopfoekfaaH.Crc.tdiv_nat]; omega
    have dc : Int.tdiv (c : Int) 2 % 4294967296 = ((c / 2 : Nat) : Int) := by rw [e2, YtfnlohopfoekfaaH.Crc.tdiv_nat]; omega
    by_cases hp : r % 2 = c % 2
    · rw [if_pos hp, Nat.xor_zero] at h
      refine Ev.step (fun k => ?_) (ih (r / 2) (c / 2) i (j + 1) (by omega) hcd (by omega) hi h)
      simp only [thresherref02_Sum_p.l1]
      rw [if_pos (by omega), YtfnlohopfoekfaaH.Crc.tmod2, YtfnlohopfoekfaaH.Crc.tmod2, if_pos (by omega), dr, dc, YtfnlohopfoekfaaH.Crc.wrap64_in _ (by omega) (by omega)]
      rfl
    · rw [if_neg hp] at h
      refine Ev.step (fun k => ?_) (ih (r / 2 ^^^ 3988292384) (c / 2) i (j + 1) (Nat.xor_lt_two_pow (n := 32) (by omega) (by decide)) hcd (by omega) hi h)
      simp only [thresherref02_Sum_p.l1]
      rw [if_pos (by omega), YtfnlohopfoekfaaH.Crc.tmod2, YtfnlohopfoekfaaH.Crc.tmod2, if_neg (by omega), dr, dc, YtfnlohopfoekfaaH.Crc.wrap64_in _ (by omega) (by omega), e3, YtfnlohopfoekfaaH.Crc.u32_xor _ _ (by omega) (by decide)]
      rfl
set_option maxHeartbeats 2000000 in
theorem thresherref02_Sum.loop (l : List Int) (hl : l.length ≤ 9223372036854775807) (hB : YtfnlohopfoekfaaH.Crc.isB l) (t : List Int) : ∀ (r i : Nat), r < 4294967296 → i + t.length = l.length → l.drop i = t →
    Ev (fun k => thresherref02_Sum_p.l0 k l (r : Int) (i : Int)) ((YtfnlohopfoekfaaH.Crc.crcReg r (YtfnlohopfoekfaaH.Crc.nats t) ^^^ 4294967295 : Nat) : Int) := by
  induction t with
  | nil =>
    intro r i hr hi ht
    refine Ev.step (fun k => ?_) (Ev.now _)
    simp only [thresherref02_Sum_p.l0]
    rw [if_neg (by simp at hi; omega)]
    have e : r ^^^ 4294967295 = 4294967295 - r := YtfnlohopfoekfaaH.Crc.not32 r hr
    have e2 : YtfnlohopfoekfaaH.Crc.crcReg r (YtfnlohopfoekfaaH.Crc.nats []) = r := rfl
    rw [e2, e]
    congr 1
    omega
  | cons c t ih =>
    intro r i hr hi ht
    obtain ⟨hrd, hil, ht', hmem⟩ := YtfnlohopfoekfaaH.Var.rd_at ht
    have hcb : 0 ≤ c ∧ c < 256 := hB c hmem
    obtain ⟨n, rfl⟩ := Int.eq_ofNat_of_zero_le hcb.1
    have hn : n < 256 := by omega
    have e : YtfnlohopfoekfaaH.Crc.nats (((n : Nat) : Int) :: t) = n :: YtfnlohopfoekfaaH.Crc.nats t := by simp [YtfnlohopfoekfaaH.Crc.nats]
    rw [e, YtfnlohopfoekfaaH.Crc.crcReg_cons]
    have hx : r ^^^ n < 4294967296 := Nat.xor_lt_two_pow (n := 32) hr (by omega)
    refine Ev.step (fun k => ?_) (thresherref02_Sum.inner l _ 8 r n i 0 hr (by omega) rfl (by omega) (ih (YtfnlohopfoekfaaH.Crc.Mn 8 (r ^^^ n)) (i + 1) (YtfnlohopfoekfaaH.Crc.Mn_lt _ _ hx) (by simp at hi; omega) ht'))
    simp only [thresherref02_Sum_p.l0]
    rw [if_pos (by omega), if_pos (by omega), hrd]
    have e4 : ((n : Nat) : Int) % 4294967296 = ((n : Nat) : Int) := by omega
    rw [e4]
    rfl
set_option maxHeartbeats 2000000 in
theorem thresherref02_Sum.ev (l0 : List Int) (r : Int) (h : thresherref02_Sum.f l0 = some r) (hl : l0.length ≤ 9223372036854775807) : Ev (fun k => thresherref02_Sum_p.f k l0) r := by
  unfold thresherref02_Sum.f at h
  split at h
  · obtain rfl := Option.some.inj h
    exact thresherref02_Sum.loop l0 hl ‹_› l0 4294967295 0 (by decide) (by simp) rfl
  · cases h
theorem thresherref02_Sum.calls (A0 : Option Addr) (c0 : Nat) (l0 : List Int) (r : Int) (w : World) (hr0 : Kd.C (Kd.int .u8) w A0 l0.length l0) (hc0 : l0.length ≤ c0) (h : thresherref02_Sum.f l0 = some r) :
    Calls Try.prog 14 #[.slice A0 l0.length c0] w fun e w' => e = .returned (.int .u32 r) ∧ Drawn0 w w' := by
  obtain ⟨k, hk⟩ := (thresherref02_Sum.ev l0 _ h (by first | exact hr0.2.1 | exact (Kd.V_reads' hs0).2.2.2.1 | exact (Kd.R_reads' ho0).2.2.2.1)).rounds
  exact thresherref02_Sum_p.calls k A0 c0 l0 r w hr0 hc0 hk

end Go.Proofs.Ytfnlohopfoekfaa.PCrcAll
