-- Written by hp.py (own driver over print.py) out of the translation, hand-made functions among it. Lean checks it.
import Derived.Test.YtanfmnobanhcnaaPRec3x0
import Derived.Test.YtanfmnobanhcnaaPRec3x1
import Derived.Test.YtanfmnobanhcnaaPRec3x5
namespace Go.Proofs.Ytanfmnobanhcnaa.PRec3
open Go.RowKit Go.Proofs.YtanfmnobanhcnaaW.PrintWords Go.Proofs.YtanfmnobanhcnaaW.PrintLast Go.Proofs.YtanfmnobanhcnaaW.PrintMore
attribute [local go_sem] max2_int min2_int max_two min_two max_three min_three max_four min_four   -- for this text's walks alone
set_option linter.unusedVariables false
set_option linter.unusedSimpArgs false

/-! ### crc_Unframe_p: function 41 -/
def crc_Unframe_p.j0 : Nat → List Int → Int → Int → Bool → Option (List Int × Int × Int)
  | 0, _, _, _, _ => none
  | k + 1, x0, x5, x6, x28 => if x28 = true then (some (([] : List Int), 0, 10)) else (if 0 ≤ (wrap64 (x6 + 4)) then (if (wrap64 (x6 + 4)) ≤ (wrap64 ((wrap64 (x6 + 4)) + (wrap64 (x5)))) then (if (wrap64 ((wrap64 (x6 + 4)) + (wrap64 (x5)))) ≤ (x0.length : Int) then ((crc_Sum.f ((x0.take ((wrap64 ((wrap64 (x6 + 4)) + (wrap64 (x5)))) : Int).toNat).drop ((wrap64 (x6 + 4)) : Int).toNat)).bind fun t176 => ((crc_bytes.f t176).bind fun t177 => (if 0 ≤ x6 then (if x6 ≤ (wrap64 (x6 + 4)) then (if (wrap64 (x6 + 4)) ≤ (x0.length : Int) then ((slices_Equal_byte_byte.f t177 ((x0.take ((wrap64 (x6 + 4)) : Int).toNat).drop (x6 : Int).toNat)).bind fun t181 => (if t181 = true then ((slices_Clone_byte_byte.f ((x0.take ((wrap64 ((wrap64 (x6 + 4)) + (wrap64 (x5)))) : Int).toNat).drop ((wrap64 (x6 + 4)) : Int).toNat)).bind fun t183 => (some (t183, wrap64 ((wrap64 (x6 + 4)) + (wrap64 (x5))), 0))) else (some (([] : List Int), 0, 11)))) else (none)) else (none)) else (none)))) else (none)) else (none)) else (none))
def crc_Unframe_p.f (k : Nat) (l0 : List Int) : Option (List Int × Int × Int) := (num_Var.f l0).bind fun bt173 => (if bt173.2 = 0 then (crc_Unframe_p.j0 k l0 bt173.1 bt173.2 true) else (if bt173.1 > 1048576 then (crc_Unframe_p.j0 k l0 bt173.1 bt173.2 true) else (crc_Unframe_p.j0 k l0 bt173.1 bt173.2 (decide ((IntKind.u64.wrap (wrap64 ((l0.length : Int) - bt173.2))) < (IntKind.u64.wrap (bt173.1 + 4)))))))
theorem crc_Unframe_p.mono_l : ∀ k, (∀ y0 y1 y2 y3, LeO (crc_Unframe_p.j0 k y0 y1 y2 y3) (crc_Unframe_p.j0 (k + 1) y0 y1 y2 y3))
  | 0 => fun _ _ _ _ r h => by simp [crc_Unframe_p.j0] at h
  | k + 1 => by
    have ih0 := crc_Unframe_p.mono_l k
    · intro y0 y1 y2 y3
      unfold crc_Unframe_p.j0
      repeat' first
      | (with_reducible exact ih0 _ _ _ _)
      | (with_reducible exact LeO.refl _)
      | (with_reducible exact LeO.none _)
      | (with_reducible refine LeO.ite ?_ ?_)
      | (with_reducible refine LeO.bind ?_ (fun _ => ?_))
      | exact ih0 _ _ _ _
      | exact LeO.none _
      | refine LeO.ite ?_ ?_
      | refine LeO.bind ?_ (fun _ => ?_)
theorem crc_Unframe_p.mono : ∀ a0 k, LeO (crc_Unframe_p.f k a0) (crc_Unframe_p.f (k + 1) a0) := by
  intro a0 k
  have ih0 := crc_Unframe_p.mono_l k
  unfold crc_Unframe_p.f
  repeat' first
      | (with_reducible exact ih0 _ _ _ _)
      | (with_reducible exact LeO.refl _)
      | (with_reducible exact LeO.none _)
      | (with_reducible refine LeO.ite ?_ ?_)
      | (with_reducible refine LeO.bind ?_ (fun _ => ?_))
      | exact ih0 _ _ _ _
      | exact LeO.none _
      | refine LeO.ite ?_ ?_
      | refine LeO.bind ?_ (fun _ => ?_)
def crc_Unframe_p.T5 : Bool × List (List Nat × List Nat) := (true, [([], []), ([], []), ([1], [1]), ([], []), ([0, 2, 3], [0, 2, 3]), ([4], [4]), ([5, 5], [5]), ([], []), ([], []), ([], []), ([9], [9]), ([7, 8, 10], [7, 8, 10]), ([6, 11, 6], [6, 11]), ([12], [12])])
def crc_Unframe_p.B5 : List Nat := [0, 0, 2, 0, 15, 31, 63, 0, 0, 0, 512, 1920, 4095, 8191]
theorem crc_Unframe_p.tab5 : rtab .any (opsOf Try.f41 5) = crc_Unframe_p.T5 := by kernel_rfl
theorem crc_Unframe_p.bits5 : waitsOk crc_Unframe_p.T5.2 crc_Unframe_p.B5 = true := by kernel_rfl
set_option maxHeartbeats 8000000 in
set_option maxRecDepth 100000 in
theorem crc_Unframe_p.calls (k : Nat) (A0 : Option Addr) (c0 : Nat) (l0 : List Int) (r1 : List Int) (r2 : Int) (r3 : Int) (w : World) (hr0 : Kd.C (Kd.int .u8) w A0 l0.length l0) (hc0 : l0.length ≤ c0) (h : crc_Unframe_p.f k l0 = some (r1, r2, r3)) :
    Calls Try.prog 41 #[.slice A0 l0.length c0] w fun e w' => ∃ v0_ : Value, e = .returned (.tuple #[v0_, .int .i64 r2, .int .i64 r3]) ∧ Kd.R (Kd.int .u8) 5 w' w.heap.size (fun _ => True) v0_ r1 ∧ Below w.heap.size w w' := by
  have HR0 := Aside0.mk hr0
  have HC0 := Aside0.mk hc0
  clear hr0 hc0
  have HB := Aside0.mk (Below.refl w.heap.size w)
  have H : ((num_Var.f l0).bind fun bt173 => (if bt173.2 = 0 then (crc_Unframe_p.j0 k l0 bt173.1 bt173.2 true) else (if bt173.1 > 1048576 then (crc_Unframe_p.j0 k l0 bt173.1 bt173.2 true) else (crc_Unframe_p.j0 k l0 bt173.1 bt173.2 (decide ((IntKind.u64.wrap (wrap64 ((l0.length : Int) - bt173.2))) < (IntKind.u64.wrap (bt173.1 + 4)))))))) = some (r1, r2, r3) := h
  clear h
  replace H := Option.bind_eq_some_iff.mp H
  obtain ⟨⟨t173, t174⟩, A20, H⟩ := H
  replace H : (if t174 = 0 then (crc_Unframe_p.j0 k l0 t173 t174 true) else (if t173 > 1048576 then (crc_Unframe_p.j0 k l0 t173 t174 true) else (crc_Unframe_p.j0 k l0 t173 t174 (decide ((IntKind.u64.wrap (wrap64 ((l0.length : Int) - t174))) < (IntKind.u64.wrap (t173 + 4))))))) = some (r1, r2, r3) := H
  have A2 := Aside0.mk A20
  clear A20
  have HC3 := Aside0.mk H
  clear H
  go_enter Try.func41, Try.ntmps41
  go_upto_region 2 with (first | ((with_reducible refine gate_callee (f := 74) rfl ?_); refine goesL_ (some 10) rfl rfl Try.func74 (by kernel_rfl) rfl #[.slice A0 l0.length c0] rfl (by (try simp only [List.map_toArray, List.map_cons, List.map_nil]); first | done | rfl | (simp only [List.length_drop, List.length_take]; rfl)) ?_; (with_reducible refine (num_Var.calls _ _ l0 t173 t174 _ ?side1 ?side2 A2.out).mono ?_); (case side1 => repeat (first | exact HR0.out | (with_reducible refine Kd.C_alloc ?_ _) | (with_reducible refine Kd.C_drewN ?_ _) | (with_reducible refine Kd.C_drew ?_))); (case side2 => exact HC0.out); rintro e w' ⟨rfl, ⟨nd, rfl⟩⟩; refine ⟨_, rfl, ?_⟩))
  (try simp only [Act.put, List.setIfInBounds_toArray, List.set_cons_zero, List.set_cons_succ])
  go_cut [28] (fun v28 wc => ∃ (kq : Nat) (x28_2 : Bool), v28 = .bool x28_2 ∧ Aside0 (crc_Unframe_p.j0 kq l0 t173 t174 x28_2 = some (r1, r2, r3)) ∧ Aside0 (kq ≤ k) ∧ Aside0 (Below w.heap.size w wc))
  case first =>
    have H := HC3.out
    clear HC3
    by_cases c4 : t174 = 0
    · rw [if_pos c4] at H
      have c4b0 : (t174 == 0) = true := beq_iff_eq.mpr c4
      have c4b1 : (t174 != 0) = false := bne_eq_false_iff_eq.mpr c4
      clear c4
      (first | rw [c4b0] | (simp only [i64_w, i32_w]; rw [c4b0]) | skip)
      have H' := Aside0.mk H
      clear H
      go_wp2
      go_meet
      case rel => exact ⟨_, (true), (by first | rfl | (simp; done) | (simp [*]; done)), H', ⟨by first | omega | exact Nat.le_refl _⟩, ⟨by repeat (first | (with_reducible first | exact HB.out | apply below_alloc | apply pw_below_drewN | apply below_drew1) | exact HB.out)⟩⟩
    · rw [if_neg c4] at H
      have c4b0 : (t174 == 0) = false := beq_eq_false_iff_ne.mpr c4
      have c4b1 : (t174 != 0) = true := bne_iff_ne.mpr c4
      (first | rw [c4b0] | (simp only [i64_w, i32_w]; rw [c4b0]) | skip)
      by_cases c5 : t173 > 1048576
      · rw [if_pos c5] at H
        have c5b0 : decide (1048576 < t173) = true := decide_eq_true c5
        clear c5
        have H' := Aside0.mk H
        clear H
        go_wp2
        go_meet
        case rel => exact ⟨_, (true), (by first | rfl | (simp; done) | (simp [*]; done)), H', ⟨by first | omega | exact Nat.le_refl _⟩, ⟨by repeat (first | (with_reducible first | exact HB.out | apply below_alloc | apply pw_below_drewN | apply below_drew1) | exact HB.out)⟩⟩
      · rw [if_neg c5] at H
        have c5b0 : decide (1048576 < t173) = false := decide_eq_false c5
        clear c5
        have H' := Aside0.mk H
        clear H
        go_wp2
        go_meet
        case rel => exact ⟨_, (decide ((IntKind.u64.wrap (wrap64 ((l0.length : Int) - t174))) < (IntKind.u64.wrap (t173 + 4)))), (by first | rfl | (simp; done) | (simp [*]; done)), H', ⟨by first | omega | exact Nat.le_refl _⟩, ⟨by repeat (first | (with_reducible first | exact HB.out | apply below_alloc | apply pw_below_drewN | apply below_drew1) | exact HB.out)⟩⟩
  case rest =>
    clear HC3
    try clear p2
    try clear c4
    try clear c4b0
    try clear c4b1
    try clear c5
    try clear c5b0
    obtain ⟨kq, x28_2, rfl, HA, HJ2, HB⟩ := hcut
    cases kq with
    | zero => exact absurd HA.out (by simp [crc_Unframe_p.j0])
    | succ kj2 =>
      have H := HA.out
      clear HA
      simp only [crc_Unframe_p.j0] at H
      by_cases c6 : x28_2 = true
      · subst c6
        have H1 : (some (([] : List Int), 0, 10)) = some (r1, r2, r3) := by rw [if_pos rfl] at H; exact H
        clear H
        have H := H1
        clear H1
        simp only [Option.some.injEq, Prod.mk.injEq] at H
        obtain ⟨rfl, rfl, rfl⟩ := H
        go_wp2
        go_ret3
        exact ⟨_, by first | rfl | (simp [errW_none, errW_some] <;> rfl) | (simp [*, errW_none, errW_some] <;> rfl), by first | exact Kd.R_nil _ _ _ _ _ | exact Kd.N_nil _ _ _ _ _ | exact Kd.V_nil _ _ _ _ _ | exact Kd.Q_nil _ _ _ _ _ | exact Kd.S_nil _ _ _ _ _, by repeat (first | (with_reducible first | exact HB.out | apply below_alloc | apply pw_below_drewN | apply below_drew1) | exact HB.out)⟩
      · replace c6 := Bool.eq_false_iff.mpr c6
        subst c6
        have H1 : (if 0 ≤ (wrap64 (t174 + 4)) then (if (wrap64 (t174 + 4)) ≤ (wrap64 ((wrap64 (t174 + 4)) + (wrap64 (t173)))) then (if (wrap64 ((wrap64 (t174 + 4)) + (wrap64 (t173)))) ≤ (l0.length : Int) then ((crc_Sum.f ((l0.take ((wrap64 ((wrap64 (t174 + 4)) + (wrap64 (t173)))) : Int).toNat).drop ((wrap64 (t174 + 4)) : Int).toNat)).bind fun t176 => ((crc_bytes.f t176).bind fun t177 => (if 0 ≤ t174 then (if t174 ≤ (wrap64 (t174 + 4)) then (if (wrap64 (t174 + 4)) ≤ (l0.length : Int) then ((slices_Equal_byte_byte.f t177 ((l0.take ((wrap64 (t174 + 4)) : Int).toNat).drop (t174 : Int).toNat)).bind fun t181 => (if t181 = true then ((slices_Clone_byte_byte.f ((l0.take ((wrap64 ((wrap64 (t174 + 4)) + (wrap64 (t173)))) : Int).toNat).drop ((wrap64 (t174 + 4)) : Int).toNat)).bind fun t183 => (some (t183, wrap64 ((wrap64 (t174 + 4)) + (wrap64 (t173))), 0))) else (some (([] : List Int), 0, 11)))) else (none)) else (none)) else (none)))) else (none)) else (none)) else (none)) = some (r1, r2, r3) := by rw [if_neg (show ¬ (false = true) by decide)] at H; exact H
        clear H
        have H := H1
        clear H1
        obtain ⟨ji7, hji7⟩ : ∃ j_ : Int, (wrap64 (t174 + 4)) = j_ := ⟨_, rfl⟩
        replace H : (if 0 ≤ (ji7) then (if (ji7) ≤ (wrap64 ((ji7) + (wrap64 (t173)))) then (if (wrap64 ((ji7) + (wrap64 (t173)))) ≤ (l0.length : Int) then ((crc_Sum.f ((l0.take ((wrap64 ((ji7) + (wrap64 (t173)))) : Int).toNat).drop ((ji7) : Int).toNat)).bind fun t176 => ((crc_bytes.f t176).bind fun t177 => (if 0 ≤ t174 then (if t174 ≤ (ji7) then (if (ji7) ≤ (l0.length : Int) then ((slices_Equal_byte_byte.f t177 ((l0.take ((ji7) : Int).toNat).drop (t174 : Int).toNat)).bind fun t181 => (if t181 = true then ((slices_Clone_byte_byte.f ((l0.take ((wrap64 ((ji7) + (wrap64 (t173)))) : Int).toNat).drop ((ji7) : Int).toNat)).bind fun t183 => (some (t183, wrap64 ((ji7) + (wrap64 (t173))), 0))) else (some (([] : List Int), 0, 11)))) else (none)) else (none)) else (none)))) else (none)) else (none)) else (none)) = some (r1, r2, r3) := by first | (rw [hji7] at H; exact H) | (simp only [hji7] at H ⊢; exact H)
        have hji7w : (IntKind.i64.wrap (t174 + 4)) = ji7 := (i64_w _).trans hji7
        by_cases c8 : 0 ≤ (ji7)
        · rw [if_pos c8] at H
          have c8b0 := eq_true c8
          have c8b1 : decide (0 ≤ (ji7)) = true := decide_eq_true c8
          clear c8
          by_cases c9 : (ji7) ≤ (wrap64 ((ji7) + (wrap64 (t173))))
          · rw [if_pos c9] at H
            have c9b0 := eq_true c9
            have c9b1 : decide ((ji7) ≤ (wrap64 ((ji7) + (wrap64 (t173))))) = true := decide_eq_true c9
            by_cases c10 : (wrap64 ((ji7) + (wrap64 (t173)))) ≤ (l0.length : Int)
            · rw [if_pos c10] at H
              have c10b0 := eq_true c10
              have c10b1 : decide ((wrap64 ((ji7) + (wrap64 (t173)))) ≤ (l0.length : Int)) = true := decide_eq_true c10
              replace H := Option.bind_eq_some_iff.mp H
              obtain ⟨t176, A110, H⟩ := H
              replace H : ((crc_bytes.f t176).bind fun t177 => (if 0 ≤ t174 then (if t174 ≤ (ji7) then (if (ji7) ≤ (l0.length : Int) then ((slices_Equal_byte_byte.f t177 ((l0.take ((ji7) : Int).toNat).drop (t174 : Int).toNat)).bind fun t181 => (if t181 = true then ((slices_Clone_byte_byte.f ((l0.take ((wrap64 ((ji7) + (wrap64 (t173)))) : Int).toNat).drop ((ji7) : Int).toNat)).bind fun t183 => (some (t183, wrap64 ((ji7) + (wrap64 (t173))), 0))) else (some (([] : List Int), 0, 11)))) else (none)) else (none)) else (none))) = some (r1, r2, r3) := H
              have A11 := Aside0.mk A110
              clear A110
              replace H := Option.bind_eq_some_iff.mp H
              obtain ⟨t177, A120, H⟩ := H
              replace H : (if 0 ≤ t174 then (if t174 ≤ (ji7) then (if (ji7) ≤ (l0.length : Int) then ((slices_Equal_byte_byte.f t177 ((l0.take ((ji7) : Int).toNat).drop (t174 : Int).toNat)).bind fun t181 => (if t181 = true then ((slices_Clone_byte_byte.f ((l0.take ((wrap64 ((ji7) + (wrap64 (t173)))) : Int).toNat).drop ((ji7) : Int).toNat)).bind fun t183 => (some (t183, wrap64 ((ji7) + (wrap64 (t173))), 0))) else (some (([] : List Int), 0, 11)))) else (none)) else (none)) else (none)) = some (r1, r2, r3) := H
              have A12 := Aside0.mk A120
              clear A120
              by_cases c13 : 0 ≤ t174
              · rw [if_pos c13] at H
                have c13b0 := eq_true c13
                have c13b1 : decide (0 ≤ t174) = true := decide_eq_true c13
                clear c13
                by_cases c14 : t174 ≤ (ji7)
                · rw [if_pos c14] at H
                  have c14b0 := eq_true c14
                  have c14b1 : decide (t174 ≤ (ji7)) = true := decide_eq_true c14
                  clear c14
                  by_cases c15 : (ji7) ≤ (l0.length : Int)
                  · rw [if_pos c15] at H
                    have c15b0 := eq_true c15
                    have c15b1 : decide ((ji7) ≤ (l0.length : Int)) = true := decide_eq_true c15
                    clear c15
                    replace H := Option.bind_eq_some_iff.mp H
                    obtain ⟨t181, A160, H⟩ := H
                    replace H : (if t181 = true then ((slices_Clone_byte_byte.f ((l0.take ((wrap64 ((ji7) + (wrap64 (t173)))) : Int).toNat).drop ((ji7) : Int).toNat)).bind fun t183 => (some (t183, wrap64 ((ji7) + (wrap64 (t173))), 0))) else (some (([] : List Int), 0, 11))) = some (r1, r2, r3) := H
                    have A16 := Aside0.mk A160
                    clear A160
                    by_cases c17 : t181 = true
                    · subst c17
                      have H1 : ((slices_Clone_byte_byte.f ((l0.take ((wrap64 ((ji7) + (wrap64 (t173)))) : Int).toNat).drop ((ji7) : Int).toNat)).bind fun t183 => (some (t183, wrap64 ((ji7) + (wrap64 (t173))), 0))) = some (r1, r2, r3) := by rw [if_pos rfl] at H; exact H
                      clear H
                      have H := H1
                      clear H1
                      have c18b0 := eq_true (of_decide_eq_true (by first | (with_reducible assumption) | assumption) : 0 ≤ (ji7))
                      have c19b0 := eq_true (of_decide_eq_true (by first | (with_reducible assumption) | assumption) : (ji7) ≤ (wrap64 ((ji7) + (wrap64 (t173)))))
                      have c20b0 := eq_true (of_decide_eq_true (by first | (with_reducible assumption) | assumption) : (wrap64 ((ji7) + (wrap64 (t173)))) ≤ (l0.length : Int))
                      replace H := Option.bind_eq_some_iff.mp H
                      obtain ⟨t183, A210, H⟩ := H
                      replace H : (some (t183, wrap64 ((ji7) + (wrap64 (t173))), 0)) = some (r1, r2, r3) := H
                      have A21 := Aside0.mk A210
                      clear A210
                      simp only [Option.some.injEq, Prod.mk.injEq] at H
                      obtain ⟨rfl, rfl, rfl⟩ := H
                      try go_wp2
                      have n0_ := Aside0.mk (below_drew1 HB.out)
                      clear HB
                      have HB := n0_
                      clear n0_
                      obtain ⟨i023, hi023, _, hsz23, _⟩ := info_parts info5
                      obtain ⟨A23, hcut23, hA23, hC23⟩ := print_mid_of (P := Try.prog) (Value.int .u8) 0 26 5 .i64 .i64 Try.underlying26 hi023 hsz23 A0 c0 l0 (ji7) (wrap64 ((ji7) + (wrap64 (t173)))) (of_decide_eq_true (by first | (with_reducible assumption) | assumption)) (by first | omega | exact of_decide_eq_true (by first | (with_reducible assumption) | assumption)) (of_decide_eq_true (by first | (with_reducible assumption) | assumption)) HC0.out
                      have HR175 := Aside0.mk (Kd.C_of_reads (h1 := fun _ => rfl) (hA23 _ (Kd.reads_of_C HR0.out)))
                      have HC175 := Aside0.mk hC23
                      clear hA23 hC23 hi023 hsz23
                      obtain ⟨i024, hi024, _, hsz24, _⟩ := info_parts info5
                      obtain ⟨A24, hcut24, hA24, hC24⟩ := print_mid_of (P := Try.prog) (Value.int .u8) 0 26 5 .i64 .i64 Try.underlying26 hi024 hsz24 A0 c0 l0 t174 (ji7) (of_decide_eq_true (by first | (with_reducible assumption) | assumption)) (by first | omega | exact of_decide_eq_true (by first | (with_reducible assumption) | assumption)) (of_decide_eq_true (by first | (with_reducible assumption) | assumption)) HC0.out
                      have HR180 := Aside0.mk (Kd.C_of_reads (h1 := fun _ => rfl) (hA24 _ (Kd.reads_of_C HR0.out)))
                      have HC180 := Aside0.mk hC24
                      clear hA24 hC24 hi024 hsz24
                      refine start_ (n := 14) (S := fun w' => True) (ds := []) #[false, false, false, false, false, false, false, false, false, false, false, false, false, false] (by kernel_rfl) rfl rfl trivial (fun hHeld => ?_); refine with_tabW crc_Unframe_p.tab5 crc_Unframe_p.bits5 (fun HT_ HW_ => ?_)
                      generalize wc.drew = w22 at HB HR175 HR180 hHeld ⊢
                      refine pure_ (i := 0) (N := some 34) (v := ?_) (a' := ?_) #[true, false, false, false, false, false, false, false, false, false, false, false, false, false] rfl rfl (any_of HT_.out (by kernel_rfl)) (fun _ _ _ h => h) (Or.inl ⟨by rfl, ?_⟩) ?_ ?_
                      rotate_left
                      · intro w'
                        go_simp
                        with_reducible rfl
                      rotate_left
                      · simp only [Act.put, List.setIfInBounds_toArray, List.set_cons_zero, List.set_cons_succ, i64_w, i32_w]
                        rfl
                      refine pure_ (i := 1) (N := some 35) (v := ?_) (a' := ?_) #[true, true, false, false, false, false, false, false, false, false, false, false, false, false] rfl rfl (any_of HT_.out (by kernel_rfl)) (fun _ _ _ h => h) (Or.inl ⟨by rfl, ?_⟩) ?_ ?_
                      rotate_left
                      · intro w'
                        go_simp
                        with_reducible rfl
                      rotate_left
                      · simp only [Act.put, List.setIfInBounds_toArray, List.set_cons_zero, List.set_cons_succ, i64_w, i32_w]
                        rfl
                      refine pure_ (i := 2) (N := some 36) (v := ?_) (a' := ?_) #[true, true, true, false, false, false, false, false, false, false, false, false, false, false] rfl rfl (any_of HT_.out (by kernel_rfl)) (fun _ _ _ h => h) (Or.inl ⟨by rfl, ?_⟩) ?_ ?_
                      rotate_left
                      · intro w'
                        go_simp
                        with_reducible rfl
                      rotate_left
                      · simp only [Act.put, List.setIfInBounds_toArray, List.set_cons_zero, List.set_cons_succ, i64_w, i32_w]
                        rfl
                      refine pure_ (i := 3) (N := some 37) (v := ?_) (a' := ?_) #[true, true, true, true, false, false, false, false, false, false, false, false, false, false] rfl rfl (any_of HT_.out (by kernel_rfl)) (fun _ _ _ h => h) (Or.inl ⟨by rfl, ?_⟩) ?_ ?_
                      rotate_left
                      · intro w'
                        go_simp
                        with_reducible rfl
                      rotate_left
                      · simp only [Act.put, List.setIfInBounds_toArray, List.set_cons_zero, List.set_cons_succ, i64_w, i32_w]
                        rfl
                      refine pure_ (i := 4) (N := some 38) (v := ?_) (a' := ?_) #[true, true, true, true, true, false, false, false, false, false, false, false, false, false] rfl rfl (any_of HT_.out (by kernel_rfl)) (fun _ _ _ h => h) (Or.inl ⟨by rfl, ?_⟩) ?_ ?_
                      rotate_left
                      · intro w'
                        go_simp
                        with_reducible rfl
                      rotate_left
                      · simp only [Act.put, List.setIfInBounds_toArray, List.set_cons_zero, List.set_cons_succ, i64_w, i32_w]
                        rfl
                      refine pure_ (i := 7) (N := some 41) (v := ?_) (a' := ?_) #[true, true, true, true, true, false, false, true, false, false, false, false, false, false] rfl rfl (any_of HT_.out (by kernel_rfl)) (fun _ _ _ h => h) (Or.inl ⟨by rfl, ?_⟩) ?_ ?_
                      rotate_left
                      · intro w'
                        go_simp
                        with_reducible rfl
                      rotate_left
                      · simp only [Act.put, List.setIfInBounds_toArray, List.set_cons_zero, List.set_cons_succ, i64_w, i32_w]
                        rfl
                      refine pure_ (i := 8) (N := some 42) (v := ?_) (a' := ?_) #[true, true, true, true, true, false, false, true, true, false, false, false, false, false] rfl rfl (any_of HT_.out (by kernel_rfl)) (fun _ _ _ h => h) (Or.inl ⟨by rfl, ?_⟩) ?_ ?_
                      rotate_left
                      · intro w'
                        go_simp
                        with_reducible rfl
                      rotate_left
                      · simp only [Act.put, List.setIfInBounds_toArray, List.set_cons_zero, List.set_cons_succ, i64_w, i32_w]
                        rfl
                      refine pure_ (i := 9) (N := some 43) (v := ?_) (a' := ?_) #[true, true, true, true, true, false, false, true, true, true, false, false, false, false] rfl rfl (any_of HT_.out (by kernel_rfl)) (fun _ _ _ h => h) (Or.inl ⟨by rfl, ?_⟩) ?_ ?_
                      rotate_left
                      · intro w'
                        go_simp
                        with_reducible rfl
                      rotate_left
                      · simp only [Act.put, List.setIfInBounds_toArray, List.set_cons_zero, List.set_cons_succ, i64_w, i32_w]
                        rfl
                      refine pure_ (i := 10) (N := some 44) (v := ?_) (a' := ?_) #[true, true, true, true, true, false, false, true, true, true, true, false, false, false] rfl rfl (any_of HT_.out (by kernel_rfl)) (fun _ _ _ h => h) (Or.inl ⟨by rfl, ?_⟩) ?_ ?_
                      rotate_left
                      · intro w'
                        go_simp
                        with_reducible rfl
                      rotate_left
                      · simp only [Act.put, List.setIfInBounds_toArray, List.set_cons_zero, List.set_cons_succ, i64_w, i32_w]
                        rfl
                      refine pure_ (i := 11) (N := some 45) (v := ?_) (a' := ?_) #[true, true, true, true, true, false, false, true, true, true, true, true, false, false] rfl rfl (any_of HT_.out (by kernel_rfl)) (fun _ _ _ h => h) (Or.inl ⟨by rfl, ?_⟩) ?_ ?_
                      rotate_left
                      · intro w'
                        go_simp
                        with_reducible rfl
                      rotate_left
                      · simp only [Act.put, List.setIfInBounds_toArray, List.set_cons_zero, List.set_cons_succ, i64_w, i32_w]
                        rfl
                      refine one_ (i := 5) (N := some 39) #[true, true, true, true, true, true, false, true, true, true, true, true, false, false] rfl rfl (one_of HT_.out (by kernel_rfl)) (by decide) (fun K hK => ?_)
                      refine goes_ Try.func68 (by kernel_rfl) rfl #[.slice A23 ((l0.take ((wrap64 ((ji7) + (wrap64 (t173)))) : Int).toNat).drop ((ji7) : Int).toNat).length (c0 - (ji7).toNat)] (by rfl) rfl rfl (by (try simp only [List.map_toArray, List.map_cons, List.map_nil]); first | done | (rw [show ((l0.take ((wrap64 ((ji7) + (wrap64 (t173)))) : Int).toNat).drop ((ji7) : Int).toNat).length = ((wrap64 ((ji7) + (wrap64 (t173)))).toNat - (ji7).toNat) from (by rw [List.length_drop, List.length_take]; have h_ : ((wrap64 ((ji7) + (wrap64 (t173)))) : Int) ≤ (l0.length : Int) := of_decide_eq_true (by first | (with_reducible assumption) | assumption); omega)] <;> rfl) | (simp only [hji7]; rfl) | rfl | (simp only [List.length_drop, List.length_take]; rfl)) ?_
                      with_reducible refine (crc_Sum.calls _ _ ((l0.take ((wrap64 ((ji7) + (wrap64 (t173)))) : Int).toNat).drop ((ji7) : Int).toNat) t176 _ ?side1 ?side2 A11.out).mono ?_
                      (case side1 => repeat (first | exact (Kd.C_below HR175.out HB.out) | (with_reducible refine Kd.C_alloc ?_ _) | (with_reducible refine Kd.C_drewN ?_ _) | (with_reducible refine Kd.C_drew ?_)))
                      (case side2 => exact HC175.out)
                      rintro e w' ⟨rfl, ⟨nd, rfl⟩⟩
                      refine ⟨_, rfl, ?_⟩
                      refine hK.out _ _ trivial (fun hHeld => ?_)
                      clear hK K
                      refine norm_ (a' := ?_) ?_ ?_
                      rotate_left
                      · show Act.put _ (some 39) _ = _
                        simp only [Act.put, List.setIfInBounds_toArray, List.set_cons_zero, List.set_cons_succ, i64_w, i32_w]
                        rfl
                      refine one_ (i := 6) (N := some 40) #[true, true, true, true, true, true, true, true, true, true, true, true, false, false] rfl rfl (one_of HT_.out (by kernel_rfl)) (by decide) (fun K hK => ?_)
                      refine goes_ Try.func67 (by kernel_rfl) rfl #[.int .u32 t176] (by rfl) rfl rfl (by (try simp only [List.map_toArray, List.map_cons, List.map_nil]); first | done | rfl | (simp only [List.length_drop, List.length_take]; rfl)) ?_
                      with_reducible refine (crc_bytes.calls t176 t177 _ A12.out).mono ?_
                      rintro e w25 ⟨v178, rfl, ho0, hb⟩
                      refine ⟨_, rfl, ?_⟩
                      have n0_ := Aside0.mk (Kd.V_lower (Kd.V_mono (ok' := fun k_ => True) ho0 (fun k_ hk_ => trivial)) (below_size (by repeat (first | (with_reducible first | exact HB.out | apply below_alloc | apply pw_below_drewN | apply below_drew1) | exact HB.out))))
                      have n1_ := Aside0.mk (below_step (by repeat (first | (with_reducible first | exact HB.out | apply below_alloc | apply pw_below_drewN | apply below_drew1) | exact HB.out)) hb)
                      clear HB
                      have HO179 := n0_
                      have HB := n1_
                      clear n0_ n1_
                      (try clear hb)
                      (try clear hb2)
                      (try clear hk)
                      (try clear hi)
                      (try clear ho0)
                      obtain ⟨Ao26, co26, eo26⟩ := Kd.V_slice HO179.out
                      (first | subst eo26 | (injection eo26 with f1_ f2_ f3_; have f4_ := f1_.symm; have f5_ := f3_.symm; clear f1_ f2_ f3_; subst f4_; subst f5_))
                      refine hK.out _ _ trivial (fun hHeld => ?_)
                      clear hK K
                      refine norm_ (a' := ?_) ?_ ?_
                      rotate_left
                      · show Act.put _ (some 40) _ = _
                        simp only [Act.put, List.setIfInBounds_toArray, List.set_cons_zero, List.set_cons_succ, i64_w, i32_w]
                        rfl
                      refine one_ (i := 12) (N := some 46) #[true, true, true, true, true, true, true, true, true, true, true, true, true, false] rfl rfl (one_of HT_.out (by kernel_rfl)) (by decide) (fun K hK => ?_)
                      refine goes_ Try.func75 (by kernel_rfl) rfl #[.slice Ao26 t177.length co26, .slice A24 ((l0.take ((ji7) : Int).toNat).drop (t174 : Int).toNat).length (c0 - t174.toNat)] (by rfl) rfl rfl (by (try simp only [List.map_toArray, List.map_cons, List.map_nil]); first | done | (rw [show ((l0.take ((ji7) : Int).toNat).drop (t174 : Int).toNat).length = ((ji7).toNat - t174.toNat) from (by rw [List.length_drop, List.length_take]; have h_ : ((ji7) : Int) ≤ (l0.length : Int) := of_decide_eq_true (by first | (with_reducible assumption) | assumption); omega)] <;> rfl) | (simp only [hji7]; rfl) | rfl | (simp only [List.length_drop, List.length_take]; rfl)) ?_
                      with_reducible refine (slices_Equal_byte_byte.calls _ _ t177 _ _ ((l0.take ((ji7) : Int).toNat).drop (t174 : Int).toNat) true _ ?side1 ?side2 ?side3 ?side4 A16.out).mono ?_
                      (case side1 => repeat (first | exact (Kd.V_reads' HO179.out).2.2 | (with_reducible refine Kd.C_alloc ?_ _) | (with_reducible refine Kd.C_drewN ?_ _) | (with_reducible refine Kd.C_drew ?_)))
                      (case side2 => exact (Kd.V_reads' HO179.out).2.1)
                      (case side3 => repeat (first | exact (Kd.C_below HR180.out HB.out) | (with_reducible refine Kd.C_alloc ?_ _) | (with_reducible refine Kd.C_drewN ?_ _) | (with_reducible refine Kd.C_drew ?_)))
                      (case side4 => exact HC180.out)
                      rintro e w' ⟨rfl, ⟨nd, rfl⟩⟩
                      refine ⟨_, rfl, ?_⟩
                      refine hK.out _ _ trivial (fun hHeld => ?_)
                      clear hK K
                      refine norm_ (a' := ?_) ?_ ?_
                      rotate_left
                      · show Act.put _ (some 46) _ = _
                        simp only [Act.put, List.setIfInBounds_toArray, List.set_cons_zero, List.set_cons_succ, i64_w, i32_w]
                        rfl
                      refine pure_ (i := 13) (N := some 47) (v := ?_) (a' := ?_) #[true, true, true, true, true, true, true, true, true, true, true, true, true, true] rfl rfl (any_of HT_.out (by kernel_rfl)) (fun _ _ _ h => h) (Or.inl ⟨by rfl, ?_⟩) ?_ ?_
                      rotate_left
                      · intro w'
                        go_simp
                        with_reducible rfl
                      rotate_left
                      · simp only [Act.put, List.setIfInBounds_toArray, List.set_cons_zero, List.set_cons_succ, i64_w, i32_w]
                        rfl
                      refine done_ (done_of HT_.out (by kernel_rfl)) ?_
                      obtain ⟨i027, hi027, _, hsz27, _⟩ := info_parts info5
                      (try clear hcut23)
                      obtain ⟨A27, hcut27, hA27, hC27⟩ := print_mid_of (P := Try.prog) (Value.int .u8) 0 26 5 .i64 .i64 Try.underlying26 hi027 hsz27 A0 c0 l0 (ji7) (wrap64 ((ji7) + (wrap64 (t173)))) (of_decide_eq_true (by first | (with_reducible assumption) | assumption)) (by first | omega | exact of_decide_eq_true (by first | (with_reducible assumption) | assumption)) (of_decide_eq_true (by first | (with_reducible assumption) | assumption)) HC0.out
                      have HR182 := Aside0.mk (Kd.C_of_reads (h1 := fun _ => rfl) (hA27 _ (Kd.reads_of_C HR0.out)))
                      have HC182 := Aside0.mk hC27
                      clear hA27 hC27 hi027 hsz27
                      try go_wp2_with (first | ((with_reducible refine gate_callee (f := 76) rfl ?_); refine goesL_ (some 53) rfl rfl Try.func76 (by kernel_rfl) rfl #[.slice A27 ((l0.take ((wrap64 ((ji7) + (wrap64 (t173)))) : Int).toNat).drop ((ji7) : Int).toNat).length (c0 - (ji7).toNat)] rfl (by (try simp only [List.map_toArray, List.map_cons, List.map_nil]); first | done | (rw [show ((l0.take ((wrap64 ((ji7) + (wrap64 (t173)))) : Int).toNat).drop ((ji7) : Int).toNat).length = ((wrap64 ((ji7) + (wrap64 (t173)))).toNat - (ji7).toNat) from (by rw [List.length_drop, List.length_take]; have h_ : ((wrap64 ((ji7) + (wrap64 (t173)))) : Int) ≤ (l0.length : Int) := of_decide_eq_true (by first | (with_reducible assumption) | assumption); omega)] <;> rfl) | (simp only [hji7]; rfl) | rfl | (simp only [List.length_drop, List.length_take]; rfl)) ?_; (with_reducible refine (slices_Clone_byte_byte.calls _ _ ((l0.take ((wrap64 ((ji7) + (wrap64 (t173)))) : Int).toNat).drop ((ji7) : Int).toNat) t183 _ ?side1 ?side2 A21.out).mono ?_); (case side1 => repeat (first | exact (Kd.C_below HR182.out (by repeat (first | (with_reducible first | exact HB.out | apply below_alloc | apply pw_below_drewN | apply below_drew1) | exact HB.out))) | (with_reducible refine Kd.C_alloc ?_ _) | (with_reducible refine Kd.C_drewN ?_ _) | (with_reducible refine Kd.C_drew ?_))); (case side2 => exact HC182.out); rintro e w28 ⟨v184, rfl, ho0, hb⟩; refine ⟨_, rfl, ?_⟩; have n0_ := Aside0.mk (Kd.V_elder' (by (with_reducible repeat (first | apply Kd.V_alloc | apply Kd.V_drewN | apply Kd.V_drew)); exact HO179.out) (Kd.R_base ho0) hb); have n1_ := Aside0.mk (Kd.R_lower ho0 (below_size (by repeat (first | (with_reducible first | exact HB.out | apply below_alloc | apply pw_below_drewN | apply below_drew1) | exact HB.out)))); have n2_ := Aside0.mk (below_step (by repeat (first | (with_reducible first | exact HB.out | apply below_alloc | apply pw_below_drewN | apply below_drew1) | exact HB.out)) hb); clear HO179; clear HB; have HO179 := n0_; have HO185 := n1_; have HB := n2_; clear n0_ n1_ n2_; (try clear hb); (try clear hb2); (try clear hk); (try clear hi); (try clear ho0)))
                      go_ret3
                      exact ⟨_, by first | rfl | (simp [errW_none, errW_some] <;> rfl) | (simp only [← hji7]; first | rfl | (simp [errW_none, errW_some] <;> rfl)) | (simp [*, errW_none, errW_some] <;> rfl), by (with_reducible repeat (first | apply Kd.R_alloc | apply Kd.R_drewN | apply Kd.R_drew)); exact HO185.out, by repeat (first | (with_reducible first | exact HB.out | apply below_alloc | apply pw_below_drewN | apply below_drew1) | exact HB.out)⟩
                    · replace c17 := Bool.eq_false_iff.mpr c17
                      subst c17
                      have H1 : (some (([] : List Int), 0, 11)) = some (r1, r2, r3) := by rw [if_neg (show ¬ (false = true) by decide)] at H; exact H
                      clear H
                      have H := H1
                      clear H1
                      simp only [Option.some.injEq, Prod.mk.injEq] at H
                      obtain ⟨rfl, rfl, rfl⟩ := H
                      try go_wp2
                      have n0_ := Aside0.mk (below_drew1 HB.out)
                      clear HB
                      have HB := n0_
                      clear n0_
                      obtain ⟨i030, hi030, _, hsz30, _⟩ := info_parts info5
                      (try clear hcut23); (try clear hcut27)
                      obtain ⟨A30, hcut30, hA30, hC30⟩ := print_mid_of (P := Try.prog) (Value.int .u8) 0 26 5 .i64 .i64 Try.underlying26 hi030 hsz30 A0 c0 l0 (ji7) (wrap64 ((ji7) + (wrap64 (t173)))) (of_decide_eq_true (by first | (with_reducible assumption) | assumption)) (by first | omega | exact of_decide_eq_true (by first | (with_reducible assumption) | assumption)) (of_decide_eq_true (by first | (with_reducible assumption) | assumption)) HC0.out
                      have HR175 := Aside0.mk (Kd.C_of_reads (h1 := fun _ => rfl) (hA30 _ (Kd.reads_of_C HR0.out)))
                      have HC175 := Aside0.mk hC30
                      clear hA30 hC30 hi030 hsz30
                      obtain ⟨i031, hi031, _, hsz31, _⟩ := info_parts info5
                      (try clear hcut24)
                      obtain ⟨A31, hcut31, hA31, hC31⟩ := print_mid_of (P := Try.prog) (Value.int .u8) 0 26 5 .i64 .i64 Try.underlying26 hi031 hsz31 A0 c0 l0 t174 (ji7) (of_decide_eq_true (by first | (with_reducible assumption) | assumption)) (by first | omega | exact of_decide_eq_true (by first | (with_reducible assumption) | assumption)) (of_decide_eq_true (by first | (with_reducible assumption) | assumption)) HC0.out
                      have HR180 := Aside0.mk (Kd.C_of_reads (h1 := fun _ => rfl) (hA31 _ (Kd.reads_of_C HR0.out)))
                      have HC180 := Aside0.mk hC31
                      clear hA31 hC31 hi031 hsz31
                      refine start_ (n := 14) (S := fun w' => True) (ds := []) #[false, false, false, false, false, false, false, false, false, false, false, false, false, false] (by kernel_rfl) rfl rfl trivial (fun hHeld => ?_); refine with_tabW crc_Unframe_p.tab5 crc_Unframe_p.bits5 (fun HT_ HW_ => ?_)
                      generalize wc.drew = w29 at HB HR175 HR180 hHeld ⊢
                      refine pure_ (i := 0) (N := some 34) (v := ?_) (a' := ?_) #[true, false, false, false, false, false, false, false, false, false, false, false, false, false] rfl rfl (any_of HT_.out (by kernel_rfl)) (fun _ _ _ h => h) (Or.inl ⟨by rfl, ?_⟩) ?_ ?_
                      rotate_left
                      · intro w'
                        go_simp
                        with_reducible rfl
                      rotate_left
                      · simp only [Act.put, List.setIfInBounds_toArray, List.set_cons_zero, List.set_cons_succ, i64_w, i32_w]
                        rfl
                      refine pure_ (i := 1) (N := some 35) (v := ?_) (a' := ?_) #[true, true, false, false, false, false, false, false, false, false, false, false, false, false] rfl rfl (any_of HT_.out (by kernel_rfl)) (fun _ _ _ h => h) (Or.inl ⟨by rfl, ?_⟩) ?_ ?_
                      rotate_left
                      · intro w'
                        go_simp
                        with_reducible rfl
                      rotate_left
                      · simp only [Act.put, List.setIfInBounds_toArray, List.set_cons_zero, List.set_cons_succ, i64_w, i32_w]
                        rfl
                      refine pure_ (i := 2) (N := some 36) (v := ?_) (a' := ?_) #[true, true, true, false, false, false, false, false, false, false, false, false, false, false] rfl rfl (any_of HT_.out (by kernel_rfl)) (fun _ _ _ h => h) (Or.inl ⟨by rfl, ?_⟩) ?_ ?_
                      rotate_left
                      · intro w'
                        go_simp
                        with_reducible rfl
                      rotate_left
                      · simp only [Act.put, List.setIfInBounds_toArray, List.set_cons_zero, List.set_cons_succ, i64_w, i32_w]
                        rfl
                      refine pure_ (i := 3) (N := some 37) (v := ?_) (a' := ?_) #[true, true, true, true, false, false, false, false, false, false, false, false, false, false] rfl rfl (any_of HT_.out (by kernel_rfl)) (fun _ _ _ h => h) (Or.inl ⟨by rfl, ?_⟩) ?_ ?_
                      rotate_left
                      · intro w'
                        go_simp
                        with_reducible rfl
                      rotate_left
                      · simp only [Act.put, List.setIfInBounds_toArray, List.set_cons_zero, List.set_cons_succ, i64_w, i32_w]
                        rfl
                      refine pure_ (i := 4) (N := some 38) (v := ?_) (a' := ?_) #[true, true, true, true, true, false, false, false, false, false, false, false, false, false] rfl rfl (any_of HT_.out (by kernel_rfl)) (fun _ _ _ h => h) (Or.inl ⟨by rfl, ?_⟩) ?_ ?_
                      rotate_left
                      · intro w'
                        go_simp
                        with_reducible rfl
                      rotate_left
                      · simp only [Act.put, List.setIfInBounds_toArray, List.set_cons_zero, List.set_cons_succ, i64_w, i32_w]
                        rfl
                      refine pure_ (i := 7) (N := some 41) (v := ?_) (a' := ?_) #[true, true, true, true, true, false, false, true, false, false, false, false, false, false] rfl rfl (any_of HT_.out (by kernel_rfl)) (fun _ _ _ h => h) (Or.inl ⟨by rfl, ?_⟩) ?_ ?_
                      rotate_left
                      · intro w'
                        go_simp
                        with_reducible rfl
                      rotate_left
                      · simp only [Act.put, List.setIfInBounds_toArray, List.set_cons_zero, List.set_cons_succ, i64_w, i32_w]
                        rfl
                      refine pure_ (i := 8) (N := some 42) (v := ?_) (a' := ?_) #[true, true, true, true, true, false, false, true, true, false, false, false, false, false] rfl rfl (any_of HT_.out (by kernel_rfl)) (fun _ _ _ h => h) (Or.inl ⟨by rfl, ?_⟩) ?_ ?_
                      rotate_left
                      · intro w'
                        go_simp
                        with_reducible rfl
                      rotate_left
                      · simp only [Act.put, List.setIfInBounds_toArray, List.set_cons_zero, List.set_cons_succ, i64_w, i32_w]
                        rfl
                      refine pure_ (i := 9) (N := some 43) (v := ?_) (a' := ?_) #[true, true, true, true, true, false, false, true, true, true, false, false, false, false] rfl rfl (any_of HT_.out (by kernel_rfl)) (fun _ _ _ h => h) (Or.inl ⟨by rfl, ?_⟩) ?_ ?_
                      rotate_left
                      · intro w'
                        go_simp
                        with_reducible rfl
                      rotate_left
                      · simp only [Act.put, List.setIfInBounds_toArray, List.set_cons_zero, List.set_cons_succ, i64_w, i32_w]
                        rfl
                      refine pure_ (i := 10) (N := some 44) (v := ?_) (a' := ?_) #[true, true, true, true, true, false, false, true, true, true, true, false, false, false] rfl rfl (any_of HT_.out (by kernel_rfl)) (fun _ _ _ h => h) (Or.inl ⟨by rfl, ?_⟩) ?_ ?_
                      rotate_left
                      · intro w'
                        go_simp
                        with_reducible rfl
                      rotate_left
                      · simp only [Act.put, List.setIfInBounds_toArray, List.set_cons_zero, List.set_cons_succ, i64_w, i32_w]
                        rfl
                      refine pure_ (i := 11) (N := some 45) (v := ?_) (a' := ?_) #[true, true, true, true, true, false, false, true, true, true, true, true, false, false] rfl rfl (any_of HT_.out (by kernel_rfl)) (fun _ _ _ h => h) (Or.inl ⟨by rfl, ?_⟩) ?_ ?_
                      rotate_left
                      · intro w'
                        go_simp
                        with_reducible rfl
                      rotate_left
                      · simp only [Act.put, List.setIfInBounds_toArray, List.set_cons_zero, List.set_cons_succ, i64_w, i32_w]
                        rfl
                      refine one_ (i := 5) (N := some 39) #[true, true, true, true, true, true, false, true, true, true, true, true, false, false] rfl rfl (one_of HT_.out (by kernel_rfl)) (by decide) (fun K hK => ?_)
                      refine goes_ Try.func68 (by kernel_rfl) rfl #[.slice A30 ((l0.take ((wrap64 ((ji7) + (wrap64 (t173)))) : Int).toNat).drop ((ji7) : Int).toNat).length (c0 - (ji7).toNat)] (by rfl) rfl rfl (by (try simp only [List.map_toArray, List.map_cons, List.map_nil]); first | done | (rw [show ((l0.take ((wrap64 ((ji7) + (wrap64 (t173)))) : Int).toNat).drop ((ji7) : Int).toNat).length = ((wrap64 ((ji7) + (wrap64 (t173)))).toNat - (ji7).toNat) from (by rw [List.length_drop, List.length_take]; have h_ : ((wrap64 ((ji7) + (wrap64 (t173)))) : Int) ≤ (l0.length : Int) := of_decide_eq_true (by first | (with_reducible assumption) | assumption); omega)] <;> rfl) | (simp only [hji7]; rfl) | rfl | (simp only [List.length_drop, List.length_take]; rfl)) ?_
                      with_reducible refine (crc_Sum.calls _ _ ((l0.take ((wrap64 ((ji7) + (wrap64 (t173)))) : Int).toNat).drop ((ji7) : Int).toNat) t176 _ ?side1 ?side2 A11.out).mono ?_
                      (case side1 => repeat (first | exact (Kd.C_below HR175.out HB.out) | (with_reducible refine Kd.C_alloc ?_ _) | (with_reducible refine Kd.C_drewN ?_ _) | (with_reducible refine Kd.C_drew ?_)))
                      (case side2 => exact HC175.out)
                      rintro e w' ⟨rfl, ⟨nd, rfl⟩⟩
                      refine ⟨_, rfl, ?_⟩
                      refine hK.out _ _ trivial (fun hHeld => ?_)
                      clear hK K
                      refine norm_ (a' := ?_) ?_ ?_
                      rotate_left
                      · show Act.put _ (some 39) _ = _
                        simp only [Act.put, List.setIfInBounds_toArray, List.set_cons_zero, List.set_cons_succ, i64_w, i32_w]
                        rfl
                      refine one_ (i := 6) (N := some 40) #[true, true, true, true, true, true, true, true, true, true, true, true, false, false] rfl rfl (one_of HT_.out (by kernel_rfl)) (by decide) (fun K hK => ?_)
                      refine goes_ Try.func67 (by kernel_rfl) rfl #[.int .u32 t176] (by rfl) rfl rfl (by (try simp only [List.map_toArray, List.map_cons, List.map_nil]); first | done | rfl | (simp only [List.length_drop, List.length_take]; rfl)) ?_
                      with_reducible refine (crc_bytes.calls t176 t177 _ A12.out).mono ?_
                      rintro e w32 ⟨v178, rfl, ho0, hb⟩
                      refine ⟨_, rfl, ?_⟩
                      have n0_ := Aside0.mk (Kd.V_lower (Kd.V_mono (ok' := fun k_ => True) ho0 (fun k_ hk_ => trivial)) (below_size (by repeat (first | (with_reducible first | exact HB.out | apply below_alloc | apply pw_below_drewN | apply below_drew1) | exact HB.out))))
                      have n1_ := Aside0.mk (below_step (by repeat (first | (with_reducible first | exact HB.out | apply below_alloc | apply pw_below_drewN | apply below_drew1) | exact HB.out)) hb)
                      clear HB
                      have HO179 := n0_
                      have HB := n1_
                      clear n0_ n1_
                      (try clear hb)
                      (try clear hb2)
                      (try clear hk)
                      (try clear hi)
                      (try clear ho0)
                      obtain ⟨Ao33, co33, eo33⟩ := Kd.V_slice HO179.out
                      (first | subst eo33 | (injection eo33 with f1_ f2_ f3_; have f4_ := f1_.symm; have f5_ := f3_.symm; clear f1_ f2_ f3_; subst f4_; subst f5_))
                      refine hK.out _ _ trivial (fun hHeld => ?_)
                      clear hK K
                      refine norm_ (a' := ?_) ?_ ?_
                      rotate_left
                      · show Act.put _ (some 40) _ = _
                        simp only [Act.put, List.setIfInBounds_toArray, List.set_cons_zero, List.set_cons_succ, i64_w, i32_w]
                        rfl
                      refine one_ (i := 12) (N := some 46) #[true, true, true, true, true, true, true, true, true, true, true, true, true, false] rfl rfl (one_of HT_.out (by kernel_rfl)) (by decide) (fun K hK => ?_)
                      refine goes_ Try.func75 (by kernel_rfl) rfl #[.slice Ao33 t177.length co33, .slice A31 ((l0.take ((ji7) : Int).toNat).drop (t174 : Int).toNat).length (c0 - t174.toNat)] (by rfl) rfl rfl (by (try simp only [List.map_toArray, List.map_cons, List.map_nil]); first | done | (rw [show ((l0.take ((ji7) : Int).toNat).drop (t174 : Int).toNat).length = ((ji7).toNat - t174.toNat) from (by rw [List.length_drop, List.length_take]; have h_ : ((ji7) : Int) ≤ (l0.length : Int) := of_decide_eq_true (by first | (with_reducible assumption) | assumption); omega)] <;> rfl) | (simp only [hji7]; rfl) | rfl | (simp only [List.length_drop, List.length_take]; rfl)) ?_
                      with_reducible refine (slices_Equal_byte_byte.calls _ _ t177 _ _ ((l0.take ((ji7) : Int).toNat).drop (t174 : Int).toNat) false _ ?side1 ?side2 ?side3 ?side4 A16.out).mono ?_
                      (case side1 => repeat (first | exact (Kd.V_reads' HO179.out).2.2 | (with_reducible refine Kd.C_alloc ?_ _) | (with_reducible refine Kd.C_drewN ?_ _) | (with_reducible refine Kd.C_drew ?_)))
                      (case side2 => exact (Kd.V_reads' HO179.out).2.1)
                      (case side3 => repeat (first | exact (Kd.C_below HR180.out HB.out) | (with_reducible refine Kd.C_alloc ?_ _) | (with_reducible refine Kd.C_drewN ?_ _) | (with_reducible refine Kd.C_drew ?_)))
                      (case side4 => exact HC180.out)
                      rintro e w' ⟨rfl, ⟨nd, rfl⟩⟩
                      refine ⟨_, rfl, ?_⟩
                      refine hK.out _ _ trivial (fun hHeld => ?_)
                      clear hK K
                      refine norm_ (a' := ?_) ?_ ?_
                      rotate_left
                      · show Act.put _ (some 46) _ = _
                        simp only [Act.put, List.setIfInBounds_toArray, List.set_cons_zero, List.set_cons_succ, i64_w, i32_w]
                        rfl
                      refine pure_ (i := 13) (N := some 47) (v := ?_) (a' := ?_) #[true, true, true, true, true, true, true, true, true, true, true, true, true, true] rfl rfl (any_of HT_.out (by kernel_rfl)) (fun _ _ _ h => h) (Or.inl ⟨by rfl, ?_⟩) ?_ ?_
                      rotate_left
                      · intro w'
                        go_simp
                        with_reducible rfl
                      rotate_left
                      · simp only [Act.put, List.setIfInBounds_toArray, List.set_cons_zero, List.set_cons_succ, i64_w, i32_w]
                        rfl
                      refine done_ (done_of HT_.out (by kernel_rfl)) ?_
                      try go_wp2
                      go_ret3
                      exact ⟨_, by first | rfl | (simp [errW_none, errW_some] <;> rfl) | (simp only [← hji7]; first | rfl | (simp [errW_none, errW_some] <;> rfl)) | (simp [*, errW_none, errW_some] <;> rfl), by first | exact Kd.R_nil _ _ _ _ _ | exact Kd.N_nil _ _ _ _ _ | exact Kd.V_nil _ _ _ _ _ | exact Kd.Q_nil _ _ _ _ _ | exact Kd.S_nil _ _ _ _ _, by repeat (first | (with_reducible first | exact HB.out | apply below_alloc | apply pw_below_drewN | apply below_drew1) | exact HB.out)⟩
                  · rw [if_neg c15] at H
                    exact absurd H (by simp)
                · rw [if_neg c14] at H
                  exact absurd H (by simp)
              · rw [if_neg c13] at H
                exact absurd H (by simp)
            · rw [if_neg c10] at H
              exact absurd H (by simp)
          · rw [if_neg c9] at H
            exact absurd H (by simp)
        · rw [if_neg c8] at H
          exact absurd H (by simp)

/-! ### crc_Unframe: plain, of function 41 -/
def crc_Unframe.f (l0 : List Int) : Option (List Int × Int × Int) := if YtanfmnobanhcnaaH.Crc.isB l0 then some (YtanfmnobanhcnaaH.Fr.unframeI l0) else none
set_option maxHeartbeats 2000000 in
theorem crc_Unframe.ev (l0 : List Int) (r : List Int × Int × Int) (h : crc_Unframe.f l0 = some r) (hl : l0.length ≤ 9223372036854775807) : Ev (fun k => crc_Unframe_p.f k l0) r := by
  unfold crc_Unframe.f at h
  split at h
  · rename_i hB
    obtain rfl := Option.some.inj h
    have hr := YtanfmnobanhcnaaH.Var.varI_range l0
    have hv := YtanfmnobanhcnaaH.Var.varI_some l0 hB (YtanfmnobanhcnaaH.Var.varI l0).1 (YtanfmnobanhcnaaH.Var.varI l0).2 rfl
    have hf : num_Var.f l0 = some (YtanfmnobanhcnaaH.Var.varI l0) := by unfold num_Var.f; rw [if_pos hB]
    unfold YtanfmnobanhcnaaH.Fr.unframeI
    generalize YtanfmnobanhcnaaH.Var.varI l0 = p at hr hv hf ⊢
    obtain ⟨n, k0⟩ := p
    simp only at hr hv ⊢
    have hj : ∀ b : Bool, b = decide (k0 = 0 ∨ n > 1048576 ∨ (l0.length : Int) - k0 < n + 4) → Ev (fun k => crc_Unframe_p.j0 k l0 n k0 b) (if k0 = 0 ∨ n > 1048576 ∨ (l0.length : Int) - k0 < n + 4 then ([], 0, 10)
        else if YtanfmnobanhcnaaH.Fr.sum4 (YtanfmnobanhcnaaH.Crc.crcI ((l0.take (k0 + 4 + n).toNat).drop (k0 + 4).toNat)) = (l0.take (k0 + 4).toNat).drop k0.toNat then ((l0.take (k0 + 4 + n).toNat).drop (k0 + 4).toNat, k0 + 4 + n, 0) else ([], 0, 11)) := by
      intro b hb
      by_cases hc : k0 = 0 ∨ n > 1048576 ∨ (l0.length : Int) - k0 < n + 4
      · rw [decide_eq_true hc] at hb
        subst hb
        rw [if_pos hc]
        refine Ev.step (fun k => ?_) (Ev.now _)
        simp only [crc_Unframe_p.j0]
        rw [if_pos trivial]
      · rw [decide_eq_false hc] at hb
        subst hb
        rw [if_neg hc]
        have hv' := hv (fun h => hc (Or.inl h))
        have hn : n ≤ 1048576 := by
          refine Classical.byContradiction fun h => hc (Or.inr (Or.inl (by omega)))
        have hlen : n + 4 ≤ l0.length - k0 := by
          refine Classical.byContradiction fun h => hc (Or.inr (Or.inr (by omega)))
        have w1 : wrap64 (k0 + 4) = k0 + 4 := YtanfmnobanhcnaaH.Crc.wrap64_in _ (by omega) (by omega)
        have w2 : wrap64 n = n := YtanfmnobanhcnaaH.Crc.wrap64_in _ (by omega) (by omega)
        have w3 : wrap64 (k0 + 4 + n) = k0 + 4 + n := YtanfmnobanhcnaaH.Crc.wrap64_in _ (by omega) (by omega)
        have hBd : YtanfmnobanhcnaaH.Crc.isB ((l0.take (k0 + 4 + n).toNat).drop (k0 + 4).toNat) := YtanfmnobanhcnaaH.Var.isB_drop (YtanfmnobanhcnaaH.Var.isB_take hB _) _
        have hcr := YtanfmnobanhcnaaH.Crc.crcI_range hBd
        refine Ev.step (f := fun _ => some (if YtanfmnobanhcnaaH.Fr.sum4 (YtanfmnobanhcnaaH.Crc.crcI ((l0.take (k0 + 4 + n).toNat).drop (k0 + 4).toNat)) = (l0.take (k0 + 4).toNat).drop k0.toNat then ((l0.take (k0 + 4 + n).toNat).drop (k0 + 4).toNat, k0 + 4 + n, 0) else ([], 0, 11))) (fun k => ?_) (Ev.now _)
        simp only [crc_Unframe_p.j0]
        rw [if_neg (by simp), w1, w2, w3, if_pos (by omega), if_pos (by omega), if_pos (by omega)]
        unfold crc_Sum.f
        rw [if_pos hBd]
        rw [Option.bind_some]
        unfold crc_bytes.f
        rw [if_pos hcr]
        rw [Option.bind_some]
        rw [if_pos (by omega), if_pos (by omega), if_pos (by omega)]
        unfold slices_Equal_byte_byte.f
        rw [Option.bind_some]; simp only [decide_eq_true_eq]
        by_cases hs : YtanfmnobanhcnaaH.Fr.sum4 (YtanfmnobanhcnaaH.Crc.crcI ((l0.take (k0 + 4 + n).toNat).drop (k0 + 4).toNat)) = (l0.take (k0 + 4).toNat).drop k0.toNat
        · rw [if_pos hs, if_pos hs]
          unfold slices_Clone_byte_byte.f
          rw [if_pos (by rw [List.length_drop, List.length_take]; omega)]
          rfl
        · rw [if_neg hs, if_neg hs]
    have wl : wrap64 ((l0.length : Int) - k0) = (l0.length : Int) - k0 := YtanfmnobanhcnaaH.Crc.wrap64_in _ (by omega) (by omega)
    by_cases h0 : k0 = 0
    · refine Ev.congr (fun k => ?_) (hj true (by simp [h0]))
      unfold crc_Unframe_p.f
      rw [hf]
      rw [Option.bind_some]
      rw [if_pos h0]
    · by_cases h1 : n > 1048576
      · refine Ev.congr (fun k => ?_) (hj true (by simp [h1]))
        unfold crc_Unframe_p.f
        rw [hf]
        rw [Option.bind_some]
        rw [if_neg h0, if_pos h1]
      · refine Ev.congr (fun k => ?_) (hj (decide ((l0.length : Int) - k0 < n + 4)) (by simp [h0, h1]))
        unfold crc_Unframe_p.f
        rw [hf]
        rw [Option.bind_some]
        rw [if_neg h0, if_neg h1, wl]
        have u1 : IntKind.u64.wrap ((l0.length : Int) - k0) = (l0.length : Int) - k0 := by rw [IntKind.wrap_u64]; omega
        have u2 : IntKind.u64.wrap (n + 4) = n + 4 := by rw [IntKind.wrap_u64]; omega
        rw [u1, u2]
  · cases h
theorem crc_Unframe.calls (A0 : Option Addr) (c0 : Nat) (l0 : List Int) (r1 : List Int) (r2 : Int) (r3 : Int) (w : World) (hr0 : Kd.C (Kd.int .u8) w A0 l0.length l0) (hc0 : l0.length ≤ c0) (h : crc_Unframe.f l0 = some (r1, r2, r3)) :
    Calls Try.prog 41 #[.slice A0 l0.length c0] w fun e w' => ∃ v0_ : Value, e = .returned (.tuple #[v0_, .int .i64 r2, .int .i64 r3]) ∧ Kd.R (Kd.int .u8) 5 w' w.heap.size (fun _ => True) v0_ r1 ∧ Below w.heap.size w w' := by
  obtain ⟨k, hk⟩ := (crc_Unframe.ev l0 _ h (by first | exact hr0.2.1 | exact (Kd.V_reads' hs0).2.2.2.1 | exact (Kd.R_reads' ho0).2.2.2.1)).rounds
  exact crc_Unframe_p.calls k A0 c0 l0 r1 r2 r3 w hr0 hc0 hk

/-! ### record_reader_number: function 78 -/
set_option maxHeartbeats 4000000 in
set_option maxRecDepth 100000 in
theorem record_reader_number.calls (g : Nat) (l : List Int) (bad : Bool) (w : World) (h : YtanfmnobanhcnaaH.Rec.Rd 83 5 g w l bad) (hB : YtanfmnobanhcnaaH.Crc.isB l) :
    Calls Try.prog 78 #[.pointer (some ⟨g, 0, none⟩)] w fun e w' => e = .returned (.int .i64 (YtanfmnobanhcnaaH.Rec.numR l bad).1) ∧ YtanfmnobanhcnaaH.Rec.Rd 83 5 g w' (YtanfmnobanhcnaaH.Rec.numR l bad).2.1 (YtanfmnobanhcnaaH.Rec.numR l bad).2.2 ∧ YtanfmnobanhcnaaH.Mut g none w w' := by
  obtain ⟨v, hg, hv⟩ := h
  obtain ⟨A, c, rfl⟩ := Kd.V_slice hv
  have hc0 := YtanfmnobanhcnaaH.cellv hg 0 _ rfl
  have hr := Aside0.mk (YtanfmnobanhcnaaH.Var.varI_range l)
  have hvr := (Kd.V_reads' hv)
  have hlen := hvr.2.2.2.1
  go_enter Try.func78, Try.ntmps78
  go_wp2_with fail
  refine (num_Var.calls A c l (YtanfmnobanhcnaaH.Var.varI l).1 (YtanfmnobanhcnaaH.Var.varI l).2 _ hvr.2.2 hvr.2.1 (by unfold num_Var.f; rw [if_pos hB])).mono ?_
  rintro e w1 ⟨rfl, hd⟩
  have hb := hd.below
  have hg1 := blk_below hg hb
  have hv1 := Kd.V_below hv hb
  have hm1 := (YtanfmnobanhcnaaH.Mut.refl g none w).below_ hb
  have hres0 : YtanfmnobanhcnaaH.Rec.numR l bad = if (YtanfmnobanhcnaaH.Var.varI l).2 = 0 then (0, l, true) else if 999999 < (YtanfmnobanhcnaaH.Var.varI l).1 then (0, l, true) else ((YtanfmnobanhcnaaH.Var.varI l).1, l.drop (YtanfmnobanhcnaaH.Var.varI l).2.toNat, bad) := rfl
  obtain ⟨x, hx⟩ : ∃ x, x = (YtanfmnobanhcnaaH.Var.varI l).1 := ⟨_, rfl⟩
  obtain ⟨k, hk⟩ : ∃ k, k = (YtanfmnobanhcnaaH.Var.varI l).2 := ⟨_, rfl⟩
  rw [← hx, ← hk] at hres0
  have hr2 := hr.out
  rw [← hx, ← hk] at hr2
  rw [← hx, ← hk]
  clear hx hk hc0 hd hr
  by_cases h1 : k = 0
  · have hres : YtanfmnobanhcnaaH.Rec.numR l bad = (0, l, true) := by rw [hres0, if_pos h1]
    clear hres0
    have hres := Aside0.mk hres
    have hf1 := blk_frozen hg1 1
    have hq1 := YtanfmnobanhcnaaH.cellv hg1 1 (.bool bad) rfl
    go_wp2
    go_ret
    exact ⟨by rw [hres.out]; rfl, by rw [hres.out]; exact ⟨_, blk_set hg1 1 (.bool true), Kd.V_far (p := ⟨g, 1, none⟩) hv1 (fun k hk => Nat.ne_of_lt hk) _⟩, hm1.set_ 1 _⟩
  · by_cases h2 : 999999 < x
    · have hres : YtanfmnobanhcnaaH.Rec.numR l bad = (0, l, true) := by rw [hres0, if_neg h1, if_pos h2]
      clear hres0
      have hres := Aside0.mk hres
      have hf1 := blk_frozen hg1 1
      have hq1 := YtanfmnobanhcnaaH.cellv hg1 1 (.bool bad) rfl
      go_wp2
      go_ret
      exact ⟨by rw [hres.out]; rfl, by rw [hres.out]; exact ⟨_, blk_set hg1 1 (.bool true), Kd.V_far (p := ⟨g, 1, none⟩) hv1 (fun k hk => Nat.ne_of_lt hk) _⟩, hm1.set_ 1 _⟩
    · have hres : YtanfmnobanhcnaaH.Rec.numR l bad = (x, l.drop k.toNat, bad) := by rw [hres0, if_neg h1, if_neg h2]
      clear hres0
      have hres := Aside0.mk hres
      have hr3 := Aside0.mk hr2
      have h1b : (k == 0) = false := by rw [beq_eq_false_iff_ne]; exact h1
      have h2b : decide (999999 < x) = false := decide_eq_false h2
      have hkle : k ≤ (l.length : Int) := hr2.2.2.2
      have hk0 : 0 ≤ k := hr2.2.2.1
      have hF := Kd.F_cut (m := k.toNat) (c := c) (Kd.V_at hv1).2.2 (by omega) hvr.2.1
      obtain ⟨i0, hi0, _, hsz0, _⟩ := info_parts info5
      have hcut := cut_from (P := Try.prog) 26 5 .i64 Try.underlying26 hi0 1 hsz0 A l.length c k hk0 hkle
      obtain ⟨A', hA'⟩ : ∃ A', A' = (if c = k.toNat then A else (A : Option Addr).map (·.add (k.toNat * 1))) := ⟨_, rfl⟩
      obtain ⟨c', hc'⟩ : ∃ c', c' = c - k.toNat := ⟨_, rfl⟩
      obtain ⟨l', hl'⟩ : ∃ l', l' = l.drop k.toNat := ⟨_, rfl⟩
      have hle : l.length - k.toNat = l'.length := by rw [hl', List.length_drop]
      rw [← hA', ← hc', hle] at hcut
      have hF' : Kd.F (Kd.int .u8) w1 (fun j => j < g) A' l'.length l' := by rw [hA', hl']; exact hF
      have hlc : l'.length ≤ c' := by have := hvr.2.1; omega
      have HL := Aside0.mk hl'
      clear hA' hc' hl' hF hi0 hsz0 hle
      have hf1 := blk_frozen hg1 0
      have hq1 := YtanfmnobanhcnaaH.cellv hg1 0 _ rfl
      have hwr : wrap64 x = x := YtanfmnobanhcnaaH.Crc.wrap64_in _ (by omega) (by omega)
      have HW := Aside0.mk hwr
      clear hwr
      go_wp2
      go_ret
      refine ⟨by rw [hres.out]; first | rfl | (rw [HW.out]; rfl) | simp, by rw [hres.out]; exact ⟨_, blk_set hg1 0 (.slice A' l'.length c'), by rw [← HL.out]; exact Kd.V_far (p := ⟨g, 0, none⟩) (Kd.V_mk hlc hF') (fun k hk => Nat.ne_of_lt hk) _⟩, hm1.set_ 0 _⟩


end Go.Proofs.Ytanfmnobanhcnaa.PRec3
