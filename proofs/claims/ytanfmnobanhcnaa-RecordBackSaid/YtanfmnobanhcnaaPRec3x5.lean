-- Written by hp.py (own driver over print.py) out of the translation, hand-made functions among it. Lean checks it.
import Derived.Test.YtanfmnobanhcnaaPRec3x0
import Derived.Test.YtanfmnobanhcnaaPRec3x4
namespace Go.Proofs.Ytanfmnobanhcnaa.PRec3
open Go.RowKit Go.Proofs.YtanfmnobanhcnaaW.PrintWords Go.Proofs.YtanfmnobanhcnaaW.PrintLast Go.Proofs.YtanfmnobanhcnaaW.PrintMore
attribute [local go_sem] max2_int min2_int max_two min_two max_three min_three max_four min_four   -- for this text's walks alone
set_option linter.unusedVariables false
set_option linter.unusedSimpArgs false

/-! ### num_Var_p: function 74 -/
mutual
def num_Var_p.l0 : Nat → Int → Int → List Int → Int → Int → Option (Int × Int)
  | 0, _, _, _, _, _ => none
  | k + 1, x4, x5, x9, x10, x11 => if x11 < x10 then (if 0 ≤ x11 then (if x11 < (x9.length : Int) then ((bits_Len64.f (IntKind.u64.wrap (Go.bits .andNot .u8 (rd x9 x11) 128))).bind fun t170 => (if (wrap64 (x5 + t170)) > 64 then (some (0, 0)) else (if (rd x9 x11) < 128 then (if (rd x9 x11) = 0 then (num_Var_p.j1 k x4 x5 x11 (rd x9 x11) (IntKind.u64.wrap (Go.bits .andNot .u8 (rd x9 x11) 128)) x9 x10 x11 (decide (x11 > 0))) else (num_Var_p.j1 k x4 x5 x11 (rd x9 x11) (IntKind.u64.wrap (Go.bits .andNot .u8 (rd x9 x11) 128)) x9 x10 x11 false)) else (num_Var_p.j1 k x4 x5 x11 (rd x9 x11) (IntKind.u64.wrap (Go.bits .andNot .u8 (rd x9 x11) 128)) x9 x10 x11 false)))) else (none)) else (none)) else (some (0, 0))
def num_Var_p.j1 : Nat → Int → Int → Int → Int → Int → List Int → Int → Int → Bool → Option (Int × Int)
  | 0, _, _, _, _, _, _, _, _, _ => none
  | k + 1, x4, x5, x6, x7, x8, x9, x10, x11, x25 => if x25 = true then (some (0, 0)) else (if 0 ≤ x5 then (if x7 < 128 then (some (Go.bits .or .u64 x4 (shl .u64 x8 x5), wrap64 (x6 + 1))) else (num_Var_p.l0 k (Go.bits .or .u64 x4 (shl .u64 x8 x5)) (wrap64 (x5 + 7)) x9 x10 (wrap64 (x11 + 1)))) else (none))
end
def num_Var_p.f (k : Nat) (l0 : List Int) : Option (Int × Int) := num_Var_p.l0 k 0 0 l0 (l0.length : Int) 0
theorem num_Var_p.mono_l : ∀ k, (∀ y0 y1 y2 y3 y4, LeO (num_Var_p.l0 k y0 y1 y2 y3 y4) (num_Var_p.l0 (k + 1) y0 y1 y2 y3 y4)) ∧ (∀ y0 y1 y2 y3 y4 y5 y6 y7 y8, LeO (num_Var_p.j1 k y0 y1 y2 y3 y4 y5 y6 y7 y8) (num_Var_p.j1 (k + 1) y0 y1 y2 y3 y4 y5 y6 y7 y8))
  | 0 => ⟨fun _ _ _ _ _ r h => by simp [num_Var_p.l0] at h, fun _ _ _ _ _ _ _ _ _ r h => by simp [num_Var_p.j1] at h⟩
  | k + 1 => by
    obtain ⟨ih0, ih1⟩ := num_Var_p.mono_l k
    refine ⟨?_, ?_⟩
    · intro y0 y1 y2 y3 y4
      unfold num_Var_p.l0
      repeat' first
      | (with_reducible exact ih0 _ _ _ _ _)
      | (with_reducible exact ih1 _ _ _ _ _ _ _ _ _)
      | (with_reducible exact LeO.refl _)
      | (with_reducible exact LeO.none _)
      | (with_reducible refine LeO.ite ?_ ?_)
      | (with_reducible refine LeO.bind ?_ (fun _ => ?_))
      | exact ih0 _ _ _ _ _
      | exact ih1 _ _ _ _ _ _ _ _ _
      | exact LeO.none _
      | refine LeO.ite ?_ ?_
      | refine LeO.bind ?_ (fun _ => ?_)
    · intro y0 y1 y2 y3 y4 y5 y6 y7 y8
      unfold num_Var_p.j1
      repeat' first
      | (with_reducible exact ih0 _ _ _ _ _)
      | (with_reducible exact ih1 _ _ _ _ _ _ _ _ _)
      | (with_reducible exact LeO.refl _)
      | (with_reducible exact LeO.none _)
      | (with_reducible refine LeO.ite ?_ ?_)
      | (with_reducible refine LeO.bind ?_ (fun _ => ?_))
      | exact ih0 _ _ _ _ _
      | exact ih1 _ _ _ _ _ _ _ _ _
      | exact LeO.none _
      | refine LeO.ite ?_ ?_
      | refine LeO.bind ?_ (fun _ => ?_)
theorem num_Var_p.mono : ∀ a0 k, LeO (num_Var_p.f k a0) (num_Var_p.f (k + 1) a0) := by
  intro a0 k
  obtain ⟨ih0, ih1⟩ := num_Var_p.mono_l k
  unfold num_Var_p.f
  repeat' first
      | (with_reducible exact ih0 _ _ _ _ _)
      | (with_reducible exact ih1 _ _ _ _ _ _ _ _ _)
      | (with_reducible exact LeO.refl _)
      | (with_reducible exact LeO.none _)
      | (with_reducible refine LeO.ite ?_ ?_)
      | (with_reducible refine LeO.bind ?_ (fun _ => ?_))
      | exact ih0 _ _ _ _ _
      | exact ih1 _ _ _ _ _ _ _ _ _
      | exact LeO.none _
      | refine LeO.ite ?_ ?_
      | refine LeO.bind ?_ (fun _ => ?_)
set_option maxHeartbeats 8000000 in
set_option maxRecDepth 100000 in
theorem num_Var_p.calls (k : Nat) (A0 : Option Addr) (c0 : Nat) (l0 : List Int) (r1 : Int) (r2 : Int) (w : World) (hr0 : Kd.C (Kd.int .u8) w A0 l0.length l0) (hc0 : l0.length ≤ c0) (h : num_Var_p.f k l0 = some (r1, r2)) :
    Calls Try.prog 74 #[.slice A0 l0.length c0] w fun e w' => e = .returned (.tuple #[.int .u64 r1, .int .i64 r2]) ∧ Drawn0 w w' := by
  have HR0 := Aside0.mk hr0
  have HC0 := Aside0.mk hc0
  clear hr0 hc0
  have H : (num_Var_p.l0 k 0 0 l0 (l0.length : Int) 0) = some (r1, r2) := h
  clear h
  have H' := Aside0.mk H
  clear H
  go_enter Try.func74, Try.ntmps74
  go_wp2
  go_loopg [4, 5, 11] k (fun kq v4 v5 v11 w' => ∃ (x4_1 : Int) (x5_1 : Int) (x11_1 : Int), v4 = .int .u64 x4_1 ∧ v5 = .int .i64 x5_1 ∧ v11 = .int .i64 x11_1 ∧ Aside0 (num_Var_p.l0 kq x4_1 x5_1 l0 (l0.length : Int) x11_1 = some (r1, r2)) ∧ Aside0 (kq ≤ k) ∧ Drawn0 w w')
  case atStart => exact ⟨(0), (0), (0), (by first | rfl | (simp; done) | (simp [*]; done)), (by first | rfl | (simp; done) | (simp [*]; done)), (by first | rfl | (simp; done) | (simp [*]; done)), H', ⟨Nat.le_refl _⟩, by repeat (first | exact Drawn0.refl _ | apply Drawn0.step)⟩
  case round =>
    clear H'
    obtain ⟨x4_1, x5_1, x11_1, rfl, rfl, rfl, HA, HK1, ⟨m1, rfl⟩⟩ := hrel
    cases gk with
    | zero => exact absurd HA.out (by simp [num_Var_p.l0])
    | succ k1 =>
      have H := HA.out
      clear HA
      simp only [num_Var_p.l0] at H
      by_cases c2 : x11_1 < (l0.length : Int)
      · rw [if_pos c2] at H
        have c2b0 : decide (x11_1 < (l0.length : Int)) = true := decide_eq_true c2
        clear c2
        by_cases c3 : 0 ≤ x11_1
        · rw [if_pos c3] at H
          have c3b0 : decide (0 ≤ x11_1) = true := decide_eq_true c3
          clear c3
          by_cases c4 : x11_1 < (l0.length : Int)
          · rw [if_pos c4] at H
            have c4b0 : decide (x11_1 < (l0.length : Int)) = true := decide_eq_true c4
            clear c4
            replace H := Option.bind_eq_some_iff.mp H
            obtain ⟨t170, A50, H⟩ := H
            replace H : (if (wrap64 (x5_1 + t170)) > 64 then (some (0, 0)) else (if (rd l0 x11_1) < 128 then (if (rd l0 x11_1) = 0 then (num_Var_p.j1 k1 x4_1 x5_1 x11_1 (rd l0 x11_1) (IntKind.u64.wrap (Go.bits .andNot .u8 (rd l0 x11_1) 128)) l0 (l0.length : Int) x11_1 (decide (x11_1 > 0))) else (num_Var_p.j1 k1 x4_1 x5_1 x11_1 (rd l0 x11_1) (IntKind.u64.wrap (Go.bits .andNot .u8 (rd l0 x11_1) 128)) l0 (l0.length : Int) x11_1 false)) else (num_Var_p.j1 k1 x4_1 x5_1 x11_1 (rd l0 x11_1) (IntKind.u64.wrap (Go.bits .andNot .u8 (rd l0 x11_1) 128)) l0 (l0.length : Int) x11_1 false))) = some (r1, r2) := H
            have A5 := Aside0.mk A50
            clear A50
            by_cases c6 : (wrap64 (x5_1 + t170)) > 64
            · rw [if_pos c6] at H
              have c6b0 : decide (64 < (wrap64 (x5_1 + t170))) = true := decide_eq_true c6
              clear c6
              simp only [Option.some.injEq, Prod.mk.injEq] at H
              obtain ⟨rfl, rfl⟩ := H
              have p169 : 0 ≤ (x11_1 : Int) := of_decide_eq_true (by first | (with_reducible assumption) | assumption)
              have q169 : x11_1 < (l0.length : Int) := of_decide_eq_true (by first | (with_reducible assumption) | assumption)
              obtain ⟨ad169, e169, hx169_0⟩ := Kd.at_int HR0.out x11_1 p169 q169
              cases e169
              replace p169 := eq_true p169
              replace q169 := eq_true q169
              go_wp2_with (first | ((with_reducible refine gate_callee (f := 109) rfl ?_); refine goesL_ (some 22) rfl rfl Try.func109 (by kernel_rfl) rfl #[.int .u64 (IntKind.u64.wrap (Go.bits .andNot .u8 (rd l0 x11_1) 128))] rfl (by (try simp only [List.map_toArray, List.map_cons, List.map_nil]); first | done | rfl | (simp only [List.length_drop, List.length_take]; rfl)) ?_; (with_reducible refine (bits_Len64.calls (IntKind.u64.wrap (Go.bits .andNot .u8 (rd l0 x11_1) 128)) t170 _ A5.out).mono ?_); rintro e w' ⟨rfl, ⟨nd, rfl⟩⟩; refine ⟨_, rfl, ?_⟩))
              go_ret2
              exact ⟨by first | rfl | (simp; done) | (simp [*]; done), by repeat (first | exact Drawn0.refl _ | apply Drawn0.step)⟩
            · rw [if_neg c6] at H
              have c6b0 : decide (64 < (wrap64 (x5_1 + t170))) = false := decide_eq_false c6
              clear c6
              have HC7 := Aside0.mk H
              clear H
              have p169 : 0 ≤ (x11_1 : Int) := of_decide_eq_true (by first | (with_reducible assumption) | assumption)
              have q169 : x11_1 < (l0.length : Int) := of_decide_eq_true (by first | (with_reducible assumption) | assumption)
              obtain ⟨ad169, e169, hx169_0⟩ := Kd.at_int HR0.out x11_1 p169 q169
              cases e169
              replace p169 := eq_true p169
              replace q169 := eq_true q169
              go_upto_region 8 with (first | ((with_reducible refine gate_callee (f := 109) rfl ?_); refine goesL_ (some 22) rfl rfl Try.func109 (by kernel_rfl) rfl #[.int .u64 (IntKind.u64.wrap (Go.bits .andNot .u8 (rd l0 x11_1) 128))] rfl (by (try simp only [List.map_toArray, List.map_cons, List.map_nil]); first | done | rfl | (simp only [List.length_drop, List.length_take]; rfl)) ?_; (with_reducible refine (bits_Len64.calls (IntKind.u64.wrap (Go.bits .andNot .u8 (rd l0 x11_1) 128)) t170 _ A5.out).mono ?_); rintro e w' ⟨rfl, ⟨nd, rfl⟩⟩; refine ⟨_, rfl, ?_⟩))
              (try simp only [Act.put, List.setIfInBounds_toArray, List.set_cons_zero, List.set_cons_succ])
              go_cut [25] (fun v25 wc => ∃ (kq : Nat) (x25_6 : Bool), v25 = .bool x25_6 ∧ Aside0 (num_Var_p.j1 kq x4_1 x5_1 x11_1 (rd l0 x11_1) (IntKind.u64.wrap (Go.bits .andNot .u8 (rd l0 x11_1) 128)) l0 (l0.length : Int) x11_1 x25_6 = some (r1, r2)) ∧ Aside0 (kq ≤ k1) ∧ Drawn0 w wc)
              case first =>
                have H := HC7.out
                clear HC7
                by_cases c8 : (rd l0 x11_1) < 128
                · rw [if_pos c8] at H
                  have c8b0 : decide ((rd l0 x11_1) < 128) = true := decide_eq_true c8
                  clear c8
                  (first | rw [c8b0] | (simp only [i64_w, i32_w]; rw [c8b0]) | skip)
                  by_cases c9 : (rd l0 x11_1) = 0
                  · rw [if_pos c9] at H
                    have c9b0 : ((rd l0 x11_1) == 0) = true := beq_iff_eq.mpr c9
                    have c9b1 : ((rd l0 x11_1) != 0) = false := bne_eq_false_iff_eq.mpr c9
                    clear c9
                    have H' := Aside0.mk H
                    clear H
                    go_wp2
                    go_meet
                    case rel => exact ⟨_, (decide (x11_1 > 0)), (by first | rfl | (simp; done) | (simp [*]; done)), H', ⟨by have := HK1.out; first | omega | exact Nat.le_refl _⟩, by repeat (first | exact Drawn0.refl _ | apply Drawn0.step)⟩
                  · rw [if_neg c9] at H
                    have c9b0 : ((rd l0 x11_1) == 0) = false := beq_eq_false_iff_ne.mpr c9
                    have c9b1 : ((rd l0 x11_1) != 0) = true := bne_iff_ne.mpr c9
                    have H' := Aside0.mk H
                    clear H
                    go_wp2
                    go_meet
                    case rel => exact ⟨_, (false), (by first | rfl | (simp; done) | (simp [*]; done)), H', ⟨by have := HK1.out; first | omega | exact Nat.le_refl _⟩, by repeat (first | exact Drawn0.refl _ | apply Drawn0.step)⟩
                · rw [if_neg c8] at H
                  have c8b0 : decide ((rd l0 x11_1) < 128) = false := decide_eq_false c8
                  clear c8
                  (first | rw [c8b0] | (simp only [i64_w, i32_w]; rw [c8b0]) | skip)
                  have H' := Aside0.mk H
                  clear H
                  go_wp2
                  go_meet
                  case rel => exact ⟨_, (false), (by first | rfl | (simp; done) | (simp [*]; done)), H', ⟨by have := HK1.out; first | omega | exact Nat.le_refl _⟩, by repeat (first | exact Drawn0.refl _ | apply Drawn0.step)⟩
              case rest =>
                clear HC7
                try clear c1
                try clear p1
                try clear q1
                try clear hx1
                try clear c2
                try clear c2b0
                try clear p2
                try clear c3
                try clear c3b0
                try clear c4
                try clear c4b0
                try clear c6
                try clear c6b0
                try clear p6
                try clear c7
                try clear c8
                try clear c8b0
                try clear c9
                try clear c9b0
                try clear c9b1
                try clear hx169_0
                try clear p169
                try clear q169
                obtain ⟨kq, x25_6, rfl, HA, HJ6, ⟨mc6, rfl⟩⟩ := hcut
                cases kq with
                | zero => exact absurd HA.out (by simp [num_Var_p.j1])
                | succ kj6 =>
                  have H := HA.out
                  clear HA
                  simp only [num_Var_p.j1] at H
                  by_cases c10 : x25_6 = true
                  · subst c10
                    have H1 : (some (0, 0)) = some (r1, r2) := by rw [if_pos rfl] at H; exact H
                    clear H
                    have H := H1
                    clear H1
                    simp only [Option.some.injEq, Prod.mk.injEq] at H
                    obtain ⟨rfl, rfl⟩ := H
                    go_wp2
                    go_ret2
                    exact ⟨by first | rfl | (simp; done) | (simp [*]; done), by repeat (first | exact Drawn0.refl _ | apply Drawn0.step)⟩
                  · replace c10 := Bool.eq_false_iff.mpr c10
                    subst c10
                    have H1 : (if 0 ≤ x5_1 then (if (rd l0 x11_1) < 128 then (some (Go.bits .or .u64 x4_1 (shl .u64 (IntKind.u64.wrap (Go.bits .andNot .u8 (rd l0 x11_1) 128)) x5_1), wrap64 (x11_1 + 1))) else (num_Var_p.l0 kj6 (Go.bits .or .u64 x4_1 (shl .u64 (IntKind.u64.wrap (Go.bits .andNot .u8 (rd l0 x11_1) 128)) x5_1)) (wrap64 (x5_1 + 7)) l0 (l0.length : Int) (wrap64 (x11_1 + 1)))) else (none)) = some (r1, r2) := by rw [if_neg (show ¬ (false = true) by decide)] at H; exact H
                    clear H
                    have H := H1
                    clear H1
                    by_cases c11 : 0 ≤ x5_1
                    · rw [if_pos c11] at H
                      have c11b0 := eq_true c11
                      have c11b1 : decide (0 ≤ x5_1) = true := decide_eq_true c11
                      clear c11
                      obtain ⟨ji12, hji12⟩ : ∃ j_ : Int, (shl .u64 (IntKind.u64.wrap (Go.bits .andNot .u8 (rd l0 x11_1) 128)) x5_1) = j_ := ⟨_, rfl⟩
                      replace H : (if (rd l0 x11_1) < 128 then (some (Go.bits .or .u64 x4_1 (ji12), wrap64 (x11_1 + 1))) else (num_Var_p.l0 kj6 (Go.bits .or .u64 x4_1 (ji12)) (wrap64 (x5_1 + 7)) l0 (l0.length : Int) (wrap64 (x11_1 + 1)))) = some (r1, r2) := by first | (rw [hji12] at H; exact H) | (simp only [hji12] at H ⊢; exact H)
                      have hji12_ : (IntKind.u64.wrap ((IntKind.u64.wrap (Go.bits .andNot .u8 (rd l0 x11_1) 128)) * 2 ^ min x5_1.toNat 64)) = ji12 := hji12
                      have hji12z : x5_1 ≤ 64 → (IntKind.u64.wrap ((IntKind.u64.wrap (Go.bits .andNot .u8 (rd l0 x11_1) 128)) * 2 ^ x5_1.toNat)) = ji12 := shl_small hji12
                      by_cases c13 : (rd l0 x11_1) < 128
                      · rw [if_pos c13] at H
                        have c13b0 : decide ((rd l0 x11_1) < 128) = true := decide_eq_true c13
                        clear c13
                        simp only [Option.some.injEq, Prod.mk.injEq] at H
                        obtain ⟨rfl, rfl⟩ := H
                        go_wp2
                        go_ret2
                        exact ⟨by first | rfl | (simp; done) | (simp only [← hji12] <;> (first | rfl | simp)) | (simp [*]; done), by repeat (first | exact Drawn0.refl _ | apply Drawn0.step)⟩
                      · rw [if_neg c13] at H
                        have c13b0 : decide ((rd l0 x11_1) < 128) = false := decide_eq_false c13
                        clear c13
                        have H' := Aside0.mk H
                        clear H
                        go_wp2
                        go_roundg kj6
                        case measure => have := HK1.out; have := HJ6.out; omega
                        case rel => exact ⟨(Go.bits .or .u64 x4_1 (ji12)), (wrap64 (x5_1 + 7)), (wrap64 (x11_1 + 1)), (by first | rfl | (simp; done) | (simp only [← hji12] <;> (first | rfl | simp)) | (simp [*]; done)), (by first | rfl | (simp; done) | (simp [*]; done)), (by first | rfl | (simp; done) | (simp [*]; done)), H', ⟨by have := HK1.out; have := HJ6.out; omega⟩, by repeat (first | exact Drawn0.refl _ | apply Drawn0.step)⟩
                    · rw [if_neg c11] at H
                      exact absurd H (by simp)
          · rw [if_neg c4] at H
            exact absurd H (by simp)
        · rw [if_neg c3] at H
          exact absurd H (by simp)
      · rw [if_neg c2] at H
        have c2b0 : decide (x11_1 < (l0.length : Int)) = false := decide_eq_false c2
        clear c2
        simp only [Option.some.injEq, Prod.mk.injEq] at H
        obtain ⟨rfl, rfl⟩ := H
        go_wp2
        go_ret2
        exact ⟨by first | rfl | (simp; done) | (simp [*]; done), by repeat (first | exact Drawn0.refl _ | apply Drawn0.step)⟩

/-! ### num_Var: plain, of function 74 -/
def num_Var.f (l0 : List Int) : Option (Int × Int) := if YtanfmnobanhcnaaH.Crc.isB l0 then some (YtanfmnobanhcnaaH.Var.varI l0) else none
set_option maxHeartbeats 2000000 in
theorem num_Var.loop (l : List Int) (hl : l.length ≤ 9223372036854775807) (hB : YtanfmnobanhcnaaH.Crc.isB l) (t : List Int) : ∀ (x i : Nat), x < 2 ^ (7 * i) → i ≤ 10 → l.drop i = t → i + t.length = l.length →
    Ev (fun k => num_Var_p.l0 k (x : Int) ((7 * i : Nat) : Int) l (l.length : Int) (i : Int)) (((YtanfmnobanhcnaaH.Var.res Lib.bitLen x (7 * i) i (YtanfmnobanhcnaaH.Crc.nats t)).1 : Nat), ((YtanfmnobanhcnaaH.Var.res Lib.bitLen x (7 * i) i (YtanfmnobanhcnaaH.Crc.nats t)).2 : Nat)) := by
  induction t with
  | nil =>
    intro x i hx hi ht hlen
    refine Ev.step (fun k => ?_) (Ev.now _)
    simp only [num_Var_p.l0]
    rw [if_neg (by simp at hlen; omega)]
    rfl
  | cons c t ih =>
    intro x i hx hi ht hlen
    obtain ⟨hrd, hil, ht', hmem⟩ := YtanfmnobanhcnaaH.Var.rd_at ht
    have hcb : 0 ≤ c ∧ c < 256 := hB c hmem
    obtain ⟨n, rfl⟩ := Int.eq_ofNat_of_zero_le hcb.1
    have hn : n < 256 := by omega
    have e : YtanfmnobanhcnaaH.Crc.nats (((n : Nat) : Int) :: t) = n :: YtanfmnobanhcnaaH.Crc.nats t := by simp [YtanfmnobanhcnaaH.Crc.nats]
    have hbl := YtanfmnobanhcnaaH.Var.bl_ok (n % 128) (by omega)
    have hb7 : Lib.bitLen (n % 128) ≤ 7 := by
      by_cases h0 : n % 128 = 0
      · rw [hbl.1 h0]; decide
      · exact (hbl.2 h0).2.1
    have hP : IntKind.u64.wrap (Go.bits .andNot .u8 (rd l (i : Int)) 128) = ((n % 128 : Nat) : Int) := by
      rw [hrd, YtanfmnobanhcnaaH.Var.low7 n hn, IntKind.wrap_u64]
      omega
    have hL : bits_Len64.f ((n % 128 : Nat) : Int) = some ((Lib.bitLen (n % 128) : Nat) : Int) := by
      unfold bits_Len64.f
      rw [if_pos (by omega), Int.toNat_natCast]
    have hW : wrap64 (((7 * i : Nat) : Int) + ((Lib.bitLen (n % 128) : Nat) : Int)) = ((7 * i + Lib.bitLen (n % 128) : Nat) : Int) := by
      rw [YtanfmnobanhcnaaH.Crc.wrap64_in _ (by omega) (by omega)]
      omega
    replace hP := Aside0.mk hP
    replace hL := Aside0.mk hL
    replace hW := Aside0.mk hW
    rw [e]
    simp only [YtanfmnobanhcnaaH.Var.res]
    by_cases h64 : 64 < 7 * i + Lib.bitLen (n % 128)
    · rw [if_pos h64]
      refine Ev.step (fun k => ?_) (Ev.now _)
      simp only [num_Var_p.l0]
      rw [if_pos (by omega), if_pos (by omega), if_pos (by omega), hP.out, hL.out]
      rw [Option.bind_some]
      rw [hW.out, if_pos (by omega)]
      rfl
    · rw [if_neg h64]
      have hi9 : i ≤ 9 := by omega
      have hsmall : n % 128 * 2 ^ (7 * i) < 18446744073709551616 := by
        by_cases h0 : n % 128 = 0
        · rw [h0]; simp
        · obtain ⟨_, _, _, h4⟩ := hbl.2 h0
          have e1 : 2 ^ (Lib.bitLen (n % 128) + 7 * i) ≤ 2 ^ 64 := Nat.pow_le_pow_right (by decide) (by omega)
          rw [Nat.pow_add] at e1
          have e2 : n % 128 * 2 ^ (7 * i) < 2 ^ Lib.bitLen (n % 128) * 2 ^ (7 * i) := Nat.mul_lt_mul_of_pos_right h4 (Nat.pow_pos (by decide))
          have e64 : (2 : Nat) ^ 64 = 18446744073709551616 := by decide
          omega
      have hJ := Aside0.mk (YtanfmnobanhcnaaH.Var.join x (n % 128) i hx hsmall (by omega))
      have head : ∀ (b : Bool), (n < 128 ∧ n = 0 ∧ 0 < i → b = true) → (¬ (n < 128 ∧ n = 0 ∧ 0 < i) → b = false) → ∀ k, num_Var_p.l0 (k + 1) (x : Int) ((7 * i : Nat) : Int) l (l.length : Int) (i : Int) = num_Var_p.j1 k (x : Int) ((7 * i : Nat) : Int) (i : Int) ((n : Nat) : Int) ((n % 128 : Nat) : Int) l (l.length : Int) (i : Int) b := by
        intro b hb1 hb2 k
        simp only [num_Var_p.l0]
        rw [if_pos (by omega), if_pos (by omega), if_pos (by omega), hP.out, hL.out]
        rw [Option.bind_some]
        rw [hW.out, if_neg (by omega), hrd]
        by_cases h128 : n < 128
        · rw [if_pos (by omega)]
          by_cases h0 : n = 0
          · rw [if_pos (by omega)]
            by_cases hi0 : 0 < i
            · rw [hb1 ⟨h128, h0, hi0⟩]
              have : decide ((i : Int) > 0) = true := by simp; omega
              rw [this]
            · rw [hb2 (fun h => hi0 h.2.2)]
              have : decide ((i : Int) > 0) = false := by simp; omega
              rw [this]
          · rw [if_neg (by omega), hb2 (fun h => h0 h.2.1)]
        · rw [if_neg (by omega), hb2 (fun h => h128 h.1)]
      by_cases hz : n < 128 ∧ n = 0 ∧ 0 < i
      · rw [if_pos hz]
        refine Ev.step (head true (fun _ => rfl) (fun h => absurd hz h)) (Ev.step (fun k => ?_) (Ev.now _))
        simp only [num_Var_p.j1]
        rfl
      · rw [if_neg hz]
        by_cases h128 : n < 128
        · rw [if_pos h128]
          refine Ev.step (head false (fun h => absurd h hz) (fun _ => rfl)) (Ev.step (fun k => ?_) (Ev.now _))
          simp only [num_Var_p.j1]
          rw [if_neg (by simp), if_pos (by omega), if_pos (by omega), hJ.out, YtanfmnobanhcnaaH.Crc.wrap64_in _ (by omega) (by omega)]
          rfl
        · rw [if_neg h128]
          have e7 : 7 * (i + 1) = 7 * i + 7 := by omega
          have hx' : x + n % 128 * 2 ^ (7 * i) < 2 ^ (7 * (i + 1)) := by
            have ep : 2 ^ (7 * (i + 1)) = 128 * 2 ^ (7 * i) := by rw [e7, Nat.pow_add]; omega
            have : (n % 128 + 1) * 2 ^ (7 * i) ≤ 128 * 2 ^ (7 * i) := Nat.mul_le_mul_right _ (by omega)
            rw [Nat.add_mul] at this
            omega
          have h := ih (x + n % 128 * 2 ^ (7 * i)) (i + 1) hx' (by omega) ht' (by simp at hlen; omega)
          rw [e7] at h
          refine Ev.step (head false (fun h => absurd h hz) (fun _ => rfl)) (Ev.step (fun k => ?_) h)
          simp only [num_Var_p.j1]
          rw [if_neg (by simp), if_pos (by omega), if_neg (by omega), hJ.out, YtanfmnobanhcnaaH.Crc.wrap64_in _ (by omega) (by omega), YtanfmnobanhcnaaH.Crc.wrap64_in _ (by omega) (by omega)]
          rfl
set_option maxHeartbeats 2000000 in
theorem num_Var.ev (l0 : List Int) (r : Int × Int) (h : num_Var.f l0 = some r) (hl : l0.length ≤ 9223372036854775807) : Ev (fun k => num_Var_p.f k l0) r := by
  unfold num_Var.f at h
  split at h
  · rename_i hB
    obtain rfl := Option.some.inj h
    have := num_Var.loop l0 hl hB l0 0 0 (by decide) (by decide) rfl (by simp)
    rw [YtanfmnobanhcnaaH.Var.res_var Lib.bitLen YtanfmnobanhcnaaH.Var.bl_ok _ (YtanfmnobanhcnaaH.Crc.nats_lt hB)] at this
    exact this
  · cases h
theorem num_Var.calls (A0 : Option Addr) (c0 : Nat) (l0 : List Int) (r1 : Int) (r2 : Int) (w : World) (hr0 : Kd.C (Kd.int .u8) w A0 l0.length l0) (hc0 : l0.length ≤ c0) (h : num_Var.f l0 = some (r1, r2)) :
    Calls Try.prog 74 #[.slice A0 l0.length c0] w fun e w' => e = .returned (.tuple #[.int .u64 r1, .int .i64 r2]) ∧ Drawn0 w w' := by
  obtain ⟨k, hk⟩ := (num_Var.ev l0 _ h (by first | exact hr0.2.1 | exact (Kd.V_reads' hs0).2.2.2.1 | exact (Kd.R_reads' ho0).2.2.2.1)).rounds
  exact num_Var_p.calls k A0 c0 l0 r1 r2 w hr0 hc0 hk

/-! ### slices_Equal_byte_byte_p: function 75 -/
def slices_Equal_byte_byte_p.l0 : Nat → List Int → List Int → Int → Int → Option (Bool)
  | 0, _, _, _, _ => none
  | k + 1, x0, x1, x12, x13 => if x13 < x12 then (if 0 ≤ x13 then (if x13 < (x0.length : Int) then (if x13 < (x1.length : Int) then (if (rd x0 x13) = (rd x1 x13) then (slices_Equal_byte_byte_p.l0 k x0 x1 x12 (wrap64 (x13 + 1))) else (some false)) else (none)) else (none)) else (none)) else (some true)
def slices_Equal_byte_byte_p.f (k : Nat) (l0 : List Int) (l1 : List Int) : Option (Bool) := if (l0.length : Int) = (l1.length : Int) then (slices_Equal_byte_byte_p.l0 k l0 l1 (l0.length : Int) 0) else (some false)
theorem slices_Equal_byte_byte_p.mono_l : ∀ k, (∀ y0 y1 y2 y3, LeO (slices_Equal_byte_byte_p.l0 k y0 y1 y2 y3) (slices_Equal_byte_byte_p.l0 (k + 1) y0 y1 y2 y3))
  | 0 => fun _ _ _ _ r h => by simp [slices_Equal_byte_byte_p.l0] at h
  | k + 1 => by
    have ih0 := slices_Equal_byte_byte_p.mono_l k
    · intro y0 y1 y2 y3
      unfold slices_Equal_byte_byte_p.l0
      repeat' first
      | (with_reducible exact ih0 _ _ _ _)
      | (with_reducible exact LeO.refl _)
      | (with_reducible exact LeO.none _)
      | (with_reducible refine LeO.ite ?_ ?_)
      | (with_reducible refine LeO.bind ?_ (fun _ => ?_))
      | exact ih0 _ _ _ _
      | exact LeO.none _
      | refine LeO.ite ?_ ?_
      | refine LeO.bind ?_ (fun _ => ?_)
theorem slices_Equal_byte_byte_p.mono : ∀ a0 a1 k, LeO (slices_Equal_byte_byte_p.f k a0 a1) (slices_Equal_byte_byte_p.f (k + 1) a0 a1) := by
  intro a0 a1 k
  have ih0 := slices_Equal_byte_byte_p.mono_l k
  unfold slices_Equal_byte_byte_p.f
  repeat' first
      | (with_reducible exact ih0 _ _ _ _)
      | (with_reducible exact LeO.refl _)
      | (with_reducible exact LeO.none _)
      | (with_reducible refine LeO.ite ?_ ?_)
      | (with_reducible refine LeO.bind ?_ (fun _ => ?_))
      | exact ih0 _ _ _ _
      | exact LeO.none _
      | refine LeO.ite ?_ ?_
      | refine LeO.bind ?_ (fun _ => ?_)
set_option maxHeartbeats 8000000 in
set_option maxRecDepth 100000 in
theorem slices_Equal_byte_byte_p.calls (k : Nat) (A0 : Option Addr) (c0 : Nat) (l0 : List Int) (A1 : Option Addr) (c1 : Nat) (l1 : List Int) (r : Bool) (w : World) (hr0 : Kd.C (Kd.int .u8) w A0 l0.length l0) (hc0 : l0.length ≤ c0) (hr1 : Kd.C (Kd.int .u8) w A1 l1.length l1) (hc1 : l1.length ≤ c1) (h : slices_Equal_byte_byte_p.f k l0 l1 = some r) :
    Calls Try.prog 75 #[.slice A0 l0.length c0, .slice A1 l1.length c1] w fun e w' => e = .returned (.bool r) ∧ Drawn0 w w' := by
  have HR0 := Aside0.mk hr0
  have HC0 := Aside0.mk hc0
  clear hr0 hc0
  have HR1 := Aside0.mk hr1
  have HC1 := Aside0.mk hc1
  clear hr1 hc1
  have H : (if (l0.length : Int) = (l1.length : Int) then (slices_Equal_byte_byte_p.l0 k l0 l1 (l0.length : Int) 0) else (some false)) = some r := h
  clear h
  by_cases c3 : (l0.length : Int) = (l1.length : Int)
  · rw [if_pos c3] at H
    have c3b0 : ((l0.length : Int) == (l1.length : Int)) = true := beq_iff_eq.mpr c3
    have c3b1 : ((l0.length : Int) != (l1.length : Int)) = false := bne_eq_false_iff_eq.mpr c3
    have c3b2 : (l0.length == l1.length) = true := by first | simpa using c3 | (simp at c3 ⊢; omega)
    clear c3
    have H' := Aside0.mk H
    clear H
    go_enter Try.func75, Try.ntmps75
    go_wp2
    repeat (go_quiet (fail); try go_wp2)
    go_loopg [13] k (fun kq v13 w' => ∃ (x13_1 : Int), v13 = .int .i64 x13_1 ∧ Aside0 (slices_Equal_byte_byte_p.l0 kq l0 l1 (l0.length : Int) x13_1 = some r) ∧ Aside0 (kq ≤ k) ∧ Drawn0 w w')
    case atStart => exact ⟨(0), (by first | rfl | (simp; done) | (simp [*]; done)), H', ⟨Nat.le_refl _⟩, by repeat (first | exact Drawn0.refl _ | apply Drawn0.step)⟩
    case round =>
      clear H'
      try clear c1
      try clear p2
      try clear c3
      try clear c3b0
      try clear c3b1
      try clear c3b2
      obtain ⟨x13_1, rfl, HA, HK1, ⟨m1, rfl⟩⟩ := hrel
      cases gk with
      | zero => exact absurd HA.out (by simp [slices_Equal_byte_byte_p.l0])
      | succ k1 =>
        have H := HA.out
        clear HA
        simp only [slices_Equal_byte_byte_p.l0] at H
        by_cases c4 : x13_1 < (l0.length : Int)
        · rw [if_pos c4] at H
          have c4b0 : decide (x13_1 < (l0.length : Int)) = true := decide_eq_true c4
          clear c4
          by_cases c5 : 0 ≤ x13_1
          · rw [if_pos c5] at H
            have c5b0 : decide (0 ≤ x13_1) = true := decide_eq_true c5
            clear c5
            by_cases c6 : x13_1 < (l0.length : Int)
            · rw [if_pos c6] at H
              have c6b0 : decide (x13_1 < (l0.length : Int)) = true := decide_eq_true c6
              clear c6
              by_cases c7 : x13_1 < (l1.length : Int)
              · rw [if_pos c7] at H
                have c7b0 : decide (x13_1 < (l1.length : Int)) = true := decide_eq_true c7
                clear c7
                by_cases c8 : (rd l0 x13_1) = (rd l1 x13_1)
                · rw [if_pos c8] at H
                  have c8b0 : ((rd l0 x13_1) == (rd l1 x13_1)) = true := beq_iff_eq.mpr c8
                  have c8b1 : ((rd l0 x13_1) != (rd l1 x13_1)) = false := bne_eq_false_iff_eq.mpr c8
                  clear c8
                  have H' := Aside0.mk H
                  clear H
                  have p171 : 0 ≤ (x13_1 : Int) := of_decide_eq_true (by first | (with_reducible assumption) | assumption)
                  have q171 : x13_1 < (l0.length : Int) := of_decide_eq_true (by first | (with_reducible assumption) | assumption)
                  obtain ⟨ad171, e171, hx171_0⟩ := Kd.at_int HR0.out x13_1 p171 q171
                  cases e171
                  replace p171 := eq_true p171
                  replace q171 := eq_true q171
                  have p172 : 0 ≤ (x13_1 : Int) := of_decide_eq_true (by first | (with_reducible assumption) | assumption)
                  have q172 : x13_1 < (l1.length : Int) := of_decide_eq_true (by first | (with_reducible assumption) | assumption)
                  obtain ⟨ad172, e172, hx172_0⟩ := Kd.at_int HR1.out x13_1 p172 q172
                  cases e172
                  replace p172 := eq_true p172
                  replace q172 := eq_true q172
                  go_wp2
                  repeat (go_quiet (fail); try go_wp2)
                  go_roundg k1
                  case measure => have := HK1.out; omega
                  case rel => exact ⟨(wrap64 (x13_1 + 1)), (by first | rfl | (simp; done) | (simp [*]; done)), H', ⟨by have := HK1.out; omega⟩, by repeat (first | exact Drawn0.refl _ | apply Drawn0.step)⟩
                · rw [if_neg c8] at H
                  have c8b0 : ((rd l0 x13_1) == (rd l1 x13_1)) = false := beq_eq_false_iff_ne.mpr c8
                  have c8b1 : ((rd l0 x13_1) != (rd l1 x13_1)) = true := bne_iff_ne.mpr c8
                  obtain rfl := Option.some.inj H
                  have p171 : 0 ≤ (x13_1 : Int) := of_decide_eq_true (by first | (with_reducible assumption) | assumption)
                  have q171 : x13_1 < (l0.length : Int) := of_decide_eq_true (by first | (with_reducible assumption) | assumption)
                  obtain ⟨ad171, e171, hx171_0⟩ := Kd.at_int HR0.out x13_1 p171 q171
                  cases e171
                  replace p171 := eq_true p171
                  replace q171 := eq_true q171
                  have p172 : 0 ≤ (x13_1 : Int) := of_decide_eq_true (by first | (with_reducible assumption) | assumption)
                  have q172 : x13_1 < (l1.length : Int) := of_decide_eq_true (by first | (with_reducible assumption) | assumption)
                  obtain ⟨ad172, e172, hx172_0⟩ := Kd.at_int HR1.out x13_1 p172 q172
                  cases e172
                  replace p172 := eq_true p172
                  replace q172 := eq_true q172
                  go_wp2
                  repeat (go_quiet (fail); try go_wp2)
                  go_ret
                  exact ⟨by first | rfl | (simp; done) | (simp [*]; done), by repeat (first | exact Drawn0.refl _ | apply Drawn0.step)⟩
              · rw [if_neg c7] at H
                exact absurd H (by simp)
            · rw [if_neg c6] at H
              exact absurd H (by simp)
          · rw [if_neg c5] at H
            exact absurd H (by simp)
        · rw [if_neg c4] at H
          have c4b0 : decide (x13_1 < (l0.length : Int)) = false := decide_eq_false c4
          clear c4
          obtain rfl := Option.some.inj H
          go_wp2
          repeat (go_quiet (fail); try go_wp2)
          go_ret
          exact ⟨by first | rfl | (simp; done) | (simp [*]; done), by repeat (first | exact Drawn0.refl _ | apply Drawn0.step)⟩
  · rw [if_neg c3] at H
    have c3b0 : ((l0.length : Int) == (l1.length : Int)) = false := beq_eq_false_iff_ne.mpr c3
    have c3b1 : ((l0.length : Int) != (l1.length : Int)) = true := bne_iff_ne.mpr c3
    have c3b2 : (l0.length == l1.length) = false := by first | simpa using c3 | (simp at c3 ⊢; omega)
    obtain rfl := Option.some.inj H
    go_enter Try.func75, Try.ntmps75
    go_wp2
    repeat (go_quiet (fail); try go_wp2)
    go_ret
    exact ⟨by first | rfl | (simp; done) | (simp [*]; done), by repeat (first | exact Drawn0.refl _ | apply Drawn0.step)⟩

/-! ### slices_Equal_byte_byte: plain, of function 75 -/
def slices_Equal_byte_byte.f (l0 l1 : List Int) : Option Bool := some (decide (l0 = l1))
set_option maxHeartbeats 2000000 in
theorem slices_Equal_byte_byte.loop (l m : List Int) (hl : l.length ≤ 9223372036854775807) (hlm : l.length = m.length) (t : List Int) : ∀ (i : Nat) (u : List Int), i + t.length = l.length → l.drop i = t → m.drop i = u →
    Ev (fun k => slices_Equal_byte_byte_p.l0 k l m (l.length : Int) (i : Int)) (decide (t = u)) := by
  induction t with
  | nil =>
    intro i u hi ht hu
    have : u = [] := by
      rw [← hu]
      exact List.drop_eq_nil_of_le (by simp at hi; omega)
    subst this
    refine Ev.step (fun k => ?_) (Ev.now _)
    simp only [slices_Equal_byte_byte_p.l0]
    rw [if_neg (by simp at hi; omega)]
    rfl
  | cons c t ih =>
    intro i u hi ht hu
    obtain ⟨r1, hil, ht', _⟩ := YtanfmnobanhcnaaH.Var.rd_at ht
    rcases u with _ | ⟨d, u⟩
    · have := List.drop_eq_nil_iff.1 hu
      omega
    obtain ⟨r2, _, hu', _⟩ := YtanfmnobanhcnaaH.Var.rd_at hu
    by_cases hcd : c = d
    · subst hcd
      have e : decide (c :: t = c :: u) = decide (t = u) := by simp
      rw [e]
      refine Ev.step (fun k => ?_) (ih (i + 1) u (by simp at hi; omega) ht' hu')
      simp only [slices_Equal_byte_byte_p.l0]
      rw [if_pos (by omega), if_pos (by omega), if_pos (by omega), if_pos (by omega), r1, r2, if_pos rfl, YtanfmnobanhcnaaH.Crc.wrap64_in _ (by omega) (by omega)]
      rfl
    · have e : decide (c :: t = d :: u) = false := by simp [hcd]
      rw [e]
      refine Ev.step (fun k => ?_) (Ev.now _)
      simp only [slices_Equal_byte_byte_p.l0]
      rw [if_pos (by omega), if_pos (by omega), if_pos (by omega), if_pos (by omega), r1, r2, if_neg hcd]
set_option maxHeartbeats 2000000 in
theorem slices_Equal_byte_byte.ev (l0 l1 : List Int) (r : Bool) (h : slices_Equal_byte_byte.f l0 l1 = some r) (hl : l0.length ≤ 9223372036854775807) (hm : l1.length ≤ 9223372036854775807) : Ev (fun k => slices_Equal_byte_byte_p.f k l0 l1) r := by
  obtain rfl := Option.some.inj h
  by_cases hlm : l0.length = l1.length
  · refine Ev.congr (fun k => ?_) (slices_Equal_byte_byte.loop l0 l1 hl hlm l0 0 l1 (by simp) rfl rfl)
    unfold slices_Equal_byte_byte_p.f
    rw [if_pos (by omega)]
    rfl
  · have e : decide (l0 = l1) = false := decide_eq_false (fun h => hlm (by rw [h]))
    rw [e]
    refine Ev.congr (fun k => ?_) (Ev.now _)
    unfold slices_Equal_byte_byte_p.f
    rw [if_neg (by omega)]
theorem slices_Equal_byte_byte.calls (A0 : Option Addr) (c0 : Nat) (l0 : List Int) (A1 : Option Addr) (c1 : Nat) (l1 : List Int) (r : Bool) (w : World) (hr0 : Kd.C (Kd.int .u8) w A0 l0.length l0) (hc0 : l0.length ≤ c0) (hr1 : Kd.C (Kd.int .u8) w A1 l1.length l1) (hc1 : l1.length ≤ c1) (h : slices_Equal_byte_byte.f l0 l1 = some r) :
    Calls Try.prog 75 #[.slice A0 l0.length c0, .slice A1 l1.length c1] w fun e w' => e = .returned (.bool r) ∧ Drawn0 w w' := by
  obtain ⟨k, hk⟩ := (slices_Equal_byte_byte.ev l0 l1 _ h (by first | exact hr0.2.1 | exact (Kd.V_reads' hs0).2.2.2.1 | exact (Kd.R_reads' ho0).2.2.2.1) (by first | exact hr1.2.1 | exact (Kd.V_reads' hs1).2.2.2.1 | exact (Kd.R_reads' ho1).2.2.2.1)).rounds
  exact slices_Equal_byte_byte_p.calls k A0 c0 l0 A1 c1 l1 r w hr0 hc0 hr1 hc1 hk

/-! ### slices_Clone_byte_byte: function 76 -/
def slices_Clone_byte_byte.f (l0 : List Int) : Option (List Int) := if l0.length * 1 ≤ 140737488355328 then some l0 else none
set_option maxHeartbeats 1000000 in
set_option maxRecDepth 100000 in
theorem slices_Clone_byte_byte.calls (A0 : Option Addr) (c0 : Nat) (l0 : List Int) (r : List Int) (w : World) (hr0 : Kd.C (Kd.int .u8) w A0 l0.length l0) (hc0 : l0.length ≤ c0) (h : slices_Clone_byte_byte.f l0 = some r) :
    Calls Try.prog 76 #[.slice A0 l0.length c0] w fun e w' => ∃ v0_ : Value, e = .returned v0_ ∧ Kd.R (Kd.int .u8) 5 w' w.heap.size (fun _ => True) v0_ r ∧ Below w.heap.size w w' := by
  have hlim : l0.length * 1 ≤ 140737488355328 ∧ l0 = r := by
    unfold slices_Clone_byte_byte.f at h
    split at h
    · exact ⟨by assumption, Option.some.inj h⟩
    · cases h
  obtain ⟨hlim, rfl⟩ := hlim
  have HL := Aside0.mk hlim
  have HR0 := Aside0.mk hr0
  clear h hr0 hlim
  rcases A0 with _ | ad
  · have hl : l0 = [] := by
      rcases l0 with _ | ⟨x, l⟩
      · rfl
      · obtain ⟨ad, h, _⟩ := HR0.out.2.2 (by simp)
        cases h
    subst hl
    have kn := fun (W : World) => Go.run_eql_slice_nil (P := Try.prog) W 26 5 none 0 c0 Try.underlying26
    simp only [Option.isNone_none] at kn
    go_enter Try.func76, Try.ntmps76
    go_wp2
    go_ret
    exact ⟨_, rfl, Kd.R_nil _ _ _ _ _, Below.refl _ _⟩
  · have kn := fun (W : World) => Go.run_eql_slice_nil (P := Try.prog) W 26 5 (some ad) l0.length c0 Try.underlying26
    simp only [Option.isNone_some] at kn
    go_enter Try.func76, Try.ntmps76
    go_wp2_with (first | ((with_reducible refine gate_dst (N := 5) rfl ?_); go_must (refine Kd.R_lit (Kd.int .u8) (w0 := w) w.heap.size 5 ?hg (N := 5) ?hd (xs := ([] : List Int)) (inner := []) (ok := fun _ => True) (okp := fun _ => True) ?hr ?hp (fun _ hk => hk) trivial (Below.refl _ _) (Nat.le_refl _) (by simp) ?_); (case hd => rfl); (case hg => rfl); (case hr => first | (go_simp; done) | (go_simp; rfl)); (case hp => exact (Reps.none _ _)); intro v1 w1 ho hb hg_ hnew_; clear hg_ hnew_; have HV := Aside0.mk ho; have HB := Aside0.mk hb; clear ho hb) | (at_builtin; go_must (refine Kd.R_append_rows (Kd.int .u8) (w0 := w) w.heap.size rfl _ _ 26 5 (.int .u8 0) 1 rfl Try.underlying26 info5 rfl (by decide) (by omega) v1 [] l0 (some ad) _ c0 (fun _ => True) (fun _ => False) rfl rfl HV.out (Kd.C_below HR0.out HB.out) (fun _ _ h => h) (fun _ h => h.elim) (fun _ _ => trivial) HB.out (below_size HB.out) (by have h1 := HL.out; simpa using h1) ?_); intro v2 w2 ho hb hg hat))
    go_ret
    exact ⟨_, rfl, ho, hb⟩

end Go.Proofs.Ytanfmnobanhcnaa.PRec3
