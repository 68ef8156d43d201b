-- Written by hp.py (own driver over print.py) out of the translation, hand-made functions among it. Lean checks it.
import Derived.Test.YtfnlohopfoekfaaPCrcAllx0
namespace Go.Proofs.Ytfnlohopfoekfaa.PCrcAll
open Go.RowKit Go.Proofs.YtfnlohopfoekfaaW.PrintWords Go.Proofs.YtfnlohopfoekfaaW.PrintLast Go.Proofs.YtfnlohopfoekfaaW.PrintMore
attribute [local go_sem] max2_int min2_int max_two min_two max_three min_three max_four min_four   -- for this text's walks alone
set_option linter.unusedVariables false
set_option linter.unusedSimpArgs false

/-! ### thresherref01_PutVar_p: function 26 -/
def thresherref01_PutVar_p.l0 : Nat → Int → List Int → Option (List Int)
  | 0, _, _ => none
  | k + 1, x0, x3 => if x0 ≥ 128 then (if x3.length < 140737488355328 then (thresherref01_PutVar_p.l0 k (IntKind.u64.wrap (Int.tdiv x0 128)) (x3 ++ [((Int.tmod x0 128) + 128) % 256])) else (none)) else (if x3.length < 140737488355328 then (some (x3 ++ [(x0) % 256])) else (none))
def thresherref01_PutVar_p.f (k : Nat) (a0 : Int) : Option (List Int) := thresherref01_PutVar_p.l0 k a0 (([] : List Int))
theorem thresherref01_PutVar_p.mono_l : ∀ k, (∀ y0 y1, LeO (thresherref01_PutVar_p.l0 k y0 y1) (thresherref01_PutVar_p.l0 (k + 1) y0 y1))
  | 0 => fun _ _ r h => by simp [thresherref01_PutVar_p.l0] at h
  | k + 1 => by
    have ih0 := thresherref01_PutVar_p.mono_l k
    · intro y0 y1
      unfold thresherref01_PutVar_p.l0
      repeat' first
      | (with_reducible exact ih0 _ _)
      | (with_reducible exact LeO.refl _)
      | (with_reducible exact LeO.none _)
      | (with_reducible refine LeO.ite ?_ ?_)
      | (with_reducible refine LeO.bind ?_ (fun _ => ?_))
      | exact ih0 _ _
      | exact LeO.none _
      | refine LeO.ite ?_ ?_
      | refine LeO.bind ?_ (fun _ => ?_)
theorem thresherref01_PutVar_p.mono : ∀ a0 k, LeO (thresherref01_PutVar_p.f k a0) (thresherref01_PutVar_p.f (k + 1) a0) := by
  intro a0 k
  have ih0 := thresherref01_PutVar_p.mono_l k
  unfold thresherref01_PutVar_p.f
  repeat' first
      | (with_reducible exact ih0 _ _)
      | (with_reducible exact LeO.refl _)
      | (with_reducible exact LeO.none _)
      | (with_reducible refine LeO.ite ?_ ?_)
      | (with_reducible refine LeO.bind ?_ (fun _ => ?_))
      | exact ih0 _ _
      | exact LeO.none _
      | refine LeO.ite ?_ ?_
      | refine LeO.bind ?_ (fun _ => ?_)
set_option maxHeartbeats 8000000 in
set_option maxRecDepth 100000 in
theorem thresherref01_PutVar_p.calls (k : Nat) (a0 : Int) (r : List Int) (w : World) (h : thresherref01_PutVar_p.f k a0 = some r) :
    Calls Try.prog 26 #[.int .u64 a0] w fun e w' => ∃ v0_ : Value, e = .returned (v0_) ∧ Kd.R (Kd.int .u8) 5 w' w.heap.size (fun _ => True) v0_ r ∧ Below w.heap.size w w' := by
  have HB := Aside0.mk (Below.refl w.heap.size w)
  have H : (thresherref01_PutVar_p.l0 k a0 (([] : List Int))) = some r := h
  clear h
  obtain ⟨y134, hy134⟩ : ∃ y_ : List Int, y_ = (([] : List Int)) := ⟨_, rfl⟩
  replace H : (thresherref01_PutVar_p.l0 k a0 y134) = some r := by first | (rw [hy134]; with_reducible exact H) | (have H2_ := (Option.bind_some _ _).symm.trans H; rw [hy134]; with_reducible exact H2_) | (have H2_ := (Option.bind_some _ _).symm.trans H; with_reducible exact H2_) | with_reducible exact H | (rw [hy134]; exact H) | exact H
  have Ny134 := Aside0.mk hy134
  clear hy134
  have H' := Aside0.mk H
  clear H
  go_enter Try.func26, Try.ntmps26
  go_wp2_with (first | ((with_reducible refine gate_dst (N := 4) rfl ?_); refine Kd.R_lit (Kd.int .u8) _ 5 ?hg (N := 4) ?hd (xs := ([] : List Int)) (inner := []) (ok := fun _ => True) (okp := fun _ => True) ?hr ?hp (fun _ hk => hk) trivial (Below.refl _ _) (Nat.le_refl _) (by simp) ?_; (case hd => rfl); (case hg => rfl); (case hr => first | (go_simp; done) | (go_simp; rfl)); (case hp => exact (Reps.none _ _)); intro v135 w2 ho3 hb hg_ hnew_; clear hg_ hnew_; (first | rw [← Ny134.out] at ho3 | (simp only [Int.reduceToNat] at ho3; rw [← Ny134.out] at ho3)); have n0_ := Aside0.mk (Kd.R_lower ho3 (below_size (by repeat (first | (with_reducible first | exact HB.out | apply below_alloc | apply pw_below_drewN | apply below_drew1) | exact HB.out)))); have n1_ := Aside0.mk (below_step (by repeat (first | (with_reducible first | exact HB.out | apply below_alloc | apply pw_below_drewN | apply below_drew1) | exact HB.out)) hb); clear HB; have HO136 := n0_; have HB := n1_; clear n0_ n1_; clear hb ho3))
  go_loopg [0, 3] k (fun kq v0 v3 w' => ∃ (x0_1 : Int) (x3_1 : List Int), v0 = .int .u64 x0_1 ∧ Aside0 (thresherref01_PutVar_p.l0 kq x0_1 x3_1 = some r) ∧ Aside0 (kq ≤ k) ∧ Aside0 (Kd.R (Kd.int .u8) 5 w' w.heap.size (fun _ => True) v3 x3_1) ∧ Aside0 (Below w.heap.size w w'))
  case atStart => exact ⟨(a0), (y134), (by first | rfl | (simp; done) | (simp [*]; done)), H', ⟨Nat.le_refl _⟩, ⟨by (with_reducible repeat (first | apply Kd.R_alloc | apply Kd.R_drewN | apply Kd.R_drew)); exact HO136.out⟩, ⟨by repeat (first | (with_reducible first | exact HB.out | apply below_alloc | apply pw_below_drewN | apply below_drew1) | exact HB.out)⟩⟩
  case round =>
    clear H'
    try clear c2
    try clear p2
    obtain ⟨x0_1, x3_1, rfl, HA, HK1, HO_3, HB⟩ := hrel
    cases gk with
    | zero => exact absurd HA.out (by simp [thresherref01_PutVar_p.l0])
    | succ k1 =>
      have H := HA.out
      clear HA
      simp only [thresherref01_PutVar_p.l0] at H
      by_cases c4 : x0_1 ≥ 128
      · rw [if_pos c4] at H
        have c4b0 : decide (128 ≤ x0_1) = true := decide_eq_true c4
        clear c4
        by_cases c5 : x3_1.length < 140737488355328
        · rw [if_pos c5] at H
          have LMc5 := Aside0.mk c5
          clear c5
          obtain ⟨y137, hy137⟩ : ∃ y_ : List Int, y_ = (x3_1 ++ [((Int.tmod x0_1 128) + 128) % 256]) := ⟨_, rfl⟩
          replace H : (thresherref01_PutVar_p.l0 k1 (IntKind.u64.wrap (Int.tdiv x0_1 128)) y137) = some r := by first | (rw [hy137]; with_reducible exact H) | (have H2_ := (Option.bind_some _ _).symm.trans H; rw [hy137]; with_reducible exact H2_) | (have H2_ := (Option.bind_some _ _).symm.trans H; with_reducible exact H2_) | with_reducible exact H | (rw [hy137]; exact H) | exact H
          have Ny137 := Aside0.mk hy137
          clear hy137
          have H' := Aside0.mk H
          clear H
          go_wp2_with (first | ((with_reducible refine gate_builtin (b := .append) (xs := #[.tmp 7, .tmp 12]) rfl ?_); at_builtin; refine Kd.R_append (Kd.int .u8) (w0 := w) w.heap.size rfl (.tmp 7) (.tmp 12) 22 5 (.int .u8 0) 1 rfl Try.underlying22 info5 rfl (by decide) (by omega) u3 x3_1 (((Int.tmod x0_1 128) + 128) % 256) [.int .u8 (((Int.tmod x0_1 128) + 128) % 256)] (fun _ => True) (fun _ => False) rfl rfl ?aP (fun _ hk => hk.elim) ?aF ?aO ?aB ?aS ?aL ?_; (case aP => exact rfl); (case aB => exact (by repeat (first | (with_reducible first | exact HB.out | apply below_alloc | apply pw_below_drewN | apply below_drew1) | exact HB.out))); (case aF => exact (fun _ _ => trivial)); (case aO => exact (by (with_reducible repeat (first | apply Kd.R_alloc | apply Kd.R_drewN | apply Kd.R_drew)); exact HO_3.out)); (case aS => exact (below_size (by repeat (first | (with_reducible first | exact HB.out | apply below_alloc | apply pw_below_drewN | apply below_drew1) | exact HB.out)))); (case aL => have := LMc5.out; omega); intro v138 w6 ho hb hg hat; rw [← Ny137.out] at ho; have n0_ := Aside0.mk (hb); have n1_ := Aside0.mk (ho); clear HB; clear HO_3; have HB := n0_; have HO139 := n1_; clear n0_ n1_; clear ho hb hg hat))
          go_roundg k1
          case measure => have := HK1.out; omega
          case rel => exact ⟨(IntKind.u64.wrap (Int.tdiv x0_1 128)), (y137), (by first | rfl | (simp; done) | (simp [*]; done)), H', ⟨by have := HK1.out; omega⟩, ⟨by (with_reducible repeat (first | apply Kd.R_alloc | apply Kd.R_drewN | apply Kd.R_drew)); exact HO139.out⟩, ⟨by repeat (first | (with_reducible first | exact HB.out | apply below_alloc | apply pw_below_drewN | apply below_drew1) | exact HB.out)⟩⟩
        · rw [if_neg c5] at H
          exact absurd H (by simp)
      · rw [if_neg c4] at H
        have c4b0 : decide (128 ≤ x0_1) = false := decide_eq_false c4
        clear c4
        by_cases c7 : x3_1.length < 140737488355328
        · rw [if_pos c7] at H
          have LMc7 := Aside0.mk c7
          clear c7
          obtain ⟨y140, hy140⟩ : ∃ y_ : List Int, y_ = (x3_1 ++ [(x0_1) % 256]) := ⟨_, rfl⟩
          replace H : (some y140) = some r := by first | (rw [hy140]; with_reducible exact H) | (have H2_ := (Option.bind_some _ _).symm.trans H; rw [hy140]; with_reducible exact H2_) | (have H2_ := (Option.bind_some _ _).symm.trans H; with_reducible exact H2_) | with_reducible exact H | (rw [hy140]; exact H) | exact H
          have Ny140 := Aside0.mk hy140
          clear hy140
          obtain rfl := Option.some.inj H
          go_wp2_with (first | ((with_reducible refine gate_builtin (b := .append) (xs := #[.tmp 16, .tmp 19]) rfl ?_); at_builtin; refine Kd.R_append (Kd.int .u8) (w0 := w) w.heap.size rfl (.tmp 16) (.tmp 19) 22 5 (.int .u8 0) 1 rfl Try.underlying22 info5 rfl (by decide) (by omega) u3 x3_1 ((x0_1) % 256) [.int .u8 ((x0_1) % 256)] (fun _ => True) (fun _ => False) rfl rfl ?aP (fun _ hk => hk.elim) ?aF ?aO ?aB ?aS ?aL ?_; (case aP => exact rfl); (case aB => exact (by repeat (first | (with_reducible first | exact HB.out | apply below_alloc | apply pw_below_drewN | apply below_drew1) | exact HB.out))); (case aF => exact (fun _ _ => trivial)); (case aO => exact (by (with_reducible repeat (first | apply Kd.R_alloc | apply Kd.R_drewN | apply Kd.R_drew)); exact HO_3.out)); (case aS => exact (below_size (by repeat (first | (with_reducible first | exact HB.out | apply below_alloc | apply pw_below_drewN | apply below_drew1) | exact HB.out)))); (case aL => have := LMc7.out; omega); intro v141 w8 ho hb hg hat; rw [← Ny140.out] at ho; have n0_ := Aside0.mk (hb); have n1_ := Aside0.mk (ho); clear HB; clear HO_3; have HB := n0_; have HO142 := n1_; clear n0_ n1_; clear ho hb hg hat))
          go_ret
          exact ⟨_, by first | rfl | (simp [errW_none, errW_some] <;> rfl) | (simp [*, errW_none, errW_some] <;> rfl), by (with_reducible repeat (first | apply Kd.R_alloc | apply Kd.R_drewN | apply Kd.R_drew)); exact HO142.out, by repeat (first | (with_reducible first | exact HB.out | apply below_alloc | apply pw_below_drewN | apply below_drew1) | exact HB.out)⟩
        · rw [if_neg c7] at H
          exact absurd H (by simp)

/-! ### thresherref01_PutVar: plain, of function 26 -/
def thresherref01_PutVar.f (a0 : Int) : Option (List Int) := if 0 ≤ a0 ∧ a0 < 18446744073709551616 then some (YtfnlohopfoekfaaH.Var.putI a0) else none
set_option maxHeartbeats 2000000 in
theorem thresherref01_PutVar.loop (x : Nat) : ∀ (acc : List Int), x < 18446744073709551616 → acc.length + (YtfnlohopfoekfaaH.Var.putN x).length < 140737488355328 → Ev (fun k => thresherref01_PutVar_p.l0 k (x : Int) acc) (acc ++ YtfnlohopfoekfaaH.Var.ints (YtfnlohopfoekfaaH.Var.putN x)) := by
  induction x using Nat.strongRecOn with
  | _ x ih =>
    intro acc hx64 hacc
    have hp := YtfnlohopfoekfaaH.Var.putN_pos x
    by_cases hx : x < 128
    · rw [YtfnlohopfoekfaaH.Var.putN_small hx]
      refine Ev.step (fun k => ?_) (Ev.now _)
      simp only [thresherref01_PutVar_p.l0]
      rw [if_neg (by omega), if_pos (by omega)]
      have e : ((x : Int) % 256) = ((x : Nat) : Int) := by omega
      rw [e]
      rfl
    · rw [YtfnlohopfoekfaaH.Var.putN_big hx] at hacc ⊢
      have h := ih (x / 128) (by omega) (acc ++ [((x % 128 + 128 : Nat) : Int)]) (by omega) (by simp at hacc ⊢; omega)
      have e : YtfnlohopfoekfaaH.Var.ints ((x % 128 + 128) :: YtfnlohopfoekfaaH.Var.putN (x / 128)) = [((x % 128 + 128 : Nat) : Int)] ++ YtfnlohopfoekfaaH.Var.ints (YtfnlohopfoekfaaH.Var.putN (x / 128)) := rfl
      rw [e, ← List.append_assoc]
      refine Ev.step (fun k => ?_) h
      simp only [thresherref01_PutVar_p.l0]
      rw [if_pos (by omega), if_pos (by omega)]
      have d : (128 : Int) = ((128 : Nat) : Int) := rfl
      rw [d, YtfnlohopfoekfaaH.Crc.tmod_nat, YtfnlohopfoekfaaH.Crc.tdiv_nat]
      have e1 : IntKind.u64.wrap ((x / 128 : Nat) : Int) = ((x / 128 : Nat) : Int) := by rw [IntKind.wrap_u64]; omega
      have e2 : (((x % 128 : Nat) : Int) + ((128 : Nat) : Int)) % 256 = ((x % 128 + 128 : Nat) : Int) := by omega
      rw [e1, e2]
set_option maxHeartbeats 2000000 in
theorem thresherref01_PutVar.ev (a0 : Int) (r : List Int) (h : thresherref01_PutVar.f a0 = some r) : Ev (fun k => thresherref01_PutVar_p.f k a0) r := by
  unfold thresherref01_PutVar.f at h
  split at h
  · rename_i hx
    obtain ⟨n, rfl⟩ := Int.eq_ofNat_of_zero_le hx.1
    obtain rfl := Option.some.inj h
    have := YtfnlohopfoekfaaH.Var.putN_len10 n (by omega)
    exact thresherref01_PutVar.loop n [] (by omega) (by simp; omega)
  · cases h
theorem thresherref01_PutVar.calls (a0 : Int) (r : List Int) (w : World) (h : thresherref01_PutVar.f a0 = some r) :
    Calls Try.prog 26 #[.int .u64 a0] w fun e w' => ∃ v0_ : Value, e = .returned (v0_) ∧ Kd.R (Kd.int .u8) 5 w' w.heap.size (fun _ => True) v0_ r ∧ Below w.heap.size w w' := by
  obtain ⟨k, hk⟩ := (thresherref01_PutVar.ev a0 _ h ).rounds
  exact thresherref01_PutVar_p.calls k a0 r w hk

/-! ### thresherref01_Var_p: function 22 -/
mutual
def thresherref01_Var_p.l0 : Nat → List Int → Int → Int → Int → Option (Int × Int)
  | 0, _, _, _, _ => none
  | k + 1, x0, x4, x5, x6 => if x6 < (x0.length : Int) then (thresherref01_Var_p.j1 k x0 x4 x5 x6 (decide (x6 < 10))) else (thresherref01_Var_p.j1 k x0 x4 x5 x6 false)
def thresherref01_Var_p.j1 : Nat → List Int → Int → Int → Int → Bool → Option (Int × Int)
  | 0, _, _, _, _, _ => none
  | k + 1, x0, x4, x5, x6, x14 => if x14 = true then (if 0 ≤ x6 then (if x6 < (x0.length : Int) then (if (rd x0 x6) < 128 then ((thresherref01_PutVar.f (IntKind.u64.wrap (x4 + (IntKind.u64.wrap ((IntKind.u64.wrap (Int.tmod (rd x0 x6) 128)) * x5))))).bind fun t145 => (if 0 ≤ (wrap64 (x6 + 1)) then (if (wrap64 (x6 + 1)) ≤ (x0.length : Int) then (if (strOfNums t145).toList = (strOfNums (x0.take ((wrap64 (x6 + 1)) : Int).toNat)).toList then (some (IntKind.u64.wrap (x4 + (IntKind.u64.wrap ((IntKind.u64.wrap (Int.tmod (rd x0 x6) 128)) * x5))), wrap64 (x6 + 1))) else (some (0, 0))) else (none)) else (none))) else (thresherref01_Var_p.l0 k x0 (IntKind.u64.wrap (x4 + (IntKind.u64.wrap ((IntKind.u64.wrap (Int.tmod (rd x0 x6) 128)) * x5)))) (IntKind.u64.wrap (x5 * 128)) (wrap64 (x6 + 1)))) else (none)) else (none)) else (some (0, 0))
end
def thresherref01_Var_p.f (k : Nat) (l0 : List Int) : Option (Int × Int) := thresherref01_Var_p.l0 k l0 0 1 0
theorem thresherref01_Var_p.mono_l : ∀ k, (∀ y0 y1 y2 y3, LeO (thresherref01_Var_p.l0 k y0 y1 y2 y3) (thresherref01_Var_p.l0 (k + 1) y0 y1 y2 y3)) ∧ (∀ y0 y1 y2 y3 y4, LeO (thresherref01_Var_p.j1 k y0 y1 y2 y3 y4) (thresherref01_Var_p.j1 (k + 1) y0 y1 y2 y3 y4))
  | 0 => ⟨fun _ _ _ _ r h => by simp [thresherref01_Var_p.l0] at h, fun _ _ _ _ _ r h => by simp [thresherref01_Var_p.j1] at h⟩
  | k + 1 => by
    obtain ⟨ih0, ih1⟩ := thresherref01_Var_p.mono_l k
    refine ⟨?_, ?_⟩
    · intro y0 y1 y2 y3
      unfold thresherref01_Var_p.l0
      repeat' first
      | (with_reducible exact ih0 _ _ _ _)
      | (with_reducible exact ih1 _ _ _ _ _)
      | (with_reducible exact LeO.refl _)
      | (with_reducible exact LeO.none _)
      | (with_reducible refine LeO.ite ?_ ?_)
      | (with_reducible refine LeO.bind ?_ (fun _ => ?_))
      | exact ih0 _ _ _ _
      | exact ih1 _ _ _ _ _
      | exact LeO.none _
      | refine LeO.ite ?_ ?_
      | refine LeO.bind ?_ (fun _ => ?_)
    · intro y0 y1 y2 y3 y4
      unfold thresherref01_Var_p.j1
      repeat' first
      | (with_reducible exact ih0 _ _ _ _)
      | (with_reducible exact ih1 _ _ _ _ _)
      | (with_reducible exact LeO.refl _)
      | (with_reducible exact LeO.none _)
      | (with_reducible refine LeO.ite ?_ ?_)
      | (with_reducible refine LeO.bind ?_ (fun _ => ?_))
      | exact ih0 _ _ _ _
      | exact ih1 _ _ _ _ _
      | exact LeO.none _
      | refine LeO.ite ?_ ?_
      | refine LeO.bind ?_ (fun _ => ?_)
theorem thresherref01_Var_p.mono : ∀ a0 k, LeO (thresherref01_Var_p.f k a0) (thresherref01_Var_p.f (k + 1) a0) := by
  intro a0 k
  obtain ⟨ih0, ih1⟩ := thresherref01_Var_p.mono_l k
  unfold thresherref01_Var_p.f
  repeat' first
      | (with_reducible exact ih0 _ _ _ _)
      | (with_reducible exact ih1 _ _ _ _ _)
      | (with_reducible exact LeO.refl _)
      | (with_reducible exact LeO.none _)
      | (with_reducible refine LeO.ite ?_ ?_)
      | (with_reducible refine LeO.bind ?_ (fun _ => ?_))
      | exact ih0 _ _ _ _
      | exact ih1 _ _ _ _ _
      | exact LeO.none _
      | refine LeO.ite ?_ ?_
      | refine LeO.bind ?_ (fun _ => ?_)
def thresherref01_Var_p.T9 : Bool × List (List Nat × List Nat) := (true, [([], []), ([0], [0]), ([1], [1]), ([], []), ([], []), ([4], [4]), ([3, 5], [3, 5]), ([6], [6]), ([2, 7], [2, 7])])
def thresherref01_Var_p.B9 : List Nat := [0, 1, 3, 0, 0, 16, 56, 120, 255]
theorem thresherref01_Var_p.tab9 : rtab .any (opsOf Try.f22 9) = thresherref01_Var_p.T9 := by kernel_rfl
theorem thresherref01_Var_p.bits9 : waitsOk thresherref01_Var_p.T9.2 thresherref01_Var_p.B9 = true := by kernel_rfl
set_option maxHeartbeats 8000000 in
set_option maxRecDepth 100000 in
theorem thresherref01_Var_p.calls (k : Nat) (A0 : Option Addr) (c0 : Nat) (l0 : List Int) (r1 : Int) (r2 : Int) (w : World) (hr0 : Kd.C (Kd.int .u8) w A0 l0.length l0) (hc0 : l0.length ≤ c0) (h : thresherref01_Var_p.f k l0 = some (r1, r2)) :
    Calls Try.prog 22 #[.slice A0 l0.length c0] w fun e w' => e = .returned (.tuple #[.int .u64 r1, .int .i64 r2]) ∧ Below w.heap.size w w' := by
  have HR0 := Aside0.mk hr0
  have HC0 := Aside0.mk hc0
  clear hr0 hc0
  have HB := Aside0.mk (Below.refl w.heap.size w)
  have H : (thresherref01_Var_p.l0 k l0 0 1 0) = some (r1, r2) := h
  clear h
  have H' := Aside0.mk H
  clear H
  go_enter Try.func22, Try.ntmps22
  go_wp2
  go_loopg [4, 5, 6] k (fun kq v4 v5 v6 w' => ∃ (x4_1 : Int) (x5_1 : Int) (x6_1 : Int), v4 = .int .u64 x4_1 ∧ v5 = .int .u64 x5_1 ∧ v6 = .int .i64 x6_1 ∧ Aside0 (thresherref01_Var_p.l0 kq l0 x4_1 x5_1 x6_1 = some (r1, r2)) ∧ Aside0 (kq ≤ k) ∧ Aside0 (Below w.heap.size w w'))
  case atStart => exact ⟨(0), (1), (0), (by first | rfl | (simp; done) | (simp [*]; done)), (by first | rfl | (simp; done) | (simp [*]; done)), (by first | rfl | (simp; done) | (simp [*]; done)), H', ⟨Nat.le_refl _⟩, ⟨by repeat (first | (with_reducible first | exact HB.out | apply below_alloc | apply pw_below_drewN | apply below_drew1) | exact HB.out)⟩⟩
  case round =>
    clear H'
    obtain ⟨x4_1, x5_1, x6_1, rfl, rfl, rfl, HA, HK1, HB⟩ := hrel
    cases gk with
    | zero => exact absurd HA.out (by simp [thresherref01_Var_p.l0])
    | succ k1 =>
      have H := HA.out
      clear HA
      simp only [thresherref01_Var_p.l0] at H
      have HC2 := Aside0.mk H
      clear H
      go_upto_region 4 with (fail)
      go_cut [14] (fun v14 wc => ∃ (kq : Nat) (x14_1 : Bool), v14 = .bool x14_1 ∧ Aside0 (thresherref01_Var_p.j1 kq l0 x4_1 x5_1 x6_1 x14_1 = some (r1, r2)) ∧ Aside0 (kq ≤ k1) ∧ Aside0 (Below w.heap.size w wc))
      case first =>
        have H := HC2.out
        clear HC2
        by_cases c3 : x6_1 < (l0.length : Int)
        · rw [if_pos c3] at H
          have c3b0 : decide (x6_1 < (l0.length : Int)) = true := decide_eq_true c3
          clear c3
          (first | rw [c3b0] | (simp only [i64_w, i32_w]; rw [c3b0]) | skip)
          have H' := Aside0.mk H
          clear H
          go_wp2
          go_meet
          case rel => exact ⟨_, (decide (x6_1 < 10)), (by first | rfl | (simp; done) | (simp [*]; done)), H', ⟨by have := HK1.out; first | omega | exact Nat.le_refl _⟩, ⟨by repeat (first | (with_reducible first | exact HB.out | apply below_alloc | apply pw_below_drewN | apply below_drew1) | exact HB.out)⟩⟩
        · rw [if_neg c3] at H
          have c3b0 : decide (x6_1 < (l0.length : Int)) = false := decide_eq_false c3
          clear c3
          (first | rw [c3b0] | (simp only [i64_w, i32_w]; rw [c3b0]) | skip)
          have H' := Aside0.mk H
          clear H
          go_wp2
          go_meet
          case rel => exact ⟨_, (false), (by first | rfl | (simp; done) | (simp [*]; done)), H', ⟨by have := HK1.out; first | omega | exact Nat.le_refl _⟩, ⟨by repeat (first | (with_reducible first | exact HB.out | apply below_alloc | apply pw_below_drewN | apply below_drew1) | exact HB.out)⟩⟩
      case rest =>
        clear HC2
        try clear c2
        try clear p2
        try clear c3
        try clear c3b0
        obtain ⟨kq, x14_1, rfl, HA, HJ1, HB⟩ := hcut
        cases kq with
        | zero => exact absurd HA.out (by simp [thresherref01_Var_p.j1])
        | succ kj1 =>
          have H := HA.out
          clear HA
          simp only [thresherref01_Var_p.j1] at H
          by_cases c4 : x14_1 = true
          · subst c4
            have H1 : (if 0 ≤ x6_1 then (if x6_1 < (l0.length : Int) then (if (rd l0 x6_1) < 128 then ((thresherref01_PutVar.f (IntKind.u64.wrap (x4_1 + (IntKind.u64.wrap ((IntKind.u64.wrap (Int.tmod (rd l0 x6_1) 128)) * x5_1))))).bind fun t145 => (if 0 ≤ (wrap64 (x6_1 + 1)) then (if (wrap64 (x6_1 + 1)) ≤ (l0.length : Int) then (if (strOfNums t145).toList = (strOfNums (l0.take ((wrap64 (x6_1 + 1)) : Int).toNat)).toList then (some (IntKind.u64.wrap (x4_1 + (IntKind.u64.wrap ((IntKind.u64.wrap (Int.tmod (rd l0 x6_1) 128)) * x5_1))), wrap64 (x6_1 + 1))) else (some (0, 0))) else (none)) else (none))) else (thresherref01_Var_p.l0 kj1 l0 (IntKind.u64.wrap (x4_1 + (IntKind.u64.wrap ((IntKind.u64.wrap (Int.tmod (rd l0 x6_1) 128)) * x5_1)))) (IntKind.u64.wrap (x5_1 * 128)) (wrap64 (x6_1 + 1)))) else (none)) else (none)) = some (r1, r2) := by rw [if_pos rfl] at H; exact H
            clear H
            have H := H1
            clear H1
            by_cases c5 : 0 ≤ x6_1
            · rw [if_pos c5] at H
              have c5b0 : decide (0 ≤ x6_1) = true := decide_eq_true c5
              clear c5
              by_cases c6 : x6_1 < (l0.length : Int)
              · rw [if_pos c6] at H
                have c6b0 : decide (x6_1 < (l0.length : Int)) = true := decide_eq_true c6
                clear c6
                by_cases c7 : (rd l0 x6_1) < 128
                · rw [if_pos c7] at H
                  have c7b0 : decide ((rd l0 x6_1) < 128) = true := decide_eq_true c7
                  clear c7
                  replace H := Option.bind_eq_some_iff.mp H
                  obtain ⟨t145, A80, H⟩ := H
                  replace H : (if 0 ≤ (wrap64 (x6_1 + 1)) then (if (wrap64 (x6_1 + 1)) ≤ (l0.length : Int) then (if (strOfNums t145).toList = (strOfNums (l0.take ((wrap64 (x6_1 + 1)) : Int).toNat)).toList then (some (IntKind.u64.wrap (x4_1 + (IntKind.u64.wrap ((IntKind.u64.wrap (Int.tmod (rd l0 x6_1) 128)) * x5_1))), wrap64 (x6_1 + 1))) else (some (0, 0))) else (none)) else (none)) = some (r1, r2) := H
                  have A8 := Aside0.mk A80
                  clear A80
                  obtain ⟨ji9, hji9⟩ : ∃ j_ : Int, (wrap64 (x6_1 + 1)) = j_ := ⟨_, rfl⟩
                  replace H : (if 0 ≤ (ji9) then (if (ji9) ≤ (l0.length : Int) then (if (strOfNums t145).toList = (strOfNums (l0.take ((ji9) : Int).toNat)).toList then (some (IntKind.u64.wrap (x4_1 + (IntKind.u64.wrap ((IntKind.u64.wrap (Int.tmod (rd l0 x6_1) 128)) * x5_1))), ji9)) else (some (0, 0))) else (none)) else (none)) = some (r1, r2) := by first | (rw [hji9] at H; exact H) | (simp only [hji9] at H ⊢; exact H)
                  (try rw [hji9] at A8)
                  have hji9w : (IntKind.i64.wrap (x6_1 + 1)) = ji9 := (i64_w _).trans hji9
                  by_cases c10 : 0 ≤ (ji9)
                  · rw [if_pos c10] at H
                    have c10b0 := eq_true c10
                    have c10b1 : decide (0 ≤ (ji9)) = true := decide_eq_true c10
                    clear c10
                    by_cases c11 : (ji9) ≤ (l0.length : Int)
                    · rw [if_pos c11] at H
                      have c11b0 := eq_true c11
                      have c11b1 : decide ((ji9) ≤ (l0.length : Int)) = true := decide_eq_true c11
                      clear c11
                      by_cases c12 : (strOfNums t145).toList = (strOfNums (l0.take ((ji9) : Int).toNat)).toList
                      · rw [if_pos c12] at H
                        have c12b0 : ((strOfNums t145).toList == (strOfNums (l0.take ((ji9) : Int).toNat)).toList) = true := beq_iff_eq.mpr c12
                        have c12b1 : ((strOfNums t145).toList != (strOfNums (l0.take ((ji9) : Int).toNat)).toList) = false := bne_eq_false_iff_eq.mpr c12
                        clear c12
                        simp only [Option.some.injEq, Prod.mk.injEq] at H
                        obtain ⟨rfl, rfl⟩ := H
                        have p143 : 0 ≤ (x6_1 : Int) := of_decide_eq_true (by first | (with_reducible assumption) | assumption)
                        have q143 : x6_1 < (l0.length : Int) := of_decide_eq_true (by first | (with_reducible assumption) | assumption)
                        obtain ⟨ad143, e143, hx143_0⟩ := Kd.at_int HR0.out x6_1 p143 q143
                        cases e143
                        replace hx143_0 := (HB.out.cell (World.block_lt_of_cell? w _ hx143_0)).trans hx143_0
                        replace p143 := eq_true p143
                        replace q143 := eq_true q143
                        have p144 : 0 ≤ (x6_1 : Int) := of_decide_eq_true (by first | (with_reducible assumption) | assumption)
                        have q144 : x6_1 < (l0.length : Int) := of_decide_eq_true (by first | (with_reducible assumption) | assumption)
                        obtain ⟨ad144, e144, hx144_0⟩ := Kd.at_int HR0.out x6_1 p144 q144
                        obtain rfl : ad143 = ad144 := (by injection e144)
                        replace hx144_0 := (HB.out.cell (World.block_lt_of_cell? w _ hx144_0)).trans hx144_0
                        replace p144 := eq_true p144
                        replace q144 := eq_true q144
                        try go_wp2
                        have n0_ := Aside0.mk (below_drew1 HB.out)
                        clear HB
                        have HB := n0_
                        clear n0_
                        obtain ⟨i014, hi014, _, hsz14, _⟩ := info_parts info5
                        obtain ⟨hcut14, hA14, hC14⟩ := print_take_of (P := Try.prog) (Value.int .u8) 0 22 5 .i64 Try.underlying22 hi014 hsz14 (some ad143) c0 l0 (ji9) (of_decide_eq_true (by first | (with_reducible assumption) | assumption)) (of_decide_eq_true (by first | (with_reducible assumption) | assumption)) HC0.out
                        have HR148 := Aside0.mk (Kd.C_of_reads (h1 := fun _ => rfl) (hA14 _ (Kd.reads_of_C HR0.out)))
                        have HC148 := Aside0.mk hC14
                        clear hA14 hC14 hi014 hsz14
                        refine start_ (n := 9) (S := fun w' => Kd.C (Kd.int .u8) w' (some ad143) (l0.take ((ji9) : Int).toNat).length (l0.take ((ji9) : Int).toNat)) (ds := []) #[false, false, false, false, false, false, false, false, false] (by kernel_rfl) rfl rfl ((Kd.C_below HR148.out (by first | exact HB.out | exact pw_below_drewN HB.out _ | exact below_drew1 HB.out))) (fun hHeld => ?_); refine with_tabW thresherref01_Var_p.tab9 thresherref01_Var_p.bits9 (fun HT_ HW_ => ?_)
                        generalize wc.drew = w13 at HB HR148 hHeld ⊢
                        refine pure_ (i := 0) (N := some 34) (v := ?_) (a' := ?_) #[true, false, false, false, false, false, false, false, false] rfl rfl (any_of HT_.out (by kernel_rfl)) (fun _ _ _ h => h) (Or.inl ⟨by rfl, ?_⟩) ?_ ?_
                        rotate_left
                        · intro w'
                          go_simp
                          with_reducible rfl
                        rotate_left
                        · simp only [Act.put, List.setIfInBounds_toArray, List.set_cons_zero, List.set_cons_succ, i64_w, i32_w]
                          rfl
                        refine pure_ (i := 3) (N := some 37) (v := ?_) (a' := ?_) #[true, false, false, true, false, false, false, false, false] rfl rfl (any_of HT_.out (by kernel_rfl)) (fun _ _ _ h => h) (Or.inl ⟨by rfl, ?_⟩) ?_ ?_
                        rotate_left
                        · intro w'
                          go_simp
                          with_reducible rfl
                        rotate_left
                        · simp only [Act.put, List.setIfInBounds_toArray, List.set_cons_zero, List.set_cons_succ, i64_w, i32_w]
                          rfl
                        refine pure_ (i := 4) (N := some 38) (v := ?_) (a' := ?_) #[true, false, false, true, true, false, false, false, false] rfl rfl (any_of HT_.out (by kernel_rfl)) (fun _ _ _ h => h) (Or.inl ⟨by rfl, ?_⟩) ?_ ?_
                        rotate_left
                        · intro w'
                          go_simp
                          with_reducible rfl
                        rotate_left
                        · simp only [Act.put, List.setIfInBounds_toArray, List.set_cons_zero, List.set_cons_succ, i64_w, i32_w]
                          rfl
                        refine pure_ (i := 5) (N := some 39) (v := ?_) (a' := ?_) #[true, false, false, true, true, true, false, false, false] rfl rfl (any_of HT_.out (by kernel_rfl)) (fun _ _ _ h => h) (Or.inl ⟨by rfl, ?_⟩) ?_ ?_
                        rotate_left
                        · intro w'
                          go_simp
                          with_reducible rfl
                        rotate_left
                        · simp only [Act.put, List.setIfInBounds_toArray, List.set_cons_zero, List.set_cons_succ, i64_w, i32_w]
                          rfl
                        refine pure_ (i := 6) (N := some 40) (v := ?_) (a' := ?_) #[true, false, false, true, true, true, true, false, false] rfl rfl (any_of HT_.out (by kernel_rfl)) (fun _ _ _ h => h) (Or.inl ⟨by rfl, ?_⟩) ?_ ?_
                        rotate_left
                        · intro w'
                          go_simp
                          with_reducible rfl
                        rotate_left
                        · simp only [Act.put, List.setIfInBounds_toArray, List.set_cons_zero, List.set_cons_succ, i64_w, i32_w]
                          rfl
                        refine take_ (i := 7) (N := some 41) (v := ?_) (a' := ?_) #[true, false, false, true, true, true, true, true, false] rfl rfl (take_ofW HT_.out HW_.out (by kernel_rfl)) (fun _ _ _ h => h) (Or.inl ⟨by rfl, ?_⟩) hHeld ?_ ?_
                        rotate_left
                        · intro w' s0
                          have hcv_ : ∀ n_ : Nat, n_ = (l0.take ((ji9) : Int).toNat).length → (convert 22 9 (.slice (some ad143) n_ c0)).run Try.prog w' = .ok (.string (strOfNums (l0.take ((ji9) : Int).toNat))) w' := fun n_ e_ => by rw [e_]; exact Kd.C_string Try.underlying22 Try.underlying5 Try.underlying9 s0
                          go_simp
                          with_reducible rfl
                        rotate_left
                        · simp only [Act.put, List.setIfInBounds_toArray, List.set_cons_zero, List.set_cons_succ, i64_w, i32_w]
                          rfl
                        refine one_ (i := 1) (N := some 35) #[true, true, false, true, true, true, true, true, false] rfl rfl (one_of HT_.out (by kernel_rfl)) (by decide) (fun K hK => ?_)
                        refine goes_ Try.func26 (by kernel_rfl) rfl #[.int .u64 (IntKind.u64.wrap (x4_1 + (IntKind.u64.wrap ((IntKind.u64.wrap (Int.tmod (rd l0 x6_1) 128)) * x5_1))))] (by rfl) rfl rfl (by (try simp only [List.map_toArray, List.map_cons, List.map_nil]); first | done | rfl | (simp only [List.length_drop, List.length_take]; rfl)) ?_
                        with_reducible refine (thresherref01_PutVar.calls (IntKind.u64.wrap (x4_1 + (IntKind.u64.wrap ((IntKind.u64.wrap (Int.tmod (rd l0 x6_1) 128)) * x5_1)))) t145 _ A8.out).mono ?_
                        rintro e w15 ⟨v146, rfl, ho0, hb⟩
                        refine ⟨_, rfl, ?_⟩
                        have n0_ := Aside0.mk (Kd.R_lower ho0 (below_size (by repeat (first | (with_reducible first | exact HB.out | apply below_alloc | apply pw_below_drewN | apply below_drew1) | exact HB.out))))
                        have n1_ := Aside0.mk (below_step (by repeat (first | (with_reducible first | exact HB.out | apply below_alloc | apply pw_below_drewN | apply below_drew1) | exact HB.out)) hb)
                        clear HB
                        have HO147 := n0_
                        have HB := n1_
                        clear n0_ n1_
                        (try clear hb)
                        (try clear hb2)
                        (try clear hk)
                        (try clear hi)
                        (try clear ho0)
                        refine hK.out _ _ ((Kd.C_below HR148.out (by first | exact HB.out | exact pw_below_drewN HB.out _ | exact below_drew1 HB.out))) (fun hHeld => ?_)
                        clear hK K
                        refine norm_ (a' := ?_) ?_ ?_
                        rotate_left
                        · show Act.put _ (some 35) _ = _
                          simp only [Act.put, List.setIfInBounds_toArray, List.set_cons_zero, List.set_cons_succ, i64_w, i32_w]
                          rfl
                        refine one_ (i := 2) (N := some 36) #[true, true, true, true, true, true, true, true, false] rfl rfl (one_of HT_.out (by kernel_rfl)) (by decide) (fun K hK => ?_)
                        have hcv16 := own_string (P := Try.prog) Try.underlying22 Try.underlying5 Try.underlying9 (Kd.own_of_R HO147.out)
                        refine value_ (w1 := ?_) (v := ?_) (by rfl) rfl ?_ ?_
                        rotate_left 2
                        · go_simp
                          constructor
                          · rfl
                          · rfl
                        clear hcv16
                        refine hK.out _ _ ((Kd.C_below HR148.out (by first | exact HB.out | exact pw_below_drewN HB.out _ | exact below_drew1 HB.out))) (fun hHeld => ?_)
                        clear hK K
                        refine norm_ (a' := ?_) ?_ ?_
                        rotate_left
                        · show Act.put _ (some 36) _ = _
                          simp only [Act.put, List.setIfInBounds_toArray, List.set_cons_zero, List.set_cons_succ, i64_w, i32_w]
                          rfl
                        refine pure_ (i := 8) (N := some 42) (v := ?_) (a' := ?_) #[true, true, true, true, true, true, true, true, true] rfl rfl (any_of HT_.out (by kernel_rfl)) (fun _ _ _ h => h) (Or.inl ⟨by rfl, ?_⟩) ?_ ?_
                        rotate_left
                        · intro w'
                          go_simp
                          with_reducible rfl
                        rotate_left
                        · simp only [Act.put, List.setIfInBounds_toArray, List.set_cons_zero, List.set_cons_succ, i64_w, i32_w]
                          rfl
                        refine done_ (done_of HT_.out (by kernel_rfl)) ?_
                        try go_wp2
                        go_ret2
                        exact ⟨by first | rfl | (simp [errW_none, errW_some] <;> rfl) | (simp only [← hji9]; first | rfl | (simp [errW_none, errW_some] <;> rfl)) | (simp [*, errW_none, errW_some] <;> rfl), by repeat (first | (with_reducible first | exact HB.out | apply below_alloc | apply pw_below_drewN | apply below_drew1) | exact HB.out)⟩
                      · rw [if_neg c12] at H
                        have c12b0 : ((strOfNums t145).toList == (strOfNums (l0.take ((ji9) : Int).toNat)).toList) = false := beq_eq_false_iff_ne.mpr c12
                        have c12b1 : ((strOfNums t145).toList != (strOfNums (l0.take ((ji9) : Int).toNat)).toList) = true := bne_iff_ne.mpr c12
                        simp only [Option.some.injEq, Prod.mk.injEq] at H
                        obtain ⟨rfl, rfl⟩ := H
                        have p143 : 0 ≤ (x6_1 : Int) := of_decide_eq_true (by first | (with_reducible assumption) | assumption)
                        have q143 : x6_1 < (l0.length : Int) := of_decide_eq_true (by first | (with_reducible assumption) | assumption)
                        obtain ⟨ad143, e143, hx143_0⟩ := Kd.at_int HR0.out x6_1 p143 q143
                        cases e143
                        replace hx143_0 := (HB.out.cell (World.block_lt_of_cell? w _ hx143_0)).trans hx143_0
                        replace p143 := eq_true p143
                        replace q143 := eq_true q143
                        have p144 : 0 ≤ (x6_1 : Int) := of_decide_eq_true (by first | (with_reducible assumption) | assumption)
                        have q144 : x6_1 < (l0.length : Int) := of_decide_eq_true (by first | (with_reducible assumption) | assumption)
                        obtain ⟨ad144, e144, hx144_0⟩ := Kd.at_int HR0.out x6_1 p144 q144
                        obtain rfl : ad143 = ad144 := (by injection e144)
                        replace hx144_0 := (HB.out.cell (World.block_lt_of_cell? w _ hx144_0)).trans hx144_0
                        replace p144 := eq_true p144
                        replace q144 := eq_true q144
                        try go_wp2
                        have n0_ := Aside0.mk (below_drew1 HB.out)
                        clear HB
                        have HB := n0_
                        clear n0_
                        obtain ⟨i018, hi018, _, hsz18, _⟩ := info_parts info5
                        (try clear hcut14)
                        obtain ⟨hcut18, hA18, hC18⟩ := print_take_of (P := Try.prog) (Value.int .u8) 0 22 5 .i64 Try.underlying22 hi018 hsz18 (some ad143) c0 l0 (ji9) (of_decide_eq_true (by first | (with_reducible assumption) | assumption)) (of_decide_eq_true (by first | (with_reducible assumption) | assumption)) HC0.out
                        have HR148 := Aside0.mk (Kd.C_of_reads (h1 := fun _ => rfl) (hA18 _ (Kd.reads_of_C HR0.out)))
                        have HC148 := Aside0.mk hC18
                        clear hA18 hC18 hi018 hsz18
                        refine start_ (n := 9) (S := fun w' => Kd.C (Kd.int .u8) w' (some ad143) (l0.take ((ji9) : Int).toNat).length (l0.take ((ji9) : Int).toNat)) (ds := []) #[false, false, false, false, false, false, false, false, false] (by kernel_rfl) rfl rfl ((Kd.C_below HR148.out (by first | exact HB.out | exact pw_below_drewN HB.out _ | exact below_drew1 HB.out))) (fun hHeld => ?_); refine with_tabW thresherref01_Var_p.tab9 thresherref01_Var_p.bits9 (fun HT_ HW_ => ?_)
                        generalize wc.drew = w17 at HB HR148 hHeld ⊢
                        refine pure_ (i := 0) (N := some 34) (v := ?_) (a' := ?_) #[true, false, false, false, false, false, false, false, false] rfl rfl (any_of HT_.out (by kernel_rfl)) (fun _ _ _ h => h) (Or.inl ⟨by rfl, ?_⟩) ?_ ?_
                        rotate_left
                        · intro w'
                          go_simp
                          with_reducible rfl
                        rotate_left
                        · simp only [Act.put, List.setIfInBounds_toArray, List.set_cons_zero, List.set_cons_succ, i64_w, i32_w]
                          rfl
                        refine pure_ (i := 3) (N := some 37) (v := ?_) (a' := ?_) #[true, false, false, true, false, false, false, false, false] rfl rfl (any_of HT_.out (by kernel_rfl)) (fun _ _ _ h => h) (Or.inl ⟨by rfl, ?_⟩) ?_ ?_
                        rotate_left
                        · intro w'
                          go_simp
                          with_reducible rfl
                        rotate_left
                        · simp only [Act.put, List.setIfInBounds_toArray, List.set_cons_zero, List.set_cons_succ, i64_w, i32_w]
                          rfl
                        refine pure_ (i := 4) (N := some 38) (v := ?_) (a' := ?_) #[true, false, false, true, true, false, false, false, false] rfl rfl (any_of HT_.out (by kernel_rfl)) (fun _ _ _ h => h) (Or.inl ⟨by rfl, ?_⟩) ?_ ?_
                        rotate_left
                        · intro w'
                          go_simp
                          with_reducible rfl
                        rotate_left
                        · simp only [Act.put, List.setIfInBounds_toArray, List.set_cons_zero, List.set_cons_succ, i64_w, i32_w]
                          rfl
                        refine pure_ (i := 5) (N := some 39) (v := ?_) (a' := ?_) #[true, false, false, true, true, true, false, false, false] rfl rfl (any_of HT_.out (by kernel_rfl)) (fun _ _ _ h => h) (Or.inl ⟨by rfl, ?_⟩) ?_ ?_
                        rotate_left
                        · intro w'
                          go_simp
                          with_reducible rfl
                        rotate_left
                        · simp only [Act.put, List.setIfInBounds_toArray, List.set_cons_zero, List.set_cons_succ, i64_w, i32_w]
                          rfl
                        refine pure_ (i := 6) (N := some 40) (v := ?_) (a' := ?_) #[true, false, false, true, true, true, true, false, false] rfl rfl (any_of HT_.out (by kernel_rfl)) (fun _ _ _ h => h) (Or.inl ⟨by rfl, ?_⟩) ?_ ?_
                        rotate_left
                        · intro w'
                          go_simp
                          with_reducible rfl
                        rotate_left
                        · simp only [Act.put, List.setIfInBounds_toArray, List.set_cons_zero, List.set_cons_succ, i64_w, i32_w]
                          rfl
                        refine take_ (i := 7) (N := some 41) (v := ?_) (a' := ?_) #[true, false, false, true, true, true, true, true, false] rfl rfl (take_ofW HT_.out HW_.out (by kernel_rfl)) (fun _ _ _ h => h) (Or.inl ⟨by rfl, ?_⟩) hHeld ?_ ?_
                        rotate_left
                        · intro w' s0
                          have hcv_ : ∀ n_ : Nat, n_ = (l0.take ((ji9) : Int).toNat).length → (convert 22 9 (.slice (some ad143) n_ c0)).run Try.prog w' = .ok (.string (strOfNums (l0.take ((ji9) : Int).toNat))) w' := fun n_ e_ => by rw [e_]; exact Kd.C_string Try.underlying22 Try.underlying5 Try.underlying9 s0
                          go_simp
                          with_reducible rfl
                        rotate_left
                        · simp only [Act.put, List.setIfInBounds_toArray, List.set_cons_zero, List.set_cons_succ, i64_w, i32_w]
                          rfl
                        refine one_ (i := 1) (N := some 35) #[true, true, false, true, true, true, true, true, false] rfl rfl (one_of HT_.out (by kernel_rfl)) (by decide) (fun K hK => ?_)
                        refine goes_ Try.func26 (by kernel_rfl) rfl #[.int .u64 (IntKind.u64.wrap (x4_1 + (IntKind.u64.wrap ((IntKind.u64.wrap (Int.tmod (rd l0 x6_1) 128)) * x5_1))))] (by rfl) rfl rfl (by (try simp only [List.map_toArray, List.map_cons, List.map_nil]); first | done | rfl | (simp only [List.length_drop, List.length_take]; rfl)) ?_
                        with_reducible refine (thresherref01_PutVar.calls (IntKind.u64.wrap (x4_1 + (IntKind.u64.wrap ((IntKind.u64.wrap (Int.tmod (rd l0 x6_1) 128)) * x5_1)))) t145 _ A8.out).mono ?_
                        rintro e w19 ⟨v146, rfl, ho0, hb⟩
                        refine ⟨_, rfl, ?_⟩
                        have n0_ := Aside0.mk (Kd.R_lower ho0 (below_size (by repeat (first | (with_reducible first | exact HB.out | apply below_alloc | apply pw_below_drewN | apply below_drew1) | exact HB.out))))
                        have n1_ := Aside0.mk (below_step (by repeat (first | (with_reducible first | exact HB.out | apply below_alloc | apply pw_below_drewN | apply below_drew1) | exact HB.out)) hb)
                        clear HB
                        have HO147 := n0_
                        have HB := n1_
                        clear n0_ n1_
                        (try clear hb)
                        (try clear hb2)
                        (try clear hk)
                        (try clear hi)
                        (try clear ho0)
                        refine hK.out _ _ ((Kd.C_below HR148.out (by first | exact HB.out | exact pw_below_drewN HB.out _ | exact below_drew1 HB.out))) (fun hHeld => ?_)
                        clear hK K
                        refine norm_ (a' := ?_) ?_ ?_
                        rotate_left
                        · show Act.put _ (some 35) _ = _
                          simp only [Act.put, List.setIfInBounds_toArray, List.set_cons_zero, List.set_cons_succ, i64_w, i32_w]
                          rfl
                        refine one_ (i := 2) (N := some 36) #[true, true, true, true, true, true, true, true, false] rfl rfl (one_of HT_.out (by kernel_rfl)) (by decide) (fun K hK => ?_)
                        have hcv20 := own_string (P := Try.prog) Try.underlying22 Try.underlying5 Try.underlying9 (Kd.own_of_R HO147.out)
                        refine value_ (w1 := ?_) (v := ?_) (by rfl) rfl ?_ ?_
                        rotate_left 2
                        · go_simp
                          constructor
                          · rfl
                          · rfl
                        clear hcv20
                        refine hK.out _ _ ((Kd.C_below HR148.out (by first | exact HB.out | exact pw_below_drewN HB.out _ | exact below_drew1 HB.out))) (fun hHeld => ?_)
                        clear hK K
                        refine norm_ (a' := ?_) ?_ ?_
                        rotate_left
                        · show Act.put _ (some 36) _ = _
                          simp only [Act.put, List.setIfInBounds_toArray, List.set_cons_zero, List.set_cons_succ, i64_w, i32_w]
                          rfl
                        refine pure_ (i := 8) (N := some 42) (v := ?_) (a' := ?_) #[true, true, true, true, true, true, true, true, true] rfl rfl (any_of HT_.out (by kernel_rfl)) (fun _ _ _ h => h) (Or.inl ⟨by rfl, ?_⟩) ?_ ?_
                        rotate_left
                        · intro w'
                          go_simp
                          with_reducible rfl
                        rotate_left
                        · simp only [Act.put, List.setIfInBounds_toArray, List.set_cons_zero, List.set_cons_succ, i64_w, i32_w]
                          rfl
                        refine done_ (done_of HT_.out (by kernel_rfl)) ?_
                        try go_wp2
                        go_ret2
                        exact ⟨by first | rfl | (simp [errW_none, errW_some] <;> rfl) | (simp only [← hji9]; first | rfl | (simp [errW_none, errW_some] <;> rfl)) | (simp [*, errW_none, errW_some] <;> rfl), by repeat (first | (with_reducible first | exact HB.out | apply below_alloc | apply pw_below_drewN | apply below_drew1) | exact HB.out)⟩
                    · rw [if_neg c11] at H
                      exact absurd H (by simp)
                  · rw [if_neg c10] at H
                    exact absurd H (by simp)
                · rw [if_neg c7] at H
                  have c7b0 : decide ((rd l0 x6_1) < 128) = false := decide_eq_false c7
                  clear c7
                  have H' := Aside0.mk H
                  clear H
                  have p143 : 0 ≤ (x6_1 : Int) := of_decide_eq_true (by first | (with_reducible assumption) | assumption)
                  have q143 : x6_1 < (l0.length : Int) := of_decide_eq_true (by first | (with_reducible assumption) | assumption)
                  obtain ⟨ad143, e143, hx143_0⟩ := Kd.at_int HR0.out x6_1 p143 q143
                  cases e143
                  replace hx143_0 := (HB.out.cell (World.block_lt_of_cell? w _ hx143_0)).trans hx143_0
                  replace p143 := eq_true p143
                  replace q143 := eq_true q143
                  have p144 : 0 ≤ (x6_1 : Int) := of_decide_eq_true (by first | (with_reducible assumption) | assumption)
                  have q144 : x6_1 < (l0.length : Int) := of_decide_eq_true (by first | (with_reducible assumption) | assumption)
                  obtain ⟨ad144, e144, hx144_0⟩ := Kd.at_int HR0.out x6_1 p144 q144
                  obtain rfl : ad143 = ad144 := (by injection e144)
                  replace hx144_0 := (HB.out.cell (World.block_lt_of_cell? w _ hx144_0)).trans hx144_0
                  replace p144 := eq_true p144
                  replace q144 := eq_true q144
                  go_wp2
                  go_roundg kj1
                  case measure => have := HK1.out; have := HJ1.out; omega
                  case rel => exact ⟨(IntKind.u64.wrap (x4_1 + (IntKind.u64.wrap ((IntKind.u64.wrap (Int.tmod (rd l0 x6_1) 128)) * x5_1)))), (IntKind.u64.wrap (x5_1 * 128)), (wrap64 (x6_1 + 1)), (by first | rfl | (simp; done) | (simp [*]; done)), (by first | rfl | (simp; done) | (simp [*]; done)), (by first | rfl | (simp; done) | (simp [*]; done)), H', ⟨by have := HK1.out; have := HJ1.out; omega⟩, ⟨by repeat (first | (with_reducible first | exact HB.out | apply below_alloc | apply pw_below_drewN | apply below_drew1) | exact HB.out)⟩⟩
              · rw [if_neg c6] at H
                exact absurd H (by simp)
            · rw [if_neg c5] at H
              exact absurd H (by simp)
          · replace c4 := Bool.eq_false_iff.mpr c4
            subst c4
            have H1 : (some (0, 0)) = some (r1, r2) := by rw [if_neg (show ¬ (false = true) by decide)] at H; exact H
            clear H
            have H := H1
            clear H1
            simp only [Option.some.injEq, Prod.mk.injEq] at H
            obtain ⟨rfl, rfl⟩ := H
            go_wp2
            go_ret2
            exact ⟨by first | rfl | (simp [errW_none, errW_some] <;> rfl) | (simp [*, errW_none, errW_some] <;> rfl), by repeat (first | (with_reducible first | exact HB.out | apply below_alloc | apply pw_below_drewN | apply below_drew1) | exact HB.out)⟩

/-! ### thresherref01_Var: plain, of function 22 -/
def thresherref01_Var.f (l0 : List Int) : Option (Int × Int) := if YtfnlohopfoekfaaH.Crc.isB l0 then some (YtfnlohopfoekfaaH.Var.varI l0) else none
set_option maxHeartbeats 2000000 in
theorem thresherref01_Var.loop (l : List Int) (hl : l.length ≤ 9223372036854775807) (hB : YtfnlohopfoekfaaH.Crc.isB l) (t : List Int) : ∀ (x0 i : Nat), i ≤ 10 → l.drop i = t → i + t.length = l.length →
    (YtfnlohopfoekfaaH.Fr.raw (YtfnlohopfoekfaaH.Crc.nats l) = match YtfnlohopfoekfaaH.Fr.raw (YtfnlohopfoekfaaH.Crc.nats t) with
      | none => none
      | some (z, n) => some (x0 + z * 128 ^ i, i + n)) →
    Ev (fun k => thresherref01_Var_p.l0 k l ((x0 % 18446744073709551616 : Nat) : Int) ((128 ^ i % 18446744073709551616 : Nat) : Int) (i : Int)) (YtfnlohopfoekfaaH.Var.varI l) := by
  have hN := YtfnlohopfoekfaaH.Crc.nats_lt hB
  have hv := YtfnlohopfoekfaaH.Fr.varN_raw (YtfnlohopfoekfaaH.Crc.nats l) hN
  have none_ : ∀ x0 i : Nat, i = 10 → (∀ z n, YtfnlohopfoekfaaH.Fr.raw (YtfnlohopfoekfaaH.Crc.nats l) = some (z, n) → 10 < n) → YtfnlohopfoekfaaH.Var.varI l = (0, 0) := by
    intro x0 i hi hr
    unfold YtfnlohopfoekfaaH.Var.varI
    rw [hv]
    cases hc : YtfnlohopfoekfaaH.Fr.raw (YtfnlohopfoekfaaH.Crc.nats l) with
    | none => rfl
    | some p =>
      obtain ⟨y, n⟩ := p
      have h10 := hr y n hc
      have hle := YtfnlohopfoekfaaH.Fr.raw_le _ _ _ hc
      simp only
      rw [if_neg]
      · rfl
      · rintro ⟨hp, hy⟩
        have := YtfnlohopfoekfaaH.Var.putN_len10 y hy
        rw [hp, List.length_take] at this
        omega
  induction t with
  | nil =>
    intro x0 i hi ht hlen hraw
    have h0 : YtfnlohopfoekfaaH.Var.varI l = (0, 0) := by
      unfold YtfnlohopfoekfaaH.Var.varI
      rw [hv, hraw]
      rfl
    rw [h0]
    refine Ev.step (f := fun k => thresherref01_Var_p.j1 k l ((x0 % 18446744073709551616 : Nat) : Int) ((128 ^ i % 18446744073709551616 : Nat) : Int) (i : Int) false) (fun k => ?_) (Ev.step (f := fun _ => some (0, 0)) (fun k => ?_) (Ev.now _))
    · simp only [thresherref01_Var_p.l0]
      rw [if_neg (by simp at hlen; omega)]
    · simp only [thresherref01_Var_p.j1]
      rw [if_neg (by simp)]
  | cons c t ih =>
    intro x0 i hi ht hlen hraw
    obtain ⟨hrd, hil, ht', hmem⟩ := YtfnlohopfoekfaaH.Var.rd_at ht
    have hcb : 0 ≤ c ∧ c < 256 := hB c hmem
    obtain ⟨n, rfl⟩ := Int.eq_ofNat_of_zero_le hcb.1
    have hn : n < 256 := by omega
    have e : YtfnlohopfoekfaaH.Crc.nats (((n : Nat) : Int) :: t) = n :: YtfnlohopfoekfaaH.Crc.nats t := by simp [YtfnlohopfoekfaaH.Crc.nats]
    rw [e] at hraw
    by_cases h10 : i < 10
    · have hd10 : decide ((i : Int) < 10) = true := by simp; omega
      have head : ∀ k, thresherref01_Var_p.l0 (k + 1) l ((x0 % 18446744073709551616 : Nat) : Int) ((128 ^ i % 18446744073709551616 : Nat) : Int) (i : Int) = thresherref01_Var_p.j1 k l ((x0 % 18446744073709551616 : Nat) : Int) ((128 ^ i % 18446744073709551616 : Nat) : Int) (i : Int) true := by
        intro k
        simp only [thresherref01_Var_p.l0]
        rw [if_pos (by omega), hd10]
      have hX : IntKind.u64.wrap (((x0 % 18446744073709551616 : Nat) : Int) + IntKind.u64.wrap (IntKind.u64.wrap (Int.tmod ((n : Nat) : Int) 128) * ((128 ^ i % 18446744073709551616 : Nat) : Int))) = (((x0 + n % 128 * 128 ^ i) % 18446744073709551616 : Nat) : Int) := by
        have d : (128 : Int) = ((128 : Nat) : Int) := rfl
        rw [d, YtfnlohopfoekfaaH.Crc.tmod_nat]
        have h1 : IntKind.u64.wrap ((n % 128 : Nat) : Int) = ((n % 128 : Nat) : Int) := by rw [IntKind.wrap_u64]; omega
        rw [h1]
        exact YtfnlohopfoekfaaH.Fr.u64_mac x0 (n % 128) (128 ^ i)
      by_cases hs : n < 128
      · rw [YtfnlohopfoekfaaH.Fr.raw_small _ hs] at hraw
        simp only at hraw
        have em : n % 128 = n := Nat.mod_eq_of_lt hs
        rw [em] at hX
        have hpw : ∀ y : Nat, y < 18446744073709551616 → thresherref01_PutVar.f ((y : Nat) : Int) = some (YtfnlohopfoekfaaH.Var.ints (YtfnlohopfoekfaaH.Var.putN y)) := by
          intro y hy
          unfold thresherref01_PutVar.f
          rw [if_pos (by omega)]
          rfl
        have hint : ∀ y : Nat, YtfnlohopfoekfaaH.Var.ints (YtfnlohopfoekfaaH.Var.putN y) = l.take (i + 1) ↔ YtfnlohopfoekfaaH.Var.putN y = (YtfnlohopfoekfaaH.Crc.nats l).take (i + 1) := by
          intro y
          constructor
          · intro h
            rw [← YtfnlohopfoekfaaH.Var.nats_take, ← h, YtfnlohopfoekfaaH.Var.nats_ints]
          · intro h
            rw [h, ← YtfnlohopfoekfaaH.Var.nats_take, YtfnlohopfoekfaaH.Var.ints_nats (YtfnlohopfoekfaaH.Var.isB_take hB _)]
        obtain ⟨y, hy⟩ : ∃ y, x0 + n * 128 ^ i = y := ⟨_, rfl⟩
        rw [hy] at hraw hX
        obtain ⟨v, hv2⟩ : ∃ v, y % 18446744073709551616 = v := ⟨_, rfl⟩
        have hvlt : v < 18446744073709551616 := by rw [← hv2]; exact Nat.mod_lt _ (by decide)
        have hyv : y < 18446744073709551616 → v = y := fun h => by rw [← hv2]; exact Nat.mod_eq_of_lt h
        rw [hv2] at hX
        clear hv2
        obtain ⟨q, hq⟩ : ∃ q, YtfnlohopfoekfaaH.Var.ints (YtfnlohopfoekfaaH.Var.putN v) = q := ⟨_, rfl⟩
        have hpw2 := hpw v hvlt
        rw [hq] at hpw2
        have hqB : YtfnlohopfoekfaaH.Crc.isB q := by rw [← hq]; exact YtfnlohopfoekfaaH.Var.isB_ints (YtfnlohopfoekfaaH.Var.putN_byte _)
        have hstr := YtfnlohopfoekfaaH.Fr.str_eq hqB (YtfnlohopfoekfaaH.Var.isB_take hB (i + 1))
        have hint2 := hint v
        rw [hq] at hint2
        have hres : YtfnlohopfoekfaaH.Var.varI l = if q = l.take (i + 1) then ((v : Int), (i : Int) + 1) else (0, 0) := by
          unfold YtfnlohopfoekfaaH.Var.varI
          rw [hv, hraw]
          simp only
          by_cases hp : q = l.take (i + 1)
          · rw [if_pos hp]
            have hp2 := hint2.1 hp
            have hd : YtfnlohopfoekfaaH.Var.dec (YtfnlohopfoekfaaH.Crc.nats l) = some (v, (YtfnlohopfoekfaaH.Var.putN v).length) := by
              have h1 : YtfnlohopfoekfaaH.Crc.nats l = YtfnlohopfoekfaaH.Var.putN v ++ (YtfnlohopfoekfaaH.Crc.nats l).drop (i + 1) := by rw [hp2, List.take_append_drop]
              conv => lhs; rw [h1]
              exact YtfnlohopfoekfaaH.Var.dec_put _ _
            have h2 := YtfnlohopfoekfaaH.Fr.dec_raw _ hN _ _ hd
            rw [hraw] at h2
            simp only [Option.some.injEq, Prod.mk.injEq] at h2
            have hyv2 : y = v := h2.1
            subst hyv2
            rw [if_pos ⟨hp2, hvlt⟩]
            simp
          · rw [if_neg hp, if_neg]
            · rfl
            · rintro ⟨h1, h2⟩
              rw [← hyv h2] at h1
              exact hp (hint2.2 h1)
        clear hpw hint hint2 hv hN hraw
        refine Ev.step head (Ev.step (f := fun _ => some (YtfnlohopfoekfaaH.Var.varI l)) (fun k => ?_) (Ev.now _))
        simp only [thresherref01_Var_p.j1]
        rw [if_pos trivial, if_pos (by omega), if_pos (by omega), hrd, if_pos (by omega), hX, hpw2, Option.bind_some]
        rw [YtfnlohopfoekfaaH.Crc.wrap64_in _ (by omega) (by omega), if_pos (by omega), if_pos (by omega)]
        have et : ((i : Int) + 1).toNat = i + 1 := by omega
        rw [et, hres]
        by_cases hp : q = l.take (i + 1)
        · rw [if_pos (hstr.2 hp), if_pos hp]
        · rw [if_neg (fun h => hp (hstr.1 h)), if_neg hp]
      · rw [YtfnlohopfoekfaaH.Fr.raw_big _ hs] at hraw
        have hih := ih (x0 + n % 128 * 128 ^ i) (i + 1) (by omega) ht' (by simp at hlen; omega) (by
          rw [hraw]
          cases YtfnlohopfoekfaaH.Fr.raw (YtfnlohopfoekfaaH.Crc.nats t) with
          | none => rfl
          | some p =>
            obtain ⟨z, m⟩ := p
            simp only [Option.some.injEq, Prod.mk.injEq]
            constructor
            · rw [Nat.pow_succ, Nat.add_mul]
              have : 128 * z * 128 ^ i = z * (128 ^ i * 128) := by ac_rfl
              omega
            · omega)
        refine Ev.step head (Ev.step (fun k => ?_) hih)
        simp only [thresherref01_Var_p.j1]
        rw [if_pos trivial, if_pos (by omega), if_pos (by omega), hrd, if_neg (by omega), hX, YtfnlohopfoekfaaH.Crc.wrap64_in _ (by omega) (by omega)]
        have hsc : IntKind.u64.wrap (((128 ^ i % 18446744073709551616 : Nat) : Int) * 128) = ((128 ^ (i + 1) % 18446744073709551616 : Nat) : Int) := by
          rw [Nat.pow_succ]
          exact YtfnlohopfoekfaaH.Fr.u64_mul (128 ^ i) 128
        rw [hsc]
        rfl
    · have hi10 : i = 10 := by omega
      have h0 : YtfnlohopfoekfaaH.Var.varI l = (0, 0) := by
        refine none_ x0 i hi10 (fun z m hz => ?_)
        rw [hz] at hraw
        cases hr2 : YtfnlohopfoekfaaH.Fr.raw (n :: YtfnlohopfoekfaaH.Crc.nats t) with
        | none => rw [hr2] at hraw; cases hraw
        | some p =>
          obtain ⟨z2, m2⟩ := p
          rw [hr2] at hraw
          have := YtfnlohopfoekfaaH.Fr.raw_le _ _ _ hr2
          simp only [Option.some.injEq, Prod.mk.injEq] at hraw
          omega
      rw [h0]
      refine Ev.step (f := fun k => thresherref01_Var_p.j1 k l ((x0 % 18446744073709551616 : Nat) : Int) ((128 ^ i % 18446744073709551616 : Nat) : Int) (i : Int) false) (fun k => ?_) (Ev.step (f := fun _ => some (0, 0)) (fun k => ?_) (Ev.now _))
      · have hd10 : decide ((i : Int) < 10) = false := by simp; omega
        simp only [thresherref01_Var_p.l0]
        rw [if_pos (by omega), hd10]
      · simp only [thresherref01_Var_p.j1]
        rw [if_neg (by simp)]
set_option maxHeartbeats 2000000 in
theorem thresherref01_Var.ev (l0 : List Int) (r : Int × Int) (h : thresherref01_Var.f l0 = some r) (hl : l0.length ≤ 9223372036854775807) : Ev (fun k => thresherref01_Var_p.f k l0) r := by
  unfold thresherref01_Var.f at h
  split at h
  · rename_i hB
    obtain rfl := Option.some.inj h
    exact thresherref01_Var.loop l0 hl hB l0 0 0 (by decide) rfl (by simp) (by
      cases YtfnlohopfoekfaaH.Fr.raw (YtfnlohopfoekfaaH.Crc.nats l0) with
      | none => rfl
      | some p => obtain ⟨z, m⟩ := p; simp)
  · cases h
theorem thresherref01_Var.calls (A0 : Option Addr) (c0 : Nat) (l0 : List Int) (r1 : Int) (r2 : Int) (w : World) (hr0 : Kd.C (Kd.int .u8) w A0 l0.length l0) (hc0 : l0.length ≤ c0) (h : thresherref01_Var.f l0 = some (r1, r2)) :
    Calls Try.prog 22 #[.slice A0 l0.length c0] w fun e w' => e = .returned (.tuple #[.int .u64 r1, .int .i64 r2]) ∧ Below w.heap.size w w' := by
  obtain ⟨k, hk⟩ := (thresherref01_Var.ev l0 _ h (by first | exact hr0.2.1 | exact (Kd.V_reads' hs0).2.2.2.1 | exact (Kd.R_reads' ho0).2.2.2.1)).rounds
  exact thresherref01_Var_p.calls k A0 c0 l0 r1 r2 w hr0 hc0 hk

end Go.Proofs.Ytfnlohopfoekfaa.PCrcAll
