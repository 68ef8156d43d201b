-- Written by hp.py (own driver over print.py) out of the translation, hand-made functions among it. Lean checks it.
import Derived.Test.YtfnlohopfoekfaaPCrcAllx0
import Derived.Test.YtfnlohopfoekfaaPCrcAllx3
import Derived.Test.YtfnlohopfoekfaaPCrcAllx4
namespace Go.Proofs.Ytfnlohopfoekfaa.PCrcAll
open Go.RowKit Go.Proofs.YtfnlohopfoekfaaW.PrintWords Go.Proofs.YtfnlohopfoekfaaW.PrintLast Go.Proofs.YtfnlohopfoekfaaW.PrintMore
attribute [local go_sem] max2_int min2_int max_two min_two max_three min_three max_four min_four   -- for this text's walks alone
set_option linter.unusedVariables false
set_option linter.unusedSimpArgs false

/-! ### thresherref01_Put64_p: function 29 -/
def thresherref01_Put64_p.l0 : Nat → Int → List Int → Int → Option (List Int)
  | 0, _, _, _ => none
  | k + 1, x0, x3, x4 => if x4 < 8 then (if x3.length < 140737488355328 then (thresherref01_Put64_p.l0 k (IntKind.u64.wrap (Int.tdiv x0 256)) (x3 ++ [(Int.tmod x0 256) % 256]) (wrap64 (x4 + 1))) else (none)) else (some x3)
def thresherref01_Put64_p.f (k : Nat) (a0 : Int) : Option (List Int) := thresherref01_Put64_p.l0 k a0 (([] : List Int)) 0
theorem thresherref01_Put64_p.mono_l : ∀ k, (∀ y0 y1 y2, LeO (thresherref01_Put64_p.l0 k y0 y1 y2) (thresherref01_Put64_p.l0 (k + 1) y0 y1 y2))
  | 0 => fun _ _ _ r h => by simp [thresherref01_Put64_p.l0] at h
  | k + 1 => by
    have ih0 := thresherref01_Put64_p.mono_l k
    · intro y0 y1 y2
      unfold thresherref01_Put64_p.l0
      repeat' first
      | (with_reducible exact ih0 _ _ _)
      | (with_reducible exact LeO.refl _)
      | (with_reducible exact LeO.none _)
      | (with_reducible refine LeO.ite ?_ ?_)
      | (with_reducible refine LeO.bind ?_ (fun _ => ?_))
      | exact ih0 _ _ _
      | exact LeO.none _
      | refine LeO.ite ?_ ?_
      | refine LeO.bind ?_ (fun _ => ?_)
theorem thresherref01_Put64_p.mono : ∀ a0 k, LeO (thresherref01_Put64_p.f k a0) (thresherref01_Put64_p.f (k + 1) a0) := by
  intro a0 k
  have ih0 := thresherref01_Put64_p.mono_l k
  unfold thresherref01_Put64_p.f
  repeat' first
      | (with_reducible exact ih0 _ _ _)
      | (with_reducible exact LeO.refl _)
      | (with_reducible exact LeO.none _)
      | (with_reducible refine LeO.ite ?_ ?_)
      | (with_reducible refine LeO.bind ?_ (fun _ => ?_))
      | exact ih0 _ _ _
      | exact LeO.none _
      | refine LeO.ite ?_ ?_
      | refine LeO.bind ?_ (fun _ => ?_)
set_option maxHeartbeats 8000000 in
set_option maxRecDepth 100000 in
theorem thresherref01_Put64_p.calls (k : Nat) (a0 : Int) (r : List Int) (w : World) (h : thresherref01_Put64_p.f k a0 = some r) :
    Calls Try.prog 29 #[.int .u64 a0] w fun e w' => ∃ v0_ : Value, e = .returned (v0_) ∧ Kd.R (Kd.int .u8) 5 w' w.heap.size (fun _ => True) v0_ r ∧ Below w.heap.size w w' := by
  have HB := Aside0.mk (Below.refl w.heap.size w)
  have H : (thresherref01_Put64_p.l0 k a0 (([] : List Int)) 0) = some r := h
  clear h
  obtain ⟨y149, hy149⟩ : ∃ y_ : List Int, y_ = (([] : List Int)) := ⟨_, rfl⟩
  replace H : (thresherref01_Put64_p.l0 k a0 y149 0) = some r := by first | (rw [hy149]; with_reducible exact H) | (have H2_ := (Option.bind_some _ _).symm.trans H; rw [hy149]; with_reducible exact H2_) | (have H2_ := (Option.bind_some _ _).symm.trans H; with_reducible exact H2_) | with_reducible exact H | (rw [hy149]; exact H) | exact H
  have Ny149 := Aside0.mk hy149
  clear hy149
  have H' := Aside0.mk H
  clear H
  go_enter Try.func29, Try.ntmps29
  go_wp2_with (first | ((with_reducible refine gate_dst (N := 5) rfl ?_); refine Kd.R_lit (Kd.int .u8) _ 5 ?hg (N := 5) ?hd (xs := ([] : List Int)) (inner := []) (ok := fun _ => True) (okp := fun _ => True) ?hr ?hp (fun _ hk => hk) trivial (Below.refl _ _) (Nat.le_refl _) (by simp) ?_; (case hd => rfl); (case hg => rfl); (case hr => first | (go_simp; done) | (go_simp; rfl)); (case hp => exact (Reps.none _ _)); intro v150 w2 ho3 hb hg_ hnew_; clear hg_ hnew_; (first | rw [← Ny149.out] at ho3 | (simp only [Int.reduceToNat] at ho3; rw [← Ny149.out] at ho3)); have n0_ := Aside0.mk (Kd.R_lower ho3 (below_size (by repeat (first | (with_reducible first | exact HB.out | apply below_alloc | apply pw_below_drewN | apply below_drew1) | exact HB.out)))); have n1_ := Aside0.mk (below_step (by repeat (first | (with_reducible first | exact HB.out | apply below_alloc | apply pw_below_drewN | apply below_drew1) | exact HB.out)) hb); clear HB; have HO151 := n0_; have HB := n1_; clear n0_ n1_; clear hb ho3))
  go_loopg [0, 3, 4] k (fun kq v0 v3 v4 w' => ∃ (x0_1 : Int) (x3_1 : List Int) (x4_1 : Int), v0 = .int .u64 x0_1 ∧ v4 = .int .i64 x4_1 ∧ Aside0 (thresherref01_Put64_p.l0 kq x0_1 x3_1 x4_1 = some r) ∧ Aside0 (kq ≤ k) ∧ Aside0 (Kd.R (Kd.int .u8) 5 w' w.heap.size (fun _ => True) v3 x3_1) ∧ Aside0 (Below w.heap.size w w'))
  case atStart => exact ⟨(a0), (y149), (0), (by first | rfl | (simp; done) | (simp [*]; done)), (by first | rfl | (simp; done) | (simp [*]; done)), H', ⟨Nat.le_refl _⟩, ⟨by (with_reducible repeat (first | apply Kd.R_alloc | apply Kd.R_drewN | apply Kd.R_drew)); exact HO151.out⟩, ⟨by repeat (first | (with_reducible first | exact HB.out | apply below_alloc | apply pw_below_drewN | apply below_drew1) | exact HB.out)⟩⟩
  case round =>
    clear H'
    try clear c2
    try clear p2
    obtain ⟨x0_1, x3_1, x4_1, rfl, rfl, HA, HK1, HO_3, HB⟩ := hrel
    cases gk with
    | zero => exact absurd HA.out (by simp [thresherref01_Put64_p.l0])
    | succ k1 =>
      have H := HA.out
      clear HA
      simp only [thresherref01_Put64_p.l0] at H
      by_cases c4 : x4_1 < 8
      · rw [if_pos c4] at H
        have c4b0 : decide (x4_1 < 8) = true := decide_eq_true c4
        clear c4
        by_cases c5 : x3_1.length < 140737488355328
        · rw [if_pos c5] at H
          have LMc5 := Aside0.mk c5
          clear c5
          obtain ⟨y152, hy152⟩ : ∃ y_ : List Int, y_ = (x3_1 ++ [(Int.tmod x0_1 256) % 256]) := ⟨_, rfl⟩
          replace H : (thresherref01_Put64_p.l0 k1 (IntKind.u64.wrap (Int.tdiv x0_1 256)) y152 (wrap64 (x4_1 + 1))) = some r := by first | (rw [hy152]; with_reducible exact H) | (have H2_ := (Option.bind_some _ _).symm.trans H; rw [hy152]; with_reducible exact H2_) | (have H2_ := (Option.bind_some _ _).symm.trans H; with_reducible exact H2_) | with_reducible exact H | (rw [hy152]; exact H) | exact H
          have Ny152 := Aside0.mk hy152
          clear hy152
          have H' := Aside0.mk H
          clear H
          go_wp2_with (first | ((with_reducible refine gate_builtin (b := .append) (xs := #[.tmp 10, .tmp 14]) rfl ?_); at_builtin; refine Kd.R_append (Kd.int .u8) (w0 := w) w.heap.size rfl (.tmp 10) (.tmp 14) 22 5 (.int .u8 0) 1 rfl Try.underlying22 info5 rfl (by decide) (by omega) u3 x3_1 ((Int.tmod x0_1 256) % 256) [.int .u8 ((Int.tmod x0_1 256) % 256)] (fun _ => True) (fun _ => False) rfl rfl ?aP (fun _ hk => hk.elim) ?aF ?aO ?aB ?aS ?aL ?_; (case aP => exact rfl); (case aB => exact (by repeat (first | (with_reducible first | exact HB.out | apply below_alloc | apply pw_below_drewN | apply below_drew1) | exact HB.out))); (case aF => exact (fun _ _ => trivial)); (case aO => exact (by (with_reducible repeat (first | apply Kd.R_alloc | apply Kd.R_drewN | apply Kd.R_drew)); exact HO_3.out)); (case aS => exact (below_size (by repeat (first | (with_reducible first | exact HB.out | apply below_alloc | apply pw_below_drewN | apply below_drew1) | exact HB.out)))); (case aL => have := LMc5.out; omega); intro v153 w6 ho hb hg hat; rw [← Ny152.out] at ho; have n0_ := Aside0.mk (hb); have n1_ := Aside0.mk (ho); clear HB; clear HO_3; have HB := n0_; have HO154 := n1_; clear n0_ n1_; clear ho hb hg hat))
          go_roundg k1
          case measure => have := HK1.out; omega
          case rel => exact ⟨(IntKind.u64.wrap (Int.tdiv x0_1 256)), (y152), (wrap64 (x4_1 + 1)), (by first | rfl | (simp; done) | (simp [*]; done)), (by first | rfl | (simp; done) | (simp [*]; done)), H', ⟨by have := HK1.out; omega⟩, ⟨by (with_reducible repeat (first | apply Kd.R_alloc | apply Kd.R_drewN | apply Kd.R_drew)); exact HO154.out⟩, ⟨by repeat (first | (with_reducible first | exact HB.out | apply below_alloc | apply pw_below_drewN | apply below_drew1) | exact HB.out)⟩⟩
        · rw [if_neg c5] at H
          exact absurd H (by simp)
      · rw [if_neg c4] at H
        have c4b0 : decide (x4_1 < 8) = false := decide_eq_false c4
        clear c4
        obtain rfl := Option.some.inj H
        go_wp2
        go_ret
        exact ⟨_, by first | rfl | (simp [errW_none, errW_some] <;> rfl) | (simp [*, errW_none, errW_some] <;> rfl), by (with_reducible repeat (first | apply Kd.R_alloc | apply Kd.R_drewN | apply Kd.R_drew)); exact HO_3.out, by repeat (first | (with_reducible first | exact HB.out | apply below_alloc | apply pw_below_drewN | apply below_drew1) | exact HB.out)⟩

/-! ### thresherref01_Put64: plain, of function 29 -/
def thresherref01_Put64.f (a0 : Int) : Option (List Int) := if 0 ≤ a0 ∧ a0 < 18446744073709551616 then some (YtfnlohopfoekfaaH.le8 a0) else none
set_option maxHeartbeats 2000000 in
theorem thresherref01_Put64.loop (x : Nat) (hx : x < 18446744073709551616) (d : Nat) : ∀ i, i + d = 8 →
    Ev (fun k => thresherref01_Put64_p.l0 k ((x / 256 ^ i : Nat) : Int) ((List.range i).map fun j => ((x / 256 ^ j % 256 : Nat) : Int)) (i : Int)) ((List.range 8).map fun j => ((x / 256 ^ j % 256 : Nat) : Int)) := by
  induction d with
  | zero =>
    intro i hi
    obtain rfl : i = 8 := by omega
    refine Ev.step (fun k => ?_) (Ev.now _)
    simp only [thresherref01_Put64_p.l0]
    rw [if_neg (by decide)]
  | succ d ih =>
    intro i hi
    have h := ih (i + 1) (by omega)
    rw [List.range_succ, List.map_append, List.map_singleton] at h
    refine Ev.step (fun k => ?_) h
    simp only [thresherref01_Put64_p.l0]
    have hq : x / 256 ^ i < 18446744073709551616 := Nat.lt_of_le_of_lt (Nat.div_le_self _ _) hx
    have e3 : x / 256 ^ (i + 1) = x / 256 ^ i / 256 := by rw [Nat.pow_succ, Nat.div_div_eq_div_mul]
    rw [e3, if_pos (by omega), if_pos (by simp; omega)]
    generalize x / 256 ^ i = y at hq ⊢
    have d : (256 : Int) = ((256 : Nat) : Int) := rfl
    have e1 : IntKind.u64.wrap (Int.tdiv (y : Int) 256) = ((y / 256 : Nat) : Int) := by rw [d, YtfnlohopfoekfaaH.Crc.tdiv_nat, IntKind.wrap_u64]; omega
    have e2 : Int.tmod (y : Int) 256 % 256 = ((y % 256 : Nat) : Int) := by rw [d, YtfnlohopfoekfaaH.Crc.tmod_nat]; omega
    have e4 : wrap64 ((i : Int) + 1) = ((i + 1 : Nat) : Int) := by rw [YtfnlohopfoekfaaH.Crc.wrap64_in _ (by omega) (by omega)]; omega
    rw [e1, e2, e4]
set_option maxHeartbeats 2000000 in
theorem thresherref01_Put64.ev (a0 : Int) (r : List Int) (h : thresherref01_Put64.f a0 = some r) : Ev (fun k => thresherref01_Put64_p.f k a0) r := by
  unfold thresherref01_Put64.f at h
  split at h
  · rename_i hx
    obtain ⟨n, rfl⟩ := Int.eq_ofNat_of_zero_le hx.1
    obtain rfl := Option.some.inj h
    have e : YtfnlohopfoekfaaH.le8 (n : Int) = (List.range 8).map fun j => ((n / 256 ^ j % 256 : Nat) : Int) := by
      unfold YtfnlohopfoekfaaH.le8
      refine List.map_congr_left (fun j _ => ?_)
      rw [Int.natCast_emod, Int.natCast_ediv, Int.natCast_pow]
      have h2 : (2 : Int) ^ (8 * j) = ((256 : Nat) : Int) ^ j := by rw [Int.pow_mul]; rfl
      rw [h2]
      rfl
    rw [e]
    have h := thresherref01_Put64.loop n (by omega) 8 0 (by omega)
    simpa [thresherref01_Put64_p.f] using h
  · cases h
theorem thresherref01_Put64.calls (a0 : Int) (r : List Int) (w : World) (h : thresherref01_Put64.f a0 = some r) :
    Calls Try.prog 29 #[.int .u64 a0] w fun e w' => ∃ v0_ : Value, e = .returned (v0_) ∧ Kd.R (Kd.int .u8) 5 w' w.heap.size (fun _ => True) v0_ r ∧ Below w.heap.size w w' := by
  obtain ⟨k, hk⟩ := (thresherref01_Put64.ev a0 _ h ).rounds
  exact thresherref01_Put64_p.calls k a0 r w hk

/-! ### thresherref02_four_p: function 23 -/
def thresherref02_four_p.f (a0 : Int) : Option (List Int) := (thresherref01_Put64.f (IntKind.u64.wrap (a0))).bind fun t155 => (if 4 ≤ (t155.length : Int) then (some (t155.take (4 : Int).toNat)) else (none))
set_option maxHeartbeats 8000000 in
set_option maxRecDepth 100000 in
theorem thresherref02_four_p.calls (a0 : Int) (r : List Int) (w : World) (h : thresherref02_four_p.f a0 = some r) :
    Calls Try.prog 23 #[.int .u32 a0] w fun e w' => ∃ v0_ : Value, e = .returned (v0_) ∧ Kd.R (Kd.int .u8) 5 w' w.heap.size (fun _ => True) v0_ r ∧ Below w.heap.size w w' := by
  have HB := Aside0.mk (Below.refl w.heap.size w)
  have H : ((thresherref01_Put64.f (IntKind.u64.wrap (a0))).bind fun t155 => (if 4 ≤ (t155.length : Int) then (some (t155.take (4 : Int).toNat)) else (none))) = some r := h
  clear h
  replace H := Option.bind_eq_some_iff.mp H
  obtain ⟨t155, A20, H⟩ := H
  replace H : (if 4 ≤ (t155.length : Int) then (some (t155.take (4 : Int).toNat)) else (none)) = some r := H
  have A2 := Aside0.mk A20
  clear A20
  by_cases c3 : 4 ≤ (t155.length : Int)
  · rw [if_pos c3] at H
    have c3b0 := eq_true c3
    have c3b1 : decide (4 ≤ (t155.length : Int)) = true := decide_eq_true c3
    clear c3
    obtain ⟨y158, hy158⟩ : ∃ y_ : List Int, y_ = (t155.take (4 : Int).toNat) := ⟨_, rfl⟩
    replace H : (some y158) = some r := by first | (rw [hy158]; with_reducible exact H) | (have H2_ := (Option.bind_some _ _).symm.trans H; rw [hy158]; with_reducible exact H2_) | (have H2_ := (Option.bind_some _ _).symm.trans H; with_reducible exact H2_) | with_reducible exact H | (rw [hy158]; exact H) | exact H
    have Ny158 := Aside0.mk hy158
    clear hy158
    obtain rfl := Option.some.inj H
    go_enter Try.func23, Try.ntmps23
    go_wp2_with (first | ((with_reducible refine gate_callee (f := 29) rfl ?_); refine goesL_ (some 5) rfl rfl Try.func29 (by kernel_rfl) rfl #[.int .u64 (IntKind.u64.wrap (a0))] rfl (by (try simp only [List.map_toArray, List.map_cons, List.map_nil]); first | done | rfl | (simp only [List.length_drop, List.length_take]; rfl)) ?_; (with_reducible refine (thresherref01_Put64.calls (IntKind.u64.wrap (a0)) t155 _ A2.out).mono ?_); rintro e w4 ⟨v156, rfl, ho0, hb⟩; refine ⟨_, rfl, ?_⟩; have n0_ := Aside0.mk (Kd.R_lower ho0 (below_size (by repeat (first | (with_reducible first | exact HB.out | apply below_alloc | apply pw_below_drewN | apply below_drew1) | exact HB.out)))); have n1_ := Aside0.mk (below_step (by repeat (first | (with_reducible first | exact HB.out | apply below_alloc | apply pw_below_drewN | apply below_drew1) | exact HB.out)) hb); clear HB; have HO157 := n0_; have HB := n1_; clear n0_ n1_; (try clear hb); (try clear hb2); (try clear hk); (try clear hi); (try clear ho0); obtain ⟨Ao5, co5, eo5⟩ := Kd.R_slice HO157.out; subst eo5; have q6 : (4 : Int) ≤ ((t155.length : Int) : Int) := of_decide_eq_true (by first | (with_reducible assumption) | assumption); obtain ⟨i06, hi06, _, hsz6, _⟩ := info_parts info5; have hcut6 := cut_to (P := Try.prog) 22 5 .i64 Try.underlying22 hi06 Ao5 t155.length co5 4 (by omega) q6 (Kd.R_reads' HO157.out).2.1; have hr6 := Kd.R_take (m := (4 : Int).toNat) HO157.out (by omega); have hy6 : y158.length = (4 : Int).toNat := (by rw [Ny158.out, List.length_take]; omega); rw [← Ny158.out] at hr6; rw [← hy6] at hr6 hcut6; clear hy6 hi06 hsz6 HO157; have HO160 := Aside0.mk hr6; clear hr6; replace q6 := eq_true q6))
    go_ret
    exact ⟨_, by first | rfl | (simp [errW_none, errW_some] <;> rfl) | (simp [*, errW_none, errW_some] <;> rfl), by (with_reducible repeat (first | apply Kd.R_alloc | apply Kd.R_drewN | apply Kd.R_drew)); exact HO160.out, by repeat (first | (with_reducible first | exact HB.out | apply below_alloc | apply pw_below_drewN | apply below_drew1) | exact HB.out)⟩
  · rw [if_neg c3] at H
    exact absurd H (by simp)

/-! ### thresherref02_four: plain, of function 23 -/
def thresherref02_four.f (a0 : Int) : Option (List Int) := if 0 ≤ a0 ∧ a0 < 4294967296 then some (YtfnlohopfoekfaaH.Fr.sum4 a0) else none
set_option maxHeartbeats 2000000 in
theorem thresherref02_four.ev (a0 : Int) (r : List Int) (h : thresherref02_four.f a0 = some r) : thresherref02_four_p.f a0 = some r := by
  unfold thresherref02_four.f at h
  split at h
  · rename_i hx
    obtain rfl := Option.some.inj h
    unfold thresherref02_four_p.f thresherref01_Put64.f
    have e : IntKind.u64.wrap a0 = a0 := by rw [IntKind.wrap_u64]; omega
    rw [e, if_pos (by omega)]
    rw [Option.bind_some]
    rw [if_pos (by rw [YtfnlohopfoekfaaH.Fr.le8_len]; decide)]
    rfl
  · cases h
theorem thresherref02_four.calls (a0 : Int) (r : List Int) (w : World) (h : thresherref02_four.f a0 = some r) :
    Calls Try.prog 23 #[.int .u32 a0] w fun e w' => ∃ v0_ : Value, e = .returned (v0_) ∧ Kd.R (Kd.int .u8) 5 w' w.heap.size (fun _ => True) v0_ r ∧ Below w.heap.size w w' := by
  exact thresherref02_four_p.calls a0 r w (thresherref02_four.ev a0 _ h )

/-! ### thresherref02_Unframe_p: function 13 -/
def thresherref02_Unframe_p.j0 : Nat → List Int → Int → Int → Bool → Option (List Int × Int × Int)
  | 0, _, _, _, _ => none
  | k + 1, x0, x5, x6, x28 => if x28 = true then (some (([] : List Int), 0, 10)) else ((some (([] : List Int) : List Int)).bind fun y163 => (if 0 ≤ (wrap64 (x6 + 4)) then (if (wrap64 (x6 + 4)) ≤ (wrap64 ((wrap64 (x6 + 4)) + (wrap64 (x5)))) then (if (wrap64 ((wrap64 (x6 + 4)) + (wrap64 (x5)))) ≤ (x0.length : Int) then (if y163.length + ((x0.take ((wrap64 ((wrap64 (x6 + 4)) + (wrap64 (x5)))) : Int).toNat).drop ((wrap64 (x6 + 4)) : Int).toNat).length < 140737488355328 then ((some (y163 ++ ((x0.take ((wrap64 ((wrap64 (x6 + 4)) + (wrap64 (x5)))) : Int).toNat).drop ((wrap64 (x6 + 4)) : Int).toNat) : List Int)).bind fun y167 => ((thresherref02_Sum.f y167).bind fun t170 => ((thresherref02_four.f t170).bind fun t171 => (if 0 ≤ x6 then (if x6 ≤ (wrap64 (x6 + 4)) then (if (wrap64 (x6 + 4)) ≤ (x0.length : Int) then (if (strOfNums t171).toList = (strOfNums ((x0.take ((wrap64 (x6 + 4)) : Int).toNat).drop (x6 : Int).toNat)).toList then (some (y167, wrap64 ((wrap64 (x6 + 4)) + (wrap64 (x5))), 0)) else (some (([] : List Int), 0, 11))) else (none)) else (none)) else (none))))) else (none)) else (none)) else (none)) else (none)))
def thresherref02_Unframe_p.f (k : Nat) (l0 : List Int) : Option (List Int × Int × Int) := (thresherref01_Var.f l0).bind fun bt161 => (if bt161.2 = 0 then (thresherref02_Unframe_p.j0 k l0 bt161.1 bt161.2 true) else (if bt161.1 > 1048576 then (thresherref02_Unframe_p.j0 k l0 bt161.1 bt161.2 true) else (thresherref02_Unframe_p.j0 k l0 bt161.1 bt161.2 (decide ((wrap64 ((l0.length : Int) - bt161.2)) < (wrap64 (4 + (wrap64 (bt161.1)))))))))
theorem thresherref02_Unframe_p.mono_l : ∀ k, (∀ y0 y1 y2 y3, LeO (thresherref02_Unframe_p.j0 k y0 y1 y2 y3) (thresherref02_Unframe_p.j0 (k + 1) y0 y1 y2 y3))
  | 0 => fun _ _ _ _ r h => by simp [thresherref02_Unframe_p.j0] at h
  | k + 1 => by
    have ih0 := thresherref02_Unframe_p.mono_l k
    · intro y0 y1 y2 y3
      unfold thresherref02_Unframe_p.j0
      repeat' first
      | (with_reducible exact ih0 _ _ _ _)
      | (with_reducible exact LeO.refl _)
      | (with_reducible exact LeO.none _)
      | (with_reducible refine LeO.ite ?_ ?_)
      | (with_reducible refine LeO.bind ?_ (fun _ => ?_))
      | exact ih0 _ _ _ _
      | exact LeO.none _
      | refine LeO.ite ?_ ?_
      | refine LeO.bind ?_ (fun _ => ?_)
theorem thresherref02_Unframe_p.mono : ∀ a0 k, LeO (thresherref02_Unframe_p.f k a0) (thresherref02_Unframe_p.f (k + 1) a0) := by
  intro a0 k
  have ih0 := thresherref02_Unframe_p.mono_l k
  unfold thresherref02_Unframe_p.f
  repeat' first
      | (with_reducible exact ih0 _ _ _ _)
      | (with_reducible exact LeO.refl _)
      | (with_reducible exact LeO.none _)
      | (with_reducible refine LeO.ite ?_ ?_)
      | (with_reducible refine LeO.bind ?_ (fun _ => ?_))
      | exact ih0 _ _ _ _
      | exact LeO.none _
      | refine LeO.ite ?_ ?_
      | refine LeO.bind ?_ (fun _ => ?_)
def thresherref02_Unframe_p.T5 : Bool × List (List Nat × List Nat) := (true, [([], []), ([0], [0]), ([1, 1], [1]), ([2], [2]), ([], []), ([], []), ([], []), ([6], [6]), ([4, 5, 7], [4, 5, 7]), ([8], [8]), ([3, 9], [3, 9])])
def thresherref02_Unframe_p.B5 : List Nat := [0, 1, 3, 7, 0, 0, 0, 64, 240, 496, 1023]
theorem thresherref02_Unframe_p.tab5 : rtab .any (opsOf Try.f13 5) = thresherref02_Unframe_p.T5 := by kernel_rfl
theorem thresherref02_Unframe_p.bits5 : waitsOk thresherref02_Unframe_p.T5.2 thresherref02_Unframe_p.B5 = true := by kernel_rfl
set_option maxHeartbeats 8000000 in
set_option maxRecDepth 100000 in
theorem thresherref02_Unframe_p.calls (k : Nat) (A0 : Option Addr) (c0 : Nat) (l0 : List Int) (r1 : List Int) (r2 : Int) (r3 : Int) (w : World) (hr0 : Kd.C (Kd.int .u8) w A0 l0.length l0) (hc0 : l0.length ≤ c0) (h : thresherref02_Unframe_p.f k l0 = some (r1, r2, r3)) :
    Calls Try.prog 13 #[.slice A0 l0.length c0] w fun e w' => ∃ v0_ : Value, e = .returned (.tuple #[v0_, .int .i64 r2, .int .i64 r3]) ∧ Kd.R (Kd.int .u8) 5 w' w.heap.size (fun _ => True) v0_ r1 ∧ Below w.heap.size w w' := by
  have HR0 := Aside0.mk hr0
  have HC0 := Aside0.mk hc0
  clear hr0 hc0
  have HB := Aside0.mk (Below.refl w.heap.size w)
  have H : ((thresherref01_Var.f l0).bind fun bt161 => (if bt161.2 = 0 then (thresherref02_Unframe_p.j0 k l0 bt161.1 bt161.2 true) else (if bt161.1 > 1048576 then (thresherref02_Unframe_p.j0 k l0 bt161.1 bt161.2 true) else (thresherref02_Unframe_p.j0 k l0 bt161.1 bt161.2 (decide ((wrap64 ((l0.length : Int) - bt161.2)) < (wrap64 (4 + (wrap64 (bt161.1)))))))))) = some (r1, r2, r3) := h
  clear h
  replace H := Option.bind_eq_some_iff.mp H
  obtain ⟨⟨t161, t162⟩, A20, H⟩ := H
  replace H : (if t162 = 0 then (thresherref02_Unframe_p.j0 k l0 t161 t162 true) else (if t161 > 1048576 then (thresherref02_Unframe_p.j0 k l0 t161 t162 true) else (thresherref02_Unframe_p.j0 k l0 t161 t162 (decide ((wrap64 ((l0.length : Int) - t162)) < (wrap64 (4 + (wrap64 (t161))))))))) = some (r1, r2, r3) := H
  have A2 := Aside0.mk A20
  clear A20
  have HC3 := Aside0.mk H
  clear H
  go_enter Try.func13, Try.ntmps13
  go_upto_region 2 with (first | ((with_reducible refine gate_callee (f := 22) rfl ?_); refine goesL_ (some 10) rfl rfl Try.func22 (by kernel_rfl) rfl #[.slice A0 l0.length c0] rfl (by (try simp only [List.map_toArray, List.map_cons, List.map_nil]); first | done | rfl | (simp only [List.length_drop, List.length_take]; rfl)) ?_; (with_reducible refine (thresherref01_Var.calls _ _ l0 t161 t162 _ ?side1 ?side2 A2.out).mono ?_); (case side1 => repeat (first | exact HR0.out | (with_reducible refine Kd.C_alloc ?_ _) | (with_reducible refine Kd.C_drewN ?_ _) | (with_reducible refine Kd.C_drew ?_))); (case side2 => exact HC0.out); rintro e w4 ⟨rfl, hb⟩; refine ⟨_, rfl, ?_⟩; have n0_ := Aside0.mk (below_step (by repeat (first | (with_reducible first | exact HB.out | apply below_alloc | apply pw_below_drewN | apply below_drew1) | exact HB.out)) hb); clear HB; have HB := n0_; clear n0_; (try clear hb); (try clear hb2); (try clear hk); (try clear hi)))
  (try simp only [Act.put, List.setIfInBounds_toArray, List.set_cons_zero, List.set_cons_succ])
  go_cut [28] (fun v28 wc => ∃ (kq : Nat) (x28_2 : Bool), v28 = .bool x28_2 ∧ Aside0 (thresherref02_Unframe_p.j0 kq l0 t161 t162 x28_2 = some (r1, r2, r3)) ∧ Aside0 (kq ≤ k) ∧ Aside0 (Below w.heap.size w wc))
  case first =>
    have H := HC3.out
    clear HC3
    by_cases c5 : t162 = 0
    · rw [if_pos c5] at H
      have c5b0 : (t162 == 0) = true := beq_iff_eq.mpr c5
      have c5b1 : (t162 != 0) = false := bne_eq_false_iff_eq.mpr c5
      clear c5
      (first | rw [c5b0] | (simp only [i64_w, i32_w]; rw [c5b0]) | skip)
      have H' := Aside0.mk H
      clear H
      go_wp2
      go_meet
      case rel => exact ⟨_, (true), (by first | rfl | (simp; done) | (simp [*]; done)), H', ⟨by first | omega | exact Nat.le_refl _⟩, ⟨by repeat (first | (with_reducible first | exact HB.out | apply below_alloc | apply pw_below_drewN | apply below_drew1) | exact HB.out)⟩⟩
    · rw [if_neg c5] at H
      have c5b0 : (t162 == 0) = false := beq_eq_false_iff_ne.mpr c5
      have c5b1 : (t162 != 0) = true := bne_iff_ne.mpr c5
      (first | rw [c5b0] | (simp only [i64_w, i32_w]; rw [c5b0]) | skip)
      by_cases c6 : t161 > 1048576
      · rw [if_pos c6] at H
        have c6b0 : decide (1048576 < t161) = true := decide_eq_true c6
        clear c6
        have H' := Aside0.mk H
        clear H
        go_wp2
        go_meet
        case rel => exact ⟨_, (true), (by first | rfl | (simp; done) | (simp [*]; done)), H', ⟨by first | omega | exact Nat.le_refl _⟩, ⟨by repeat (first | (with_reducible first | exact HB.out | apply below_alloc | apply pw_below_drewN | apply below_drew1) | exact HB.out)⟩⟩
      · rw [if_neg c6] at H
        have c6b0 : decide (1048576 < t161) = false := decide_eq_false c6
        clear c6
        have H' := Aside0.mk H
        clear H
        go_wp2
        go_meet
        case rel => exact ⟨_, (decide ((wrap64 ((l0.length : Int) - t162)) < (wrap64 (4 + (wrap64 (t161)))))), (by first | rfl | (simp; done) | (simp [*]; done)), H', ⟨by first | omega | exact Nat.le_refl _⟩, ⟨by repeat (first | (with_reducible first | exact HB.out | apply below_alloc | apply pw_below_drewN | apply below_drew1) | exact HB.out)⟩⟩
  case rest =>
    clear HC3
    try clear c1
    try clear c2
    try clear p2
    try clear c5
    try clear c5b0
    try clear c5b1
    try clear c6
    try clear c6b0
    try clear p6
    obtain ⟨kq, x28_2, rfl, HA, HJ2, HB⟩ := hcut
    cases kq with
    | zero => exact absurd HA.out (by simp [thresherref02_Unframe_p.j0])
    | succ kj2 =>
      have H := HA.out
      clear HA
      simp only [thresherref02_Unframe_p.j0] at H
      by_cases c7 : x28_2 = true
      · subst c7
        have H1 : (some (([] : List Int), 0, 10)) = some (r1, r2, r3) := by rw [if_pos rfl] at H; exact H
        clear H
        have H := H1
        clear H1
        simp only [Option.some.injEq, Prod.mk.injEq] at H
        obtain ⟨rfl, rfl, rfl⟩ := H
        go_wp2
        go_ret3
        exact ⟨_, by first | rfl | (simp [errW_none, errW_some] <;> rfl) | (simp [*, errW_none, errW_some] <;> rfl), by first | exact Kd.R_nil _ _ _ _ _ | exact Kd.N_nil _ _ _ _ _ | exact Kd.V_nil _ _ _ _ _ | exact Kd.Q_nil _ _ _ _ _ | exact Kd.S_nil _ _ _ _ _, by repeat (first | (with_reducible first | exact HB.out | apply below_alloc | apply pw_below_drewN | apply below_drew1) | exact HB.out)⟩
      · replace c7 := Bool.eq_false_iff.mpr c7
        subst c7
        have H1 : ((some (([] : List Int) : List Int)).bind fun y163 => (if 0 ≤ (wrap64 (t162 + 4)) then (if (wrap64 (t162 + 4)) ≤ (wrap64 ((wrap64 (t162 + 4)) + (wrap64 (t161)))) then (if (wrap64 ((wrap64 (t162 + 4)) + (wrap64 (t161)))) ≤ (l0.length : Int) then (if y163.length + ((l0.take ((wrap64 ((wrap64 (t162 + 4)) + (wrap64 (t161)))) : Int).toNat).drop ((wrap64 (t162 + 4)) : Int).toNat).length < 140737488355328 then ((some (y163 ++ ((l0.take ((wrap64 ((wrap64 (t162 + 4)) + (wrap64 (t161)))) : Int).toNat).drop ((wrap64 (t162 + 4)) : Int).toNat) : List Int)).bind fun y167 => ((thresherref02_Sum.f y167).bind fun t170 => ((thresherref02_four.f t170).bind fun t171 => (if 0 ≤ t162 then (if t162 ≤ (wrap64 (t162 + 4)) then (if (wrap64 (t162 + 4)) ≤ (l0.length : Int) then (if (strOfNums t171).toList = (strOfNums ((l0.take ((wrap64 (t162 + 4)) : Int).toNat).drop (t162 : Int).toNat)).toList then (some (y167, wrap64 ((wrap64 (t162 + 4)) + (wrap64 (t161))), 0)) else (some (([] : List Int), 0, 11))) else (none)) else (none)) else (none))))) else (none)) else (none)) else (none)) else (none))) = some (r1, r2, r3) := by rw [if_neg (show ¬ (false = true) by decide)] at H; exact H
        clear H
        have H := H1
        clear H1
        obtain ⟨y163, hy163⟩ : ∃ y_ : List Int, y_ = (([] : List Int)) := ⟨_, rfl⟩
        replace H : (if 0 ≤ (wrap64 (t162 + 4)) then (if (wrap64 (t162 + 4)) ≤ (wrap64 ((wrap64 (t162 + 4)) + (wrap64 (t161)))) then (if (wrap64 ((wrap64 (t162 + 4)) + (wrap64 (t161)))) ≤ (l0.length : Int) then (if y163.length + ((l0.take ((wrap64 ((wrap64 (t162 + 4)) + (wrap64 (t161)))) : Int).toNat).drop ((wrap64 (t162 + 4)) : Int).toNat).length < 140737488355328 then ((some (y163 ++ ((l0.take ((wrap64 ((wrap64 (t162 + 4)) + (wrap64 (t161)))) : Int).toNat).drop ((wrap64 (t162 + 4)) : Int).toNat) : List Int)).bind fun y167 => ((thresherref02_Sum.f y167).bind fun t170 => ((thresherref02_four.f t170).bind fun t171 => (if 0 ≤ t162 then (if t162 ≤ (wrap64 (t162 + 4)) then (if (wrap64 (t162 + 4)) ≤ (l0.length : Int) then (if (strOfNums t171).toList = (strOfNums ((l0.take ((wrap64 (t162 + 4)) : Int).toNat).drop (t162 : Int).toNat)).toList then (some (y167, wrap64 ((wrap64 (t162 + 4)) + (wrap64 (t161))), 0)) else (some (([] : List Int), 0, 11))) else (none)) else (none)) else (none))))) else (none)) else (none)) else (none)) else (none)) = some (r1, r2, r3) := by first | (rw [hy163]; with_reducible exact H) | (have H2_ := (Option.bind_some _ _).symm.trans H; rw [hy163]; with_reducible exact H2_) | (have H2_ := (Option.bind_some _ _).symm.trans H; with_reducible exact H2_) | with_reducible exact H | (rw [hy163]; exact H) | exact H
        have Ny163 := Aside0.mk hy163
        clear hy163
        obtain ⟨ji8, hji8⟩ : ∃ j_ : Int, (wrap64 (t162 + 4)) = j_ := ⟨_, rfl⟩
        replace H : (if 0 ≤ (ji8) then (if (ji8) ≤ (wrap64 ((ji8) + (wrap64 (t161)))) then (if (wrap64 ((ji8) + (wrap64 (t161)))) ≤ (l0.length : Int) then (if y163.length + ((l0.take ((wrap64 ((ji8) + (wrap64 (t161)))) : Int).toNat).drop ((ji8) : Int).toNat).length < 140737488355328 then ((some (y163 ++ ((l0.take ((wrap64 ((ji8) + (wrap64 (t161)))) : Int).toNat).drop ((ji8) : Int).toNat) : List Int)).bind fun y167 => ((thresherref02_Sum.f y167).bind fun t170 => ((thresherref02_four.f t170).bind fun t171 => (if 0 ≤ t162 then (if t162 ≤ (ji8) then (if (ji8) ≤ (l0.length : Int) then (if (strOfNums t171).toList = (strOfNums ((l0.take ((ji8) : Int).toNat).drop (t162 : Int).toNat)).toList then (some (y167, wrap64 ((ji8) + (wrap64 (t161))), 0)) else (some (([] : List Int), 0, 11))) else (none)) else (none)) else (none))))) else (none)) else (none)) else (none)) else (none)) = some (r1, r2, r3) := by first | (rw [hji8] at H; exact H) | (simp only [hji8] at H ⊢; exact H)
        have hji8w : (IntKind.i64.wrap (t162 + 4)) = ji8 := (i64_w _).trans hji8
        by_cases c9 : 0 ≤ (ji8)
        · rw [if_pos c9] at H
          have c9b0 := eq_true c9
          have c9b1 : decide (0 ≤ (ji8)) = true := decide_eq_true c9
          clear c9
          by_cases c10 : (ji8) ≤ (wrap64 ((ji8) + (wrap64 (t161))))
          · rw [if_pos c10] at H
            have c10b0 := eq_true c10
            have c10b1 : decide ((ji8) ≤ (wrap64 ((ji8) + (wrap64 (t161))))) = true := decide_eq_true c10
            by_cases c11 : (wrap64 ((ji8) + (wrap64 (t161)))) ≤ (l0.length : Int)
            · rw [if_pos c11] at H
              have c11b0 := eq_true c11
              have c11b1 : decide ((wrap64 ((ji8) + (wrap64 (t161)))) ≤ (l0.length : Int)) = true := decide_eq_true c11
              by_cases c12 : y163.length + ((l0.take ((wrap64 ((ji8) + (wrap64 (t161)))) : Int).toNat).drop ((ji8) : Int).toNat).length < 140737488355328
              · rw [if_pos c12] at H
                have LMc12 := Aside0.mk c12
                clear c12
                obtain ⟨y167, hy167⟩ : ∃ y_ : List Int, y_ = (y163 ++ ((l0.take ((wrap64 ((ji8) + (wrap64 (t161)))) : Int).toNat).drop ((ji8) : Int).toNat)) := ⟨_, rfl⟩
                replace H : ((thresherref02_Sum.f y167).bind fun t170 => ((thresherref02_four.f t170).bind fun t171 => (if 0 ≤ t162 then (if t162 ≤ (ji8) then (if (ji8) ≤ (l0.length : Int) then (if (strOfNums t171).toList = (strOfNums ((l0.take ((ji8) : Int).toNat).drop (t162 : Int).toNat)).toList then (some (y167, wrap64 ((ji8) + (wrap64 (t161))), 0)) else (some (([] : List Int), 0, 11))) else (none)) else (none)) else (none)))) = some (r1, r2, r3) := by first | (rw [hy167]; with_reducible exact H) | (have H2_ := (Option.bind_some _ _).symm.trans H; rw [hy167]; with_reducible exact H2_) | (have H2_ := (Option.bind_some _ _).symm.trans H; with_reducible exact H2_) | with_reducible exact H | (rw [hy167]; exact H) | exact H
                have Ny167 := Aside0.mk hy167
                clear hy167
                replace H := Option.bind_eq_some_iff.mp H
                obtain ⟨t170, A130, H⟩ := H
                replace H : ((thresherref02_four.f t170).bind fun t171 => (if 0 ≤ t162 then (if t162 ≤ (ji8) then (if (ji8) ≤ (l0.length : Int) then (if (strOfNums t171).toList = (strOfNums ((l0.take ((ji8) : Int).toNat).drop (t162 : Int).toNat)).toList then (some (y167, wrap64 ((ji8) + (wrap64 (t161))), 0)) else (some (([] : List Int), 0, 11))) else (none)) else (none)) else (none))) = some (r1, r2, r3) := H
                have A13 := Aside0.mk A130
                clear A130
                replace H := Option.bind_eq_some_iff.mp H
                obtain ⟨t171, A140, H⟩ := H
                replace H : (if 0 ≤ t162 then (if t162 ≤ (ji8) then (if (ji8) ≤ (l0.length : Int) then (if (strOfNums t171).toList = (strOfNums ((l0.take ((ji8) : Int).toNat).drop (t162 : Int).toNat)).toList then (some (y167, wrap64 ((ji8) + (wrap64 (t161))), 0)) else (some (([] : List Int), 0, 11))) else (none)) else (none)) else (none)) = some (r1, r2, r3) := H
                have A14 := Aside0.mk A140
                clear A140
                by_cases c15 : 0 ≤ t162
                · rw [if_pos c15] at H
                  have c15b0 := eq_true c15
                  have c15b1 : decide (0 ≤ t162) = true := decide_eq_true c15
                  clear c15
                  by_cases c16 : t162 ≤ (ji8)
                  · rw [if_pos c16] at H
                    have c16b0 := eq_true c16
                    have c16b1 : decide (t162 ≤ (ji8)) = true := decide_eq_true c16
                    clear c16
                    by_cases c17 : (ji8) ≤ (l0.length : Int)
                    · rw [if_pos c17] at H
                      have c17b0 := eq_true c17
                      have c17b1 : decide ((ji8) ≤ (l0.length : Int)) = true := decide_eq_true c17
                      clear c17
                      by_cases c18 : (strOfNums t171).toList = (strOfNums ((l0.take ((ji8) : Int).toNat).drop (t162 : Int).toNat)).toList
                      · rw [if_pos c18] at H
                        have c18b0 : ((strOfNums t171).toList == (strOfNums ((l0.take ((ji8) : Int).toNat).drop (t162 : Int).toNat)).toList) = true := beq_iff_eq.mpr c18
                        have c18b1 : ((strOfNums t171).toList != (strOfNums ((l0.take ((ji8) : Int).toNat).drop (t162 : Int).toNat)).toList) = false := bne_eq_false_iff_eq.mpr c18
                        clear c18
                        simp only [Option.some.injEq, Prod.mk.injEq] at H
                        obtain ⟨rfl, rfl, rfl⟩ := H
                        try go_wp2_with (first | ((with_reducible refine gate_dst (N := 29) rfl ?_); (try (refine gate_guard (by rfl) ?_; dsimp only)); refine Kd.R_lit (Kd.int .u8) _ 5 ?hg (N := 29) ?hd (xs := ([] : List Int)) (inner := []) (ok := fun _ => True) (okp := fun _ => True) ?hr ?hp (fun _ hk => hk) trivial (Below.refl _ _) (Nat.le_refl _) (by simp) ?_; (case hd => rfl); (case hg => rfl); (case hr => first | (go_simp; done) | (go_simp; rfl)); (case hp => exact (Reps.none _ _)); intro v164 w19 ho20 hb hg_ hnew_; clear hg_ hnew_; (first | rw [← Ny163.out] at ho20 | (simp only [Int.reduceToNat] at ho20; rw [← Ny163.out] at ho20)); have n0_ := Aside0.mk (Kd.R_lower ho20 (below_size (by repeat (first | (with_reducible first | exact HB.out | apply below_alloc | apply pw_below_drewN | apply below_drew1) | exact HB.out)))); have n1_ := Aside0.mk (below_step (by repeat (first | (with_reducible first | exact HB.out | apply below_alloc | apply pw_below_drewN | apply below_drew1) | exact HB.out)) hb); clear HB; have HO165 := n0_; have HB := n1_; clear n0_ n1_; clear hb ho20; obtain ⟨i021, hi021, _, hsz21, _⟩ := info_parts info5; obtain ⟨A21, hcut21, hA21, hC21⟩ := print_mid_of (P := Try.prog) (Value.int .u8) 0 22 5 .i64 .i64 Try.underlying22 hi021 hsz21 A0 c0 l0 (ji8) (wrap64 ((ji8) + (wrap64 (t161)))) (of_decide_eq_true (by first | (with_reducible assumption) | assumption)) (by first | omega | exact of_decide_eq_true (by first | (with_reducible assumption) | assumption)) (of_decide_eq_true (by first | (with_reducible assumption) | assumption)) HC0.out; have HR166 := Aside0.mk (Kd.C_of_reads (h1 := fun _ => rfl) (hA21 _ (Kd.reads_of_C HR0.out))); have HC166 := Aside0.mk hC21; clear hA21 hC21 hi021 hsz21) | ((with_reducible refine gate_builtin (b := .append) (xs := #[.tmp 29, .tmp 38]) rfl ?_); (try (refine gate_guard (by rfl) ?_; dsimp only)); at_builtin; refine Kd.R_append_rows (Kd.int .u8) (w0 := w) w.heap.size rfl (.tmp 29) (.tmp 38) 22 5 (.int .u8 0) 1 rfl Try.underlying22 info5 rfl (by decide) (by omega) v164 y163 ((l0.take ((wrap64 ((ji8) + (wrap64 (t161)))) : Int).toNat).drop ((ji8) : Int).toNat) _ _ _ (fun _ => True) (fun _ => False) rfl rfl ?aO ?aR (fun _ _ h => h) (fun _ h => h.elim) ?aF ?aB ?aS ?aL ?_; (case aR => first | (rw [← show ((l0.take ((wrap64 ((ji8) + (wrap64 (t161)))) : Int).toNat).drop ((ji8) : Int).toNat).length = ((wrap64 ((ji8) + (wrap64 (t161)))).toNat - (ji8).toNat) from (by rw [List.length_drop, List.length_take]; have h_ : ((wrap64 ((ji8) + (wrap64 (t161)))) : Int) ≤ (l0.length : Int) := of_decide_eq_true (by first | (with_reducible assumption) | assumption); omega)]; repeat (first | exact (Kd.C_below HR166.out HB.out) | (with_reducible refine Kd.C_alloc ?_ _) | (with_reducible refine Kd.C_drewN ?_ _) | (with_reducible refine Kd.C_drew ?_))) | (repeat (first | exact (Kd.C_below HR166.out HB.out) | (with_reducible refine Kd.C_alloc ?_ _) | (with_reducible refine Kd.C_drewN ?_ _) | (with_reducible refine Kd.C_drew ?_)))); (case aB => exact (by repeat (first | (with_reducible first | exact HB.out | apply below_alloc | apply pw_below_drewN | apply below_drew1) | exact HB.out))); (case aF => exact (fun _ _ => trivial)); (case aO => exact (by (with_reducible repeat (first | apply Kd.R_alloc | apply Kd.R_drewN | apply Kd.R_drew)); exact HO165.out)); (case aS => exact (below_size (by repeat (first | (with_reducible first | exact HB.out | apply below_alloc | apply pw_below_drewN | apply below_drew1) | exact HB.out)))); (case aL => have := LMc12.out; have hlx_ := (show ((l0.take ((wrap64 ((ji8) + (wrap64 (t161)))) : Int).toNat).drop ((ji8) : Int).toNat).length = ((wrap64 ((ji8) + (wrap64 (t161)))).toNat - (ji8).toNat) from (by rw [List.length_drop, List.length_take]; have h_ : ((wrap64 ((ji8) + (wrap64 (t161)))) : Int) ≤ (l0.length : Int) := of_decide_eq_true (by first | (with_reducible assumption) | assumption); omega)); omega); intro v168 w22 ho hb hg hat; rw [← Ny167.out] at ho; have n0_ := Aside0.mk (hb); have n1_ := Aside0.mk (ho); clear HB; clear HO165; have HB := n0_; have HO169 := n1_; clear n0_ n1_; clear ho hb hg hat))
                        have n0_ := Aside0.mk (Kd.R_drew HO169.out)
                        have n1_ := Aside0.mk (below_drew1 HB.out)
                        clear HO169
                        clear HB
                        have HO169 := n0_
                        have HB := n1_
                        clear n0_ n1_
                        obtain ⟨i024, hi024, _, hsz24, _⟩ := info_parts info5
                        obtain ⟨A24, hcut24, hA24, hC24⟩ := print_mid_of (P := Try.prog) (Value.int .u8) 0 22 5 .i64 .i64 Try.underlying22 hi024 hsz24 A0 c0 l0 t162 (ji8) (of_decide_eq_true (by first | (with_reducible assumption) | assumption)) (by first | omega | exact of_decide_eq_true (by first | (with_reducible assumption) | assumption)) (of_decide_eq_true (by first | (with_reducible assumption) | assumption)) HC0.out
                        have HR174 := Aside0.mk (Kd.C_of_reads (h1 := fun _ => rfl) (hA24 _ (Kd.reads_of_C HR0.out)))
                        have HC174 := Aside0.mk hC24
                        clear hA24 hC24 hi024 hsz24
                        obtain ⟨Ao25, co25, eo25⟩ := Kd.R_slice HO169.out
                        (first | subst eo25 | (injection eo25 with f1_ f2_ f3_; have f4_ := f1_.symm; have f5_ := f3_.symm; clear f1_ f2_ f3_; subst f4_; subst f5_))
                        refine start_ (n := 11) (S := fun w' => Kd.C (Kd.int .u8) w' A24 ((l0.take ((ji8) : Int).toNat).drop (t162 : Int).toNat).length ((l0.take ((ji8) : Int).toNat).drop (t162 : Int).toNat)) (ds := []) #[false, false, false, false, false, false, false, false, false, false, false] (by kernel_rfl) rfl rfl ((Kd.C_below HR174.out (by first | exact HB.out | exact pw_below_drewN HB.out _ | exact below_drew1 HB.out))) (fun hHeld => ?_); refine with_tabW thresherref02_Unframe_p.tab5 thresherref02_Unframe_p.bits5 (fun HT_ HW_ => ?_)
                        generalize w22.drew = w23 at HO169 HB HR174 hHeld ⊢
                        refine pure_ (i := 0) (N := some 40) (v := ?_) (a' := ?_) #[true, false, false, false, false, false, false, false, false, false, false] rfl rfl (any_of HT_.out (by kernel_rfl)) (fun _ _ _ h => h) (Or.inl ⟨by rfl, ?_⟩) ?_ ?_
                        rotate_left
                        · intro w'
                          go_simp
                          with_reducible rfl
                        rotate_left
                        · simp only [Act.put, List.setIfInBounds_toArray, List.set_cons_zero, List.set_cons_succ, i64_w, i32_w]
                          rfl
                        refine pure_ (i := 4) (N := some 44) (v := ?_) (a' := ?_) #[true, false, false, false, true, false, false, false, false, false, false] rfl rfl (any_of HT_.out (by kernel_rfl)) (fun _ _ _ h => h) (Or.inl ⟨by rfl, ?_⟩) ?_ ?_
                        rotate_left
                        · intro w'
                          go_simp
                          with_reducible rfl
                        rotate_left
                        · simp only [Act.put, List.setIfInBounds_toArray, List.set_cons_zero, List.set_cons_succ, i64_w, i32_w]
                          rfl
                        refine pure_ (i := 5) (N := some 45) (v := ?_) (a' := ?_) #[true, false, false, false, true, true, false, false, false, false, false] rfl rfl (any_of HT_.out (by kernel_rfl)) (fun _ _ _ h => h) (Or.inl ⟨by rfl, ?_⟩) ?_ ?_
                        rotate_left
                        · intro w'
                          go_simp
                          with_reducible rfl
                        rotate_left
                        · simp only [Act.put, List.setIfInBounds_toArray, List.set_cons_zero, List.set_cons_succ, i64_w, i32_w]
                          rfl
                        refine pure_ (i := 6) (N := some 46) (v := ?_) (a' := ?_) #[true, false, false, false, true, true, true, false, false, false, false] rfl rfl (any_of HT_.out (by kernel_rfl)) (fun _ _ _ h => h) (Or.inl ⟨by rfl, ?_⟩) ?_ ?_
                        rotate_left
                        · intro w'
                          go_simp
                          with_reducible rfl
                        rotate_left
                        · simp only [Act.put, List.setIfInBounds_toArray, List.set_cons_zero, List.set_cons_succ, i64_w, i32_w]
                          rfl
                        refine pure_ (i := 7) (N := some 47) (v := ?_) (a' := ?_) #[true, false, false, false, true, true, true, true, false, false, false] rfl rfl (any_of HT_.out (by kernel_rfl)) (fun _ _ _ h => h) (Or.inl ⟨by rfl, ?_⟩) ?_ ?_
                        rotate_left
                        · intro w'
                          go_simp
                          with_reducible rfl
                        rotate_left
                        · simp only [Act.put, List.setIfInBounds_toArray, List.set_cons_zero, List.set_cons_succ, i64_w, i32_w]
                          rfl
                        refine pure_ (i := 8) (N := some 48) (v := ?_) (a' := ?_) #[true, false, false, false, true, true, true, true, true, false, false] rfl rfl (any_of HT_.out (by kernel_rfl)) (fun _ _ _ h => h) (Or.inl ⟨by rfl, ?_⟩) ?_ ?_
                        rotate_left
                        · intro w'
                          go_simp
                          with_reducible rfl
                        rotate_left
                        · simp only [Act.put, List.setIfInBounds_toArray, List.set_cons_zero, List.set_cons_succ, i64_w, i32_w]
                          rfl
                        refine take_ (i := 9) (N := some 49) (v := ?_) (a' := ?_) #[true, false, false, false, true, true, true, true, true, true, false] rfl rfl (take_ofW HT_.out HW_.out (by kernel_rfl)) (fun _ _ _ h => h) (Or.inl ⟨by rfl, ?_⟩) hHeld ?_ ?_
                        rotate_left
                        · intro w' s0
                          have hcv_ : ∀ n_ : Nat, n_ = ((l0.take ((ji8) : Int).toNat).drop (t162 : Int).toNat).length → (convert 22 9 (.slice A24 n_ (c0 - t162.toNat))).run Try.prog w' = .ok (.string (strOfNums ((l0.take ((ji8) : Int).toNat).drop (t162 : Int).toNat))) w' := fun n_ e_ => by rw [e_]; exact Kd.C_string Try.underlying22 Try.underlying5 Try.underlying9 s0
                          go_simp
                          with_reducible rfl
                        rotate_left
                        · simp only [Act.put, List.setIfInBounds_toArray, List.set_cons_zero, List.set_cons_succ, i64_w, i32_w]
                          rfl
                        refine one_ (i := 1) (N := some 41) #[true, true, false, false, true, true, true, true, true, true, false] rfl rfl (one_of HT_.out (by kernel_rfl)) (by decide) (fun K hK => ?_)
                        refine goes_ Try.func14 (by kernel_rfl) rfl #[.slice Ao25 y167.length co25] (by rfl) rfl rfl (by (try simp only [List.map_toArray, List.map_cons, List.map_nil]); first | done | rfl | (simp only [List.length_drop, List.length_take]; rfl)) ?_
                        with_reducible refine (thresherref02_Sum.calls _ _ y167 t170 _ ?side1 ?side2 A13.out).mono ?_
                        (case side1 => repeat (first | exact (Kd.R_reads' HO169.out).2.2 | (with_reducible refine Kd.C_alloc ?_ _) | (with_reducible refine Kd.C_drewN ?_ _) | (with_reducible refine Kd.C_drew ?_)))
                        (case side2 => exact (Kd.R_reads' HO169.out).2.1)
                        rintro e w' ⟨rfl, ⟨nd, rfl⟩⟩
                        refine ⟨_, rfl, ?_⟩
                        refine hK.out _ _ ((Kd.C_below HR174.out (by first | exact HB.out | exact pw_below_drewN HB.out _ | exact below_drew1 HB.out))) (fun hHeld => ?_)
                        clear hK K
                        refine norm_ (a' := ?_) ?_ ?_
                        rotate_left
                        · show Act.put _ (some 41) _ = _
                          simp only [Act.put, List.setIfInBounds_toArray, List.set_cons_zero, List.set_cons_succ, i64_w, i32_w]
                          rfl
                        refine one_ (i := 2) (N := some 42) #[true, true, true, false, true, true, true, true, true, true, false] rfl rfl (one_of HT_.out (by kernel_rfl)) (by decide) (fun K hK => ?_)
                        refine goes_ Try.func23 (by kernel_rfl) rfl #[.int .u32 t170] (by rfl) rfl rfl (by (try simp only [List.map_toArray, List.map_cons, List.map_nil]); first | done | rfl | (simp only [List.length_drop, List.length_take]; rfl)) ?_
                        with_reducible refine (thresherref02_four.calls t170 t171 _ A14.out).mono ?_
                        rintro e w26 ⟨v172, rfl, ho0, hb⟩
                        refine ⟨_, rfl, ?_⟩
                        have n0_ := Aside0.mk (Kd.R_elder' (by (with_reducible repeat (first | apply Kd.R_alloc | apply Kd.R_drewN | apply Kd.R_drew)); exact HO169.out) (Kd.R_base ho0) hb)
                        have n1_ := Aside0.mk (Kd.R_lower (Kd.R_new' ho0 (Kd.R_lt (by (with_reducible repeat (first | apply Kd.R_alloc | apply Kd.R_drewN | apply Kd.R_drew)); exact HO169.out))) (below_size (by repeat (first | (with_reducible first | exact HB.out | apply below_alloc | apply pw_below_drewN | apply below_drew1) | exact HB.out))))
                        have n2_ := Aside0.mk (below_step (by repeat (first | (with_reducible first | exact HB.out | apply below_alloc | apply pw_below_drewN | apply below_drew1) | exact HB.out)) hb)
                        clear HO169
                        clear HB
                        have HO169 := n0_
                        have HO173 := n1_
                        have HB := n2_
                        clear n0_ n1_ n2_
                        (try clear hb)
                        (try clear hb2)
                        (try clear hk)
                        (try clear hi)
                        (try clear ho0)
                        refine hK.out _ _ ((Kd.C_below HR174.out (by first | exact HB.out | exact pw_below_drewN HB.out _ | exact below_drew1 HB.out))) (fun hHeld => ?_)
                        clear hK K
                        refine norm_ (a' := ?_) ?_ ?_
                        rotate_left
                        · show Act.put _ (some 42) _ = _
                          simp only [Act.put, List.setIfInBounds_toArray, List.set_cons_zero, List.set_cons_succ, i64_w, i32_w]
                          rfl
                        refine one_ (i := 3) (N := some 43) #[true, true, true, true, true, true, true, true, true, true, false] rfl rfl (one_of HT_.out (by kernel_rfl)) (by decide) (fun K hK => ?_)
                        have hcv27 := own_string (P := Try.prog) Try.underlying22 Try.underlying5 Try.underlying9 (Kd.own_of_R HO173.out)
                        refine value_ (w1 := ?_) (v := ?_) (by rfl) rfl ?_ ?_
                        rotate_left 2
                        · go_simp
                          constructor
                          · rfl
                          · rfl
                        clear hcv27
                        refine hK.out _ _ ((Kd.C_below HR174.out (by first | exact HB.out | exact pw_below_drewN HB.out _ | exact below_drew1 HB.out))) (fun hHeld => ?_)
                        clear hK K
                        refine norm_ (a' := ?_) ?_ ?_
                        rotate_left
                        · show Act.put _ (some 43) _ = _
                          simp only [Act.put, List.setIfInBounds_toArray, List.set_cons_zero, List.set_cons_succ, i64_w, i32_w]
                          rfl
                        refine pure_ (i := 10) (N := some 50) (v := ?_) (a' := ?_) #[true, true, true, true, true, true, true, true, true, true, true] rfl rfl (any_of HT_.out (by kernel_rfl)) (fun _ _ _ h => h) (Or.inl ⟨by rfl, ?_⟩) ?_ ?_
                        rotate_left
                        · intro w'
                          go_simp
                          with_reducible rfl
                        rotate_left
                        · simp only [Act.put, List.setIfInBounds_toArray, List.set_cons_zero, List.set_cons_succ, i64_w, i32_w]
                          rfl
                        refine done_ (done_of HT_.out (by kernel_rfl)) ?_
                        try go_wp2
                        go_ret3
                        exact ⟨_, by first | rfl | (simp [errW_none, errW_some] <;> rfl) | (simp only [← hji8]; first | rfl | (simp [errW_none, errW_some] <;> rfl)) | (simp [*, errW_none, errW_some] <;> rfl), by (with_reducible repeat (first | apply Kd.R_alloc | apply Kd.R_drewN | apply Kd.R_drew)); exact Kd.R_mono HO169.out (fun _ hk => trivial), by repeat (first | (with_reducible first | exact HB.out | apply below_alloc | apply pw_below_drewN | apply below_drew1) | exact HB.out)⟩
                      · rw [if_neg c18] at H
                        have c18b0 : ((strOfNums t171).toList == (strOfNums ((l0.take ((ji8) : Int).toNat).drop (t162 : Int).toNat)).toList) = false := beq_eq_false_iff_ne.mpr c18
                        have c18b1 : ((strOfNums t171).toList != (strOfNums ((l0.take ((ji8) : Int).toNat).drop (t162 : Int).toNat)).toList) = true := bne_iff_ne.mpr c18
                        simp only [Option.some.injEq, Prod.mk.injEq] at H
                        obtain ⟨rfl, rfl, rfl⟩ := H
                        try go_wp2_with (first | ((with_reducible refine gate_dst (N := 29) rfl ?_); (try (refine gate_guard (by rfl) ?_; dsimp only)); refine Kd.R_lit (Kd.int .u8) _ 5 ?hg (N := 29) ?hd (xs := ([] : List Int)) (inner := []) (ok := fun _ => True) (okp := fun _ => True) ?hr ?hp (fun _ hk => hk) trivial (Below.refl _ _) (Nat.le_refl _) (by simp) ?_; (case hd => rfl); (case hg => rfl); (case hr => first | (go_simp; done) | (go_simp; rfl)); (case hp => exact (Reps.none _ _)); intro v164 w28 ho29 hb hg_ hnew_; clear hg_ hnew_; (first | rw [← Ny163.out] at ho29 | (simp only [Int.reduceToNat] at ho29; rw [← Ny163.out] at ho29)); have n0_ := Aside0.mk (Kd.R_lower ho29 (below_size (by repeat (first | (with_reducible first | exact HB.out | apply below_alloc | apply pw_below_drewN | apply below_drew1) | exact HB.out)))); have n1_ := Aside0.mk (below_step (by repeat (first | (with_reducible first | exact HB.out | apply below_alloc | apply pw_below_drewN | apply below_drew1) | exact HB.out)) hb); clear HB; have HO165 := n0_; have HB := n1_; clear n0_ n1_; clear hb ho29; obtain ⟨i030, hi030, _, hsz30, _⟩ := info_parts info5; obtain ⟨A30, hcut30, hA30, hC30⟩ := print_mid_of (P := Try.prog) (Value.int .u8) 0 22 5 .i64 .i64 Try.underlying22 hi030 hsz30 A0 c0 l0 (ji8) (wrap64 ((ji8) + (wrap64 (t161)))) (of_decide_eq_true (by first | (with_reducible assumption) | assumption)) (by first | omega | exact of_decide_eq_true (by first | (with_reducible assumption) | assumption)) (of_decide_eq_true (by first | (with_reducible assumption) | assumption)) HC0.out; have HR166 := Aside0.mk (Kd.C_of_reads (h1 := fun _ => rfl) (hA30 _ (Kd.reads_of_C HR0.out))); have HC166 := Aside0.mk hC30; clear hA30 hC30 hi030 hsz30) | ((with_reducible refine gate_builtin (b := .append) (xs := #[.tmp 29, .tmp 38]) rfl ?_); (try (refine gate_guard (by rfl) ?_; dsimp only)); at_builtin; refine Kd.R_append_rows (Kd.int .u8) (w0 := w) w.heap.size rfl (.tmp 29) (.tmp 38) 22 5 (.int .u8 0) 1 rfl Try.underlying22 info5 rfl (by decide) (by omega) v164 y163 ((l0.take ((wrap64 ((ji8) + (wrap64 (t161)))) : Int).toNat).drop ((ji8) : Int).toNat) _ _ _ (fun _ => True) (fun _ => False) rfl rfl ?aO ?aR (fun _ _ h => h) (fun _ h => h.elim) ?aF ?aB ?aS ?aL ?_; (case aR => first | (rw [← show ((l0.take ((wrap64 ((ji8) + (wrap64 (t161)))) : Int).toNat).drop ((ji8) : Int).toNat).length = ((wrap64 ((ji8) + (wrap64 (t161)))).toNat - (ji8).toNat) from (by rw [List.length_drop, List.length_take]; have h_ : ((wrap64 ((ji8) + (wrap64 (t161)))) : Int) ≤ (l0.length : Int) := of_decide_eq_true (by first | (with_reducible assumption) | assumption); omega)]; repeat (first | exact (Kd.C_below HR166.out HB.out) | (with_reducible refine Kd.C_alloc ?_ _) | (with_reducible refine Kd.C_drewN ?_ _) | (with_reducible refine Kd.C_drew ?_))) | (repeat (first | exact (Kd.C_below HR166.out HB.out) | (with_reducible refine Kd.C_alloc ?_ _) | (with_reducible refine Kd.C_drewN ?_ _) | (with_reducible refine Kd.C_drew ?_)))); (case aB => exact (by repeat (first | (with_reducible first | exact HB.out | apply below_alloc | apply pw_below_drewN | apply below_drew1) | exact HB.out))); (case aF => exact (fun _ _ => trivial)); (case aO => exact (by (with_reducible repeat (first | apply Kd.R_alloc | apply Kd.R_drewN | apply Kd.R_drew)); exact HO165.out)); (case aS => exact (below_size (by repeat (first | (with_reducible first | exact HB.out | apply below_alloc | apply pw_below_drewN | apply below_drew1) | exact HB.out)))); (case aL => have := LMc12.out; have hlx_ := (show ((l0.take ((wrap64 ((ji8) + (wrap64 (t161)))) : Int).toNat).drop ((ji8) : Int).toNat).length = ((wrap64 ((ji8) + (wrap64 (t161)))).toNat - (ji8).toNat) from (by rw [List.length_drop, List.length_take]; have h_ : ((wrap64 ((ji8) + (wrap64 (t161)))) : Int) ≤ (l0.length : Int) := of_decide_eq_true (by first | (with_reducible assumption) | assumption); omega)); omega); intro v168 w31 ho hb hg hat; rw [← Ny167.out] at ho; have n0_ := Aside0.mk (hb); have n1_ := Aside0.mk (ho); clear HB; clear HO165; have HB := n0_; have HO169 := n1_; clear n0_ n1_; clear ho hb hg hat))
                        have n0_ := Aside0.mk (Kd.R_drew HO169.out)
                        have n1_ := Aside0.mk (below_drew1 HB.out)
                        clear HO169
                        clear HB
                        have HO169 := n0_
                        have HB := n1_
                        clear n0_ n1_
                        obtain ⟨i033, hi033, _, hsz33, _⟩ := info_parts info5
                        (try clear hcut24)
                        obtain ⟨A33, hcut33, hA33, hC33⟩ := print_mid_of (P := Try.prog) (Value.int .u8) 0 22 5 .i64 .i64 Try.underlying22 hi033 hsz33 A0 c0 l0 t162 (ji8) (of_decide_eq_true (by first | (with_reducible assumption) | assumption)) (by first | omega | exact of_decide_eq_true (by first | (with_reducible assumption) | assumption)) (of_decide_eq_true (by first | (with_reducible assumption) | assumption)) HC0.out
                        have HR174 := Aside0.mk (Kd.C_of_reads (h1 := fun _ => rfl) (hA33 _ (Kd.reads_of_C HR0.out)))
                        have HC174 := Aside0.mk hC33
                        clear hA33 hC33 hi033 hsz33
                        obtain ⟨Ao34, co34, eo34⟩ := Kd.R_slice HO169.out
                        (first | subst eo34 | (injection eo34 with f1_ f2_ f3_; have f4_ := f1_.symm; have f5_ := f3_.symm; clear f1_ f2_ f3_; subst f4_; subst f5_))
                        refine start_ (n := 11) (S := fun w' => Kd.C (Kd.int .u8) w' A33 ((l0.take ((ji8) : Int).toNat).drop (t162 : Int).toNat).length ((l0.take ((ji8) : Int).toNat).drop (t162 : Int).toNat)) (ds := []) #[false, false, false, false, false, false, false, false, false, false, false] (by kernel_rfl) rfl rfl ((Kd.C_below HR174.out (by first | exact HB.out | exact pw_below_drewN HB.out _ | exact below_drew1 HB.out))) (fun hHeld => ?_); refine with_tabW thresherref02_Unframe_p.tab5 thresherref02_Unframe_p.bits5 (fun HT_ HW_ => ?_)
                        generalize w31.drew = w32 at HO169 HB HR174 hHeld ⊢
                        refine pure_ (i := 0) (N := some 40) (v := ?_) (a' := ?_) #[true, false, false, false, false, false, false, false, false, false, false] rfl rfl (any_of HT_.out (by kernel_rfl)) (fun _ _ _ h => h) (Or.inl ⟨by rfl, ?_⟩) ?_ ?_
                        rotate_left
                        · intro w'
                          go_simp
                          with_reducible rfl
                        rotate_left
                        · simp only [Act.put, List.setIfInBounds_toArray, List.set_cons_zero, List.set_cons_succ, i64_w, i32_w]
                          rfl
                        refine pure_ (i := 4) (N := some 44) (v := ?_) (a' := ?_) #[true, false, false, false, true, false, false, false, false, false, false] rfl rfl (any_of HT_.out (by kernel_rfl)) (fun _ _ _ h => h) (Or.inl ⟨by rfl, ?_⟩) ?_ ?_
                        rotate_left
                        · intro w'
                          go_simp
                          with_reducible rfl
                        rotate_left
                        · simp only [Act.put, List.setIfInBounds_toArray, List.set_cons_zero, List.set_cons_succ, i64_w, i32_w]
                          rfl
                        refine pure_ (i := 5) (N := some 45) (v := ?_) (a' := ?_) #[true, false, false, false, true, true, false, false, false, false, false] rfl rfl (any_of HT_.out (by kernel_rfl)) (fun _ _ _ h => h) (Or.inl ⟨by rfl, ?_⟩) ?_ ?_
                        rotate_left
                        · intro w'
                          go_simp
                          with_reducible rfl
                        rotate_left
                        · simp only [Act.put, List.setIfInBounds_toArray, List.set_cons_zero, List.set_cons_succ, i64_w, i32_w]
                          rfl
                        refine pure_ (i := 6) (N := some 46) (v := ?_) (a' := ?_) #[true, false, false, false, true, true, true, false, false, false, false] rfl rfl (any_of HT_.out (by kernel_rfl)) (fun _ _ _ h => h) (Or.inl ⟨by rfl, ?_⟩) ?_ ?_
                        rotate_left
                        · intro w'
                          go_simp
                          with_reducible rfl
                        rotate_left
                        · simp only [Act.put, List.setIfInBounds_toArray, List.set_cons_zero, List.set_cons_succ, i64_w, i32_w]
                          rfl
                        refine pure_ (i := 7) (N := some 47) (v := ?_) (a' := ?_) #[true, false, false, false, true, true, true, true, false, false, false] rfl rfl (any_of HT_.out (by kernel_rfl)) (fun _ _ _ h => h) (Or.inl ⟨by rfl, ?_⟩) ?_ ?_
                        rotate_left
                        · intro w'
                          go_simp
                          with_reducible rfl
                        rotate_left
                        · simp only [Act.put, List.setIfInBounds_toArray, List.set_cons_zero, List.set_cons_succ, i64_w, i32_w]
                          rfl
                        refine pure_ (i := 8) (N := some 48) (v := ?_) (a' := ?_) #[true, false, false, false, true, true, true, true, true, false, false] rfl rfl (any_of HT_.out (by kernel_rfl)) (fun _ _ _ h => h) (Or.inl ⟨by rfl, ?_⟩) ?_ ?_
                        rotate_left
                        · intro w'
                          go_simp
                          with_reducible rfl
                        rotate_left
                        · simp only [Act.put, List.setIfInBounds_toArray, List.set_cons_zero, List.set_cons_succ, i64_w, i32_w]
                          rfl
                        refine take_ (i := 9) (N := some 49) (v := ?_) (a' := ?_) #[true, false, false, false, true, true, true, true, true, true, false] rfl rfl (take_ofW HT_.out HW_.out (by kernel_rfl)) (fun _ _ _ h => h) (Or.inl ⟨by rfl, ?_⟩) hHeld ?_ ?_
                        rotate_left
                        · intro w' s0
                          have hcv_ : ∀ n_ : Nat, n_ = ((l0.take ((ji8) : Int).toNat).drop (t162 : Int).toNat).length → (convert 22 9 (.slice A33 n_ (c0 - t162.toNat))).run Try.prog w' = .ok (.string (strOfNums ((l0.take ((ji8) : Int).toNat).drop (t162 : Int).toNat))) w' := fun n_ e_ => by rw [e_]; exact Kd.C_string Try.underlying22 Try.underlying5 Try.underlying9 s0
                          go_simp
                          with_reducible rfl
                        rotate_left
                        · simp only [Act.put, List.setIfInBounds_toArray, List.set_cons_zero, List.set_cons_succ, i64_w, i32_w]
                          rfl
                        refine one_ (i := 1) (N := some 41) #[true, true, false, false, true, true, true, true, true, true, false] rfl rfl (one_of HT_.out (by kernel_rfl)) (by decide) (fun K hK => ?_)
                        refine goes_ Try.func14 (by kernel_rfl) rfl #[.slice Ao34 y167.length co34] (by rfl) rfl rfl (by (try simp only [List.map_toArray, List.map_cons, List.map_nil]); first | done | rfl | (simp only [List.length_drop, List.length_take]; rfl)) ?_
                        with_reducible refine (thresherref02_Sum.calls _ _ y167 t170 _ ?side1 ?side2 A13.out).mono ?_
                        (case side1 => repeat (first | exact (Kd.R_reads' HO169.out).2.2 | (with_reducible refine Kd.C_alloc ?_ _) | (with_reducible refine Kd.C_drewN ?_ _) | (with_reducible refine Kd.C_drew ?_)))
                        (case side2 => exact (Kd.R_reads' HO169.out).2.1)
                        rintro e w' ⟨rfl, ⟨nd, rfl⟩⟩
                        refine ⟨_, rfl, ?_⟩
                        refine hK.out _ _ ((Kd.C_below HR174.out (by first | exact HB.out | exact pw_below_drewN HB.out _ | exact below_drew1 HB.out))) (fun hHeld => ?_)
                        clear hK K
                        refine norm_ (a' := ?_) ?_ ?_
                        rotate_left
                        · show Act.put _ (some 41) _ = _
                          simp only [Act.put, List.setIfInBounds_toArray, List.set_cons_zero, List.set_cons_succ, i64_w, i32_w]
                          rfl
                        refine one_ (i := 2) (N := some 42) #[true, true, true, false, true, true, true, true, true, true, false] rfl rfl (one_of HT_.out (by kernel_rfl)) (by decide) (fun K hK => ?_)
                        refine goes_ Try.func23 (by kernel_rfl) rfl #[.int .u32 t170] (by rfl) rfl rfl (by (try simp only [List.map_toArray, List.map_cons, List.map_nil]); first | done | rfl | (simp only [List.length_drop, List.length_take]; rfl)) ?_
                        with_reducible refine (thresherref02_four.calls t170 t171 _ A14.out).mono ?_
                        rintro e w35 ⟨v172, rfl, ho0, hb⟩
                        refine ⟨_, rfl, ?_⟩
                        have n0_ := Aside0.mk (Kd.R_elder' (by (with_reducible repeat (first | apply Kd.R_alloc | apply Kd.R_drewN | apply Kd.R_drew)); exact HO169.out) (Kd.R_base ho0) hb)
                        have n1_ := Aside0.mk (Kd.R_lower (Kd.R_new' ho0 (Kd.R_lt (by (with_reducible repeat (first | apply Kd.R_alloc | apply Kd.R_drewN | apply Kd.R_drew)); exact HO169.out))) (below_size (by repeat (first | (with_reducible first | exact HB.out | apply below_alloc | apply pw_below_drewN | apply below_drew1) | exact HB.out))))
                        have n2_ := Aside0.mk (below_step (by repeat (first | (with_reducible first | exact HB.out | apply below_alloc | apply pw_below_drewN | apply below_drew1) | exact HB.out)) hb)
                        clear HO169
                        clear HB
                        have HO169 := n0_
                        have HO173 := n1_
                        have HB := n2_
                        clear n0_ n1_ n2_
                        (try clear hb)
                        (try clear hb2)
                        (try clear hk)
                        (try clear hi)
                        (try clear ho0)
                        refine hK.out _ _ ((Kd.C_below HR174.out (by first | exact HB.out | exact pw_below_drewN HB.out _ | exact below_drew1 HB.out))) (fun hHeld => ?_)
                        clear hK K
                        refine norm_ (a' := ?_) ?_ ?_
                        rotate_left
                        · show Act.put _ (some 42) _ = _
                          simp only [Act.put, List.setIfInBounds_toArray, List.set_cons_zero, List.set_cons_succ, i64_w, i32_w]
                          rfl
                        refine one_ (i := 3) (N := some 43) #[true, true, true, true, true, true, true, true, true, true, false] rfl rfl (one_of HT_.out (by kernel_rfl)) (by decide) (fun K hK => ?_)
                        have hcv36 := own_string (P := Try.prog) Try.underlying22 Try.underlying5 Try.underlying9 (Kd.own_of_R HO173.out)
                        refine value_ (w1 := ?_) (v := ?_) (by rfl) rfl ?_ ?_
                        rotate_left 2
                        · go_simp
                          constructor
                          · rfl
                          · rfl
                        clear hcv36
                        refine hK.out _ _ ((Kd.C_below HR174.out (by first | exact HB.out | exact pw_below_drewN HB.out _ | exact below_drew1 HB.out))) (fun hHeld => ?_)
                        clear hK K
                        refine norm_ (a' := ?_) ?_ ?_
                        rotate_left
                        · show Act.put _ (some 43) _ = _
                          simp only [Act.put, List.setIfInBounds_toArray, List.set_cons_zero, List.set_cons_succ, i64_w, i32_w]
                          rfl
                        refine pure_ (i := 10) (N := some 50) (v := ?_) (a' := ?_) #[true, true, true, true, true, true, true, true, true, true, true] rfl rfl (any_of HT_.out (by kernel_rfl)) (fun _ _ _ h => h) (Or.inl ⟨by rfl, ?_⟩) ?_ ?_
                        rotate_left
                        · intro w'
                          go_simp
                          with_reducible rfl
                        rotate_left
                        · simp only [Act.put, List.setIfInBounds_toArray, List.set_cons_zero, List.set_cons_succ, i64_w, i32_w]
                          rfl
                        refine done_ (done_of HT_.out (by kernel_rfl)) ?_
                        try go_wp2
                        go_ret3
                        exact ⟨_, by first | rfl | (simp [errW_none, errW_some] <;> rfl) | (simp only [← hji8]; first | rfl | (simp [errW_none, errW_some] <;> rfl)) | (simp [*, errW_none, errW_some] <;> rfl), by first | exact Kd.R_nil _ _ _ _ _ | exact Kd.N_nil _ _ _ _ _ | exact Kd.V_nil _ _ _ _ _ | exact Kd.Q_nil _ _ _ _ _ | exact Kd.S_nil _ _ _ _ _, by repeat (first | (with_reducible first | exact HB.out | apply below_alloc | apply pw_below_drewN | apply below_drew1) | exact HB.out)⟩
                    · rw [if_neg c17] at H
                      exact absurd H (by simp)
                  · rw [if_neg c16] at H
                    exact absurd H (by simp)
                · rw [if_neg c15] at H
                  exact absurd H (by simp)
              · rw [if_neg c12] at H
                exact absurd H (by simp)
            · rw [if_neg c11] at H
              exact absurd H (by simp)
          · rw [if_neg c10] at H
            exact absurd H (by simp)
        · rw [if_neg c9] at H
          exact absurd H (by simp)

/-! ### thresherref02_Unframe: plain, of function 13 -/
def thresherref02_Unframe.f (l0 : List Int) : Option (List Int × Int × Int) := if YtfnlohopfoekfaaH.Crc.isB l0 then some (YtfnlohopfoekfaaH.Fr.unframeI l0) else none
set_option maxHeartbeats 2000000 in
theorem thresherref02_Unframe.ev (l0 : List Int) (r : List Int × Int × Int) (h : thresherref02_Unframe.f l0 = some r) (hl : l0.length ≤ 9223372036854775807) : Ev (fun k => thresherref02_Unframe_p.f k l0) r := by
  unfold thresherref02_Unframe.f at h
  split at h
  · rename_i hB
    obtain rfl := Option.some.inj h
    have hr := YtfnlohopfoekfaaH.Var.varI_range l0
    have hv := YtfnlohopfoekfaaH.Var.varI_some l0 hB (YtfnlohopfoekfaaH.Var.varI l0).1 (YtfnlohopfoekfaaH.Var.varI l0).2 rfl
    have hf : thresherref01_Var.f l0 = some (YtfnlohopfoekfaaH.Var.varI l0) := by unfold thresherref01_Var.f; rw [if_pos hB]
    unfold YtfnlohopfoekfaaH.Fr.unframeI
    generalize YtfnlohopfoekfaaH.Var.varI l0 = p at hr hv hf ⊢
    obtain ⟨n, k0⟩ := p
    simp only at hr hv ⊢
    have hj : ∀ b : Bool, b = decide (k0 = 0 ∨ n > 1048576 ∨ (l0.length : Int) - k0 < n + 4) → Ev (fun k => thresherref02_Unframe_p.j0 k l0 n k0 b) (if k0 = 0 ∨ n > 1048576 ∨ (l0.length : Int) - k0 < n + 4 then ([], 0, 10)
        else if YtfnlohopfoekfaaH.Fr.sum4 (YtfnlohopfoekfaaH.Crc.crcI ((l0.take (k0 + 4 + n).toNat).drop (k0 + 4).toNat)) = (l0.take (k0 + 4).toNat).drop k0.toNat then ((l0.take (k0 + 4 + n).toNat).drop (k0 + 4).toNat, k0 + 4 + n, 0) else ([], 0, 11)) := by
      intro b hb
      by_cases hc : k0 = 0 ∨ n > 1048576 ∨ (l0.length : Int) - k0 < n + 4
      · rw [decide_eq_true hc] at hb
        subst hb
        rw [if_pos hc]
        refine Ev.step (fun k => ?_) (Ev.now _)
        simp only [thresherref02_Unframe_p.j0]
        rw [if_pos trivial]
      · rw [decide_eq_false hc] at hb
        subst hb
        rw [if_neg hc]
        have hv' := hv (fun h => hc (Or.inl h))
        have hn : n ≤ 1048576 := by
          refine Classical.byContradiction fun h => hc (Or.inr (Or.inl (by omega)))
        have hlen : n + 4 ≤ l0.length - k0 := by
          refine Classical.byContradiction fun h => hc (Or.inr (Or.inr (by omega)))
        have w1 : wrap64 (k0 + 4) = k0 + 4 := YtfnlohopfoekfaaH.Crc.wrap64_in _ (by omega) (by omega)
        have w2 : wrap64 n = n := YtfnlohopfoekfaaH.Crc.wrap64_in _ (by omega) (by omega)
        have w3 : wrap64 (k0 + 4 + n) = k0 + 4 + n := YtfnlohopfoekfaaH.Crc.wrap64_in _ (by omega) (by omega)
        have hBd : YtfnlohopfoekfaaH.Crc.isB ((l0.take (k0 + 4 + n).toNat).drop (k0 + 4).toNat) := YtfnlohopfoekfaaH.Var.isB_drop (YtfnlohopfoekfaaH.Var.isB_take hB _) _
        have hBk : YtfnlohopfoekfaaH.Crc.isB ((l0.take (k0 + 4).toNat).drop k0.toNat) := YtfnlohopfoekfaaH.Var.isB_drop (YtfnlohopfoekfaaH.Var.isB_take hB _) _
        have hcr := YtfnlohopfoekfaaH.Crc.crcI_range hBd
        refine Ev.step (f := fun _ => some (if YtfnlohopfoekfaaH.Fr.sum4 (YtfnlohopfoekfaaH.Crc.crcI ((l0.take (k0 + 4 + n).toNat).drop (k0 + 4).toNat)) = (l0.take (k0 + 4).toNat).drop k0.toNat then ((l0.take (k0 + 4 + n).toNat).drop (k0 + 4).toNat, k0 + 4 + n, 0) else ([], 0, 11))) (fun k => ?_) (Ev.now _)
        simp only [thresherref02_Unframe_p.j0]
        rw [if_neg (by simp), w1, w2, w3]
        have hl2 : ((l0.take (k0 + 4 + n).toNat).drop (k0 + 4).toNat).length ≤ 1048576 := by rw [List.length_drop, List.length_take]; omega
        generalize (l0.take (k0 + 4 + n).toNat).drop (k0 + 4).toNat = out at hBd hcr hl2 ⊢
        rw [Option.bind_some, if_pos (by omega), if_pos (by omega), if_pos (by omega), List.nil_append, if_pos (by simp; omega)]
        rw [Option.bind_some]
        unfold thresherref02_Sum.f
        rw [if_pos hBd]
        rw [Option.bind_some]
        unfold thresherref02_four.f
        rw [if_pos hcr]
        rw [Option.bind_some]
        rw [if_pos (by omega), if_pos (by omega), if_pos (by omega)]
        by_cases hs : YtfnlohopfoekfaaH.Fr.sum4 (YtfnlohopfoekfaaH.Crc.crcI out) = (l0.take (k0 + 4).toNat).drop k0.toNat
        · rw [if_pos hs, if_pos (by rw [hs])]
        · rw [if_neg hs, if_neg (fun h => hs ((YtfnlohopfoekfaaH.Fr.str_eq (YtfnlohopfoekfaaH.Fr.isB_sum4 _) hBk).1 h))]
    have wl : wrap64 ((l0.length : Int) - k0) = (l0.length : Int) - k0 := YtfnlohopfoekfaaH.Crc.wrap64_in _ (by omega) (by omega)
    by_cases h0 : k0 = 0
    · refine Ev.congr (fun k => ?_) (hj true (by simp [h0]))
      unfold thresherref02_Unframe_p.f
      rw [hf]
      rw [Option.bind_some]
      rw [if_pos h0]
    · by_cases h1 : n > 1048576
      · refine Ev.congr (fun k => ?_) (hj true (by simp [h1]))
        unfold thresherref02_Unframe_p.f
        rw [hf]
        rw [Option.bind_some]
        rw [if_neg h0, if_pos h1]
      · refine Ev.congr (fun k => ?_) (hj (decide ((l0.length : Int) - k0 < n + 4)) (by simp [h0, h1]))
        unfold thresherref02_Unframe_p.f
        rw [hf]
        rw [Option.bind_some]
        rw [if_neg h0, if_neg h1, wl]
        have u1 : wrap64 n = n := YtfnlohopfoekfaaH.Crc.wrap64_in _ (by omega) (by omega)
        have u2 : wrap64 (4 + n) = n + 4 := by rw [YtfnlohopfoekfaaH.Crc.wrap64_in _ (by omega) (by omega)]; omega
        rw [u1, u2]
  · cases h
theorem thresherref02_Unframe.calls (A0 : Option Addr) (c0 : Nat) (l0 : List Int) (r1 : List Int) (r2 : Int) (r3 : Int) (w : World) (hr0 : Kd.C (Kd.int .u8) w A0 l0.length l0) (hc0 : l0.length ≤ c0) (h : thresherref02_Unframe.f l0 = some (r1, r2, r3)) :
    Calls Try.prog 13 #[.slice A0 l0.length c0] w fun e w' => ∃ v0_ : Value, e = .returned (.tuple #[v0_, .int .i64 r2, .int .i64 r3]) ∧ Kd.R (Kd.int .u8) 5 w' w.heap.size (fun _ => True) v0_ r1 ∧ Below w.heap.size w w' := by
  obtain ⟨k, hk⟩ := (thresherref02_Unframe.ev l0 _ h (by first | exact hr0.2.1 | exact (Kd.V_reads' hs0).2.2.2.1 | exact (Kd.R_reads' ho0).2.2.2.1)).rounds
  exact thresherref02_Unframe_p.calls k A0 c0 l0 r1 r2 r3 w hr0 hc0 hk

/-! ### slices_Grow_byte_byte: function 30 -/
set_option maxHeartbeats 1000000 in
set_option maxRecDepth 100000 in
/-- slices.Grow of nil: an empty row of one's own. -/
theorem slices_Grow_byte_byte.calls_nil (n : Int) (w : World) (h0 : 0 ≤ n) (hn : n.toNat * 1 ≤ 140737488355328) :
    Calls Try.prog 30 #[.slice none 0 0, .int .i64 n] w fun e w' => ∃ v0_ : Value, e = .returned v0_ ∧ Kd.R (Kd.int .u8) 5 w' w.heap.size (fun _ => True) v0_ [] ∧ Below w.heap.size w w' := by
  have hn' : n ≤ 140737488355328 := by omega
  have h0b : decide (n < 0) = false := by simpa using h0
  by_cases hp : 0 < n
  · have hpb : decide (0 < n) = true := by simpa using hp
    go_enter Try.func30, Try.ntmps30
    go_wp2_with (first | (at_builtin; refine Kd.R_append_zeros (Kd.int .u8) (w0 := w) w.heap.size rfl _ _ 22 3 5 (.int .u8 0) 1 rfl Try.underlying22 Try.underlying3 info5 rfl (by decide) (by omega) (.slice none 0 0) [] 0 n (fun _ => True) rfl rfl rfl (fun _ _ => trivial) (Kd.R_nil _ _ _ _ _) h0 ?hB ?hS ?hL ?_; (case hB => exact Below.refl _ _); (case hS => exact Nat.le_refl _); (case hL => simp; omega); intro v1 w1 ho hb hg hat; obtain ⟨Ao, co, eo⟩ := Kd.R_slice ho; subst eo))
    go_ret
    exact ⟨_, rfl, by have := Kd.R_take ho (m := 0) (Nat.zero_le _); simpa using this, hb⟩
  · have hz : n = 0 := by omega
    subst hz
    go_enter Try.func30, Try.ntmps30
    go_wp2
    go_ret
    exact ⟨_, rfl, Kd.R_nil _ _ _ _ _, Below.refl _ _⟩

/-! ### slices_Concat_byte_byte: function 24 -/
def slices_Concat_byte_byte.f (l0 : List (List Int)) : Option (List Int) := if l0.flatten.length * 1 < 140737488355328 then some l0.flatten else none
set_option maxHeartbeats 1000000 in
set_option maxRecDepth 100000 in
theorem slices_Concat_byte_byte.calls (A0 : Option Addr) (c0 : Nat) (l0 : List (List Int)) (r : List Int) (w : World) (hr0 : Kd.C (Kd.slice 5 (Kd.int .u8)) w A0 l0.length l0) (hc0 : l0.length ≤ c0) (h : slices_Concat_byte_byte.f l0 = some r) :
    Calls Try.prog 24 #[.slice A0 l0.length c0] w fun e w' => ∃ v0_ : Value, e = .returned v0_ ∧ Kd.R (Kd.int .u8) 5 w' w.heap.size (fun _ => True) v0_ r ∧ Below w.heap.size w w' := by
  have hlim : l0.flatten.length * 1 < 140737488355328 ∧ l0.flatten = r := by
    unfold slices_Concat_byte_byte.f at h
    split at h
    · exact ⟨by assumption, Option.some.inj h⟩
    · cases h
  obtain ⟨hlim, hres⟩ := hlim
  subst hres
  have HL := Aside0.mk hlim
  have HR0 := Aside0.mk hr0
  have HC0 := Aside0.mk hc0
  have hlen : l0.length ≤ 9223372036854775807 := hr0.2.1
  clear h hr0 hc0 hlim
  go_enter Try.func24, Try.ntmps24
  go_wp2
  go_loop [3, 11] (fun v3 v11 => ∃ k : Nat, k ≤ l0.length ∧ v11 = .int .i64 k ∧ v3 = .int .i64 (YtfnlohopfoekfaaH.flen l0 k : Nat)) (fun _ v11 => l0.length - (intOf v11).toNat)
  case atStart => exact ⟨0, Nat.zero_le _, rfl, rfl⟩
  case round =>
    obtain ⟨k, hk, rfl, rfl⟩ := hrel
    have hlb : YtfnlohopfoekfaaH.flen l0 k ≤ 140737488355328 := by have := HL.out; have := YtfnlohopfoekfaaH.flen_le l0 k; omega
    by_cases hlt : k < l0.length
    · obtain ⟨ad, A1, c1, rfl, hcell, hlen1, hC1⟩ := YtfnlohopfoekfaaH.at_row HR0.out k hlt
      have hn := Aside0.mk (YtfnlohopfoekfaaH.flen_succ l0 k hlt)
      have hpre2 : YtfnlohopfoekfaaH.flen l0 k + l0[k].length ≤ 140737488355328 := by
        have h1 := YtfnlohopfoekfaaH.flen_le l0 (k + 1)
        rw [hn.out] at h1
        have := HL.out
        omega
      have hneg : decide ((YtfnlohopfoekfaaH.flen l0 k : Int) + (l0[k].length : Int) < 0) = false := by simp; omega
      have HcC := Aside0.mk hC1
      have HL1 := Aside0.mk hlen1
      clear hC1 hlen1
      go_wp2
      go_round
      case rel => exact ⟨k + 1, by omega, by go_num, by rw [hn.out]; go_num⟩
      case measure => simp [intOf]; omega
    · have hkk : k = l0.length := by omega
      subst hkk
      have htk := Aside0.mk (YtfnlohopfoekfaaH.flen_all l0)
      clear hlt hk
      go_wp2_with fail
      refine (slices_Grow_byte_byte.calls_nil _ _ (by omega) (by have := HL.out; have := htk.out; omega)).mono ?_
      rintro e w1 ⟨v, rfl, hv, hb⟩
      have HV := Aside0.mk hv
      have HB := Aside0.mk hb
      clear hv hb
      go_wp2_with fail
      go_loopw [6, 27] (fun v6 v27 w' => ∃ k : Nat, k ≤ l0.length ∧ v27 = .int .i64 k ∧ Aside0 (Kd.R (Kd.int .u8) 5 w' w.heap.size (fun _ => True) v6 (l0.take k).flatten) ∧ Aside0 (Below w.heap.size w w')) (fun _ v27 _ => l0.length - (intOf v27).toNat)
      case atStart => exact ⟨0, Nat.zero_le _, rfl, HV, HB⟩
      case round =>
        obtain ⟨k, hk, rfl, hv, hb⟩ := hrel
        clear HV HB
        have HV := Aside0.mk hv.out
        have HB := Aside0.mk hb.out
        clear hv hb
        by_cases hlt : k < l0.length
        · obtain ⟨ad, A1, c1, rfl, hcell, hlen1, hC1⟩ := YtfnlohopfoekfaaH.at_row (Kd.C_below HR0.out HB.out) k hlt
          have hn := Aside0.mk (YtfnlohopfoekfaaH.flat_take_succ l0 k hlt)
          have hpre2 : YtfnlohopfoekfaaH.flen l0 k + l0[k].length ≤ l0.flatten.length := by
            have h1 := YtfnlohopfoekfaaH.flen_le l0 (k + 1)
            rw [YtfnlohopfoekfaaH.flen_succ l0 k hlt] at h1
            exact h1
          have HL2 := Aside0.mk hpre2
          have HcC := Aside0.mk hC1
          have HL1 := Aside0.mk hlen1
          clear hC1 hlen1 hpre2
          go_wp2_with (first | (at_builtin; go_must (refine Kd.R_append_rows (Kd.int .u8) (w0 := w) w.heap.size rfl _ _ 22 5 (.int .u8 0) 1 rfl Try.underlying22 info5 rfl (by decide) (by omega) _ (l0.take k).flatten l0[k] A1 _ c1 (fun _ => True) (fun _ => False) rfl rfl HV.out HcC.out (fun _ _ h => h) (fun _ h => h.elim) (fun _ _ => trivial) HB.out (below_size HB.out) (by have h1 := HL.out; have h2 := HL2.out; unfold YtfnlohopfoekfaaH.flen at h2; omega) ?_); intro v1 w2 ho hb hg hat))
          go_round
          case rel => exact ⟨k + 1, by omega, by go_num, ⟨by rw [hn.out]; exact ho⟩, ⟨hb⟩⟩
          case measure => simp [intOf]; omega
        · have hkk : k = l0.length := by omega
          subst hkk
          clear hlt hk
          go_wp2
          go_ret
          exact ⟨_, rfl, by have := HV.out; rwa [List.take_length] at this, HB.out⟩

end Go.Proofs.Ytfnlohopfoekfaa.PCrcAll
