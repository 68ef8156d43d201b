-- Written by hp.py (own driver over print.py) out of the translation, hand-made functions among it. Lean checks it.
import Derived.Test.YtanfmnobanhcnaaPRec3x0
namespace Go.Proofs.Ytanfmnobanhcnaa.PRec3
open Go.RowKit Go.Proofs.YtanfmnobanhcnaaW.PrintWords Go.Proofs.YtanfmnobanhcnaaW.PrintLast Go.Proofs.YtanfmnobanhcnaaW.PrintMore
attribute [local go_sem] max2_int min2_int max_two min_two max_three min_three max_four min_four   -- for this text's walks alone
set_option linter.unusedVariables false
set_option linter.unusedSimpArgs false

/-! ### slices_Grow_byte_byte: function 88 -/
set_option maxHeartbeats 1000000 in
set_option maxRecDepth 100000 in
/-- slices.Grow of nil: an empty row of one's own. -/
theorem slices_Grow_byte_byte.calls_nil (n : Int) (w : World) (h0 : 0 ≤ n) (hn : n.toNat * 1 ≤ 140737488355328) :
    Calls Try.prog 88 #[.slice none 0 0, .int .i64 n] w fun e w' => ∃ v0_ : Value, e = .returned v0_ ∧ Kd.R (Kd.int .u8) 5 w' w.heap.size (fun _ => True) v0_ [] ∧ Below w.heap.size w w' := by
  have hn' : n ≤ 140737488355328 := by omega
  have h0b : decide (n < 0) = false := by simpa using h0
  by_cases hp : 0 < n
  · have hpb : decide (0 < n) = true := by simpa using hp
    go_enter Try.func88, Try.ntmps88
    go_wp2_with (first | (at_builtin; refine Kd.R_append_zeros (Kd.int .u8) (w0 := w) w.heap.size rfl _ _ 26 3 5 (.int .u8 0) 1 rfl Try.underlying26 Try.underlying3 info5 rfl (by decide) (by omega) (.slice none 0 0) [] 0 n (fun _ => True) rfl rfl rfl (fun _ _ => trivial) (Kd.R_nil _ _ _ _ _) h0 ?hB ?hS ?hL ?_; (case hB => exact Below.refl _ _); (case hS => exact Nat.le_refl _); (case hL => simp; omega); intro v1 w1 ho hb hg hat; obtain ⟨Ao, co, eo⟩ := Kd.R_slice ho; subst eo))
    go_ret
    exact ⟨_, rfl, by have := Kd.R_take ho (m := 0) (Nat.zero_le _); simpa using this, hb⟩
  · have hz : n = 0 := by omega
    subst hz
    go_enter Try.func88, Try.ntmps88
    go_wp2
    go_ret
    exact ⟨_, rfl, Kd.R_nil _ _ _ _ _, Below.refl _ _⟩

/-! ### slices_Concat_byte_byte: function 60 -/
def slices_Concat_byte_byte.f (l0 : List (List Int)) : Option (List Int) := if l0.flatten.length * 1 < 140737488355328 then some l0.flatten else none
set_option maxHeartbeats 1000000 in
set_option maxRecDepth 100000 in
theorem slices_Concat_byte_byte.calls (A0 : Option Addr) (c0 : Nat) (l0 : List (List Int)) (r : List Int) (w : World) (hr0 : Kd.C (Kd.slice 5 (Kd.int .u8)) w A0 l0.length l0) (hc0 : l0.length ≤ c0) (h : slices_Concat_byte_byte.f l0 = some r) :
    Calls Try.prog 60 #[.slice A0 l0.length c0] w fun e w' => ∃ v0_ : Value, e = .returned v0_ ∧ Kd.R (Kd.int .u8) 5 w' w.heap.size (fun _ => True) v0_ r ∧ Below w.heap.size w w' := by
  have hlim : l0.flatten.length * 1 < 140737488355328 ∧ l0.flatten = r := by
    unfold slices_Concat_byte_byte.f at h
    split at h
    · exact ⟨by assumption, Option.some.inj h⟩
    · cases h
  obtain ⟨hlim, hres⟩ := hlim
  subst hres
  have HL := Aside0.mk hlim
  have HR0 := Aside0.mk hr0
  have HC0 := Aside0.mk hc0
  have hlen : l0.length ≤ 9223372036854775807 := hr0.2.1
  clear h hr0 hc0 hlim
  go_enter Try.func60, Try.ntmps60
  go_wp2
  go_loop [3, 11] (fun v3 v11 => ∃ k : Nat, k ≤ l0.length ∧ v11 = .int .i64 k ∧ v3 = .int .i64 (YtanfmnobanhcnaaH.flen l0 k : Nat)) (fun _ v11 => l0.length - (intOf v11).toNat)
  case atStart => exact ⟨0, Nat.zero_le _, rfl, rfl⟩
  case round =>
    obtain ⟨k, hk, rfl, rfl⟩ := hrel
    have hlb : YtanfmnobanhcnaaH.flen l0 k ≤ 140737488355328 := by have := HL.out; have := YtanfmnobanhcnaaH.flen_le l0 k; omega
    by_cases hlt : k < l0.length
    · obtain ⟨ad, A1, c1, rfl, hcell, hlen1, hC1⟩ := YtanfmnobanhcnaaH.at_row HR0.out k hlt
      have hn := Aside0.mk (YtanfmnobanhcnaaH.flen_succ l0 k hlt)
      have hpre2 : YtanfmnobanhcnaaH.flen l0 k + l0[k].length ≤ 140737488355328 := by
        have h1 := YtanfmnobanhcnaaH.flen_le l0 (k + 1)
        rw [hn.out] at h1
        have := HL.out
        omega
      have hneg : decide ((YtanfmnobanhcnaaH.flen l0 k : Int) + (l0[k].length : Int) < 0) = false := by simp; omega
      have HcC := Aside0.mk hC1
      have HL1 := Aside0.mk hlen1
      clear hC1 hlen1
      go_wp2
      go_round
      case rel => exact ⟨k + 1, by omega, by go_num, by rw [hn.out]; go_num⟩
      case measure => simp [intOf]; omega
    · have hkk : k = l0.length := by omega
      subst hkk
      have htk := Aside0.mk (YtanfmnobanhcnaaH.flen_all l0)
      clear hlt hk
      go_wp2_with fail
      refine (slices_Grow_byte_byte.calls_nil _ _ (by omega) (by have := HL.out; have := htk.out; omega)).mono ?_
      rintro e w1 ⟨v, rfl, hv, hb⟩
      have HV := Aside0.mk hv
      have HB := Aside0.mk hb
      clear hv hb
      go_wp2_with fail
      go_loopw [6, 27] (fun v6 v27 w' => ∃ k : Nat, k ≤ l0.length ∧ v27 = .int .i64 k ∧ Aside0 (Kd.R (Kd.int .u8) 5 w' w.heap.size (fun _ => True) v6 (l0.take k).flatten) ∧ Aside0 (Below w.heap.size w w')) (fun _ v27 _ => l0.length - (intOf v27).toNat)
      case atStart => exact ⟨0, Nat.zero_le _, rfl, HV, HB⟩
      case round =>
        obtain ⟨k, hk, rfl, hv, hb⟩ := hrel
        clear HV HB
        have HV := Aside0.mk hv.out
        have HB := Aside0.mk hb.out
        clear hv hb
        by_cases hlt : k < l0.length
        · obtain ⟨ad, A1, c1, rfl, hcell, hlen1, hC1⟩ := YtanfmnobanhcnaaH.at_row (Kd.C_below HR0.out HB.out) k hlt
          have hn := Aside0.mk (YtanfmnobanhcnaaH.flat_take_succ l0 k hlt)
          have hpre2 : YtanfmnobanhcnaaH.flen l0 k + l0[k].length ≤ l0.flatten.length := by
            have h1 := YtanfmnobanhcnaaH.flen_le l0 (k + 1)
            rw [YtanfmnobanhcnaaH.flen_succ l0 k hlt] at h1
            exact h1
          have HL2 := Aside0.mk hpre2
          have HcC := Aside0.mk hC1
          have HL1 := Aside0.mk hlen1
          clear hC1 hlen1 hpre2
          go_wp2_with (first | (at_builtin; go_must (refine Kd.R_append_rows (Kd.int .u8) (w0 := w) w.heap.size rfl _ _ 26 5 (.int .u8 0) 1 rfl Try.underlying26 info5 rfl (by decide) (by omega) _ (l0.take k).flatten l0[k] A1 _ c1 (fun _ => True) (fun _ => False) rfl rfl HV.out HcC.out (fun _ _ h => h) (fun _ h => h.elim) (fun _ _ => trivial) HB.out (below_size HB.out) (by have h1 := HL.out; have h2 := HL2.out; unfold YtanfmnobanhcnaaH.flen at h2; omega) ?_); intro v1 w2 ho hb hg hat))
          go_round
          case rel => exact ⟨k + 1, by omega, by go_num, ⟨by rw [hn.out]; exact ho⟩, ⟨hb⟩⟩
          case measure => simp [intOf]; omega
        · have hkk : k = l0.length := by omega
          subst hkk
          clear hlt hk
          go_wp2
          go_ret
          exact ⟨_, rfl, by have := HV.out; rwa [List.take_length] at this, HB.out⟩

/-! ### num_PutVar_p: function 66 -/
def num_PutVar_p.l0 : Nat → Int → List Int → Option (List Int)
  | 0, _, _ => none
  | k + 1, x0, x3 => if x0 ≥ 128 then (if x3.length < 140737488355328 then (num_PutVar_p.l0 k (x0 / 128) (x3 ++ [Go.bits .or .u8 ((x0) % 256) 128])) else (none)) else (if x3.length < 140737488355328 then (some (x3 ++ [(x0) % 256])) else (none))
def num_PutVar_p.f (k : Nat) (a0 : Int) : Option (List Int) := num_PutVar_p.l0 k a0 ([] : List Int)
theorem num_PutVar_p.mono_l : ∀ k, (∀ y0 y1, LeO (num_PutVar_p.l0 k y0 y1) (num_PutVar_p.l0 (k + 1) y0 y1))
  | 0 => fun _ _ r h => by simp [num_PutVar_p.l0] at h
  | k + 1 => by
    have ih0 := num_PutVar_p.mono_l k
    · intro y0 y1
      unfold num_PutVar_p.l0
      repeat' first
      | (with_reducible exact ih0 _ _)
      | (with_reducible exact LeO.refl _)
      | (with_reducible exact LeO.none _)
      | (with_reducible refine LeO.ite ?_ ?_)
      | (with_reducible refine LeO.bind ?_ (fun _ => ?_))
      | exact ih0 _ _
      | exact LeO.none _
      | refine LeO.ite ?_ ?_
      | refine LeO.bind ?_ (fun _ => ?_)
theorem num_PutVar_p.mono : ∀ a0 k, LeO (num_PutVar_p.f k a0) (num_PutVar_p.f (k + 1) a0) := by
  intro a0 k
  have ih0 := num_PutVar_p.mono_l k
  unfold num_PutVar_p.f
  repeat' first
      | (with_reducible exact ih0 _ _)
      | (with_reducible exact LeO.refl _)
      | (with_reducible exact LeO.none _)
      | (with_reducible refine LeO.ite ?_ ?_)
      | (with_reducible refine LeO.bind ?_ (fun _ => ?_))
      | exact ih0 _ _
      | exact LeO.none _
      | refine LeO.ite ?_ ?_
      | refine LeO.bind ?_ (fun _ => ?_)
set_option maxHeartbeats 8000000 in
set_option maxRecDepth 100000 in
theorem num_PutVar_p.calls (k : Nat) (a0 : Int) (r : List Int) (w : World) (h : num_PutVar_p.f k a0 = some r) :
    Calls Try.prog 66 #[.int .u64 a0] w fun e w' => ∃ v0_ : Value, e = .returned (v0_) ∧ Kd.R (Kd.int .u8) 5 w' w.heap.size (fun _ => True) v0_ r ∧ Below w.heap.size w w' := by
  have HB := Aside0.mk (Below.refl w.heap.size w)
  have H : (num_PutVar_p.l0 k a0 ([] : List Int)) = some r := h
  clear h
  have H' := Aside0.mk H
  clear H
  go_enter Try.func66, Try.ntmps66
  go_wp2
  go_loopg [0, 3] k (fun kq v0 v3 w' => ∃ (x0_1 : Int) (x3_1 : List Int), v0 = .int .u64 x0_1 ∧ Aside0 (num_PutVar_p.l0 kq x0_1 x3_1 = some r) ∧ Aside0 (kq ≤ k) ∧ Aside0 (Kd.R (Kd.int .u8) 5 w' w.heap.size (fun _ => True) v3 x3_1) ∧ Aside0 (Below w.heap.size w w'))
  case atStart => exact ⟨(a0), (([] : List Int)), (by first | rfl | (simp; done) | (simp [*]; done)), H', ⟨Nat.le_refl _⟩, ⟨by first | exact Kd.R_nil _ _ _ _ _ | exact Kd.N_nil _ _ _ _ _ | exact Kd.V_nil _ _ _ _ _ | exact Kd.Q_nil _ _ _ _ _ | exact Kd.S_nil _ _ _ _ _⟩, ⟨by repeat (first | (with_reducible first | exact HB.out | apply below_alloc | apply pw_below_drewN | apply below_drew1) | exact HB.out)⟩⟩
  case round =>
    clear H'
    obtain ⟨x0_1, x3_1, rfl, HA, HK1, HO_3, HB⟩ := hrel
    cases gk with
    | zero => exact absurd HA.out (by simp [num_PutVar_p.l0])
    | succ k1 =>
      have H := HA.out
      clear HA
      simp only [num_PutVar_p.l0] at H
      by_cases c2 : x0_1 ≥ 128
      · rw [if_pos c2] at H
        have c2b0 : decide (128 ≤ x0_1) = true := decide_eq_true c2
        clear c2
        by_cases c3 : x3_1.length < 140737488355328
        · rw [if_pos c3] at H
          have LMc3 := Aside0.mk c3
          clear c3
          obtain ⟨y101, hy101⟩ : ∃ y_ : List Int, y_ = (x3_1 ++ [Go.bits .or .u8 ((x0_1) % 256) 128]) := ⟨_, rfl⟩
          replace H : (num_PutVar_p.l0 k1 (x0_1 / 128) y101) = some r := by first | (rw [hy101]; with_reducible exact H) | (have H2_ := (Option.bind_some _ _).symm.trans H; rw [hy101]; with_reducible exact H2_) | (have H2_ := (Option.bind_some _ _).symm.trans H; with_reducible exact H2_) | with_reducible exact H | (rw [hy101]; exact H) | exact H
          have Ny101 := Aside0.mk hy101
          clear hy101
          have H' := Aside0.mk H
          clear H
          go_wp2_with (first | ((with_reducible refine gate_builtin (b := .append) (xs := #[.tmp 8, .tmp 12]) rfl ?_); at_builtin; refine Kd.R_append (Kd.int .u8) (w0 := w) w.heap.size rfl (.tmp 8) (.tmp 12) 26 5 (.int .u8 0) 1 rfl Try.underlying26 info5 rfl (by decide) (by omega) u3 x3_1 (Go.bits .or .u8 ((x0_1) % 256) 128) [.int .u8 (Go.bits .or .u8 ((x0_1) % 256) 128)] (fun _ => True) (fun _ => False) rfl rfl ?aP (fun _ hk => hk.elim) ?aF ?aO ?aB ?aS ?aL ?_; (case aP => exact rfl); (case aB => exact (by repeat (first | (with_reducible first | exact HB.out | apply below_alloc | apply pw_below_drewN | apply below_drew1) | exact HB.out))); (case aF => exact (fun _ _ => trivial)); (case aO => exact (by (with_reducible repeat (first | apply Kd.R_alloc | apply Kd.R_drewN | apply Kd.R_drew)); exact HO_3.out)); (case aS => exact (below_size (by repeat (first | (with_reducible first | exact HB.out | apply below_alloc | apply pw_below_drewN | apply below_drew1) | exact HB.out)))); (case aL => have := LMc3.out; omega); intro v102 w4 ho hb hg hat; rw [← Ny101.out] at ho; have n0_ := Aside0.mk (hb); have n1_ := Aside0.mk (ho); clear HB; clear HO_3; have HB := n0_; have HO103 := n1_; clear n0_ n1_; clear ho hb hg hat))
          go_roundg k1
          case measure => have := HK1.out; omega
          case rel => exact ⟨(x0_1 / 128), (y101), (by first | rfl | (simp; done) | (simp [*]; done)), H', ⟨by have := HK1.out; omega⟩, ⟨by (with_reducible repeat (first | apply Kd.R_alloc | apply Kd.R_drewN | apply Kd.R_drew)); exact HO103.out⟩, ⟨by repeat (first | (with_reducible first | exact HB.out | apply below_alloc | apply pw_below_drewN | apply below_drew1) | exact HB.out)⟩⟩
        · rw [if_neg c3] at H
          exact absurd H (by simp)
      · rw [if_neg c2] at H
        have c2b0 : decide (128 ≤ x0_1) = false := decide_eq_false c2
        clear c2
        by_cases c5 : x3_1.length < 140737488355328
        · rw [if_pos c5] at H
          have LMc5 := Aside0.mk c5
          clear c5
          obtain ⟨y104, hy104⟩ : ∃ y_ : List Int, y_ = (x3_1 ++ [(x0_1) % 256]) := ⟨_, rfl⟩
          replace H : (some y104) = some r := by first | (rw [hy104]; with_reducible exact H) | (have H2_ := (Option.bind_some _ _).symm.trans H; rw [hy104]; with_reducible exact H2_) | (have H2_ := (Option.bind_some _ _).symm.trans H; with_reducible exact H2_) | with_reducible exact H | (rw [hy104]; exact H) | exact H
          have Ny104 := Aside0.mk hy104
          clear hy104
          obtain rfl := Option.some.inj H
          go_wp2_with (first | ((with_reducible refine gate_builtin (b := .append) (xs := #[.tmp 14, .tmp 17]) rfl ?_); at_builtin; refine Kd.R_append (Kd.int .u8) (w0 := w) w.heap.size rfl (.tmp 14) (.tmp 17) 26 5 (.int .u8 0) 1 rfl Try.underlying26 info5 rfl (by decide) (by omega) u3 x3_1 ((x0_1) % 256) [.int .u8 ((x0_1) % 256)] (fun _ => True) (fun _ => False) rfl rfl ?aP (fun _ hk => hk.elim) ?aF ?aO ?aB ?aS ?aL ?_; (case aP => exact rfl); (case aB => exact (by repeat (first | (with_reducible first | exact HB.out | apply below_alloc | apply pw_below_drewN | apply below_drew1) | exact HB.out))); (case aF => exact (fun _ _ => trivial)); (case aO => exact (by (with_reducible repeat (first | apply Kd.R_alloc | apply Kd.R_drewN | apply Kd.R_drew)); exact HO_3.out)); (case aS => exact (below_size (by repeat (first | (with_reducible first | exact HB.out | apply below_alloc | apply pw_below_drewN | apply below_drew1) | exact HB.out)))); (case aL => have := LMc5.out; omega); intro v105 w6 ho hb hg hat; rw [← Ny104.out] at ho; have n0_ := Aside0.mk (hb); have n1_ := Aside0.mk (ho); clear HB; clear HO_3; have HB := n0_; have HO106 := n1_; clear n0_ n1_; clear ho hb hg hat))
          go_ret
          exact ⟨_, by first | rfl | (simp [errW_none, errW_some] <;> rfl) | (simp [*, errW_none, errW_some] <;> rfl), by (with_reducible repeat (first | apply Kd.R_alloc | apply Kd.R_drewN | apply Kd.R_drew)); exact HO106.out, by repeat (first | (with_reducible first | exact HB.out | apply below_alloc | apply pw_below_drewN | apply below_drew1) | exact HB.out)⟩
        · rw [if_neg c5] at H
          exact absurd H (by simp)

/-! ### num_PutVar: plain, of function 66 -/
def num_PutVar.f (a0 : Int) : Option (List Int) := if 0 ≤ a0 ∧ a0 < 18446744073709551616 then some (YtanfmnobanhcnaaH.Var.putI a0) else none
set_option maxHeartbeats 2000000 in
theorem num_PutVar.loop (x : Nat) : ∀ (acc : List Int), acc.length + (YtanfmnobanhcnaaH.Var.putN x).length < 140737488355328 → Ev (fun k => num_PutVar_p.l0 k (x : Int) acc) (acc ++ YtanfmnobanhcnaaH.Var.ints (YtanfmnobanhcnaaH.Var.putN x)) := by
  induction x using Nat.strongRecOn with
  | _ x ih =>
    intro acc hacc
    have hp := YtanfmnobanhcnaaH.Var.putN_pos x
    by_cases hx : x < 128
    · rw [YtanfmnobanhcnaaH.Var.putN_small hx]
      refine Ev.step (fun k => ?_) (Ev.now _)
      simp only [num_PutVar_p.l0]
      rw [if_neg (by omega), if_pos (by omega)]
      have e : ((x : Int) % 256) = ((x : Nat) : Int) := by omega
      rw [e]
      rfl
    · rw [YtanfmnobanhcnaaH.Var.putN_big hx] at hacc ⊢
      have h := ih (x / 128) (by omega) (acc ++ [((x % 128 + 128 : Nat) : Int)]) (by simp at hacc ⊢; omega)
      have e : YtanfmnobanhcnaaH.Var.ints ((x % 128 + 128) :: YtanfmnobanhcnaaH.Var.putN (x / 128)) = [((x % 128 + 128 : Nat) : Int)] ++ YtanfmnobanhcnaaH.Var.ints (YtanfmnobanhcnaaH.Var.putN (x / 128)) := rfl
      rw [e, ← List.append_assoc]
      refine Ev.step (fun k => ?_) h
      simp only [num_PutVar_p.l0]
      rw [if_pos (by omega), if_pos (by omega)]
      have e1 : ((x : Int) % 256) = ((x % 256 : Nat) : Int) := by omega
      have e2 : ((x : Int) / 128) = ((x / 128 : Nat) : Int) := by omega
      have e3 : x % 256 % 128 = x % 128 := by omega
      rw [e1, e2, YtanfmnobanhcnaaH.Fr.or128 _ (by omega), e3]
set_option maxHeartbeats 2000000 in
theorem num_PutVar.ev (a0 : Int) (r : List Int) (h : num_PutVar.f a0 = some r) : Ev (fun k => num_PutVar_p.f k a0) r := by
  unfold num_PutVar.f at h
  split at h
  · rename_i hx
    obtain ⟨n, rfl⟩ := Int.eq_ofNat_of_zero_le hx.1
    obtain rfl := Option.some.inj h
    have := YtanfmnobanhcnaaH.Var.putN_len10 n (by omega)
    exact num_PutVar.loop n [] (by simp; omega)
  · cases h
theorem num_PutVar.calls (a0 : Int) (r : List Int) (w : World) (h : num_PutVar.f a0 = some r) :
    Calls Try.prog 66 #[.int .u64 a0] w fun e w' => ∃ v0_ : Value, e = .returned (v0_) ∧ Kd.R (Kd.int .u8) 5 w' w.heap.size (fun _ => True) v0_ r ∧ Below w.heap.size w w' := by
  obtain ⟨k, hk⟩ := (num_PutVar.ev a0 _ h ).rounds
  exact num_PutVar_p.calls k a0 r w hk

/-! ### num_Put64: function 103 -/
def num_Put64.f (a0 : Int) : Option (List Int) := some (YtanfmnobanhcnaaH.le8 a0)
set_option maxHeartbeats 1000000 in
set_option maxRecDepth 100000 in
theorem num_Put64.calls (a0 : Int) (r : List Int) (w : World) (h : num_Put64.f a0 = some r) :
    Calls Try.prog 103 #[.int .u64 a0] w fun e w' => ∃ v0_ : Value, e = .returned v0_ ∧ Kd.V (Kd.int .u8) 5 w' w.heap.size (fun k_ => (w.heap.size ≤ k_)) v0_ r ∧ Below w.heap.size w w' := by
  obtain rfl := Option.some.inj h
  clear h
  go_enter Try.func103, Try.ntmps103
  go_wp2
  go_loopw [5] (fun v5 w' => ∃ k : Nat, k ≤ 8 ∧ v5 = .int .i64 k ∧ w' = w.alloc (.cells (YtanfmnobanhcnaaH.le8c a0 k) 38)) (fun v5 _ => 8 - (intOf v5).toNat)
  case atStart => exact ⟨0, Nat.zero_le _, rfl, rfl⟩
  case round =>
    obtain ⟨k, hk, rfl, hw⟩ := hrel
    have hcases : k = 0 ∨ k = 1 ∨ k = 2 ∨ k = 3 ∨ k = 4 ∨ k = 5 ∨ k = 6 ∨ k = 7 ∨ k = 8 := by omega
    rcases hcases with rfl | rfl | rfl | rfl | rfl | rfl | rfl | rfl | rfl
    rotate_right 1
    · subst hw
      simp only [YtanfmnobanhcnaaH.le8c]
      go_wp2
      go_ret
      exact ⟨_, rfl, YtanfmnobanhcnaaH.V_lit .u8 w _ _ _ _ (YtanfmnobanhcnaaH.le8 a0) _ 8 rfl (by simp [YtanfmnobanhcnaaH.le8, List.range, List.range.loop]) (by simp [YtanfmnobanhcnaaH.le8]), YtanfmnobanhcnaaH.below_alloc1 _ _⟩
    all_goals
      subst hw
      simp only [YtanfmnobanhcnaaH.le8c]
      go_wp2
      exact ⟨⟨_, by decide, rfl, by simp [List.range, List.range.loop]⟩, by simp [intOf]⟩

/-! ### crc_bytes_p: function 67 -/
def crc_bytes_p.f (a0 : Int) : Option (List Int) := (num_Put64.f (IntKind.u64.wrap (a0))).bind fun t107 => (if 4 ≤ (t107.length : Int) then (some (t107.take 4)) else (none))
set_option maxHeartbeats 8000000 in
set_option maxRecDepth 100000 in
theorem crc_bytes_p.calls (a0 : Int) (r : List Int) (w : World) (h : crc_bytes_p.f a0 = some r) :
    Calls Try.prog 67 #[.int .u32 a0] w fun e w' => ∃ v0_ : Value, e = .returned (v0_) ∧ Kd.V (Kd.int .u8) 5 w' w.heap.size (fun k_ => (w.heap.size ≤ k_)) v0_ r ∧ Below w.heap.size w w' := by
  have HB := Aside0.mk (Below.refl w.heap.size w)
  have H : ((num_Put64.f (IntKind.u64.wrap (a0))).bind fun t107 => (if 4 ≤ (t107.length : Int) then (some (t107.take 4)) else (none))) = some r := h
  clear h
  replace H := Option.bind_eq_some_iff.mp H
  obtain ⟨t107, A20, H⟩ := H
  replace H : (if 4 ≤ (t107.length : Int) then (some (t107.take 4)) else (none)) = some r := H
  have A2 := Aside0.mk A20
  clear A20
  by_cases c3 : 4 ≤ (t107.length : Int)
  · rw [if_pos c3] at H
    have c3b0 := eq_true c3
    have c3b1 : decide (4 ≤ (t107.length : Int)) = true := decide_eq_true c3
    clear c3
    obtain ⟨y110, hy110⟩ : ∃ y_ : List Int, y_ = (t107.take 4) := ⟨_, rfl⟩
    replace H : (some y110) = some r := by first | (rw [hy110]; with_reducible exact H) | (have H2_ := (Option.bind_some _ _).symm.trans H; rw [hy110]; with_reducible exact H2_) | (have H2_ := (Option.bind_some _ _).symm.trans H; with_reducible exact H2_) | with_reducible exact H | (rw [hy110]; exact H) | exact H
    have Ny110 := Aside0.mk hy110
    clear hy110
    obtain rfl := Option.some.inj H
    go_enter Try.func67, Try.ntmps67
    go_wp2_with (first | ((with_reducible refine gate_callee (f := 103) rfl ?_); refine goesL_ (some 5) rfl rfl Try.func103 (by kernel_rfl) rfl #[.int .u64 (IntKind.u64.wrap (a0))] rfl (by (try simp only [List.map_toArray, List.map_cons, List.map_nil]); first | done | rfl | (simp only [List.length_drop, List.length_take]; rfl)) ?_; (with_reducible refine (num_Put64.calls (IntKind.u64.wrap (a0)) t107 _ A2.out).mono ?_); rintro e w4 ⟨v108, rfl, ho0, hb⟩; refine ⟨_, rfl, ?_⟩; have n0_ := Aside0.mk (Kd.V_lower (Kd.V_mono (ok' := fun k_ => (w.heap.size ≤ k_)) ho0 (fun k_ hk_ => (Nat.le_trans (below_size (by repeat (first | (with_reducible first | exact HB.out | apply below_alloc | apply pw_below_drewN | apply below_drew1) | exact HB.out))) hk_))) (below_size (by repeat (first | (with_reducible first | exact HB.out | apply below_alloc | apply pw_below_drewN | apply below_drew1) | exact HB.out)))); have n1_ := Aside0.mk (below_step (by repeat (first | (with_reducible first | exact HB.out | apply below_alloc | apply pw_below_drewN | apply below_drew1) | exact HB.out)) hb); clear HB; have HO109 := n0_; have HB := n1_; clear n0_ n1_; (try clear hb); (try clear hb2); (try clear hk); (try clear hi); (try clear ho0); obtain ⟨Ao6, co6, eo6⟩ := Kd.V_slice HO109.out; subst eo6; have q5 : (4 : Int) ≤ ((t107.length : Int) : Int) := of_decide_eq_true (by first | (with_reducible assumption) | assumption); obtain ⟨i05, hi05, _, hsz5, _⟩ := info_parts info5; have hroom5 : t107.length ≤ co6 := (Kd.V_reads' HO109.out).2.1; have hC5 : Kd.F (Kd.int .u8) _ _ Ao6 t107.length t107 := (Kd.V_at (base := w.heap.size) HO109.out).2.2; have hcut5 := cut_to (P := Try.prog) 26 5 .i64 Try.underlying26 hi05 Ao6 t107.length co6 4 (by omega) q5 hroom5; have hr5 := Kd.F_take (m := 4) hC5 (by omega); have hy5 : y110.length = (4 : Int).toNat := (by rw [Ny110.out, List.length_take]; omega); rw [← Ny110.out] at hr5; rw [← hy5] at hcut5; have HO114 := Aside0.mk (show Kd.V (Kd.int .u8) 5 _ w.heap.size _ (.slice Ao6 y110.length co6) y110 from Kd.V_mk (by omega) hr5); have HC114 := Aside0.mk (show y110.length ≤ co6 from by omega); clear hr5 hC5 hroom5 hi05 hsz5; have KY5 := Aside0.mk hy5; clear hy5; replace q5 := eq_true q5))
    go_ret
    exact ⟨_, by first | rfl | (simp [errW_none, errW_some] <;> rfl) | (simp [*, errW_none, errW_some] <;> rfl), by (with_reducible repeat (first | apply Kd.V_alloc | apply Kd.V_drewN | apply Kd.V_drew)); exact HO114.out, by repeat (first | (with_reducible first | exact HB.out | apply below_alloc | apply pw_below_drewN | apply below_drew1) | exact HB.out)⟩
  · rw [if_neg c3] at H
    exact absurd H (by simp)

/-! ### crc_bytes: plain, of function 67 -/
def crc_bytes.f (a0 : Int) : Option (List Int) := if 0 ≤ a0 ∧ a0 < 4294967296 then some (YtanfmnobanhcnaaH.Fr.sum4 a0) else none
set_option maxHeartbeats 2000000 in
theorem crc_bytes.ev (a0 : Int) (r : List Int) (h : crc_bytes.f a0 = some r) : crc_bytes_p.f a0 = some r := by
  unfold crc_bytes.f at h
  split at h
  · rename_i hx
    obtain rfl := Option.some.inj h
    unfold crc_bytes_p.f num_Put64.f
    have e : IntKind.u64.wrap a0 = a0 := by rw [IntKind.wrap_u64]; omega
    rw [e]
    rw [Option.bind_some]
    rw [if_pos (by rw [YtanfmnobanhcnaaH.Fr.le8_len]; decide)]
    rfl
  · cases h
theorem crc_bytes.calls (a0 : Int) (r : List Int) (w : World) (h : crc_bytes.f a0 = some r) :
    Calls Try.prog 67 #[.int .u32 a0] w fun e w' => ∃ v0_ : Value, e = .returned (v0_) ∧ Kd.V (Kd.int .u8) 5 w' w.heap.size (fun k_ => (w.heap.size ≤ k_)) v0_ r ∧ Below w.heap.size w w' := by
  exact crc_bytes_p.calls a0 r w (crc_bytes.ev a0 _ h )

/-! ### crc_step_p: function 104 -/
def crc_step_p.l0 : Nat → Int → Int → Option (Int)
  | 0, _, _ => none
  | k + 1, x0, x4 => if x4 < 8 then (crc_step_p.l0 k (Go.bits .xor .u32 (x0 / 2) (Go.bits .and .u32 3988292384 ((-(Go.bits .and .u32 x0 1)) % 4294967296))) (wrap64 (x4 + 1))) else (some x0)
def crc_step_p.f (k : Nat) (a0 : Int) : Option (Int) := crc_step_p.l0 k a0 0
theorem crc_step_p.mono_l : ∀ k, (∀ y0 y1, LeO (crc_step_p.l0 k y0 y1) (crc_step_p.l0 (k + 1) y0 y1))
  | 0 => fun _ _ r h => by simp [crc_step_p.l0] at h
  | k + 1 => by
    have ih0 := crc_step_p.mono_l k
    · intro y0 y1
      unfold crc_step_p.l0
      repeat' first
      | (with_reducible exact ih0 _ _)
      | (with_reducible exact LeO.refl _)
      | (with_reducible exact LeO.none _)
      | (with_reducible refine LeO.ite ?_ ?_)
      | (with_reducible refine LeO.bind ?_ (fun _ => ?_))
      | exact ih0 _ _
      | exact LeO.none _
      | refine LeO.ite ?_ ?_
      | refine LeO.bind ?_ (fun _ => ?_)
theorem crc_step_p.mono : ∀ a0 k, LeO (crc_step_p.f k a0) (crc_step_p.f (k + 1) a0) := by
  intro a0 k
  have ih0 := crc_step_p.mono_l k
  unfold crc_step_p.f
  repeat' first
      | (with_reducible exact ih0 _ _)
      | (with_reducible exact LeO.refl _)
      | (with_reducible exact LeO.none _)
      | (with_reducible refine LeO.ite ?_ ?_)
      | (with_reducible refine LeO.bind ?_ (fun _ => ?_))
      | exact ih0 _ _
      | exact LeO.none _
      | refine LeO.ite ?_ ?_
      | refine LeO.bind ?_ (fun _ => ?_)
set_option maxHeartbeats 8000000 in
set_option maxRecDepth 100000 in
theorem crc_step_p.calls (k : Nat) (a0 : Int) (r : Int) (w : World) (h : crc_step_p.f k a0 = some r) :
    Calls Try.prog 104 #[.int .u32 a0] w fun e w' => e = .returned (.int .u32 r) ∧ Drawn0 w w' := by
  have H : (crc_step_p.l0 k a0 0) = some r := h
  clear h
  have H' := Aside0.mk H
  clear H
  go_enter Try.func104, Try.ntmps104
  go_wp2
  go_loopg [0, 4] k (fun kq v0 v4 w' => ∃ (x0_1 : Int) (x4_1 : Int), v0 = .int .u32 x0_1 ∧ v4 = .int .i64 x4_1 ∧ Aside0 (crc_step_p.l0 kq x0_1 x4_1 = some r) ∧ Aside0 (kq ≤ k) ∧ Drawn0 w w')
  case atStart => exact ⟨(a0), (0), (by first | rfl | (simp; done) | (simp [*]; done)), (by first | rfl | (simp; done) | (simp [*]; done)), H', ⟨Nat.le_refl _⟩, by repeat (first | exact Drawn0.refl _ | apply Drawn0.step)⟩
  case round =>
    clear H'
    try clear c1
    obtain ⟨x0_1, x4_1, rfl, rfl, HA, HK1, ⟨m1, rfl⟩⟩ := hrel
    cases gk with
    | zero => exact absurd HA.out (by simp [crc_step_p.l0])
    | succ k1 =>
      have H := HA.out
      clear HA
      simp only [crc_step_p.l0] at H
      by_cases c2 : x4_1 < 8
      · rw [if_pos c2] at H
        have c2b0 : decide (x4_1 < 8) = true := decide_eq_true c2
        clear c2
        have H' := Aside0.mk H
        clear H
        go_wp2
        go_roundg k1
        case measure => have := HK1.out; omega
        case rel => exact ⟨(Go.bits .xor .u32 (x0_1 / 2) (Go.bits .and .u32 3988292384 ((-(Go.bits .and .u32 x0_1 1)) % 4294967296))), (wrap64 (x4_1 + 1)), (by first | rfl | (simp; done) | (simp [*]; done)), (by first | rfl | (simp; done) | (simp [*]; done)), H', ⟨by have := HK1.out; omega⟩, by repeat (first | exact Drawn0.refl _ | apply Drawn0.step)⟩
      · rw [if_neg c2] at H
        have c2b0 : decide (x4_1 < 8) = false := decide_eq_false c2
        clear c2
        obtain rfl := Option.some.inj H
        go_wp2
        go_ret
        exact ⟨by first | rfl | (simp; done) | (simp [*]; done), by repeat (first | exact Drawn0.refl _ | apply Drawn0.step)⟩

/-! ### crc_step: plain, of function 104 -/
def crc_step.f (a0 : Int) : Option Int := if 0 ≤ a0 ∧ a0 < 4294967296 then some (YtanfmnobanhcnaaH.Crc.Mn 8 a0.toNat : Nat) else none
set_option maxHeartbeats 2000000 in
theorem crc_step.loop (d : Nat) : ∀ (x i : Nat), x < 4294967296 → i + d = 8 → Ev (fun k => crc_step_p.l0 k (x : Int) (i : Int)) ((YtanfmnobanhcnaaH.Crc.Mn d x : Nat) : Int) := by
  induction d with
  | zero =>
    intro x i hx hi
    refine Ev.step (f := fun _ => some ((x : Nat) : Int)) (fun k => ?_) (Ev.now _)
    simp only [crc_step_p.l0]
    rw [if_neg (by omega)]
  | succ d ih =>
    intro x i hx hi
    refine Ev.step (fun k => ?_) (ih (YtanfmnobanhcnaaH.Crc.M x) (i + 1) (YtanfmnobanhcnaaH.Crc.M_lt x hx) (by omega))
    simp only [crc_step_p.l0]
    rw [if_pos (by omega), YtanfmnobanhcnaaH.Crc.bits_step x hx, YtanfmnobanhcnaaH.Crc.wrap64_in _ (by omega) (by omega)]
    rfl
set_option maxHeartbeats 2000000 in
theorem crc_step.ev (a0 : Int) (r : Int) (h : crc_step.f a0 = some r) : Ev (fun k => crc_step_p.f k a0) r := by
  unfold crc_step.f at h
  split at h
  · obtain ⟨n, rfl⟩ := Int.eq_ofNat_of_zero_le ‹0 ≤ a0 ∧ a0 < 4294967296›.1
    obtain rfl := Option.some.inj h
    exact crc_step.loop 8 n 0 (by omega) rfl
  · cases h
theorem crc_step.calls (a0 : Int) (r : Int) (w : World) (h : crc_step.f a0 = some r) :
    Calls Try.prog 104 #[.int .u32 a0] w fun e w' => e = .returned (.int .u32 r) ∧ Drawn0 w w' := by
  obtain ⟨k, hk⟩ := (crc_step.ev a0 _ h ).rounds
  exact crc_step_p.calls k a0 r w hk

/-! ### crc_Sum_p: function 68 -/
def crc_Sum_p.l0 : Nat → Int → List Int → Int → Int → Option (Int)
  | 0, _, _, _, _ => none
  | k + 1, x3, x6, x7, x8 => if x8 < x7 then (if 0 ≤ x8 then (if x8 < (x6.length : Int) then ((crc_step.f ((Go.bits .xor .u8 ((x3) % 256) (rd x6 x8)) % 4294967296)).bind fun t116 => (crc_Sum_p.l0 k (Go.bits .xor .u32 (x3 / 256) t116) x6 x7 (wrap64 (x8 + 1)))) else (none)) else (none)) else (some (Go.bits .xor .u32 4294967295 x3))
def crc_Sum_p.f (k : Nat) (l0 : List Int) : Option (Int) := crc_Sum_p.l0 k 4294967295 l0 (l0.length : Int) 0
theorem crc_Sum_p.mono_l : ∀ k, (∀ y0 y1 y2 y3, LeO (crc_Sum_p.l0 k y0 y1 y2 y3) (crc_Sum_p.l0 (k + 1) y0 y1 y2 y3))
  | 0 => fun _ _ _ _ r h => by simp [crc_Sum_p.l0] at h
  | k + 1 => by
    have ih0 := crc_Sum_p.mono_l k
    · intro y0 y1 y2 y3
      unfold crc_Sum_p.l0
      repeat' first
      | (with_reducible exact ih0 _ _ _ _)
      | (with_reducible exact LeO.refl _)
      | (with_reducible exact LeO.none _)
      | (with_reducible refine LeO.ite ?_ ?_)
      | (with_reducible refine LeO.bind ?_ (fun _ => ?_))
      | exact ih0 _ _ _ _
      | exact LeO.none _
      | refine LeO.ite ?_ ?_
      | refine LeO.bind ?_ (fun _ => ?_)
theorem crc_Sum_p.mono : ∀ a0 k, LeO (crc_Sum_p.f k a0) (crc_Sum_p.f (k + 1) a0) := by
  intro a0 k
  have ih0 := crc_Sum_p.mono_l k
  unfold crc_Sum_p.f
  repeat' first
      | (with_reducible exact ih0 _ _ _ _)
      | (with_reducible exact LeO.refl _)
      | (with_reducible exact LeO.none _)
      | (with_reducible refine LeO.ite ?_ ?_)
      | (with_reducible refine LeO.bind ?_ (fun _ => ?_))
      | exact ih0 _ _ _ _
      | exact LeO.none _
      | refine LeO.ite ?_ ?_
      | refine LeO.bind ?_ (fun _ => ?_)
set_option maxHeartbeats 8000000 in
set_option maxRecDepth 100000 in
theorem crc_Sum_p.calls (k : Nat) (A0 : Option Addr) (c0 : Nat) (l0 : List Int) (r : Int) (w : World) (hr0 : Kd.C (Kd.int .u8) w A0 l0.length l0) (hc0 : l0.length ≤ c0) (h : crc_Sum_p.f k l0 = some r) :
    Calls Try.prog 68 #[.slice A0 l0.length c0] w fun e w' => e = .returned (.int .u32 r) ∧ Drawn0 w w' := by
  have HR0 := Aside0.mk hr0
  have HC0 := Aside0.mk hc0
  clear hr0 hc0
  have H : (crc_Sum_p.l0 k 4294967295 l0 (l0.length : Int) 0) = some r := h
  clear h
  have H' := Aside0.mk H
  clear H
  go_enter Try.func68, Try.ntmps68
  go_wp2
  go_loopg [3, 8] k (fun kq v3 v8 w' => ∃ (x3_1 : Int) (x8_1 : Int), v3 = .int .u32 x3_1 ∧ v8 = .int .i64 x8_1 ∧ Aside0 (crc_Sum_p.l0 kq x3_1 l0 (l0.length : Int) x8_1 = some r) ∧ Aside0 (kq ≤ k) ∧ Drawn0 w w')
  case atStart => exact ⟨(4294967295), (0), (by first | rfl | (simp; done) | (simp [*]; done)), (by first | rfl | (simp; done) | (simp [*]; done)), H', ⟨Nat.le_refl _⟩, by repeat (first | exact Drawn0.refl _ | apply Drawn0.step)⟩
  case round =>
    clear H'
    obtain ⟨x3_1, x8_1, rfl, rfl, HA, HK1, ⟨m1, rfl⟩⟩ := hrel
    cases gk with
    | zero => exact absurd HA.out (by simp [crc_Sum_p.l0])
    | succ k1 =>
      have H := HA.out
      clear HA
      simp only [crc_Sum_p.l0] at H
      by_cases c2 : x8_1 < (l0.length : Int)
      · rw [if_pos c2] at H
        have c2b0 : decide (x8_1 < (l0.length : Int)) = true := decide_eq_true c2
        clear c2
        by_cases c3 : 0 ≤ x8_1
        · rw [if_pos c3] at H
          have c3b0 : decide (0 ≤ x8_1) = true := decide_eq_true c3
          clear c3
          by_cases c4 : x8_1 < (l0.length : Int)
          · rw [if_pos c4] at H
            have c4b0 : decide (x8_1 < (l0.length : Int)) = true := decide_eq_true c4
            clear c4
            replace H := Option.bind_eq_some_iff.mp H
            obtain ⟨t116, A50, H⟩ := H
            replace H : (crc_Sum_p.l0 k1 (Go.bits .xor .u32 (x3_1 / 256) t116) l0 (l0.length : Int) (wrap64 (x8_1 + 1))) = some r := H
            have A5 := Aside0.mk A50
            clear A50
            have H' := Aside0.mk H
            clear H
            have p115 : 0 ≤ (x8_1 : Int) := of_decide_eq_true (by first | (with_reducible assumption) | assumption)
            have q115 : x8_1 < (l0.length : Int) := of_decide_eq_true (by first | (with_reducible assumption) | assumption)
            obtain ⟨ad115, e115, hx115_0⟩ := Kd.at_int HR0.out x8_1 p115 q115
            cases e115
            replace p115 := eq_true p115
            replace q115 := eq_true q115
            go_wp2_with (first | ((with_reducible refine gate_callee (f := 104) rfl ?_); refine goesL_ (some 19) rfl rfl Try.func104 (by kernel_rfl) rfl #[.int .u32 ((Go.bits .xor .u8 ((x3_1) % 256) (rd l0 x8_1)) % 4294967296)] rfl (by (try simp only [List.map_toArray, List.map_cons, List.map_nil]); first | done | rfl | (simp only [List.length_drop, List.length_take]; rfl)) ?_; (with_reducible refine (crc_step.calls ((Go.bits .xor .u8 ((x3_1) % 256) (rd l0 x8_1)) % 4294967296) t116 _ A5.out).mono ?_); rintro e w' ⟨rfl, ⟨nd, rfl⟩⟩; refine ⟨_, rfl, ?_⟩))
            go_roundg k1
            case measure => have := HK1.out; omega
            case rel => exact ⟨(Go.bits .xor .u32 (x3_1 / 256) t116), (wrap64 (x8_1 + 1)), (by first | rfl | (simp; done) | (simp [*]; done)), (by first | rfl | (simp; done) | (simp [*]; done)), H', ⟨by have := HK1.out; omega⟩, by repeat (first | exact Drawn0.refl _ | apply Drawn0.step)⟩
          · rw [if_neg c4] at H
            exact absurd H (by simp)
        · rw [if_neg c3] at H
          exact absurd H (by simp)
      · rw [if_neg c2] at H
        have c2b0 : decide (x8_1 < (l0.length : Int)) = false := decide_eq_false c2
        clear c2
        obtain rfl := Option.some.inj H
        go_wp2
        go_ret
        exact ⟨by first | rfl | (simp; done) | (simp [*]; done), by repeat (first | exact Drawn0.refl _ | apply Drawn0.step)⟩

/-! ### crc_Sum: plain, of function 68 -/
def crc_Sum.f (l0 : List Int) : Option Int := if YtanfmnobanhcnaaH.Crc.isB l0 then some (YtanfmnobanhcnaaH.Crc.crcI l0) else none
set_option maxHeartbeats 2000000 in
theorem crc_Sum.loop (l : List Int) (hl : l.length ≤ 9223372036854775807) (hB : YtanfmnobanhcnaaH.Crc.isB l) (t : List Int) : ∀ (r i : Nat), r < 4294967296 → i + t.length = l.length → l.drop i = t →
    Ev (fun k => crc_Sum_p.l0 k (r : Int) l (l.length : Int) (i : Int)) ((YtanfmnobanhcnaaH.Crc.crcReg r (YtanfmnobanhcnaaH.Crc.nats t) ^^^ 4294967295 : Nat) : Int) := by
  induction t with
  | nil =>
    intro r i hr hi ht
    refine Ev.step (fun k => ?_) (Ev.now _)
    simp only [crc_Sum_p.l0]
    rw [if_neg (by simp at hi; omega)]
    have e2 : (4294967295 : Int) = ((4294967295 : Nat) : Int) := rfl
    rw [e2, YtanfmnobanhcnaaH.Crc.u32_xor _ _ (by decide) hr, Nat.xor_comm]
    rfl
  | cons c t ih =>
    intro r i hr hi ht
    have hil : i < l.length := by simp at hi; omega
    have hc : l[i] = c := by
      rw [List.drop_eq_getElem_cons hil] at ht
      exact (List.cons.inj ht).1
    have ht' : l.drop (i + 1) = t := by
      rw [List.drop_eq_getElem_cons hil] at ht
      exact (List.cons.inj ht).2
    have hrd : rd l (i : Int) = c := by
      unfold rd
      rw [Int.toNat_natCast, List.getD_eq_getElem?_getD, List.getElem?_eq_getElem hil, hc]
      rfl
    have hcb : 0 ≤ c ∧ c < 256 := hB c (by rw [← hc]; exact List.getElem_mem hil)
    obtain ⟨n, rfl⟩ := Int.eq_ofNat_of_zero_le hcb.1
    have hn : n < 256 := by omega
    have hx : r % 256 ^^^ n < 4294967296 := Nat.lt_trans (Nat.xor_lt_two_pow (n := 8) (by omega) hn) (by decide)
    have hx8 : r % 256 ^^^ n < 256 := Nat.xor_lt_two_pow (n := 8) (by omega) hn
    have e : YtanfmnobanhcnaaH.Crc.nats (((n : Nat) : Int) :: t) = n :: YtanfmnobanhcnaaH.Crc.nats t := by simp [YtanfmnobanhcnaaH.Crc.nats]
    rw [e, YtanfmnobanhcnaaH.Crc.crcReg_cons, YtanfmnobanhcnaaH.Crc.byte_step]
    refine Ev.step (fun k => ?_) (ih (r / 256 ^^^ YtanfmnobanhcnaaH.Crc.Mn 8 (r % 256 ^^^ n)) (i + 1) (Nat.xor_lt_two_pow (n := 32) (by omega) (YtanfmnobanhcnaaH.Crc.Mn_lt _ _ hx)) (by simp at hi; omega) ht')
    simp only [crc_Sum_p.l0]
    rw [if_pos (by omega), if_pos (by omega), if_pos (by omega), hrd]
    have e1 : ((r : Int) % 256) = ((r % 256 : Nat) : Int) := by omega
    have e2 : ((r : Int) / 256) = ((r / 256 : Nat) : Int) := by omega
    have e4 : (((r % 256 ^^^ n : Nat) : Int) % 4294967296) = ((r % 256 ^^^ n : Nat) : Int) := by omega
    rw [e1, e2, u8_xor_nat _ _ (by omega) hn, e4]
    unfold crc_step.f
    rw [if_pos (by omega), Int.toNat_natCast]
    rw [Option.bind_some]
    rw [YtanfmnobanhcnaaH.Crc.u32_xor _ _ (by omega) (YtanfmnobanhcnaaH.Crc.Mn_lt _ _ hx), YtanfmnobanhcnaaH.Crc.wrap64_in _ (by omega) (by omega)]
    rfl
set_option maxHeartbeats 2000000 in
theorem crc_Sum.ev (l0 : List Int) (r : Int) (h : crc_Sum.f l0 = some r) (hl : l0.length ≤ 9223372036854775807) : Ev (fun k => crc_Sum_p.f k l0) r := by
  unfold crc_Sum.f at h
  split at h
  · obtain rfl := Option.some.inj h
    exact crc_Sum.loop l0 hl ‹_› l0 4294967295 0 (by decide) (by simp) rfl
  · cases h
theorem crc_Sum.calls (A0 : Option Addr) (c0 : Nat) (l0 : List Int) (r : Int) (w : World) (hr0 : Kd.C (Kd.int .u8) w A0 l0.length l0) (hc0 : l0.length ≤ c0) (h : crc_Sum.f l0 = some r) :
    Calls Try.prog 68 #[.slice A0 l0.length c0] w fun e w' => e = .returned (.int .u32 r) ∧ Drawn0 w w' := by
  obtain ⟨k, hk⟩ := (crc_Sum.ev l0 _ h (by first | exact hr0.2.1 | exact (Kd.V_reads' hs0).2.2.2.1 | exact (Kd.R_reads' ho0).2.2.2.1)).rounds
  exact crc_Sum_p.calls k A0 c0 l0 r w hr0 hc0 hk

/-! ### crc_Frame_p: function 32 -/
def crc_Frame_p.f (l0 : List Int) : Option (List Int) := (num_PutVar.f (IntKind.u64.wrap ((l0.length : Int)))).bind fun t117 => ((crc_Sum.f l0).bind fun t120 => ((crc_bytes.f t120).bind fun t121 => ((slices_Concat_byte_byte.f (([t117, t121, l0] : List (List Int)))).bind fun t127 => (some t127))))
set_option maxHeartbeats 8000000 in
set_option maxRecDepth 100000 in
theorem crc_Frame_p.calls (P0_ : Nat → Prop) (A0 : Option Addr) (c0 : Nat) (l0 : List Int) (r : List Int) (w : World) (hs0 : Kd.V (Kd.int .u8) 5 w w.heap.size (fun k_ => P0_ k_) (.slice A0 l0.length c0) l0) (h : crc_Frame_p.f l0 = some r) :
    Calls Try.prog 32 #[.slice A0 l0.length c0] w fun e w' => ∃ v0_ : Value, e = .returned (v0_) ∧ Kd.R (Kd.int .u8) 5 w' w.heap.size (fun k_ => (w.heap.size ≤ k_)) v0_ r ∧ Below w.heap.size w w' := by
  have HO0 := Aside0.mk (show Kd.V (Kd.int .u8) 5 w w.heap.size (fun k_ => (P0_ k_ ∨ w.heap.size ≤ k_)) (.slice A0 l0.length c0) l0 from Kd.V_mono hs0 (fun k_ hk => .inl hk))
  have HB := Aside0.mk (Below.refl w.heap.size w)
  have H : ((num_PutVar.f (IntKind.u64.wrap ((l0.length : Int)))).bind fun t117 => ((crc_Sum.f l0).bind fun t120 => ((crc_bytes.f t120).bind fun t121 => ((slices_Concat_byte_byte.f (([t117, t121, l0] : List (List Int)))).bind fun t127 => (some t127))))) = some r := h
  clear h
  replace H := Option.bind_eq_some_iff.mp H
  obtain ⟨t117, A20, H⟩ := H
  replace H : ((crc_Sum.f l0).bind fun t120 => ((crc_bytes.f t120).bind fun t121 => ((slices_Concat_byte_byte.f (([t117, t121, l0] : List (List Int)))).bind fun t127 => (some t127)))) = some r := H
  have A2 := Aside0.mk A20
  clear A20
  replace H := Option.bind_eq_some_iff.mp H
  obtain ⟨t120, A30, H⟩ := H
  replace H : ((crc_bytes.f t120).bind fun t121 => ((slices_Concat_byte_byte.f (([t117, t121, l0] : List (List Int)))).bind fun t127 => (some t127))) = some r := H
  have A3 := Aside0.mk A30
  clear A30
  replace H := Option.bind_eq_some_iff.mp H
  obtain ⟨t121, A40, H⟩ := H
  replace H : ((slices_Concat_byte_byte.f (([t117, t121, l0] : List (List Int)))).bind fun t127 => (some t127)) = some r := H
  have A4 := Aside0.mk A40
  clear A40
  obtain ⟨y124, hy124⟩ : ∃ y_ : List (List Int), y_ = (([t117, t121, l0] : List (List Int))) := ⟨_, rfl⟩
  replace H : ((slices_Concat_byte_byte.f y124).bind fun t127 => (some t127)) = some r := by first | (rw [hy124]; with_reducible exact H) | (have H2_ := (Option.bind_some _ _).symm.trans H; rw [hy124]; with_reducible exact H2_) | (have H2_ := (Option.bind_some _ _).symm.trans H; with_reducible exact H2_) | with_reducible exact H | (rw [hy124]; exact H) | exact H
  have Ny124 := Aside0.mk hy124
  clear hy124
  replace H := Option.bind_eq_some_iff.mp H
  obtain ⟨t127, A50, H⟩ := H
  replace H : (some t127) = some r := H
  have A5 := Aside0.mk A50
  clear A50
  obtain rfl := Option.some.inj H
  go_enter Try.func32, Try.ntmps32
  go_wp2_with (first | ((with_reducible refine gate_callee (f := 66) rfl ?_); refine goesL_ (some 6) rfl rfl Try.func66 (by kernel_rfl) rfl #[.int .u64 (IntKind.u64.wrap ((l0.length : Int)))] rfl (by (try simp only [List.map_toArray, List.map_cons, List.map_nil]); first | done | rfl | (simp only [List.length_drop, List.length_take]; rfl)) ?_; (with_reducible refine (num_PutVar.calls (IntKind.u64.wrap ((l0.length : Int))) t117 _ A2.out).mono ?_); rintro e w6 ⟨v118, rfl, ho0, hb⟩; refine ⟨_, rfl, ?_⟩; have n0_ := Aside0.mk (Kd.V_elder' (by (with_reducible repeat (first | apply Kd.V_alloc | apply Kd.V_drewN | apply Kd.V_drew)); exact HO0.out) (Kd.R_base ho0) hb); have n1_ := Aside0.mk (Kd.R_lower (Kd.R_newM (M := fun k_ => (w.heap.size ≤ k_)) ho0 (below_size (by repeat (first | (with_reducible first | exact HB.out | apply below_alloc | apply pw_below_drewN | apply below_drew1) | exact HB.out))) (fun k_ h_ => h_)) (below_size (by repeat (first | (with_reducible first | exact HB.out | apply below_alloc | apply pw_below_drewN | apply below_drew1) | exact HB.out)))); have n2_ := Aside0.mk (below_step (by repeat (first | (with_reducible first | exact HB.out | apply below_alloc | apply pw_below_drewN | apply below_drew1) | exact HB.out)) hb); clear HO0; clear HB; have HO0 := n0_; have HO119 := n1_; have HB := n2_; clear n0_ n1_ n2_; (try clear hb); (try clear hb2); (try clear hk); (try clear hi); (try clear ho0)) | ((with_reducible refine gate_callee (f := 68) rfl ?_); refine goesL_ (some 8) rfl rfl Try.func68 (by kernel_rfl) rfl #[.slice A0 l0.length c0] rfl (by (try simp only [List.map_toArray, List.map_cons, List.map_nil]); first | done | rfl | (simp only [List.length_drop, List.length_take]; rfl)) ?_; (with_reducible refine (crc_Sum.calls _ _ l0 t120 _ ?side1 ?side2 A3.out).mono ?_); (case side1 => repeat (first | exact (Kd.V_reads' HO0.out).2.2 | (with_reducible refine Kd.C_alloc ?_ _) | (with_reducible refine Kd.C_drewN ?_ _) | (with_reducible refine Kd.C_drew ?_))); (case side2 => exact (Kd.V_reads' HO0.out).2.1); rintro e w' ⟨rfl, ⟨nd, rfl⟩⟩; refine ⟨_, rfl, ?_⟩) | ((with_reducible refine gate_callee (f := 67) rfl ?_); refine goesL_ (some 9) rfl rfl Try.func67 (by kernel_rfl) rfl #[.int .u32 t120] rfl (by (try simp only [List.map_toArray, List.map_cons, List.map_nil]); first | done | rfl | (simp only [List.length_drop, List.length_take]; rfl)) ?_; (with_reducible refine (crc_bytes.calls t120 t121 _ A4.out).mono ?_); rintro e w7 ⟨v122, rfl, ho0, hb⟩; refine ⟨_, rfl, ?_⟩; have n0_ := Aside0.mk (Kd.V_below (by (with_reducible repeat (first | apply Kd.V_alloc | apply Kd.V_drewN | apply Kd.V_drew)); exact HO0.out) hb); have n1_ := Aside0.mk (Kd.R_below (by (with_reducible repeat (first | apply Kd.R_alloc | apply Kd.R_drewN | apply Kd.R_drew)); exact HO119.out) hb); have n2_ := Aside0.mk (Kd.V_lower (Kd.V_mono (ok' := fun k_ => (P0_ k_ ∨ w.heap.size ≤ k_) ∧ some k_ ≠ (v118 : Value).ownBlock) ho0 (fun k_ hk_ => ⟨(.inr (Nat.le_trans (below_size (by repeat (first | (with_reducible first | exact HB.out | apply below_alloc | apply pw_below_drewN | apply below_drew1) | exact HB.out))) hk_)), (Kd.fresh' (Kd.R_lt (by (with_reducible repeat (first | apply Kd.R_alloc | apply Kd.R_drewN | apply Kd.R_drew)); exact HO119.out)) k_ hk_)⟩)) (below_size (by repeat (first | (with_reducible first | exact HB.out | apply below_alloc | apply pw_below_drewN | apply below_drew1) | exact HB.out)))); have n3_ := Aside0.mk (below_step (by repeat (first | (with_reducible first | exact HB.out | apply below_alloc | apply pw_below_drewN | apply below_drew1) | exact HB.out)) hb); clear HO0; clear HO119; clear HB; have HO0 := n0_; have HO119 := n1_; have HO123 := n2_; have HB := n3_; clear n0_ n1_ n2_ n3_; (try clear hb); (try clear hb2); (try clear hk); (try clear hi); (try clear ho0); obtain ⟨Ao8, co8, eo8⟩ := Kd.R_slice HO119.out; subst eo8; obtain ⟨Ao9, co9, eo9⟩ := Kd.V_slice HO123.out; subst eo9) | ((with_reducible refine gate_dst (N := 11) rfl ?_); refine Kd.N_lit (Kd.slice 5 (Kd.int .u8)) _ 26 ?hg (N' := 11) ?hd (xs := ([t117, t121, l0] : List (List Int))) (inner := [.slice Ao8 t117.length co8, .slice Ao9 t121.length co9, .slice A0 l0.length c0]) (ok := (fun k_ => (P0_ k_ ∨ w.heap.size ≤ k_))) (okp := (fun k_ => (P0_ k_ ∨ w.heap.size ≤ k_))) ?hr ?hp (fun _ hk => hk) ((show ∀ k_, w7.heap.size ≤ k_ → (fun k_ => (P0_ k_ ∨ w.heap.size ≤ k_)) k_ from fun k_ hk => (.inr (Nat.le_trans (below_size (by repeat (first | (with_reducible first | exact HB.out | apply below_alloc | apply pw_below_drewN | apply below_drew1) | exact HB.out))) hk))) _ (Nat.le_refl _)) (Below.refl _ _) (Nat.le_refl _) (by simp) ?_; (case hd => rfl); (case hg => rfl); (case hr => first | (go_simp; done) | (go_simp; rfl)); (case hp => exact (Reps.one (show Kd.FK (Kd.slice 5 (Kd.int .u8)) _ _ t117 [.slice Ao8 t117.length co8] from (Kd.FK_slice_mk (Kd.R_reads' (Kd.R_mono (ok' := (fun k_ => (P0_ k_ ∨ w.heap.size ≤ k_))) (HO119.out) (fun k_ hk => (.inr (hk.1))))).2.1 (Kd.R_F (Kd.R_mono (ok' := (fun k_ => (P0_ k_ ∨ w.heap.size ≤ k_))) (HO119.out) (fun k_ hk => (.inr (hk.1))))))) (Reps.one (show Kd.FK (Kd.slice 5 (Kd.int .u8)) _ _ t121 [.slice Ao9 t121.length co9] from (Kd.FK_slice_mk (Kd.V_reads' (Kd.V_mono (ok' := (fun k_ => (P0_ k_ ∨ w.heap.size ≤ k_))) (HO123.out) (fun k_ hk => hk.1))).2.1 (Kd.V_F (Kd.V_mono (ok' := (fun k_ => (P0_ k_ ∨ w.heap.size ≤ k_))) (HO123.out) (fun k_ hk => hk.1))))) (Reps.one (show Kd.FK (Kd.slice 5 (Kd.int .u8)) _ _ l0 [.slice A0 l0.length c0] from (Kd.FK_slice_mk (Kd.V_reads' (Kd.V_mono (ok' := (fun k_ => (P0_ k_ ∨ w.heap.size ≤ k_))) (HO0.out) (fun k_ hk => hk.1))).2.1 (Kd.V_F (Kd.V_mono (ok' := (fun k_ => (P0_ k_ ∨ w.heap.size ≤ k_))) (HO0.out) (fun k_ hk => hk.1))))) (Reps.none _ _))))); intro v125 w10 ho11 hb hg_ hnew_; clear hg_ hnew_; (first | rw [← Ny124.out] at ho11 | (simp only [Int.reduceToNat] at ho11; rw [← Ny124.out] at ho11)); have n0_ := Aside0.mk (Kd.V_elder' (by (with_reducible repeat (first | apply Kd.V_alloc | apply Kd.V_drewN | apply Kd.V_drew)); exact HO0.out) (Kd.N_base ho11) hb); have n1_ := Aside0.mk (Kd.V_elder' (by (with_reducible repeat (first | apply Kd.V_alloc | apply Kd.V_drewN | apply Kd.V_drew)); exact HO123.out) (Kd.N_base ho11) hb); have n2_ := Aside0.mk (Kd.N_lower ho11 (below_size (by repeat (first | (with_reducible first | exact HB.out | apply below_alloc | apply pw_below_drewN | apply below_drew1) | exact HB.out)))); have n3_ := Aside0.mk (below_step (by repeat (first | (with_reducible first | exact HB.out | apply below_alloc | apply pw_below_drewN | apply below_drew1) | exact HB.out)) hb); clear HO0; clear HO123; clear HB; clear HO119; have HO0 := n0_; have HO123 := n1_; have HO126 := n2_; have HB := n3_; clear n0_ n1_ n2_ n3_; clear hb ho11; obtain ⟨Ao12, co12, eo12⟩ := Kd.N_slice HO126.out; subst eo12) | ((with_reducible refine gate_callee (f := 60) rfl ?_); refine goesL_ (some 12) rfl rfl Try.func60 (by kernel_rfl) rfl #[.slice Ao12 y124.length co12] rfl (by (try simp only [List.map_toArray, List.map_cons, List.map_nil]); first | done | rfl | (simp only [List.length_drop, List.length_take]; rfl)) ?_; (with_reducible refine (slices_Concat_byte_byte.calls _ _ y124 t127 _ ?side1 ?side2 A5.out).mono ?_); (case side1 => repeat (first | exact (Kd.N_reads' HO126.out).2.2 | (with_reducible refine Kd.C_alloc ?_ _) | (with_reducible refine Kd.C_drewN ?_ _) | (with_reducible refine Kd.C_drew ?_))); (case side2 => exact (Kd.N_reads' HO126.out).2.1); rintro e w13 ⟨v128, rfl, ho0, hb⟩; refine ⟨_, rfl, ?_⟩; have n0_ := Aside0.mk (Kd.V_elder' (by (with_reducible repeat (first | apply Kd.V_alloc | apply Kd.V_drewN | apply Kd.V_drew)); exact HO0.out) (Kd.R_base ho0) hb); have n1_ := Aside0.mk (Kd.V_elder' (by (with_reducible repeat (first | apply Kd.V_alloc | apply Kd.V_drewN | apply Kd.V_drew)); exact HO123.out) (Kd.R_base ho0) hb); have n2_ := Aside0.mk (Kd.N_elder' (by (with_reducible repeat (first | apply Kd.N_alloc | apply Kd.N_drewN | apply Kd.N_drew)); exact HO126.out) (Kd.R_base ho0) hb); have n3_ := Aside0.mk (Kd.R_lower (Kd.R_newM (M := fun k_ => (w.heap.size ≤ k_)) ho0 (below_size (by repeat (first | (with_reducible first | exact HB.out | apply below_alloc | apply pw_below_drewN | apply below_drew1) | exact HB.out))) (fun k_ h_ => h_)) (below_size (by repeat (first | (with_reducible first | exact HB.out | apply below_alloc | apply pw_below_drewN | apply below_drew1) | exact HB.out)))); have n4_ := Aside0.mk (below_step (by repeat (first | (with_reducible first | exact HB.out | apply below_alloc | apply pw_below_drewN | apply below_drew1) | exact HB.out)) hb); clear HO0; clear HO123; clear HO126; clear HB; have HO0 := n0_; have HO123 := n1_; have HO126 := n2_; have HO129 := n3_; have HB := n4_; clear n0_ n1_ n2_ n3_ n4_; (try clear hb); (try clear hb2); (try clear hk); (try clear hi); (try clear ho0)))
  go_ret
  exact ⟨_, by first | rfl | (simp [errW_none, errW_some] <;> rfl) | (simp [*, errW_none, errW_some] <;> rfl), by (with_reducible repeat (first | apply Kd.R_alloc | apply Kd.R_drewN | apply Kd.R_drew)); exact Kd.R_mono HO129.out (fun _ hk => hk.1), by repeat (first | (with_reducible first | exact HB.out | apply below_alloc | apply pw_below_drewN | apply below_drew1) | exact HB.out)⟩

/-! ### crc_Frame: plain, of function 32 -/
def crc_Frame.f (l0 : List Int) : Option (List Int) := if YtanfmnobanhcnaaH.Crc.isB l0 ∧ l0.length < 140737488355000 then some (YtanfmnobanhcnaaH.Fr.frameI l0) else none
set_option maxHeartbeats 2000000 in
theorem crc_Frame.ev (l0 : List Int) (r : List Int) (h : crc_Frame.f l0 = some r) (hl : l0.length ≤ 9223372036854775807) : crc_Frame_p.f l0 = some r := by
  unfold crc_Frame.f at h
  split at h
  · rename_i hx
    obtain rfl := Option.some.inj h
    have hc := YtanfmnobanhcnaaH.Crc.crcI_range hx.1
    have hlen := YtanfmnobanhcnaaH.Fr.frameI_len l0
    have h10 := YtanfmnobanhcnaaH.Var.putI_len10 (l0.length : Int) (by omega)
    unfold crc_Frame_p.f
    have e : IntKind.u64.wrap (l0.length : Int) = (l0.length : Int) := by rw [IntKind.wrap_u64]; omega
    rw [e]
    unfold num_PutVar.f
    rw [if_pos (by omega)]
    rw [Option.bind_some]
    unfold crc_Sum.f
    rw [if_pos hx.1]
    rw [Option.bind_some]
    unfold crc_bytes.f
    rw [if_pos hc]
    rw [Option.bind_some]
    unfold slices_Concat_byte_byte.f
    have ef : [YtanfmnobanhcnaaH.Var.putI (l0.length : Int), YtanfmnobanhcnaaH.Fr.sum4 (YtanfmnobanhcnaaH.Crc.crcI l0), l0].flatten = YtanfmnobanhcnaaH.Fr.frameI l0 := by simp [YtanfmnobanhcnaaH.Fr.frameI]
    rw [ef, if_pos (by omega)]
    rfl
  · cases h
theorem crc_Frame.calls (P0_ : Nat → Prop) (A0 : Option Addr) (c0 : Nat) (l0 : List Int) (r : List Int) (w : World) (hs0 : Kd.V (Kd.int .u8) 5 w w.heap.size (fun k_ => P0_ k_) (.slice A0 l0.length c0) l0) (h : crc_Frame.f l0 = some r) :
    Calls Try.prog 32 #[.slice A0 l0.length c0] w fun e w' => ∃ v0_ : Value, e = .returned (v0_) ∧ Kd.R (Kd.int .u8) 5 w' w.heap.size (fun k_ => (w.heap.size ≤ k_)) v0_ r ∧ Below w.heap.size w w' := by
  exact crc_Frame_p.calls P0_ A0 c0 l0 r w hs0 (crc_Frame.ev l0 _ h (by first | exact hr0.2.1 | exact (Kd.V_reads' hs0).2.2.2.1 | exact (Kd.R_reads' ho0).2.2.2.1))

/-! ### record_may_1: function 69 -/
def record_may_1.f (a0 : Int) : Option (Bool) := if a0 < 0 then (some true) else (some (decide (a0 > 999999)))
set_option maxHeartbeats 8000000 in
set_option maxRecDepth 100000 in
theorem record_may_1.calls (a0 : Int) (r : Bool) (w : World) (h : record_may_1.f a0 = some r) :
    Calls Try.prog 69 #[.int .i64 a0] w fun e w' => e = .returned (.bool r) ∧ Drawn0 w w' := by
  have H : (if a0 < 0 then (some true) else (some (decide (a0 > 999999)))) = some r := h
  clear h
  by_cases c2 : a0 < 0
  · rw [if_pos c2] at H
    have c2b0 : decide (a0 < 0) = true := decide_eq_true c2
    clear c2
    obtain rfl := Option.some.inj H
    go_enter Try.func69, Try.ntmps69
    go_wp2
    go_ret
    exact ⟨by first | rfl | (simp; done) | (simp [*]; done), by repeat (first | exact Drawn0.refl _ | apply Drawn0.step)⟩
  · rw [if_neg c2] at H
    have c2b0 : decide (a0 < 0) = false := decide_eq_false c2
    clear c2
    obtain rfl := Option.some.inj H
    go_enter Try.func69, Try.ntmps69
    go_wp2
    go_ret
    exact ⟨by first | rfl | (simp; done) | (simp [*]; done), by repeat (first | exact Drawn0.refl _ | apply Drawn0.step)⟩

/-! ### schema_within: function 107 -/
def schema_within.f (a0 : Int) (a1 : Int) (a2 : Int) : Option (Bool) := if a0 ≥ a1 then (some (decide (a0 ≤ a2))) else (some false)
set_option maxHeartbeats 8000000 in
set_option maxRecDepth 100000 in
theorem schema_within.calls (a0 : Int) (a1 : Int) (a2 : Int) (r : Bool) (w : World) (h : schema_within.f a0 a1 a2 = some r) :
    Calls Try.prog 107 #[.int .i64 a0, .int .i64 a1, .int .i64 a2] w fun e w' => e = .returned (.bool r) ∧ Drawn0 w w' := by
  have H : (if a0 ≥ a1 then (some (decide (a0 ≤ a2))) else (some false)) = some r := h
  clear h
  by_cases c4 : a0 ≥ a1
  · rw [if_pos c4] at H
    have c4b0 : decide (a1 ≤ a0) = true := decide_eq_true c4
    clear c4
    obtain rfl := Option.some.inj H
    go_enter Try.func107, Try.ntmps107
    go_wp2
    go_ret
    exact ⟨by first | rfl | (simp; done) | (simp [*]; done), by repeat (first | exact Drawn0.refl _ | apply Drawn0.step)⟩
  · rw [if_neg c4] at H
    have c4b0 : decide (a1 ≤ a0) = false := decide_eq_false c4
    clear c4
    obtain rfl := Option.some.inj H
    go_enter Try.func107, Try.ntmps107
    go_wp2
    go_ret
    exact ⟨by first | rfl | (simp; done) | (simp [*]; done), by repeat (first | exact Drawn0.refl _ | apply Drawn0.step)⟩

/-! ### schema_Check_1: function 106 -/
def schema_Check_1.f (a0 : Int) : Option (Bool) := (schema_within.f a0 1 3).bind fun t130 => (some (!t130))
set_option maxHeartbeats 8000000 in
set_option maxRecDepth 100000 in
theorem schema_Check_1.calls (a0 : Int) (r : Bool) (w : World) (h : schema_Check_1.f a0 = some r) :
    Calls Try.prog 106 #[.int .i64 a0] w fun e w' => e = .returned (.bool r) ∧ Drawn0 w w' := by
  have H : ((schema_within.f a0 1 3).bind fun t130 => (some (!t130))) = some r := h
  clear h
  replace H := Option.bind_eq_some_iff.mp H
  obtain ⟨t130, A20, H⟩ := H
  replace H : (some (!t130)) = some r := H
  have A2 := Aside0.mk A20
  clear A20
  obtain rfl := Option.some.inj H
  go_enter Try.func106, Try.ntmps106
  go_wp2_with (first | ((with_reducible refine gate_callee (f := 107) rfl ?_); refine goesL_ (some 4) rfl rfl Try.func107 (by kernel_rfl) rfl #[.int .i64 a0, .int .i64 1, .int .i64 3] rfl (by (try simp only [List.map_toArray, List.map_cons, List.map_nil]); first | done | rfl | (simp only [List.length_drop, List.length_take]; rfl)) ?_; (with_reducible refine (schema_within.calls a0 1 3 t130 _ A2.out).mono ?_); rintro e w' ⟨rfl, ⟨nd, rfl⟩⟩; refine ⟨_, rfl, ?_⟩))
  go_ret
  exact ⟨by first | rfl | (simp; done) | (simp [*]; done), by repeat (first | exact Drawn0.refl _ | apply Drawn0.step)⟩

/-! ### slices_IndexFunc_int_int: function 105 -/

set_option maxHeartbeats 2000000 in
theorem slices_IndexFunc_int_int.calls_69 (A0 : Option Addr) (c0 : Nat) (l0 : List Int) (p : Int → Bool) (w : World) (hr0 : Kd.C (Kd.int .i64) w A0 l0.length l0) (hc0 : l0.length ≤ c0) (hp : ∀ x ∈ l0, record_may_1.f x = some (p x)) :
    Calls Try.prog 105 #[.slice A0 l0.length c0, .func (.func 69) #[] #[]] w fun e w' => e = .returned (.int .i64 (YtanfmnobanhcnaaH.idx p l0)) ∧ Drawn0 w w' := by
  have HR0 := Aside0.mk hr0
  have HP := Aside0.mk hp
  have hlen : l0.length ≤ 9223372036854775807 := hr0.2.1
  clear hr0 hp
  go_enter Try.func105, Try.ntmps105
  go_wp2
  go_loopw [4, 5, 8] (fun v4 v5 v8 w' => ∃ k : Nat, k ≤ l0.length ∧ v8 = .int .i64 k ∧ Aside0 (YtanfmnobanhcnaaH.idx p l0 = YtanfmnobanhcnaaH.idxFrom p k (l0.drop k)) ∧ Aside0 (Drawn0 w w')) (fun _ _ v8 _ => l0.length - (intOf v8).toNat)
  case atStart => exact ⟨0, Nat.zero_le _, rfl, ⟨rfl⟩, ⟨by first | exact Drawn0.refl _ | (repeat (first | exact Drawn0.refl _ | apply Drawn0.step))⟩⟩
  case round =>
    obtain ⟨k, hk, rfl, HI, HD⟩ := hrel
    by_cases hlt : k < l0.length
    · obtain ⟨ad, rfl, hcell⟩ := YtanfmnobanhcnaaH.at_int (Kd.C_below HR0.out HD.out.below) k hlt
      have hpx := HP.out l0[k] (List.getElem_mem hlt)
      go_wp2_with fail
      refine (record_may_1.calls l0[k] (p l0[k]) _ hpx).mono ?_
      rintro e w1 ⟨rfl, hd⟩
      have hdd := YtanfmnobanhcnaaH.drawn_trans HD.out hd
      have hi := HI.out
      rw [List.drop_eq_getElem_cons hlt] at hi
      simp only [YtanfmnobanhcnaaH.idxFrom] at hi
      cases hpk : p l0[k] with
      | true =>
        rw [hpk, if_pos rfl] at hi
        have HI2 := Aside0.mk hi
        clear hi HI
        go_wp2
        go_ret
        exact ⟨by rw [HI2.out]; rfl, hdd⟩
      | false =>
        rw [hpk, if_neg (by decide)] at hi
        have HI2 := Aside0.mk hi
        clear hi HI
        go_wp2
        go_round
        case rel => exact ⟨k + 1, by omega, by go_num, HI2, ⟨hdd⟩⟩
        case measure => simp [intOf]; omega
    · have hkk : k = l0.length := by omega
      subst hkk
      have hi := HI.out
      rw [List.drop_length] at hi
      have HI2 := Aside0.mk hi
      clear hi HI hlt hk
      go_wp2
      go_ret
      exact ⟨by rw [HI2.out]; rfl, HD.out⟩

set_option maxHeartbeats 2000000 in
theorem slices_IndexFunc_int_int.calls_106 (A0 : Option Addr) (c0 : Nat) (l0 : List Int) (p : Int → Bool) (w : World) (hr0 : Kd.C (Kd.int .i64) w A0 l0.length l0) (hc0 : l0.length ≤ c0) (hp : ∀ x ∈ l0, schema_Check_1.f x = some (p x)) :
    Calls Try.prog 105 #[.slice A0 l0.length c0, .func (.func 106) #[] #[]] w fun e w' => e = .returned (.int .i64 (YtanfmnobanhcnaaH.idx p l0)) ∧ Drawn0 w w' := by
  have HR0 := Aside0.mk hr0
  have HP := Aside0.mk hp
  have hlen : l0.length ≤ 9223372036854775807 := hr0.2.1
  clear hr0 hp
  go_enter Try.func105, Try.ntmps105
  go_wp2
  go_loopw [4, 5, 8] (fun v4 v5 v8 w' => ∃ k : Nat, k ≤ l0.length ∧ v8 = .int .i64 k ∧ Aside0 (YtanfmnobanhcnaaH.idx p l0 = YtanfmnobanhcnaaH.idxFrom p k (l0.drop k)) ∧ Aside0 (Drawn0 w w')) (fun _ _ v8 _ => l0.length - (intOf v8).toNat)
  case atStart => exact ⟨0, Nat.zero_le _, rfl, ⟨rfl⟩, ⟨by first | exact Drawn0.refl _ | (repeat (first | exact Drawn0.refl _ | apply Drawn0.step))⟩⟩
  case round =>
    obtain ⟨k, hk, rfl, HI, HD⟩ := hrel
    by_cases hlt : k < l0.length
    · obtain ⟨ad, rfl, hcell⟩ := YtanfmnobanhcnaaH.at_int (Kd.C_below HR0.out HD.out.below) k hlt
      have hpx := HP.out l0[k] (List.getElem_mem hlt)
      go_wp2_with fail
      refine (schema_Check_1.calls l0[k] (p l0[k]) _ hpx).mono ?_
      rintro e w1 ⟨rfl, hd⟩
      have hdd := YtanfmnobanhcnaaH.drawn_trans HD.out hd
      have hi := HI.out
      rw [List.drop_eq_getElem_cons hlt] at hi
      simp only [YtanfmnobanhcnaaH.idxFrom] at hi
      cases hpk : p l0[k] with
      | true =>
        rw [hpk, if_pos rfl] at hi
        have HI2 := Aside0.mk hi
        clear hi HI
        go_wp2
        go_ret
        exact ⟨by rw [HI2.out]; rfl, hdd⟩
      | false =>
        rw [hpk, if_neg (by decide)] at hi
        have HI2 := Aside0.mk hi
        clear hi HI
        go_wp2
        go_round
        case rel => exact ⟨k + 1, by omega, by go_num, HI2, ⟨hdd⟩⟩
        case measure => simp [intOf]; omega
    · have hkk : k = l0.length := by omega
      subst hkk
      have hi := HI.out
      rw [List.drop_length] at hi
      have HI2 := Aside0.mk hi
      clear hi HI hlt hk
      go_wp2
      go_ret
      exact ⟨by rw [HI2.out]; rfl, HD.out⟩


/-! ### slices_ContainsFunc_int_int: function 70 -/
def slices_ContainsFunc_int_int.f (l0 : List Int) (g : Nat) : Option Bool := if g = 69 then YtanfmnobanhcnaaH.anyO record_may_1.f l0 else if g = 106 then YtanfmnobanhcnaaH.anyO schema_Check_1.f l0 else none
set_option maxHeartbeats 2000000 in
theorem slices_ContainsFunc_int_int.calls (A0 : Option Addr) (c0 : Nat) (l0 : List Int) (a1 : Nat) (r : Bool) (w : World) (hr0 : Kd.C (Kd.int .i64) w A0 l0.length l0) (hc0 : l0.length ≤ c0) (h : slices_ContainsFunc_int_int.f l0 a1 = some r) :
    Calls Try.prog 70 #[.slice A0 l0.length c0, .func (.func a1) #[] #[]] w fun e w' => e = .returned (.bool r) ∧ Drawn0 w w' := by
  unfold slices_ContainsFunc_int_int.f at h
  by_cases hg69 : a1 = 69
  · subst hg69
    rw [if_pos rfl] at h
    obtain ⟨p, hp, rfl⟩ := YtanfmnobanhcnaaH.anyO_some h
    have HR0 := Aside0.mk hr0
    have HP := Aside0.mk hp
    clear hr0 hp h
    go_enter Try.func70, Try.ntmps70
    go_wp2_with fail
    refine (slices_IndexFunc_int_int.calls_69 A0 c0 l0 p _ HR0.out hc0 HP.out).mono ?_
    rintro e w1 ⟨rfl, hd⟩
    have hi := Aside0.mk (YtanfmnobanhcnaaH.idx_any p l0)
    go_wp2
    go_ret
    exact ⟨by rw [← hi.out]; rfl, hd⟩
  rw [if_neg hg69] at h
  by_cases hg106 : a1 = 106
  · subst hg106
    rw [if_pos rfl] at h
    obtain ⟨p, hp, rfl⟩ := YtanfmnobanhcnaaH.anyO_some h
    have HR0 := Aside0.mk hr0
    have HP := Aside0.mk hp
    clear hr0 hp h
    go_enter Try.func70, Try.ntmps70
    go_wp2_with fail
    refine (slices_IndexFunc_int_int.calls_106 A0 c0 l0 p _ HR0.out hc0 HP.out).mono ?_
    rintro e w1 ⟨rfl, hd⟩
    have hi := Aside0.mk (YtanfmnobanhcnaaH.idx_any p l0)
    go_wp2
    go_ret
    exact ⟨by rw [← hi.out]; rfl, hd⟩
  rw [if_neg hg106] at h
  cases h


end Go.Proofs.Ytanfmnobanhcnaa.PRec3
