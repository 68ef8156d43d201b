-- Written by hp.py (own driver over print.py) out of the translation, hand-made functions among it. Lean checks it.
import Derived.Test.YtanfmnobanhcnaaPRec3x0
import Derived.Test.YtanfmnobanhcnaaPRec3x1
import Derived.Test.YtanfmnobanhcnaaPRec3x3
namespace Go.Proofs.Ytanfmnobanhcnaa.PRec3
open Go.RowKit Go.Proofs.YtanfmnobanhcnaaW.PrintWords Go.Proofs.YtanfmnobanhcnaaW.PrintLast Go.Proofs.YtanfmnobanhcnaaW.PrintMore
attribute [local go_sem] max2_int min2_int max_two min_two max_three min_three max_four min_four   -- for this text's walks alone
set_option linter.unusedVariables false
set_option linter.unusedSimpArgs false

/-! ### schema_Put_p: function 34 -/
def schema_Put_p.l0 : Nat → List Int → List Int → Int → Int → Option (List Int)
  | 0, _, _, _, _ => none
  | k + 1, x3, x20, x21, x22 => if x22 < x21 then (if 0 ≤ x22 then (if x22 < (x20.length : Int) then ((num_PutVar.f (IntKind.u64.wrap (rd x20 x22))).bind fun t156 => (if x3.length + t156.length < 140737488355328 then (schema_Put_p.l0 k (x3 ++ t156) x20 x21 (wrap64 (x22 + 1))) else (none))) else (none)) else (none)) else (some x3)
def schema_Put_p.f (k : Nat) (l0_0 : List Int) (a0_1 : Int) (a0_2 : Int) (a0_3 : Int) : Option (List Int) := (slices_Concat_int_int.f (([(([(l0_0.length : Int)] : List Int)), l0_0, (([a0_1, a0_2, a0_3] : List Int))] : List (List Int)))).bind fun t152 => (schema_Put_p.l0 k ([] : List Int) t152 (t152.length : Int) 0)
theorem schema_Put_p.mono_l : ∀ k, (∀ y0 y1 y2 y3, LeO (schema_Put_p.l0 k y0 y1 y2 y3) (schema_Put_p.l0 (k + 1) y0 y1 y2 y3))
  | 0 => fun _ _ _ _ r h => by simp [schema_Put_p.l0] at h
  | k + 1 => by
    have ih0 := schema_Put_p.mono_l k
    · intro y0 y1 y2 y3
      unfold schema_Put_p.l0
      repeat' first
      | (with_reducible exact ih0 _ _ _ _)
      | (with_reducible exact LeO.refl _)
      | (with_reducible exact LeO.none _)
      | (with_reducible refine LeO.ite ?_ ?_)
      | (with_reducible refine LeO.bind ?_ (fun _ => ?_))
      | exact ih0 _ _ _ _
      | exact LeO.none _
      | refine LeO.ite ?_ ?_
      | refine LeO.bind ?_ (fun _ => ?_)
theorem schema_Put_p.mono : ∀ a0 a1 a2 a3 k, LeO (schema_Put_p.f k a0 a1 a2 a3) (schema_Put_p.f (k + 1) a0 a1 a2 a3) := by
  intro a0 a1 a2 a3 k
  have ih0 := schema_Put_p.mono_l k
  unfold schema_Put_p.f
  repeat' first
      | (with_reducible exact ih0 _ _ _ _)
      | (with_reducible exact LeO.refl _)
      | (with_reducible exact LeO.none _)
      | (with_reducible refine LeO.ite ?_ ?_)
      | (with_reducible refine LeO.bind ?_ (fun _ => ?_))
      | exact ih0 _ _ _ _
      | exact LeO.none _
      | refine LeO.ite ?_ ?_
      | refine LeO.bind ?_ (fun _ => ?_)
set_option maxHeartbeats 8000000 in
set_option maxRecDepth 100000 in
theorem schema_Put_p.calls (k : Nat) (P0_0_ : Nat → Prop) (A0_0 : Option Addr) (c0_0 : Nat) (l0_0 : List Int) (a0_1 : Int) (a0_2 : Int) (a0_3 : Int) (r : List Int) (w : World) (hs0_0 : Kd.V (Kd.int .i64) 3 w w.heap.size (fun k_ => P0_0_ k_) (.slice A0_0 l0_0.length c0_0) l0_0) (h : schema_Put_p.f k l0_0 a0_1 a0_2 a0_3 = some r) :
    Calls Try.prog 34 #[.agg #[.slice A0_0 l0_0.length c0_0, .int .i64 a0_1, .int .i64 a0_2, .int .i64 a0_3]] w fun e w' => ∃ v0_ : Value, e = .returned (v0_) ∧ Kd.R (Kd.int .u8) 5 w' w.heap.size (fun k_ => (w.heap.size ≤ k_)) v0_ r ∧ Below w.heap.size w w' := by
  have hu25 := Try.underlying25
  have HO0_0 := Aside0.mk (show Kd.V (Kd.int .i64) 3 w w.heap.size (fun k_ => (P0_0_ k_ ∨ w.heap.size ≤ k_)) (.slice A0_0 l0_0.length c0_0) l0_0 from Kd.V_mono hs0_0 (fun k_ hk => .inl hk))
  have HB := Aside0.mk (Below.refl w.heap.size w)
  have H : ((slices_Concat_int_int.f (([(([(l0_0.length : Int)] : List Int)), l0_0, (([a0_1, a0_2, a0_3] : List Int))] : List (List Int)))).bind fun t152 => (schema_Put_p.l0 k ([] : List Int) t152 (t152.length : Int) 0)) = some r := h
  clear h
  obtain ⟨y143, hy143⟩ : ∃ y_ : List Int, y_ = (([(l0_0.length : Int)] : List Int)) := ⟨_, rfl⟩
  replace H : ((slices_Concat_int_int.f (([y143, l0_0, (([a0_1, a0_2, a0_3] : List Int))] : List (List Int)))).bind fun t152 => (schema_Put_p.l0 k ([] : List Int) t152 (t152.length : Int) 0)) = some r := by first | (rw [hy143]; with_reducible exact H) | (have H2_ := (Option.bind_some _ _).symm.trans H; rw [hy143]; with_reducible exact H2_) | (have H2_ := (Option.bind_some _ _).symm.trans H; with_reducible exact H2_) | with_reducible exact H | (rw [hy143]; exact H) | exact H
  have Ny143 := Aside0.mk hy143
  clear hy143
  obtain ⟨y146, hy146⟩ : ∃ y_ : List Int, y_ = (([a0_1, a0_2, a0_3] : List Int)) := ⟨_, rfl⟩
  replace H : ((slices_Concat_int_int.f (([y143, l0_0, y146] : List (List Int)))).bind fun t152 => (schema_Put_p.l0 k ([] : List Int) t152 (t152.length : Int) 0)) = some r := by first | (rw [hy146]; with_reducible exact H) | (have H2_ := (Option.bind_some _ _).symm.trans H; rw [hy146]; with_reducible exact H2_) | (have H2_ := (Option.bind_some _ _).symm.trans H; with_reducible exact H2_) | with_reducible exact H | (rw [hy146]; exact H) | exact H
  have Ny146 := Aside0.mk hy146
  clear hy146
  obtain ⟨y149, hy149⟩ : ∃ y_ : List (List Int), y_ = (([y143, l0_0, y146] : List (List Int))) := ⟨_, rfl⟩
  replace H : ((slices_Concat_int_int.f y149).bind fun t152 => (schema_Put_p.l0 k ([] : List Int) t152 (t152.length : Int) 0)) = some r := by first | (rw [hy149]; with_reducible exact H) | (have H2_ := (Option.bind_some _ _).symm.trans H; rw [hy149]; with_reducible exact H2_) | (have H2_ := (Option.bind_some _ _).symm.trans H; with_reducible exact H2_) | with_reducible exact H | (rw [hy149]; exact H) | exact H
  have Ny149 := Aside0.mk hy149
  clear hy149
  replace H := Option.bind_eq_some_iff.mp H
  obtain ⟨t152, A20, H⟩ := H
  replace H : (schema_Put_p.l0 k ([] : List Int) t152 (t152.length : Int) 0) = some r := H
  have A2 := Aside0.mk A20
  clear A20
  have H' := Aside0.mk H
  clear H
  go_enter Try.func34, Try.ntmps34
  go_wp2_with (first | ((with_reducible refine gate_dst (N := 1) rfl ?_); refine box_event ?hg (N := 1) ?hd (cs := #[.slice A0_0 l0_0.length c0_0, .int .i64 a0_1, .int .i64 a0_2, .int .i64 a0_3]) (t := 25) ?hr ?_; (case hd => rfl); (case hg => rfl); (case hr => first | (go_simp; done) | (go_simp; rfl)); intro gb142 hg w3 hbox hb; have n0_ := Aside0.mk (Kd.V_below (Kd.V_elderB (by (with_reducible repeat (first | apply Kd.V_alloc | apply Kd.V_drewN | apply Kd.V_drew)); exact HO0_0.out) gb142 (Nat.le_of_eq hg.symm)) hb); have n1_ := Aside0.mk (below_step (by repeat (first | (with_reducible first | exact HB.out | apply below_alloc | apply pw_below_drewN | apply below_drew1) | exact HB.out)) hb); have n2_ := Aside0.mk (hbox); have n3_ := Aside0.mk ((by rw [hg]; exact (below_size (by repeat (first | (with_reducible first | exact HB.out | apply below_alloc | apply pw_below_drewN | apply below_drew1) | exact HB.out))) : w.heap.size ≤ gb142)); have n4_ := Aside0.mk ((by rw [hg]; exact (below_size (by repeat (first | (with_reducible first | exact HB.out | apply below_alloc | apply pw_below_drewN | apply below_drew1) | exact HB.out))) : w.heap.size ≤ gb142)); clear HO0_0; clear HB; have HO0_0 := n0_; have HB := n1_; have BK142 := n2_; have GW142 := n3_; have GE142 := n4_; clear n0_ n1_ n2_ n3_ n4_; clear hb hbox hg; have hcz4_0 : w3.cell? ⟨gb142, 0, none⟩ = some (.slice A0_0 l0_0.length c0_0) := (blk_cell BK142.out 0).trans rfl; have hcz4_1 : w3.cell? ⟨gb142, 1, none⟩ = some (.int .i64 a0_1) := (blk_cell BK142.out 1).trans rfl; have hcz4_2 : w3.cell? ⟨gb142, 2, none⟩ = some (.int .i64 a0_2) := (blk_cell BK142.out 2).trans rfl; have hcz4_3 : w3.cell? ⟨gb142, 3, none⟩ = some (.int .i64 a0_3) := (blk_cell BK142.out 3).trans rfl; have hfz4_0 := blk_frozen BK142.out 0; have hfz4_1 := blk_frozen BK142.out 1; have hfz4_2 := blk_frozen BK142.out 2; have hfz4_3 := blk_frozen BK142.out 3) | ((with_reducible refine gate_dst (N := 9) rfl ?_); refine Kd.R_lit (Kd.int .i64) _ 3 ?hg (N := 9) ?hd (xs := ([(l0_0.length : Int)] : List Int)) (inner := [.int .i64 (l0_0.length : Int)]) (ok := fun _ => True) (okp := fun _ => True) ?hr ?hp (fun _ hk => hk) trivial (Below.refl _ _) (Nat.le_refl _) (by simp) ?_; (case hd => rfl); (case hg => rfl); (case hr => first | (go_simp; done) | (go_simp; rfl)); (case hp => exact (Reps.one (show Kd.M (Kd.int .i64) _ _ _ (l0_0.length : Int) [.int .i64 (l0_0.length : Int)] from rfl) (Reps.none _ _))); intro v144 w5 ho6 hb hg_ hnew_; clear hg_ hnew_; (first | rw [← Ny143.out] at ho6 | (simp only [Int.reduceToNat] at ho6; rw [← Ny143.out] at ho6)); have n0_ := Aside0.mk (Kd.V_elder' (by (with_reducible repeat (first | apply Kd.V_alloc | apply Kd.V_drewN | apply Kd.V_drew)); exact HO0_0.out) (Kd.R_base ho6) hb); have n1_ := Aside0.mk (Kd.R_lower (Kd.R_newM (M := fun k_ => (w.heap.size ≤ k_)) ho6 (below_size (by repeat (first | (with_reducible first | exact HB.out | apply below_alloc | apply pw_below_drewN | apply below_drew1 | refine below_set ?_ GE142.out) | exact HB.out))) (fun k_ h_ => h_)) (below_size (by repeat (first | (with_reducible first | exact HB.out | apply below_alloc | apply pw_below_drewN | apply below_drew1 | refine below_set ?_ GE142.out) | exact HB.out)))); have n2_ := Aside0.mk (blk_below (g := gb142) (o := .cells #[.slice A0_0 l0_0.length c0_0, .int .i64 a0_1, .int .i64 a0_2, .int .i64 a0_3] 25 (0, 0)) (by (with_reducible repeat (first | refine blk_drewN ?_ _ | refine blk_drew ?_ | refine blk_alloc ?_ _)); exact BK142.out) hb); have n3_ := Aside0.mk (below_step (by repeat (first | (with_reducible first | exact HB.out | apply below_alloc | apply pw_below_drewN | apply below_drew1 | refine below_set ?_ GE142.out) | exact HB.out)) hb); clear HO0_0; clear BK142; clear HB; have HO0_0 := n0_; have HO145 := n1_; have BK142 := n2_; have HB := n3_; clear n0_ n1_ n2_ n3_; clear hb ho6; have hcz7_0 : w5.cell? ⟨gb142, 0, none⟩ = some (.slice A0_0 l0_0.length c0_0) := (blk_cell BK142.out 0).trans rfl; have hcz7_1 : w5.cell? ⟨gb142, 1, none⟩ = some (.int .i64 a0_1) := (blk_cell BK142.out 1).trans rfl; have hcz7_2 : w5.cell? ⟨gb142, 2, none⟩ = some (.int .i64 a0_2) := (blk_cell BK142.out 2).trans rfl; have hcz7_3 : w5.cell? ⟨gb142, 3, none⟩ = some (.int .i64 a0_3) := (blk_cell BK142.out 3).trans rfl; have hfz7_0 := blk_frozen BK142.out 0; have hfz7_1 := blk_frozen BK142.out 1; have hfz7_2 := blk_frozen BK142.out 2; have hfz7_3 := blk_frozen BK142.out 3) | ((with_reducible refine gate_dst (N := 18) rfl ?_); refine Kd.R_lit (Kd.int .i64) _ 3 ?hg (N := 18) ?hd (xs := ([a0_1, a0_2, a0_3] : List Int)) (inner := [.int .i64 a0_1, .int .i64 a0_2, .int .i64 a0_3]) (ok := fun _ => True) (okp := fun _ => True) ?hr ?hp (fun _ hk => hk) trivial (Below.refl _ _) (Nat.le_refl _) (by simp) ?_; (case hd => rfl); (case hg => rfl); (case hr => first | (go_simp; done) | (go_simp; rfl)); (case hp => exact (Reps.one (show Kd.M (Kd.int .i64) _ _ _ a0_1 [.int .i64 a0_1] from rfl) (Reps.one (show Kd.M (Kd.int .i64) _ _ _ a0_2 [.int .i64 a0_2] from rfl) (Reps.one (show Kd.M (Kd.int .i64) _ _ _ a0_3 [.int .i64 a0_3] from rfl) (Reps.none _ _))))); intro v147 w8 ho9 hb hg_ hnew_; clear hg_ hnew_; (first | rw [← Ny146.out] at ho9 | (simp only [Int.reduceToNat] at ho9; rw [← Ny146.out] at ho9)); have n0_ := Aside0.mk (Kd.V_elder' (by (with_reducible repeat (first | apply Kd.V_alloc | apply Kd.V_drewN | apply Kd.V_drew)); exact HO0_0.out) (Kd.R_base ho9) hb); have n1_ := Aside0.mk (Kd.R_elder' (by (with_reducible repeat (first | apply Kd.R_alloc | apply Kd.R_drewN | apply Kd.R_drew)); exact HO145.out) (Kd.R_base ho9) hb); have n2_ := Aside0.mk (Kd.R_lower (Kd.R_new' (Kd.R_newM (M := fun k_ => (w.heap.size ≤ k_)) ho9 (below_size (by repeat (first | (with_reducible first | exact HB.out | apply below_alloc | apply pw_below_drewN | apply below_drew1 | refine below_set ?_ GE142.out) | exact HB.out))) (fun k_ h_ => h_)) (Kd.R_lt (by (with_reducible repeat (first | apply Kd.R_alloc | apply Kd.R_drewN | apply Kd.R_drew)); exact HO145.out))) (below_size (by repeat (first | (with_reducible first | exact HB.out | apply below_alloc | apply pw_below_drewN | apply below_drew1 | refine below_set ?_ GE142.out) | exact HB.out)))); have n3_ := Aside0.mk (blk_below (g := gb142) (o := .cells #[.slice A0_0 l0_0.length c0_0, .int .i64 a0_1, .int .i64 a0_2, .int .i64 a0_3] 25 (0, 0)) (by (with_reducible repeat (first | refine blk_drewN ?_ _ | refine blk_drew ?_ | refine blk_alloc ?_ _)); exact BK142.out) hb); have n4_ := Aside0.mk (below_step (by repeat (first | (with_reducible first | exact HB.out | apply below_alloc | apply pw_below_drewN | apply below_drew1 | refine below_set ?_ GE142.out) | exact HB.out)) hb); clear HO0_0; clear HO145; clear BK142; clear HB; have HO0_0 := n0_; have HO145 := n1_; have HO148 := n2_; have BK142 := n3_; have HB := n4_; clear n0_ n1_ n2_ n3_ n4_; clear hb ho9; obtain ⟨Ao10, co10, eo10⟩ := Kd.R_slice HO145.out; subst eo10; obtain ⟨Ao11, co11, eo11⟩ := Kd.R_slice HO148.out; subst eo11) | ((with_reducible refine gate_dst (N := 19) rfl ?_); refine Kd.N_lit (Kd.slice 3 (Kd.int .i64)) _ 23 ?hg (N' := 19) ?hd (xs := ([y143, l0_0, y146] : List (List Int))) (inner := [.slice Ao10 y143.length co10, .slice A0_0 l0_0.length c0_0, .slice Ao11 y146.length co11]) (ok := (fun k_ => (P0_0_ k_ ∨ w.heap.size ≤ k_) ∧ k_ ≠ gb142)) (okp := (fun k_ => (P0_0_ k_ ∨ w.heap.size ≤ k_) ∧ k_ ≠ gb142)) ?hr ?hp (fun _ hk => hk) ((show ∀ k_, w8.heap.size ≤ k_ → (fun k_ => (P0_0_ k_ ∨ w.heap.size ≤ k_) ∧ k_ ≠ gb142) k_ from fun k_ hk => ⟨(.inr (Nat.le_trans (below_size (by repeat (first | (with_reducible first | exact HB.out | apply below_alloc | apply pw_below_drewN | apply below_drew1 | refine below_set ?_ GE142.out) | exact HB.out))) hk)), Kd.freshB (g := gb142) (o := .cells #[.slice A0_0 l0_0.length c0_0, .int .i64 a0_1, .int .i64 a0_2, .int .i64 a0_3] 25 (0, 0)) (by (with_reducible repeat (first | refine blk_drewN ?_ _ | refine blk_drew ?_ | refine blk_alloc ?_ _)); exact BK142.out) k_ hk⟩) _ (Nat.le_refl _)) (Below.refl _ _) (Nat.le_refl _) (by simp) ?_; (case hd => rfl); (case hg => rfl); (case hr => first | (go_simp; done) | (go_simp; rfl)); (case hp => exact (Reps.one (show Kd.FK (Kd.slice 3 (Kd.int .i64)) _ _ y143 [.slice Ao10 y143.length co10] from (Kd.FK_slice_mk (Kd.R_reads' (Kd.R_mono (ok' := (fun k_ => (P0_0_ k_ ∨ w.heap.size ≤ k_) ∧ k_ ≠ gb142)) (Kd.R_types (HO145.out) BK142.out (by decide)) (fun k_ hk => ⟨(.inr (hk.1.1.1)), hk.2⟩))).2.1 (Kd.R_F (Kd.R_mono (ok' := (fun k_ => (P0_0_ k_ ∨ w.heap.size ≤ k_) ∧ k_ ≠ gb142)) (Kd.R_types (HO145.out) BK142.out (by decide)) (fun k_ hk => ⟨(.inr (hk.1.1.1)), hk.2⟩))))) (Reps.one (show Kd.FK (Kd.slice 3 (Kd.int .i64)) _ _ l0_0 [.slice A0_0 l0_0.length c0_0] from (Kd.FK_slice_mk (Kd.V_reads' (Kd.V_mono (ok' := (fun k_ => (P0_0_ k_ ∨ w.heap.size ≤ k_) ∧ k_ ≠ gb142)) (HO0_0.out) (fun k_ hk => ⟨hk.1.1.1, hk.1.1.2⟩))).2.1 (Kd.V_F (Kd.V_mono (ok' := (fun k_ => (P0_0_ k_ ∨ w.heap.size ≤ k_) ∧ k_ ≠ gb142)) (HO0_0.out) (fun k_ hk => ⟨hk.1.1.1, hk.1.1.2⟩))))) (Reps.one (show Kd.FK (Kd.slice 3 (Kd.int .i64)) _ _ y146 [.slice Ao11 y146.length co11] from (Kd.FK_slice_mk (Kd.R_reads' (Kd.R_mono (ok' := (fun k_ => (P0_0_ k_ ∨ w.heap.size ≤ k_) ∧ k_ ≠ gb142)) (Kd.R_types (HO148.out) BK142.out (by decide)) (fun k_ hk => ⟨(.inr (hk.1.1.1)), hk.2⟩))).2.1 (Kd.R_F (Kd.R_mono (ok' := (fun k_ => (P0_0_ k_ ∨ w.heap.size ≤ k_) ∧ k_ ≠ gb142)) (Kd.R_types (HO148.out) BK142.out (by decide)) (fun k_ hk => ⟨(.inr (hk.1.1.1)), hk.2⟩))))) (Reps.none _ _))))); intro v150 w12 ho13 hb hg_ hnew_; clear hg_ hnew_; (first | rw [← Ny149.out] at ho13 | (simp only [Int.reduceToNat] at ho13; rw [← Ny149.out] at ho13)); have n0_ := Aside0.mk (Kd.V_elder' (by (with_reducible repeat (first | apply Kd.V_alloc | apply Kd.V_drewN | apply Kd.V_drew)); exact HO0_0.out) (Kd.N_base ho13) hb); have n1_ := Aside0.mk (Kd.N_lower ho13 (below_size (by repeat (first | (with_reducible first | exact HB.out | apply below_alloc | apply pw_below_drewN | apply below_drew1 | refine below_set ?_ GE142.out) | exact HB.out)))); have n2_ := Aside0.mk (blk_below (g := gb142) (o := .cells #[.slice A0_0 l0_0.length c0_0, .int .i64 a0_1, .int .i64 a0_2, .int .i64 a0_3] 25 (0, 0)) (by (with_reducible repeat (first | refine blk_drewN ?_ _ | refine blk_drew ?_ | refine blk_alloc ?_ _)); exact BK142.out) hb); have n3_ := Aside0.mk (below_step (by repeat (first | (with_reducible first | exact HB.out | apply below_alloc | apply pw_below_drewN | apply below_drew1 | refine below_set ?_ GE142.out) | exact HB.out)) hb); clear HO0_0; clear BK142; clear HB; clear HO145; clear HO148; have HO0_0 := n0_; have HO151 := n1_; have BK142 := n2_; have HB := n3_; clear n0_ n1_ n2_ n3_; clear hb ho13; obtain ⟨Ao14, co14, eo14⟩ := Kd.N_slice HO151.out; subst eo14) | ((with_reducible refine gate_callee (f := 72) rfl ?_); refine goesL_ (some 20) rfl rfl Try.func72 (by kernel_rfl) rfl #[.slice Ao14 y149.length co14] rfl (by (try simp only [List.map_toArray, List.map_cons, List.map_nil]); first | done | rfl | (simp only [List.length_drop, List.length_take]; rfl)) ?_; (with_reducible refine (slices_Concat_int_int.calls _ _ y149 t152 _ ?side1 ?side2 A2.out).mono ?_); (case side1 => repeat (first | exact (Kd.N_reads' HO151.out).2.2 | (with_reducible refine Kd.C_alloc ?_ _) | (with_reducible refine Kd.C_drewN ?_ _) | (with_reducible refine Kd.C_drew ?_))); (case side2 => exact (Kd.N_reads' HO151.out).2.1); rintro e w15 ⟨v153, rfl, ho0, hb⟩; refine ⟨_, rfl, ?_⟩; have n0_ := Aside0.mk (Kd.V_elder' (by (with_reducible repeat (first | apply Kd.V_alloc | apply Kd.V_drewN | apply Kd.V_drew)); exact HO0_0.out) (Kd.R_base ho0) hb); have n1_ := Aside0.mk (Kd.N_elder' (by (with_reducible repeat (first | apply Kd.N_alloc | apply Kd.N_drewN | apply Kd.N_drew)); exact HO151.out) (Kd.R_base ho0) hb); have n2_ := Aside0.mk (Kd.R_lower (Kd.R_newM (M := fun k_ => (w.heap.size ≤ k_)) ho0 (below_size (by repeat (first | (with_reducible first | exact HB.out | apply below_alloc | apply pw_below_drewN | apply below_drew1 | refine below_set ?_ GE142.out) | exact HB.out))) (fun k_ h_ => h_)) (below_size (by repeat (first | (with_reducible first | exact HB.out | apply below_alloc | apply pw_below_drewN | apply below_drew1 | refine below_set ?_ GE142.out) | exact HB.out)))); have n3_ := Aside0.mk (blk_below (g := gb142) (o := .cells #[.slice A0_0 l0_0.length c0_0, .int .i64 a0_1, .int .i64 a0_2, .int .i64 a0_3] 25 (0, 0)) (by (with_reducible repeat (first | refine blk_drewN ?_ _ | refine blk_drew ?_ | refine blk_alloc ?_ _)); exact BK142.out) hb); have n4_ := Aside0.mk (below_step (by repeat (first | (with_reducible first | exact HB.out | apply below_alloc | apply pw_below_drewN | apply below_drew1 | refine below_set ?_ GE142.out) | exact HB.out)) hb); clear HO0_0; clear HO151; clear BK142; clear HB; have HO0_0 := n0_; have HO151 := n1_; have HO154 := n2_; have BK142 := n3_; have HB := n4_; clear n0_ n1_ n2_ n3_ n4_; (try clear hb); (try clear hb2); (try clear hk); (try clear hi); (try clear ho0); obtain ⟨Ao16, co16, eo16⟩ := Kd.R_slice HO154.out; subst eo16))
  go_loopg [3, 22] k (fun kq v3 v22 w' => ∃ (x3_1 : List Int) (x22_1 : Int), v22 = .int .i64 x22_1 ∧ Aside0 (schema_Put_p.l0 kq x3_1 t152 (t152.length : Int) x22_1 = some r) ∧ Aside0 (kq ≤ k) ∧ Aside0 (Kd.R (Kd.int .u8) 5 w' w.heap.size (fun k_ => (w.heap.size ≤ k_)) v3 x3_1) ∧ Aside0 (Kd.R (Kd.int .i64) 3 w' w.heap.size (fun k_ => (w.heap.size ≤ k_)) (.slice Ao16 t152.length co16) t152) ∧ Aside0 (Kd.V (Kd.int .i64) 3 w' w.heap.size (fun k_ => (P0_0_ k_ ∨ w.heap.size ≤ k_) ∧ some k_ ≠ (v3 : Value).ownBlock ∧ some k_ ≠ ((.slice Ao16 t152.length co16) : Value).ownBlock ∧ k_ ≠ gb142) (.slice A0_0 l0_0.length c0_0) l0_0) ∧ Aside0 (w'.heap[gb142]? = some (.cells #[(.slice A0_0 l0_0.length c0_0), .int .i64 a0_1, .int .i64 a0_2, .int .i64 a0_3] 25 (0, 0))) ∧ Aside0 (Below w.heap.size w w'))
  case atStart => exact ⟨(([] : List Int)), (0), (by first | rfl | (simp; done) | (simp [*]; done)), H', ⟨Nat.le_refl _⟩, ⟨by first | exact Kd.R_nil _ _ _ _ _ | exact Kd.N_nil _ _ _ _ _ | exact Kd.V_nil _ _ _ _ _ | exact Kd.Q_nil _ _ _ _ _ | exact Kd.S_nil _ _ _ _ _⟩, ⟨by (with_reducible repeat (first | apply Kd.R_alloc | apply Kd.R_drewN | apply Kd.R_drew)); exact Kd.R_mono HO154.out (fun _ hk => hk.1)⟩, ⟨by (with_reducible repeat (first | apply Kd.V_alloc | apply Kd.V_drewN | apply Kd.V_drew)); exact Kd.V_mono HO0_0.out (fun _ hk => ⟨hk.1.1.1.1.1, ⟨(by simp [Value.ownBlock]), ⟨hk.2, hk.1.1.1.1.2⟩⟩⟩)⟩, ⟨by (with_reducible repeat (first | refine blk_drewN ?_ _ | refine blk_drew ?_ | refine blk_alloc ?_ _)); exact BK142.out⟩, ⟨by repeat (first | (with_reducible first | exact HB.out | apply below_alloc | apply pw_below_drewN | apply below_drew1 | refine below_set ?_ GE142.out) | exact HB.out)⟩⟩
  case round =>
    clear H'
    try clear p2
    try clear c3
    try clear c7
    try clear hcz4_0
    try clear hcz4_1
    try clear hcz4_2
    try clear hcz4_3
    try clear hcz7_0
    try clear hcz7_1
    try clear hcz7_2
    try clear hcz7_3
    try clear hfz4_0
    try clear hfz4_1
    try clear hfz4_2
    try clear hfz4_3
    try clear hfz7_0
    try clear hfz7_1
    try clear hfz7_2
    try clear hfz7_3
    obtain ⟨x3_1, x22_1, rfl, HA, HK1, HO_3, HO_20, HO_143000, BK142, HB⟩ := hrel
    cases gk with
    | zero => exact absurd HA.out (by simp [schema_Put_p.l0])
    | succ k1 =>
      have H := HA.out
      clear HA
      simp only [schema_Put_p.l0] at H
      by_cases c17 : x22_1 < (t152.length : Int)
      · rw [if_pos c17] at H
        have c17b0 : decide (x22_1 < (t152.length : Int)) = true := decide_eq_true c17
        clear c17
        by_cases c18 : 0 ≤ x22_1
        · rw [if_pos c18] at H
          have c18b0 : decide (0 ≤ x22_1) = true := decide_eq_true c18
          clear c18
          by_cases c19 : x22_1 < (t152.length : Int)
          · rw [if_pos c19] at H
            have c19b0 : decide (x22_1 < (t152.length : Int)) = true := decide_eq_true c19
            clear c19
            replace H := Option.bind_eq_some_iff.mp H
            obtain ⟨t156, A200, H⟩ := H
            replace H : (if x3_1.length + t156.length < 140737488355328 then (schema_Put_p.l0 k1 (x3_1 ++ t156) t152 (t152.length : Int) (wrap64 (x22_1 + 1))) else (none)) = some r := H
            have A20 := Aside0.mk A200
            clear A200
            by_cases c21 : x3_1.length + t156.length < 140737488355328
            · rw [if_pos c21] at H
              have LMc21 := Aside0.mk c21
              clear c21
              obtain ⟨y159, hy159⟩ : ∃ y_ : List Int, y_ = (x3_1 ++ t156) := ⟨_, rfl⟩
              replace H : (schema_Put_p.l0 k1 y159 t152 (t152.length : Int) (wrap64 (x22_1 + 1))) = some r := by first | (rw [hy159]; with_reducible exact H) | (have H2_ := (Option.bind_some _ _).symm.trans H; rw [hy159]; with_reducible exact H2_) | (have H2_ := (Option.bind_some _ _).symm.trans H; with_reducible exact H2_) | with_reducible exact H | (rw [hy159]; exact H) | exact H
              have Ny159 := Aside0.mk hy159
              clear hy159
              have H' := Aside0.mk H
              clear H
              have p155 : 0 ≤ (x22_1 : Int) := of_decide_eq_true (by first | (with_reducible assumption) | assumption)
              have q155 : x22_1 < (t152.length : Int) := of_decide_eq_true (by first | (with_reducible assumption) | assumption)
              obtain ⟨ad155, e155, hx155_0⟩ := Kd.at_int (Kd.R_reads' HO_20.out).2.2 x22_1 p155 q155
              cases e155
              replace p155 := eq_true p155
              replace q155 := eq_true q155
              go_wp2_with (first | ((with_reducible refine gate_callee (f := 66) rfl ?_); refine goesL_ (some 29) rfl rfl Try.func66 (by kernel_rfl) rfl #[.int .u64 (IntKind.u64.wrap (rd t152 x22_1))] rfl (by (try simp only [List.map_toArray, List.map_cons, List.map_nil]); first | done | rfl | (simp only [List.length_drop, List.length_take]; rfl)) ?_; (with_reducible refine (num_PutVar.calls (IntKind.u64.wrap (rd t152 x22_1)) t156 _ A20.out).mono ?_); rintro e w22 ⟨v157, rfl, ho0, hb⟩; refine ⟨_, rfl, ?_⟩; have n0_ := Aside0.mk (Kd.R_elder' (by (with_reducible repeat (first | apply Kd.R_alloc | apply Kd.R_drewN | apply Kd.R_drew)); exact HO_3.out) (Kd.R_base ho0) hb); have n1_ := Aside0.mk (Kd.R_below (by (with_reducible repeat (first | apply Kd.R_alloc | apply Kd.R_drewN | apply Kd.R_drew)); exact HO_20.out) hb); have n2_ := Aside0.mk (Kd.V_elder' (by (with_reducible repeat (first | apply Kd.V_alloc | apply Kd.V_drewN | apply Kd.V_drew)); exact HO_143000.out) (Kd.R_base ho0) hb); have n3_ := Aside0.mk (Kd.R_lower (Kd.R_new' (Kd.R_newM (M := fun k_ => (w.heap.size ≤ k_)) ho0 (below_size (by repeat (first | (with_reducible first | exact HB.out | apply below_alloc | apply pw_below_drewN | apply below_drew1 | refine below_set ?_ GE142.out) | exact HB.out))) (fun k_ h_ => h_)) (Kd.R_lt (by (with_reducible repeat (first | apply Kd.R_alloc | apply Kd.R_drewN | apply Kd.R_drew)); exact HO_3.out))) (below_size (by repeat (first | (with_reducible first | exact HB.out | apply below_alloc | apply pw_below_drewN | apply below_drew1 | refine below_set ?_ GE142.out) | exact HB.out)))); have n4_ := Aside0.mk (blk_below (g := gb142) (o := .cells #[.slice A0_0 l0_0.length c0_0, .int .i64 a0_1, .int .i64 a0_2, .int .i64 a0_3] 25 (0, 0)) (by (with_reducible repeat (first | refine blk_drewN ?_ _ | refine blk_drew ?_ | refine blk_alloc ?_ _)); exact BK142.out) hb); have n5_ := Aside0.mk (below_step (by repeat (first | (with_reducible first | exact HB.out | apply below_alloc | apply pw_below_drewN | apply below_drew1 | refine below_set ?_ GE142.out) | exact HB.out)) hb); clear HO_3; clear HO_20; clear HO_143000; clear BK142; clear HB; have HO_3 := n0_; have HO_20 := n1_; have HO_143000 := n2_; have HO158 := n3_; have BK142 := n4_; have HB := n5_; clear n0_ n1_ n2_ n3_ n4_ n5_; (try clear hb); (try clear hb2); (try clear hk); (try clear hi); (try clear ho0); obtain ⟨Ao24, co24, eo24⟩ := Kd.R_slice HO158.out; subst eo24) | ((with_reducible refine gate_builtin (b := .append) (xs := #[.tmp 26, .tmp 29]) rfl ?_); at_builtin; refine Kd.R_append_rows (Kd.int .u8) (w0 := w) w.heap.size rfl (.tmp 26) (.tmp 29) 26 5 (.int .u8 0) 1 rfl Try.underlying26 info5 rfl (by decide) (by omega) u3 x3_1 t156 _ _ _ (fun k_ => (w.heap.size ≤ k_) ∧ some k_ ≠ (.slice Ao24 t156.length co24 : Value).ownBlock) (fun _ => False) rfl rfl ?aO ?aR (fun _ _ h => h) (fun _ h => h.elim) ?aF ?aB ?aS ?aL ?_; (case aR => repeat (first | exact (Kd.R_reads' HO158.out).2.2 | (with_reducible refine Kd.C_alloc ?_ _) | (with_reducible refine Kd.C_drewN ?_ _) | (with_reducible refine Kd.C_drew ?_))); (case aB => exact (by repeat (first | (with_reducible first | exact HB.out | apply below_alloc | apply pw_below_drewN | apply below_drew1 | refine below_set ?_ GE142.out) | exact HB.out))); (case aF => exact (fun k_ hk => ⟨(Nat.le_trans (below_size (by repeat (first | (with_reducible first | exact HB.out | apply below_alloc | apply pw_below_drewN | apply below_drew1 | refine below_set ?_ GE142.out) | exact HB.out))) hk), Kd.fresh' (Kd.R_lt (by (with_reducible repeat (first | apply Kd.R_alloc | apply Kd.R_drewN | apply Kd.R_drew)); exact HO158.out)) k_ hk⟩)); (case aO => exact (by (with_reducible repeat (first | apply Kd.R_alloc | apply Kd.R_drewN | apply Kd.R_drew)); exact HO_3.out)); (case aS => exact (below_size (by repeat (first | (with_reducible first | exact HB.out | apply below_alloc | apply pw_below_drewN | apply below_drew1 | refine below_set ?_ GE142.out) | exact HB.out)))); (case aL => have := LMc21.out; omega); intro v160 w23 ho hb hg hat; rw [← Ny159.out] at ho; have n0_ := Aside0.mk (Kd.R_over' (by (with_reducible repeat (first | apply Kd.R_alloc | apply Kd.R_drewN | apply Kd.R_drew)); exact HO_20.out) (Kd.R_typed (by (with_reducible repeat (first | apply Kd.R_alloc | apply Kd.R_drewN | apply Kd.R_drew)); exact HO_3.out)) (by decide) hg); have n1_ := Aside0.mk (Kd.V_afterv (ok := (fun k_ => (P0_0_ k_ ∨ w.heap.size ≤ k_) ∧ some k_ ≠ (.slice (some ad155) t152.length co16 : Value).ownBlock ∧ some k_ ≠ (.slice Ao24 t156.length co24 : Value).ownBlock ∧ k_ ≠ gb142)) (by (with_reducible repeat (first | apply Kd.V_alloc | apply Kd.V_drewN | apply Kd.V_drew)); exact Kd.V_mono HO_143000.out (fun _ hk => ⟨⟨hk.1.1, ⟨hk.1.2.2.1, ⟨hk.2, hk.1.2.2.2⟩⟩⟩, hk.1.2.1⟩)) hg hat); have n2_ := Aside0.mk (blk_grown (g := gb142) (o := .cells #[.slice A0_0 l0_0.length c0_0, .int .i64 a0_1, .int .i64 a0_2, .int .i64 a0_3] 25 (0, 0)) (by (with_reducible repeat (first | refine blk_drewN ?_ _ | refine blk_drew ?_ | refine blk_alloc ?_ _)); exact BK142.out) hg (Kd.R_ne HO_3.out BK142.out (by decide))); have n3_ := Aside0.mk (Kd.R_after (ok := (fun k_ => (w.heap.size ≤ k_))) (by (with_reducible repeat (first | apply Kd.R_alloc | apply Kd.R_drewN | apply Kd.R_drew)); exact Kd.R_mono HO158.out (fun _ hk => ⟨hk.1.1, hk.2⟩)) hg hat); have n4_ := Aside0.mk (hb); have n5_ := Aside0.mk (ho); clear HO_20; clear HO_143000; clear BK142; clear HO158; clear HB; clear HO_3; have HO_20 := n0_; have HO_143000 := n1_; have BK142 := n2_; have HO158 := n3_; have HB := n4_; have HO161 := n5_; clear n0_ n1_ n2_ n3_ n4_ n5_; clear ho hb hg hat))
              go_roundg k1
              case measure => have := HK1.out; omega
              case rel => exact ⟨(y159), (wrap64 (x22_1 + 1)), (by first | rfl | (simp; done) | (simp [*]; done)), H', ⟨by have := HK1.out; omega⟩, ⟨by (with_reducible repeat (first | apply Kd.R_alloc | apply Kd.R_drewN | apply Kd.R_drew)); exact Kd.R_mono HO161.out (fun _ hk => hk.1)⟩, ⟨by (with_reducible repeat (first | apply Kd.R_alloc | apply Kd.R_drewN | apply Kd.R_drew)); exact HO_20.out⟩, ⟨by (with_reducible repeat (first | apply Kd.V_alloc | apply Kd.V_drewN | apply Kd.V_drew)); exact Kd.V_mono HO_143000.out (fun _ hk => ⟨hk.1.1, ⟨hk.2, ⟨hk.1.2.1, hk.1.2.2.2⟩⟩⟩)⟩, ⟨by (with_reducible repeat (first | refine blk_drewN ?_ _ | refine blk_drew ?_ | refine blk_alloc ?_ _)); exact BK142.out⟩, ⟨by repeat (first | (with_reducible first | exact HB.out | apply below_alloc | apply pw_below_drewN | apply below_drew1 | refine below_set ?_ GE142.out) | exact HB.out)⟩⟩
            · rw [if_neg c21] at H
              exact absurd H (by simp)
          · rw [if_neg c19] at H
            exact absurd H (by simp)
        · rw [if_neg c18] at H
          exact absurd H (by simp)
      · rw [if_neg c17] at H
        have c17b0 : decide (x22_1 < (t152.length : Int)) = false := decide_eq_false c17
        clear c17
        obtain rfl := Option.some.inj H
        go_wp2
        go_ret
        exact ⟨_, by first | rfl | (simp [errW_none, errW_some] <;> rfl) | (simp [*, errW_none, errW_some] <;> rfl), by (with_reducible repeat (first | apply Kd.R_alloc | apply Kd.R_drewN | apply Kd.R_drew)); exact HO_3.out, by repeat (first | (with_reducible first | exact HB.out | apply below_alloc | apply pw_below_drewN | apply below_drew1 | refine below_set ?_ GE142.out) | exact HB.out)⟩

/-! ### schema_Put: plain, of function 34 -/
def schema_Put.f (l0 : List Int) (a1 a2 a3 : Int) : Option (List Int) := if YtanfmnobanhcnaaH.Rec.schemaOk l0 a1 a2 a3 = true then some (YtanfmnobanhcnaaH.Rec.putS l0 a1 a2 a3) else none
set_option maxHeartbeats 2000000 in
theorem schema_Put.loop (l : List Int) (hl : l.length ≤ 1000) (h : ∀ x ∈ l, 0 ≤ x ∧ x < 9223372036854775808) (d : Nat) : ∀ (i : Nat), i + d = l.length →
    Ev (fun k => schema_Put_p.l0 k (YtanfmnobanhcnaaH.putAllI (l.take i)) l (l.length : Int) (i : Int)) (YtanfmnobanhcnaaH.putAllI l) := by
  induction d with
  | zero =>
    intro i hi
    have e : l.take i = l := List.take_of_length_le (by omega)
    rw [e]
    refine Ev.step (fun k => ?_) (Ev.now _)
    simp only [schema_Put_p.l0]
    rw [if_neg (by omega)]
  | succ d ih =>
    intro i hi
    have hlt : i < l.length := by omega
    have hx := h l[i] (List.getElem_mem hlt)
    have hlen := YtanfmnobanhcnaaH.putAllI_len (l.take i) (fun x hx => (h x (List.mem_of_mem_take hx)).2)
    have hp := YtanfmnobanhcnaaH.Var.putI_len10 l[i] (by omega)
    rw [List.length_take] at hlen
    refine Ev.step (fun k => ?_) (ih (i + 1) (by omega))
    simp only [schema_Put_p.l0]
    have er : rd l (i : Int) = l[i] := by
      unfold rd
      rw [Int.toNat_natCast, List.getD_eq_getElem?_getD, List.getElem?_eq_getElem hlt]
      rfl
    have e1 : IntKind.u64.wrap l[i] = l[i] := by rw [IntKind.wrap_u64]; omega
    have ep : num_PutVar.f l[i] = some (YtanfmnobanhcnaaH.Var.putI l[i]) := by
      unfold num_PutVar.f
      rw [if_pos (by omega)]
    have ew : wrap64 ((i : Int) + 1) = ((i + 1 : Nat) : Int) := by rw [YtanfmnobanhcnaaH.Crc.wrap64_in _ (by omega) (by omega)]; omega
    rw [if_pos (by omega), if_pos (by omega), if_pos (by omega), er, e1, ep, Option.bind_some, if_pos (by omega), ew, YtanfmnobanhcnaaH.putAllI_succ l i hlt]
set_option maxHeartbeats 2000000 in
theorem schema_Put.ev (l0 : List Int) (a1 a2 a3 : Int) (r : List Int) (h : schema_Put.f l0 a1 a2 a3 = some r) (hl : l0.length ≤ 9223372036854775807) : Ev (fun k => schema_Put_p.f k l0 a1 a2 a3) r := by
  unfold schema_Put.f at h
  split at h
  · rename_i hx
    obtain rfl := Option.some.inj h
    rw [YtanfmnobanhcnaaH.Rec.schemaOk_iff] at hx
    obtain ⟨h1, h2, h3, h4, h5⟩ := hx
    have hb : ∀ x ∈ (l0.length : Int) :: (l0 ++ [a1, a2, a3]), 0 ≤ x ∧ x < 9223372036854775808 := by
      intro x hx
      rcases List.mem_cons.1 hx with rfl | hx
      · omega
      rcases List.mem_append.1 hx with hx | hx
      · have := h2 x hx; omega
      · simp at hx
        omega
    have hm := schema_Put.loop ((l0.length : Int) :: (l0 ++ [a1, a2, a3])) (by simp; omega) hb _ 0 (Nat.zero_add _)
    refine Ev.congr (fun k => ?_) hm
    have ef : [[(l0.length : Int)], l0, [a1, a2, a3]].flatten = (l0.length : Int) :: (l0 ++ [a1, a2, a3]) := by simp
    unfold schema_Put_p.f slices_Concat_int_int.f
    rw [ef, if_pos (by simp; omega), Option.bind_some]
    rfl
  · cases h
theorem schema_Put.calls (P0_0_ : Nat → Prop) (A0_0 : Option Addr) (c0_0 : Nat) (l0_0 : List Int) (a0_1 : Int) (a0_2 : Int) (a0_3 : Int) (r : List Int) (w : World) (hs0_0 : Kd.V (Kd.int .i64) 3 w w.heap.size (fun k_ => P0_0_ k_) (.slice A0_0 l0_0.length c0_0) l0_0) (h : schema_Put.f l0_0 a0_1 a0_2 a0_3 = some r) :
    Calls Try.prog 34 #[.agg #[.slice A0_0 l0_0.length c0_0, .int .i64 a0_1, .int .i64 a0_2, .int .i64 a0_3]] w fun e w' => ∃ v0_ : Value, e = .returned (v0_) ∧ Kd.R (Kd.int .u8) 5 w' w.heap.size (fun k_ => (w.heap.size ≤ k_)) v0_ r ∧ Below w.heap.size w w' := by
  obtain ⟨k, hk⟩ := (schema_Put.ev l0_0 a0_1 a0_2 a0_3 _ h (by first | exact hr0_0.2.1 | exact (Kd.V_reads' hs0_0).2.2.2.1 | exact (Kd.R_reads' ho0_0).2.2.2.1)).rounds
  exact schema_Put_p.calls k P0_0_ A0_0 c0_0 l0_0 a0_1 a0_2 a0_3 r w hs0_0 hk

/-! ### record_writer_number: function 35 -/
set_option maxHeartbeats 4000000 in
set_option maxRecDepth 100000 in
theorem record_writer_number.calls (g base : Nat) (v : Value) (xs : List Int) (n : Int) (w : World) (hg : w.heap[g]? = some (.cells #[v] 72)) (hr : Kd.R (Kd.int .u8) 5 w base (fun k => k ≠ g) v xs) (hlt : base < w.heap.size) (h0 : 0 ≤ n) (hn : n < 9223372036854775808) (hl : xs.length ≤ 140737488350000) :
    Calls Try.prog 35 #[.pointer (some ⟨g, 0, none⟩), .int .i64 n] w fun e w' => e = .returned (.tuple #[]) ∧ ∃ v', w'.heap[g]? = some (.cells #[v'] 72) ∧ Kd.R (Kd.int .u8) 5 w' base (fun k => k ≠ g) v' (xs ++ YtanfmnobanhcnaaH.Var.putI n) ∧ YtanfmnobanhcnaaH.Mut g v.ownBlock w w' := by
  have hp : num_PutVar.f (IntKind.u64.wrap n) = some (YtanfmnobanhcnaaH.Var.putI n) := by
    have e : IntKind.u64.wrap n = n := by rw [IntKind.wrap_u64]; omega
    rw [e]
    unfold num_PutVar.f
    rw [if_pos (by omega)]
  have hpl : (YtanfmnobanhcnaaH.Var.putI n).length ≤ 10 := YtanfmnobanhcnaaH.Var.putI_len10 n (by omega)
  have HP := Aside0.mk hp
  have hne := Aside0.mk (show some g ≠ v.ownBlock from fun e => hr.1 g e.symm rfl)
  have HL := Aside0.mk (show (xs.length + (YtanfmnobanhcnaaH.Var.putI n).length) * 1 ≤ 140737488355328 by omega)
  clear hp hpl h0 hn hl
  go_enter Try.func35, Try.ntmps35
  have hcell : w.drew.cell? ⟨g, 0, none⟩ = some v := blk_cell hg 0
  have hg2 := Aside0.mk (show w.drew.heap[g]? = some (.cells #[v] 72) from hg)
  have hr2 := Aside0.mk (Kd.R_drew hr)
  have hlt2 := Aside0.mk (show base < w.drew.heap.size from hlt)
  have hmu2 := Aside0.mk ((YtanfmnobanhcnaaH.Mut.refl g v.ownBlock w).below_ (below_drew1 (Below.refl _ _)))
  clear hg hr hlt
  refine start_ (n := 12) (S := fun w' => w'.cell? ⟨g, 0, none⟩ = some v) (ds := [11]) #[false, false, false, false, false, false, false, false, false, false, false, false] (by kernel_rfl) rfl rfl (hcell) (fun hHeld => ?_)
  generalize w.drew = w2 at hg2 hr2 hlt2 hmu2 hcell hHeld ⊢
  refine pure_ (i := 0) (N := some 4) (v := ?_) (a' := ?_) #[true, false, false, false, false, false, false, false, false, false, false, false] rfl rfl (by kernel_rfl) (fun _ _ _ h => h) (Or.inl ⟨by rfl, ?_⟩) ?_ ?_
  rotate_left
  · intro w'
    go_simp
    with_reducible rfl
  rotate_left
  · simp only [Act.put, List.setIfInBounds_toArray, List.set_cons_zero, List.set_cons_succ, i64_w, i32_w]
    rfl
  refine pure_ (i := 1) (N := some 5) (v := ?_) (a' := ?_) #[true, true, false, false, false, false, false, false, false, false, false, false] rfl rfl (by kernel_rfl) (fun _ _ _ h => h) (Or.inl ⟨by rfl, ?_⟩) ?_ ?_
  rotate_left
  · intro w'
    go_simp
    with_reducible rfl
  rotate_left
  · simp only [Act.put, List.setIfInBounds_toArray, List.set_cons_zero, List.set_cons_succ, i64_w, i32_w]
    rfl
  refine pure_ (i := 2) (N := some 6) (v := ?_) (a' := ?_) #[true, true, true, false, false, false, false, false, false, false, false, false] rfl rfl (by kernel_rfl) (fun _ _ _ h => h) (Or.inl ⟨by rfl, ?_⟩) ?_ ?_
  rotate_left
  · intro w'
    go_simp
    with_reducible rfl
  rotate_left
  · simp only [Act.put, List.setIfInBounds_toArray, List.set_cons_zero, List.set_cons_succ, i64_w, i32_w]
    rfl
  refine pure_ (i := 3) (N := some 7) (v := ?_) (a' := ?_) #[true, true, true, true, false, false, false, false, false, false, false, false] rfl rfl (by kernel_rfl) (fun _ _ _ h => h) (Or.inl ⟨by rfl, ?_⟩) ?_ ?_
  rotate_left
  · intro w'
    go_simp
    with_reducible rfl
  rotate_left
  · simp only [Act.put, List.setIfInBounds_toArray, List.set_cons_zero, List.set_cons_succ, i64_w, i32_w]
    rfl
  refine pure_ (i := 5) (N := some 9) (v := ?_) (a' := ?_) #[true, true, true, true, false, true, false, false, false, false, false, false] rfl rfl (by kernel_rfl) (fun _ _ _ h => h) (Or.inl ⟨by rfl, ?_⟩) ?_ ?_
  rotate_left
  · intro w'
    go_simp
    with_reducible rfl
  rotate_left
  · simp only [Act.put, List.setIfInBounds_toArray, List.set_cons_zero, List.set_cons_succ, i64_w, i32_w]
    rfl
  refine pure_ (i := 6) (N := some 10) (v := ?_) (a' := ?_) #[true, true, true, true, false, true, true, false, false, false, false, false] rfl rfl (by kernel_rfl) (fun _ _ _ h => h) (Or.inl ⟨by rfl, ?_⟩) ?_ ?_
  rotate_left
  · intro w'
    go_simp
    with_reducible rfl
  rotate_left
  · simp only [Act.put, List.setIfInBounds_toArray, List.set_cons_zero, List.set_cons_succ, i64_w, i32_w]
    rfl
  refine take_ (i := 4) (N := some 8) (v := ?_) (a' := ?_) #[true, true, true, true, true, true, true, false, false, false, false, false] rfl rfl (by kernel_rfl) (fun _ _ _ h => h) (Or.inl ⟨by rfl, ?_⟩) hHeld ?_ ?_
  rotate_left
  · intro w' s0
    go_simp
    with_reducible rfl
  rotate_left
  · simp only [Act.put, List.setIfInBounds_toArray, List.set_cons_zero, List.set_cons_succ, i64_w, i32_w]
    rfl
  refine one_ (i := 7) (N := some 11) #[true, true, true, true, true, true, true, true, false, false, false, false] rfl rfl (by kernel_rfl) (by decide) (fun K hK => ?_)
  refine goes_ Try.func66 (by kernel_rfl) rfl #[.int .u64 (IntKind.u64.wrap n)] (by rfl) rfl rfl (by simp only [List.map_toArray, List.map_cons, List.map_nil]; rfl) ?_
  with_reducible refine (num_PutVar.calls (IntKind.u64.wrap n) (YtanfmnobanhcnaaH.Var.putI n) _ HP.out).mono ?_
  rintro e w3 ⟨v3, rfl, ho3, hb3⟩
  refine ⟨_, rfl, ?_⟩
  have hc3 := (hb3.cell (World.block_lt_of_cell? _ _ hHeld)).trans hHeld
  have hg3 := Aside0.mk (blk_below hg2.out hb3)
  have hr3 := Aside0.mk (Kd.R_below hr2.out hb3)
  have hv3 := Aside0.mk ho3
  have hB3 := Aside0.mk hb3
  obtain ⟨A3, c3, e3⟩ := Kd.R_slice ho3
  subst e3
  refine hK.out _ _ (hc3) (fun hHeld => ?_)
  clear hK K
  refine norm_ (a' := ?_) ?_ ?_
  rotate_left
  · show Act.put _ (some 11) _ = _
    simp only [Act.put, List.setIfInBounds_toArray, List.set_cons_zero, List.set_cons_succ, i64_w, i32_w]
    rfl
  refine one_ (i := 8) (N := some 12) #[true, true, true, true, true, true, true, true, true, false, false, false] rfl rfl (by kernel_rfl) (by decide) (fun K hK => ?_)
  refine Kd.R_append_rows_step (Kd.int .u8) (w0 := w2) base (by rfl) (.tmp 8) (.tmp 11) 26 5 (.int .u8 0) 1 rfl Try.underlying26 info5 rfl (by decide) (by decide) v xs (YtanfmnobanhcnaaH.Var.putI n) A3 _ c3 (fun k => k ≠ g) (fun _ => False) rfl rfl hr3.out (Kd.R_reads' hv3.out).2.2 (fun _ _ h => h) (fun _ h => h.elim) (fun k hk e => Nat.not_le.2 (blk_lt hg3.out) (e ▸ hk)) ⟨hB3.out.os, hB3.out.tape, hB3.out.output, hB3.out.size, fun k hk => hB3.out.block k (Nat.lt_trans hk hlt2.out)⟩ (Nat.le_trans (Nat.le_of_lt hlt2.out) hB3.out.size) (by have := HL.out; omega) ?_
  intro v4 w4 ho4 hb4 hg4 hat4
  obtain ⟨ys, hys⟩ : ∃ ys, ys = xs ++ YtanfmnobanhcnaaH.Var.putI n := ⟨_, rfl⟩
  rw [← hys] at ho4
  have HYS := Aside0.mk hys
  clear hys
  obtain ⟨A4, c4, e4⟩ := Kd.R_slice ho4
  subst e4
  have hG4 := blk_grown hg3.out hg4 hne.out
  have hcc4 := blk_cell hG4 0
  have hff4 := blk_frozen hG4 0
  refine hK.out _ _ ((hcc4.trans rfl)) (fun hHeld => ?_)
  clear hK K
  refine norm_ (a' := ?_) ?_ ?_
  rotate_left
  · show Act.put _ (some 12) _ = _
    simp only [Act.put, List.setIfInBounds_toArray, List.set_cons_zero, List.set_cons_succ, i64_w, i32_w]
    rfl
  refine pure_ (i := 9) (N := some 13) (v := ?_) (a' := ?_) #[true, true, true, true, true, true, true, true, true, true, false, false] rfl rfl (by kernel_rfl) (fun _ _ _ h => h) (Or.inl ⟨by rfl, ?_⟩) ?_ ?_
  rotate_left
  · intro w'
    go_simp
    with_reducible rfl
  rotate_left
  · simp only [Act.put, List.setIfInBounds_toArray, List.set_cons_zero, List.set_cons_succ, i64_w, i32_w]
    rfl
  refine pure_ (i := 10) (N := some 14) (v := ?_) (a' := ?_) #[true, true, true, true, true, true, true, true, true, true, true, false] rfl rfl (by kernel_rfl) (fun _ _ _ h => h) (Or.inl ⟨by rfl, ?_⟩) ?_ ?_
  rotate_left
  · intro w'
    go_simp
    with_reducible rfl
  rotate_left
  · simp only [Act.put, List.setIfInBounds_toArray, List.set_cons_zero, List.set_cons_succ, i64_w, i32_w]
    rfl
  refine last_ (i := 11) (N := none) #[true, true, true, true, true, true, true, true, true, true, true, true] rfl rfl (by kernel_rfl) (by decide) (fun K hK => ?_)
  refine skip_ (w1 := ?_) (by rfl) rfl ?_ ?_
  rotate_left
  · go_simp
    rfl
  refine hK.out _ _ ?_
  clear hK K
  refine done_ (by kernel_rfl) ?_
  first | go_end0 | ((try simp only [Exit.inBlock, Exit.then]); refine bodyPost_ret (results_none rfl _ _ _) rfl ?_)
  exact ⟨rfl, _, blk_set hG4 0 _, by rw [← HYS.out]; exact Kd.R_far (p := ⟨g, 0, none⟩) ho4 (fun k hk => hk) _, ((hmu2.out.below_ hB3.out).grown_ hg4 (.inl rfl)).set_ 0 _⟩


/-! ### record_each: function 36 -/
set_option maxHeartbeats 4000000 in
set_option maxRecDepth 100000 in
theorem record_each.calls (g : Nat) (v : Value) (xs l : List Int) (A0 : Option Addr) (c0 : Nat) (w0 w : World) (hr0 : Kd.C (Kd.int .i64) w0 A0 l.length l) (hc0 : l.length ≤ c0) (hB : Below w0.heap.size w0 w) (hlt : w0.heap.size < w.heap.size) (hbg : w0.heap.size ≤ g)
    (hg : w.heap[g]? = some (.cells #[v] 72)) (hr : Kd.R (Kd.int .u8) 5 w w0.heap.size (fun k => k ≠ g) v xs) (h : ∀ x ∈ l, 0 ≤ x ∧ x < 9223372036854775808) (hl : xs.length + 10 * (l.length + 1) ≤ 140737488350000) :
    Calls Try.prog 36 #[.slice A0 l.length c0, .func (.func 35) #[.pointer (some ⟨g, 0, none⟩)] #[]] w fun e w' => e = .returned (.tuple #[]) ∧ ∃ v', w'.heap[g]? = some (.cells #[v'] 72) ∧ Kd.R (Kd.int .u8) 5 w' w0.heap.size (fun k => k ≠ g) v' (xs ++ (YtanfmnobanhcnaaH.Var.putI l.length ++ YtanfmnobanhcnaaH.putAllI l)) ∧ Below w0.heap.size w0 w' := by
  have HR0 := Aside0.mk hr0
  have HH := Aside0.mk h
  have HL := Aside0.mk hl
  have hlen : l.length ≤ 9223372036854775807 := hr0.2.1
  have hplen := YtanfmnobanhcnaaH.Var.putI_len10 (l.length : Int) (by omega)
  have HPL := Aside0.mk hplen
  clear hr0 h hplen
  go_enter Try.func36, Try.ntmps36
  go_wp2_with fail
  refine (record_writer_number.calls g w0.heap.size v xs l.length w hg hr hlt (by omega) (by omega) (by omega)).mono ?_
  rintro e w1 ⟨rfl, v1, hg1, hr1, hm1⟩
  have hB1 := hm1.under hB (Nat.le_of_lt hlt) hbg (fun k hk => Kd.R_base hr k hk)
  have hlt1 : w0.heap.size < w1.heap.size := Nat.lt_of_lt_of_le hlt hm1.keep.1
  have HG := Aside0.mk hg1
  have HR := Aside0.mk hr1
  have HB := Aside0.mk hB1
  have HT := Aside0.mk hlt1
  clear hg hr hB hlt hg1 hr1 hm1 hB1 hlt1
  go_wp2_with fail
  go_loopw [5, 12] (fun v5 v12 w' => ∃ k : Nat, k ≤ l.length ∧ v12 = .int .i64 k ∧ Aside0 (∃ v', w'.heap[g]? = some (.cells #[v'] 72) ∧ Kd.R (Kd.int .u8) 5 w' w0.heap.size (fun k => k ≠ g) v' (xs ++ (YtanfmnobanhcnaaH.Var.putI l.length ++ YtanfmnobanhcnaaH.putAllI (l.take k))) ∧ Below w0.heap.size w0 w' ∧ w0.heap.size < w'.heap.size)) (fun _ v12 _ => l.length - (intOf v12).toNat)
  case atStart => exact ⟨0, Nat.zero_le _, rfl, ⟨_, HG.out, by simpa [YtanfmnobanhcnaaH.putAllI] using HR.out, HB.out, HT.out⟩⟩
  case round =>
    obtain ⟨k, hk, rfl, HX⟩ := hrel
    by_cases hlt : k < l.length
    · obtain ⟨v2, hg2, hr2, hb2, ht2⟩ := HX.out
      obtain ⟨ad, rfl, hcell⟩ := YtanfmnobanhcnaaH.at_int (Kd.C_below HR0.out hb2) k hlt
      have hx := HH.out l[k] (List.getElem_mem hlt)
      have hlk := YtanfmnobanhcnaaH.putAllI_len (l.take k) (fun x hx => (HH.out x (List.mem_of_mem_take hx)).2)
      rw [List.length_take] at hlk
      have HLK := Aside0.mk (show (xs ++ (YtanfmnobanhcnaaH.Var.putI l.length ++ YtanfmnobanhcnaaH.putAllI (l.take k))).length ≤ 140737488350000 by have := HPL.out; have := HL.out; simp only [List.length_append]; omega)
      have h2 := Aside0.mk (⟨hg2, hr2, hb2, ht2⟩ : _ ∧ _ ∧ _ ∧ _)
      have HXX := Aside0.mk hx
      clear hg2 hr2 hb2 ht2 hlk HX hx
      go_wp2_with fail
      refine (record_writer_number.calls g w0.heap.size v2 _ l[k] _ h2.out.1 h2.out.2.1 h2.out.2.2.2 HXX.out.1 HXX.out.2 HLK.out).mono ?_
      rintro e w3 ⟨rfl, v3, hg3, hr3, hm3⟩
      have hB3 := hm3.under h2.out.2.2.1 (Nat.le_of_lt h2.out.2.2.2) hbg (fun k hk => Kd.R_base h2.out.2.1 k hk)
      have hlt3 : w0.heap.size < w3.heap.size := Nat.lt_of_lt_of_le h2.out.2.2.2 hm3.keep.1
      have h3 := Aside0.mk (⟨hg3, hr3, hB3, hlt3⟩ : _ ∧ _ ∧ _ ∧ _)
      clear hg3 hr3 hB3 hlt3 hm3
      go_wp2
      go_round
      case rel => exact ⟨k + 1, by omega, by go_num, ⟨v3, h3.out.1, by rw [YtanfmnobanhcnaaH.putAllI_succ l k hlt]; have := h3.out.2.1; simpa only [List.append_assoc] using this, h3.out.2.2.1, h3.out.2.2.2⟩⟩
      case measure => simp [intOf]; omega
    · have hkk : k = l.length := by omega
      subst hkk
      clear hlt hk
      go_wp2
      first | go_end0 | ((try simp only [Exit.inBlock, Exit.then]); refine bodyPost_ret (results_none rfl _ _ _) rfl ?_)
      obtain ⟨v2, hg2, hr2, hb2, ht2⟩ := HX.out
      rw [List.take_length] at hr2
      exact ⟨rfl, v2, hg2, hr2, hb2⟩


/-! ### record_Put: function 16 -/
def record_Put.f (a0 : Int) (l1 : List Int) (a2 a3 a4 : Int) (l5 : List Int) (a6 : Int) : Option (List Int × Bool) := some (YtanfmnobanhcnaaH.Rec.recPut a0 l1 a2 a3 a4 l5 a6)
set_option maxHeartbeats 4000000 in
set_option maxRecDepth 100000 in
theorem record_Put.calls (a0_0 : Int) (A0_1 : Option Addr) (c0_1 : Nat) (l0_1 : List Int) (a0_2 a0_3 a0_4 : Int) (A0_5 : Option Addr) (c0_5 : Nat) (l0_5 : List Int) (a0_6 : Int) (r1 : List Int) (r2 : Bool) (w : World) (hr0_1 : Kd.C (Kd.int .i64) w A0_1 l0_1.length l0_1) (hc0_1 : l0_1.length ≤ c0_1) (hr0_5 : Kd.C (Kd.int .i64) w A0_5 l0_5.length l0_5) (hc0_5 : l0_5.length ≤ c0_5) (h : record_Put.f a0_0 l0_1 a0_2 a0_3 a0_4 l0_5 a0_6 = some (r1, r2)) :
    Calls Try.prog 16 #[.agg #[.int .i64 a0_0, .slice A0_1 l0_1.length c0_1, .int .i64 a0_2, .int .i64 a0_3, .int .i64 a0_4, .slice A0_5 l0_5.length c0_5, .int .i64 a0_6]] w fun e w' => ∃ v0_ : Value, e = .returned (.tuple #[v0_, .bool r2]) ∧ Kd.R (Kd.int .u8) 5 w' w.heap.size (fun _ => True) v0_ r1 ∧ Below w.heap.size w w' := by
  have hr := Option.some.inj h
  clear h
  have HRES := Aside0.mk hr
  clear hr
  have hu30 := Try.underlying30
  have hu25 := Try.underlying25
  have hu72 := Try.underlying72
  have HR1 := Aside0.mk hr0_1
  have HR5 := Aside0.mk hr0_5
  have HC1 := Aside0.mk hc0_1
  have HC5 := Aside0.mk hc0_5
  clear hr0_1 hr0_5 hc0_1 hc0_5
  go_enter Try.func16, Try.ntmps16
  go_wp2_with fail
  have hb1 := YtanfmnobanhcnaaH.below_alloc1 w (.cells #[.int .i64 a0_0, .slice A0_1 l0_1.length c0_1, .int .i64 a0_2, .int .i64 a0_3, .int .i64 a0_4, .slice A0_5 l0_5.length c0_5, .int .i64 a0_6] 30)
  refine (record_may.calls a0_0 A0_1 c0_1 l0_1 a0_2 a0_3 a0_4 A0_5 c0_5 l0_5 a0_6 _ _ (Kd.C_below HR1.out hb1) HC1.out (Kd.C_below HR5.out hb1) HC5.out rfl).mono ?_
  rintro e w2 ⟨rfl, hb2⟩
  have hB2 := below_step hb1 hb2
  have hG2 := blk_below (blk_new w (.cells #[.int .i64 a0_0, .slice A0_1 l0_1.length c0_1, .int .i64 a0_2, .int .i64 a0_3, .int .i64 a0_4, .slice A0_5 l0_5.length c0_5, .int .i64 a0_6] 30)) hb2
  have HB2 := Aside0.mk hB2
  have HG2 := Aside0.mk hG2
  clear hb1 hb2 hB2 hG2
  cases hm : YtanfmnobanhcnaaH.Rec.mayI a0_0 l0_1 a0_2 a0_3 a0_4 l0_5 a0_6 with
  | false =>
    go_wp2
    go_ret2
    have hr := HRES.out
    unfold YtanfmnobanhcnaaH.Rec.recPut at hr
    rw [hm, if_neg (by decide)] at hr
    injection hr with h1 h2
    subst h1
    subst h2
    exact ⟨_, rfl, Kd.R_nil _ _ _ _ _, HB2.out⟩
  | true =>
    have hms := YtanfmnobanhcnaaH.Rec.mayI_some hm
    have hr := HRES.out
    unfold YtanfmnobanhcnaaH.Rec.recPut at hr
    rw [hm, if_pos rfl] at hr
    injection hr with h1 h2
    subst h1
    subst h2
    obtain ⟨hk, h40, hid, hids⟩ := hms
    have hx0 := YtanfmnobanhcnaaH.cellv HG2.out 0 (.int .i64 a0_0) rfl
    have hx1 := YtanfmnobanhcnaaH.cellv HG2.out 1 (.slice A0_1 l0_1.length c0_1) rfl
    have hx2 := YtanfmnobanhcnaaH.cellv HG2.out 2 (.int .i64 a0_2) rfl
    have hx3 := YtanfmnobanhcnaaH.cellv HG2.out 3 (.int .i64 a0_3) rfl
    have hx4 := YtanfmnobanhcnaaH.cellv HG2.out 4 (.int .i64 a0_4) rfl
    have hx5 := YtanfmnobanhcnaaH.cellv HG2.out 5 (.slice A0_5 l0_5.length c0_5) rfl
    have hx6 := YtanfmnobanhcnaaH.cellv HG2.out 6 (.int .i64 a0_6) rfl
    have hlt2 : w.heap.size < w2.heap.size := blk_lt HG2.out
    have HLT := Aside0.mk hlt2
    clear hlt2
    rcases hk with ⟨rfl, hk⟩ | ⟨rfl, hk⟩ | ⟨rfl, hk⟩
    · have hrl := YtanfmnobanhcnaaH.R_lits .u8 w2 w.heap.size 5 (fun k => k ≠ w2.heap.size + 1) [1] (Nat.le_of_lt HLT.out) (by omega) (by simp)
      have hr3 := Aside0.mk (Kd.R_alloc hrl (.cells #[.slice (some ⟨w2.heap.size, 0, none⟩) 1 1] 72))
      clear hrl
      have hG3 := blk_alloc (blk_alloc HG2.out (.cells #[.int .u8 1] 5)) (.cells #[.slice (some ⟨w2.heap.size, 0, none⟩) 1 1] 72)
      have hg3' := blk_new (w2.alloc (.cells #[.int .u8 1] 5)) (.cells #[.slice (some ⟨w2.heap.size, 0, none⟩) 1 1] 72)
      have hsz : (w2.alloc (.cells #[.int .u8 1] 5)).heap.size = w2.heap.size + 1 := by show (w2.heap.push _).size = _; simp
      rw [hsz] at hg3'
      have hg3 := Aside0.mk hg3'
      have hB3 := Aside0.mk ((HB2.out.alloc (Nat.le_of_lt HLT.out) (.cells #[.int .u8 1] 5)).alloc (by rw [hsz]; have := HLT.out; omega) (.cells #[.slice (some ⟨w2.heap.size, 0, none⟩) 1 1] 72))
      have hT3 := Aside0.mk (blk_lt hG3)
      have hy0 := YtanfmnobanhcnaaH.cellv hG3 0 (.int .i64 1) rfl
      have hy1 := YtanfmnobanhcnaaH.cellv hG3 1 (.slice A0_1 l0_1.length c0_1) rfl
      have hy2 := YtanfmnobanhcnaaH.cellv hG3 2 (.int .i64 a0_2) rfl
      have hy3 := YtanfmnobanhcnaaH.cellv hG3 3 (.int .i64 a0_3) rfl
      have hy4 := YtanfmnobanhcnaaH.cellv hG3 4 (.int .i64 a0_4) rfl
      have hy5 := YtanfmnobanhcnaaH.cellv hG3 5 (.slice A0_5 l0_5.length c0_5) rfl
      have hy6 := YtanfmnobanhcnaaH.cellv hG3 6 (.int .i64 a0_6) rfl
      have HG3 := Aside0.mk hG3
      clear hg3' hsz hG3
      go_wp2_with fail
      refine (schema_Put.calls _ A0_1 c0_1 l0_1 a0_2 a0_3 a0_4 _ _ (Kd.V_mk HC1.out (Kd.C_F (Kd.heap_int .i64) (Kd.C_below HR1.out hB3.out))) (by unfold schema_Put.f; exact if_pos hk)).mono ?_
      rintro e w4 ⟨vs, rfl, hs4, hb4⟩
      have hlen := YtanfmnobanhcnaaH.Rec.putS_len _ _ _ _ hk
      obtain ⟨zs, hzs⟩ : ∃ zs, zs = YtanfmnobanhcnaaH.Rec.putS l0_1 a0_2 a0_3 a0_4 := ⟨_, rfl⟩
      rw [← hzs] at hlen hs4
      have HZ := Aside0.mk hzs
      have HZL := Aside0.mk hlen
      clear hzs hlen
      obtain ⟨A6, c6, e6⟩ := Kd.R_slice hs4
      subst e6
      have hg4 := Aside0.mk (blk_below hg3.out hb4)
      have hG4 := Aside0.mk (blk_below HG3.out hb4)
      have hr4 := Aside0.mk (Kd.R_below hr3.out hb4)
      have hs4' := Aside0.mk hs4
      have hB4 := Aside0.mk (below_step hB3.out hb4)
      have hnb := Aside0.mk (fun k (h : (Value.slice A6 zs.length c6).ownBlock = some k) => Kd.R_base hs4 k h)
      clear hb4 hs4
      go_wp2_with fail
      refine (record_writer_number.calls (w2.heap.size + 1) w.heap.size _ [1] zs.length w4 hg4.out hr4.out (blk_lt hG4.out) (by omega) (by have := HZL.out; omega) (by simp)).mono ?_
      rintro e w5 ⟨rfl, v5, hg5', hr5', hm5⟩
      obtain ⟨ys, hys⟩ : ∃ ys, ys = [1] ++ YtanfmnobanhcnaaH.Var.putI zs.length := ⟨_, rfl⟩
      rw [← hys] at hr5'
      have HYL := Aside0.mk (show ys.length ≤ 11 by rw [hys]; have := YtanfmnobanhcnaaH.Var.putI_len10 (zs.length : Int) (by have := HZL.out; omega); simp; omega)
      have HY := Aside0.mk hys
      clear hys
      have HB5 := Aside0.mk (hm5.under hB4.out (Nat.le_of_lt (blk_lt hG4.out)) (by have := HLT.out; omega) (fun k hk => Kd.R_base hr4.out k hk))
      have HG5 := Aside0.mk (hm5.blk hG4.out (by have := HLT.out; omega) (fun e => by have := HLT.out; have e2 : w.heap.size = w2.heap.size := by simpa [Value.ownBlock] using e
                                                                                      omega))
      have hs5 := Aside0.mk (hm5.R (ok := fun k => k ≠ w2.heap.size + 1 ∧ k ≠ w2.heap.size) (Kd.R_mono (Kd.R_bound hs4'.out) (fun k hk => by
        have h1 : w2.heap.size + 1 < (World.heap ((w2.alloc (.cells #[.int .u8 1] 5)).alloc (.cells #[.slice (some ⟨w2.heap.size, 0, none⟩) 1 1] 72))).size := blk_lt hg3.out
        have := hk.2.1
        exact ⟨by omega, by omega⟩)) (fun k hk => ⟨hk.1, fun e => hk.2 (by simpa [Value.ownBlock] using e)⟩))
      have HNR := Aside0.mk (fun k (h : v5.ownBlock = some k) => (Kd.R_base hr5' k h : w.heap.size ≤ k))
      have HNE := Aside0.mk (show v5.ownBlock ≠ some w.heap.size from fun e => by
        obtain ⟨cs, hc⟩ := Kd.R_typed hr5' _ e
        rw [HG5.out] at hc
        injection hc with hc
        injection hc with _ hc
        exact absurd hc (by decide))
      have HT5 := Aside0.mk (blk_lt HG5.out)
      have hr5 := Aside0.mk hr5'
      have hg5 := Aside0.mk hg5'
      obtain ⟨A5, c5, e5⟩ := Kd.R_slice hr5'
      subst e5
      have hq5 := YtanfmnobanhcnaaH.cellv hg5' 0 _ rfl
      clear hr5' hg5' hm5
      go_wp2_with (first | (at_builtin; go_must (refine Kd.R_append_rows (Kd.int .u8) (w0 := w) w.heap.size rfl _ _ 26 5 (.int .u8 0) 1 rfl Try.underlying26 info5 rfl (by decide) (by decide) _ ys zs A6 _ c6 (fun k => k ≠ w2.heap.size + 1) (fun _ => False) rfl rfl hr5.out (Kd.R_reads' hs5.out).2.2 (fun _ _ h => h) (fun _ h => h.elim) (fun k hk e => Nat.not_le.2 (blk_lt hg5.out) (e ▸ hk)) HB5.out (Nat.le_of_lt HT5.out) (by have := HYL.out; have := HZL.out; omega) ?_; intro v6 w6 ho6 hb6 hgr6 hat6; obtain ⟨us, hus⟩ : ∃ us, us = ys ++ zs := ⟨_, rfl⟩; rw [← hus] at ho6; have HUS := Aside0.mk hus; clear hus; obtain ⟨A7, c7, e7⟩ := Kd.R_slice ho6; subst e7; have hg6 := blk_grown hg5.out hgr6 (fun e => (hr5.out).1 _ e.symm rfl); have hG6 := blk_grown HG5.out hgr6 (fun e => HNE.out e.symm); have hq6 := YtanfmnobanhcnaaH.cellv hg6 0 _ rfl; have hf6 := blk_frozen hg6 0; have hG7 := blk_far (p := ⟨w2.heap.size + 1, 0, none⟩) hG6 (show w.heap.size ≠ w2.heap.size + 1 by have := HLT.out; omega) (.slice A7 us.length c7); have hz0 := YtanfmnobanhcnaaH.cellv hG7 0 (.int .i64 1) rfl; have hz1 := YtanfmnobanhcnaaH.cellv hG7 1 (.slice A0_1 l0_1.length c0_1) rfl; have hz2 := YtanfmnobanhcnaaH.cellv hG7 2 (.int .i64 a0_2) rfl; have hz3 := YtanfmnobanhcnaaH.cellv hG7 3 (.int .i64 a0_3) rfl; have hz4 := YtanfmnobanhcnaaH.cellv hG7 4 (.int .i64 a0_4) rfl; have hz5 := YtanfmnobanhcnaaH.cellv hG7 5 (.slice A0_5 l0_5.length c0_5) rfl; have hz6 := YtanfmnobanhcnaaH.cellv hG7 6 (.int .i64 a0_6) rfl; have hg7 := Aside0.mk (blk_set hg6 0 (.slice A7 us.length c7)); have hr7 := Aside0.mk (Kd.R_far (p := ⟨w2.heap.size + 1, 0, none⟩) ho6 (fun k hk => hk) (.slice A7 us.length c7)); have hB7 := Aside0.mk (below_set (g := w2.heap.size + 1) (j := 0) (v := .slice A7 us.length c7) hb6 (by have := HLT.out; omega)); have HG7 := Aside0.mk hG7; clear hg6 hr5 hb6 ho6 hG6 hgr6 hat6 hG7)))
      refine (record_writer_number.calls (w2.heap.size + 1) w.heap.size _ us a0_6 _ hg7.out hr7.out (blk_lt HG7.out) (by omega) (by omega) (by have := HYL.out; have := HZL.out; have e_ := HUS.out; rw [e_, List.length_append]; omega)).mono ?_
      rintro e w8 ⟨rfl, v8, hg8', hr8', hm8⟩
      obtain ⟨ts, hts⟩ : ∃ ts, ts = us ++ YtanfmnobanhcnaaH.Var.putI a0_6 := ⟨_, rfl⟩
      rw [← hts] at hr8'
      have HTL := Aside0.mk (show ts.length ≤ 702 + 10 by rw [hts, List.length_append]; have := YtanfmnobanhcnaaH.Var.putI_len10 a0_6 (by omega); have hx_ : (us : List Int).length ≤ 702 := (by have := HYL.out; have := HZL.out; have e_ := HUS.out; rw [e_, List.length_append]; omega); omega)
      have HTS := Aside0.mk hts
      clear hts
      have HB8 := Aside0.mk (hm8.under hB7.out (Nat.le_of_lt (blk_lt HG7.out)) (by have := HLT.out; omega) (fun k hk => Kd.R_base hr7.out k hk))
      have HG8 := Aside0.mk (hm8.blk HG7.out (by have := HLT.out; omega) (YtanfmnobanhcnaaH.R_ne hr7.out HG7.out (by decide)))
      have hr8 := Aside0.mk hr8'
      have hg8 := Aside0.mk hg8'
      obtain ⟨A8, c8, e8⟩ := Kd.R_slice hr8'
      subst e8
      have hq8 := YtanfmnobanhcnaaH.cellv hg8' 0 _ rfl
      have hv0 := YtanfmnobanhcnaaH.cellv HG8.out 0 (.int .i64 1) rfl
      have hv1 := YtanfmnobanhcnaaH.cellv HG8.out 1 (.slice A0_1 l0_1.length c0_1) rfl
      have hv2 := YtanfmnobanhcnaaH.cellv HG8.out 2 (.int .i64 a0_2) rfl
      have hv3 := YtanfmnobanhcnaaH.cellv HG8.out 3 (.int .i64 a0_3) rfl
      have hv4 := YtanfmnobanhcnaaH.cellv HG8.out 4 (.int .i64 a0_4) rfl
      have hv5 := YtanfmnobanhcnaaH.cellv HG8.out 5 (.slice A0_5 l0_5.length c0_5) rfl
      have hv6 := YtanfmnobanhcnaaH.cellv HG8.out 6 (.int .i64 a0_6) rfl
      clear hr8' hg8' hm8
      go_wp2_with fail
      refine (record_each.calls (w2.heap.size + 1) _ ts l0_5 A0_5 c0_5 w _ HR5.out HC5.out HB8.out (blk_lt HG8.out) (by have := HLT.out; omega) hg8.out hr8.out (fun x hx => by have := hids x hx; omega) (by have := HTL.out; omega)).mono ?_
      rintro e w9 ⟨rfl, v9, hg9, hr9, hB9⟩
      obtain ⟨us9, hus9⟩ : ∃ us9, us9 = ts ++ (YtanfmnobanhcnaaH.Var.putI l0_5.length ++ YtanfmnobanhcnaaH.putAllI l0_5) := ⟨_, rfl⟩
      rw [← hus9] at hr9
      have HL9 := Aside0.mk (show us9.length ≤ 2000 by rw [hus9, List.length_append, List.length_append]; have := HTL.out; have := YtanfmnobanhcnaaH.Var.putI_len10 (l0_5.length : Int) (by omega); have := YtanfmnobanhcnaaH.putAllI_len l0_5 (fun x hx => by have := hids x hx; omega); omega)
      have HU9 := Aside0.mk hus9
      have HB9 := Aside0.mk hB9
      have HR9 := Aside0.mk hr9
      obtain ⟨A9, c9, e9⟩ := Kd.R_slice hr9
      subst e9
      have hq9 := YtanfmnobanhcnaaH.cellv hg9 0 _ rfl
      clear hus9 hg9 hr9 hB9
      go_wp2_with fail
      have heq : us9 = YtanfmnobanhcnaaH.Rec.recB 1 l0_1 a0_2 a0_3 a0_4 l0_5 a0_6 := by
        unfold YtanfmnobanhcnaaH.Rec.recB
        rw [HU9.out, HTS.out, HUS.out, HY.out, HZ.out, if_pos rfl, if_neg (show ¬ (1 : Int) = 2 by decide)]
        simp only [List.append_assoc, List.append_nil, List.nil_append]
      have hfr : crc_Frame.f us9 = some (YtanfmnobanhcnaaH.Fr.frameI (YtanfmnobanhcnaaH.Rec.recB 1 l0_1 a0_2 a0_3 a0_4 l0_5 a0_6)) := by
        unfold crc_Frame.f
        rw [if_pos ⟨by rw [heq]; exact YtanfmnobanhcnaaH.Rec.isB_rec (by decide), by have := HL9.out; omega⟩, heq]
      refine (crc_Frame.calls _ A9 c9 us9 _ _ (Kd.R_V HR9.out) hfr).mono ?_
      rintro e w10 ⟨v10, rfl, hr10, hb10⟩
      have HR10 := Aside0.mk hr10
      have HB10 := Aside0.mk (below_step HB9.out hb10)
      have HS9 := Aside0.mk (HB9.out.size)
      clear hr10 hb10 heq hfr
      go_wp2
      go_ret2
      exact ⟨_, rfl, Kd.R_mono (Kd.R_lower HR10.out HS9.out) (fun _ _ => trivial), HB10.out⟩
    · have hrl := YtanfmnobanhcnaaH.R_lits .u8 w2 w.heap.size 5 (fun k => k ≠ w2.heap.size + 1) [2] (Nat.le_of_lt HLT.out) (by omega) (by simp)
      have hr3 := Aside0.mk (Kd.R_alloc hrl (.cells #[.slice (some ⟨w2.heap.size, 0, none⟩) 1 1] 72))
      clear hrl
      have hG3 := blk_alloc (blk_alloc HG2.out (.cells #[.int .u8 2] 5)) (.cells #[.slice (some ⟨w2.heap.size, 0, none⟩) 1 1] 72)
      have hg3' := blk_new (w2.alloc (.cells #[.int .u8 2] 5)) (.cells #[.slice (some ⟨w2.heap.size, 0, none⟩) 1 1] 72)
      have hsz : (w2.alloc (.cells #[.int .u8 2] 5)).heap.size = w2.heap.size + 1 := by show (w2.heap.push _).size = _; simp
      rw [hsz] at hg3'
      have hg3 := Aside0.mk hg3'
      have hB3 := Aside0.mk ((HB2.out.alloc (Nat.le_of_lt HLT.out) (.cells #[.int .u8 2] 5)).alloc (by rw [hsz]; have := HLT.out; omega) (.cells #[.slice (some ⟨w2.heap.size, 0, none⟩) 1 1] 72))
      have hT3 := Aside0.mk (blk_lt hG3)
      have hy0 := YtanfmnobanhcnaaH.cellv hG3 0 (.int .i64 2) rfl
      have hy1 := YtanfmnobanhcnaaH.cellv hG3 1 (.slice A0_1 l0_1.length c0_1) rfl
      have hy2 := YtanfmnobanhcnaaH.cellv hG3 2 (.int .i64 a0_2) rfl
      have hy3 := YtanfmnobanhcnaaH.cellv hG3 3 (.int .i64 a0_3) rfl
      have hy4 := YtanfmnobanhcnaaH.cellv hG3 4 (.int .i64 a0_4) rfl
      have hy5 := YtanfmnobanhcnaaH.cellv hG3 5 (.slice A0_5 l0_5.length c0_5) rfl
      have hy6 := YtanfmnobanhcnaaH.cellv hG3 6 (.int .i64 a0_6) rfl
      have HG3 := Aside0.mk hG3
      clear hg3' hsz hG3
      go_wp2_with fail
      refine (record_writer_number.calls (w2.heap.size + 1) w.heap.size _ [2] a0_6 _ hg3.out hr3.out (blk_lt HG3.out) (by omega) (by omega) (by simp)).mono ?_
      rintro e w8 ⟨rfl, v8, hg8', hr8', hm8⟩
      obtain ⟨ts, hts⟩ : ∃ ts, ts = [2] ++ YtanfmnobanhcnaaH.Var.putI a0_6 := ⟨_, rfl⟩
      rw [← hts] at hr8'
      have HTL := Aside0.mk (show ts.length ≤ 1 + 10 by rw [hts, List.length_append]; have := YtanfmnobanhcnaaH.Var.putI_len10 a0_6 (by omega); have hx_ : ([2] : List Int).length ≤ 1 := (by simp); omega)
      have HTS := Aside0.mk hts
      clear hts
      have HB8 := Aside0.mk (hm8.under hB3.out (Nat.le_of_lt (blk_lt HG3.out)) (by have := HLT.out; omega) (fun k hk => Kd.R_base hr3.out k hk))
      have HG8 := Aside0.mk (hm8.blk HG3.out (by have := HLT.out; omega) (YtanfmnobanhcnaaH.R_ne hr3.out HG3.out (by decide)))
      have hr8 := Aside0.mk hr8'
      have hg8 := Aside0.mk hg8'
      obtain ⟨A8, c8, e8⟩ := Kd.R_slice hr8'
      subst e8
      have hq8 := YtanfmnobanhcnaaH.cellv hg8' 0 _ rfl
      have hv0 := YtanfmnobanhcnaaH.cellv HG8.out 0 (.int .i64 2) rfl
      have hv1 := YtanfmnobanhcnaaH.cellv HG8.out 1 (.slice A0_1 l0_1.length c0_1) rfl
      have hv2 := YtanfmnobanhcnaaH.cellv HG8.out 2 (.int .i64 a0_2) rfl
      have hv3 := YtanfmnobanhcnaaH.cellv HG8.out 3 (.int .i64 a0_3) rfl
      have hv4 := YtanfmnobanhcnaaH.cellv HG8.out 4 (.int .i64 a0_4) rfl
      have hv5 := YtanfmnobanhcnaaH.cellv HG8.out 5 (.slice A0_5 l0_5.length c0_5) rfl
      have hv6 := YtanfmnobanhcnaaH.cellv HG8.out 6 (.int .i64 a0_6) rfl
      clear hr8' hg8' hm8
      go_wp2_with fail
      have heq : ts = YtanfmnobanhcnaaH.Rec.recB 2 l0_1 a0_2 a0_3 a0_4 l0_5 a0_6 := by
        unfold YtanfmnobanhcnaaH.Rec.recB
        rw [HTS.out, if_neg (show ¬ (2 : Int) = 1 by decide), if_pos rfl]
        simp only [List.append_assoc, List.append_nil, List.nil_append]
      have hfr : crc_Frame.f ts = some (YtanfmnobanhcnaaH.Fr.frameI (YtanfmnobanhcnaaH.Rec.recB 2 l0_1 a0_2 a0_3 a0_4 l0_5 a0_6)) := by
        unfold crc_Frame.f
        rw [if_pos ⟨by rw [heq]; exact YtanfmnobanhcnaaH.Rec.isB_rec (by decide), by have := HTL.out; omega⟩, heq]
      refine (crc_Frame.calls _ A8 c8 ts _ _ (Kd.R_V hr8.out) hfr).mono ?_
      rintro e w10 ⟨v10, rfl, hr10, hb10⟩
      have HR10 := Aside0.mk hr10
      have HB10 := Aside0.mk (below_step HB8.out hb10)
      have HS9 := Aside0.mk (HB8.out.size)
      clear hr10 hb10 heq hfr
      go_wp2
      go_ret2
      exact ⟨_, rfl, Kd.R_mono (Kd.R_lower HR10.out HS9.out) (fun _ _ => trivial), HB10.out⟩
    · have hrl := YtanfmnobanhcnaaH.R_lits .u8 w2 w.heap.size 5 (fun k => k ≠ w2.heap.size + 1) [3] (Nat.le_of_lt HLT.out) (by omega) (by simp)
      have hr3 := Aside0.mk (Kd.R_alloc hrl (.cells #[.slice (some ⟨w2.heap.size, 0, none⟩) 1 1] 72))
      clear hrl
      have hG3 := blk_alloc (blk_alloc HG2.out (.cells #[.int .u8 3] 5)) (.cells #[.slice (some ⟨w2.heap.size, 0, none⟩) 1 1] 72)
      have hg3' := blk_new (w2.alloc (.cells #[.int .u8 3] 5)) (.cells #[.slice (some ⟨w2.heap.size, 0, none⟩) 1 1] 72)
      have hsz : (w2.alloc (.cells #[.int .u8 3] 5)).heap.size = w2.heap.size + 1 := by show (w2.heap.push _).size = _; simp
      rw [hsz] at hg3'
      have hg3 := Aside0.mk hg3'
      have hB3 := Aside0.mk ((HB2.out.alloc (Nat.le_of_lt HLT.out) (.cells #[.int .u8 3] 5)).alloc (by rw [hsz]; have := HLT.out; omega) (.cells #[.slice (some ⟨w2.heap.size, 0, none⟩) 1 1] 72))
      have hT3 := Aside0.mk (blk_lt hG3)
      have hy0 := YtanfmnobanhcnaaH.cellv hG3 0 (.int .i64 3) rfl
      have hy1 := YtanfmnobanhcnaaH.cellv hG3 1 (.slice A0_1 l0_1.length c0_1) rfl
      have hy2 := YtanfmnobanhcnaaH.cellv hG3 2 (.int .i64 a0_2) rfl
      have hy3 := YtanfmnobanhcnaaH.cellv hG3 3 (.int .i64 a0_3) rfl
      have hy4 := YtanfmnobanhcnaaH.cellv hG3 4 (.int .i64 a0_4) rfl
      have hy5 := YtanfmnobanhcnaaH.cellv hG3 5 (.slice A0_5 l0_5.length c0_5) rfl
      have hy6 := YtanfmnobanhcnaaH.cellv hG3 6 (.int .i64 a0_6) rfl
      have HG3 := Aside0.mk hG3
      clear hg3' hsz hG3
      go_wp2_with fail
      refine (record_writer_number.calls (w2.heap.size + 1) w.heap.size _ [3] a0_6 _ hg3.out hr3.out (blk_lt HG3.out) (by omega) (by omega) (by simp)).mono ?_
      rintro e w8 ⟨rfl, v8, hg8', hr8', hm8⟩
      obtain ⟨ts, hts⟩ : ∃ ts, ts = [3] ++ YtanfmnobanhcnaaH.Var.putI a0_6 := ⟨_, rfl⟩
      rw [← hts] at hr8'
      have HTL := Aside0.mk (show ts.length ≤ 1 + 10 by rw [hts, List.length_append]; have := YtanfmnobanhcnaaH.Var.putI_len10 a0_6 (by omega); have hx_ : ([3] : List Int).length ≤ 1 := (by simp); omega)
      have HTS := Aside0.mk hts
      clear hts
      have HB8 := Aside0.mk (hm8.under hB3.out (Nat.le_of_lt (blk_lt HG3.out)) (by have := HLT.out; omega) (fun k hk => Kd.R_base hr3.out k hk))
      have HG8 := Aside0.mk (hm8.blk HG3.out (by have := HLT.out; omega) (YtanfmnobanhcnaaH.R_ne hr3.out HG3.out (by decide)))
      have hr8 := Aside0.mk hr8'
      have hg8 := Aside0.mk hg8'
      obtain ⟨A8, c8, e8⟩ := Kd.R_slice hr8'
      subst e8
      have hq8 := YtanfmnobanhcnaaH.cellv hg8' 0 _ rfl
      have hv0 := YtanfmnobanhcnaaH.cellv HG8.out 0 (.int .i64 3) rfl
      have hv1 := YtanfmnobanhcnaaH.cellv HG8.out 1 (.slice A0_1 l0_1.length c0_1) rfl
      have hv2 := YtanfmnobanhcnaaH.cellv HG8.out 2 (.int .i64 a0_2) rfl
      have hv3 := YtanfmnobanhcnaaH.cellv HG8.out 3 (.int .i64 a0_3) rfl
      have hv4 := YtanfmnobanhcnaaH.cellv HG8.out 4 (.int .i64 a0_4) rfl
      have hv5 := YtanfmnobanhcnaaH.cellv HG8.out 5 (.slice A0_5 l0_5.length c0_5) rfl
      have hv6 := YtanfmnobanhcnaaH.cellv HG8.out 6 (.int .i64 a0_6) rfl
      clear hr8' hg8' hm8
      go_wp2_with fail
      refine (record_each.calls (w2.heap.size + 1) _ ts l0_5 A0_5 c0_5 w _ HR5.out HC5.out HB8.out (blk_lt HG8.out) (by have := HLT.out; omega) hg8.out hr8.out (fun x hx => by have := hids x hx; omega) (by have := HTL.out; omega)).mono ?_
      rintro e w9 ⟨rfl, v9, hg9, hr9, hB9⟩
      obtain ⟨us9, hus9⟩ : ∃ us9, us9 = ts ++ (YtanfmnobanhcnaaH.Var.putI l0_5.length ++ YtanfmnobanhcnaaH.putAllI l0_5) := ⟨_, rfl⟩
      rw [← hus9] at hr9
      have HL9 := Aside0.mk (show us9.length ≤ 2000 by rw [hus9, List.length_append, List.length_append]; have := HTL.out; have := YtanfmnobanhcnaaH.Var.putI_len10 (l0_5.length : Int) (by omega); have := YtanfmnobanhcnaaH.putAllI_len l0_5 (fun x hx => by have := hids x hx; omega); omega)
      have HU9 := Aside0.mk hus9
      have HB9 := Aside0.mk hB9
      have HR9 := Aside0.mk hr9
      obtain ⟨A9, c9, e9⟩ := Kd.R_slice hr9
      subst e9
      have hq9 := YtanfmnobanhcnaaH.cellv hg9 0 _ rfl
      clear hus9 hg9 hr9 hB9
      go_wp2_with fail
      have heq : us9 = YtanfmnobanhcnaaH.Rec.recB 3 l0_1 a0_2 a0_3 a0_4 l0_5 a0_6 := by
        unfold YtanfmnobanhcnaaH.Rec.recB
        rw [HU9.out, HTS.out, if_neg (show ¬ (3 : Int) = 1 by decide), if_neg (show ¬ (3 : Int) = 2 by decide)]
        simp only [List.append_assoc, List.append_nil, List.nil_append]
      have hfr : crc_Frame.f us9 = some (YtanfmnobanhcnaaH.Fr.frameI (YtanfmnobanhcnaaH.Rec.recB 3 l0_1 a0_2 a0_3 a0_4 l0_5 a0_6)) := by
        unfold crc_Frame.f
        rw [if_pos ⟨by rw [heq]; exact YtanfmnobanhcnaaH.Rec.isB_rec (by decide), by have := HL9.out; omega⟩, heq]
      refine (crc_Frame.calls _ A9 c9 us9 _ _ (Kd.R_V HR9.out) hfr).mono ?_
      rintro e w10 ⟨v10, rfl, hr10, hb10⟩
      have HR10 := Aside0.mk hr10
      have HB10 := Aside0.mk (below_step HB9.out hb10)
      have HS9 := Aside0.mk (HB9.out.size)
      clear hr10 hb10 heq hfr
      go_wp2
      go_ret2
      exact ⟨_, rfl, Kd.R_mono (Kd.R_lower HR10.out HS9.out) (fun _ _ => trivial), HB10.out⟩


/-! ### thresherlaw16_shown: function 15 -/
def thresherlaw16_shown.f  : Option (Bool) := (record_Put.f 2 ([] : List Int) 0 0 0 ([] : List Int) 7).bind fun bt162 => (if bt162.2 = true then (if (bt162.1.length : Int) = 7 then (if 0 < (bt162.1.length : Int) then (if (rd bt162.1 0) = 2 then (if 5 < (bt162.1.length : Int) then (if (rd bt162.1 5) = 2 then (if 6 < (bt162.1.length : Int) then (some ((rd bt162.1 6) == 7)) else (none)) else (some false)) else (none)) else (some false)) else (none)) else (some false)) else (some false))
set_option maxHeartbeats 8000000 in
set_option maxRecDepth 100000 in
theorem thresherlaw16_shown.calls  (r : Bool) (w : World) (h : thresherlaw16_shown.f  = some r) :
    Calls Try.prog 15 #[] w fun e w' => e = .returned (.bool r) ∧ Below w.heap.size w w' := by
  have hu30 := Try.underlying30
  have HB := Aside0.mk (Below.refl w.heap.size w)
  have H : ((record_Put.f 2 ([] : List Int) 0 0 0 ([] : List Int) 7).bind fun bt162 => (if bt162.2 = true then (if (bt162.1.length : Int) = 7 then (if 0 < (bt162.1.length : Int) then (if (rd bt162.1 0) = 2 then (if 5 < (bt162.1.length : Int) then (if (rd bt162.1 5) = 2 then (if 6 < (bt162.1.length : Int) then (some ((rd bt162.1 6) == 7)) else (none)) else (some false)) else (none)) else (some false)) else (none)) else (some false)) else (some false))) = some r := h
  clear h
  replace H := Option.bind_eq_some_iff.mp H
  obtain ⟨⟨t162, t165⟩, A10, H⟩ := H
  replace H : (if t165 = true then (if (t162.length : Int) = 7 then (if 0 < (t162.length : Int) then (if (rd t162 0) = 2 then (if 5 < (t162.length : Int) then (if (rd t162 5) = 2 then (if 6 < (t162.length : Int) then (some ((rd t162 6) == 7)) else (none)) else (some false)) else (none)) else (some false)) else (none)) else (some false)) else (some false)) = some r := H
  have A1 := Aside0.mk A10
  clear A10
  by_cases c2 : t165 = true
  · subst c2
    have H1 : (if (t162.length : Int) = 7 then (if 0 < (t162.length : Int) then (if (rd t162 0) = 2 then (if 5 < (t162.length : Int) then (if (rd t162 5) = 2 then (if 6 < (t162.length : Int) then (some ((rd t162 6) == 7)) else (none)) else (some false)) else (none)) else (some false)) else (none)) else (some false)) = some r := by rw [if_pos rfl] at H; exact H
    clear H
    have H := H1
    clear H1
    by_cases c3 : (t162.length : Int) = 7
    · rw [if_pos c3] at H
      have c3b0 : ((t162.length : Int) == 7) = true := beq_iff_eq.mpr c3
      have c3b1 : ((t162.length : Int) != 7) = false := bne_eq_false_iff_eq.mpr c3
      clear c3
      by_cases c4 : 0 < (t162.length : Int)
      · rw [if_pos c4] at H
        have c4b0 : decide (0 < (t162.length : Int)) = true := decide_eq_true c4
        have c4b1 : decide (0 < t162.length) = true := decide_eq_true (by omega)
        clear c4
        by_cases c5 : (rd t162 0) = 2
        · rw [if_pos c5] at H
          have c5b0 : ((rd t162 0) == 2) = true := beq_iff_eq.mpr c5
          have c5b1 : ((rd t162 0) != 2) = false := bne_eq_false_iff_eq.mpr c5
          clear c5
          by_cases c6 : 5 < (t162.length : Int)
          · rw [if_pos c6] at H
            have c6b0 : decide (5 < (t162.length : Int)) = true := decide_eq_true c6
            have c6b1 : decide (5 < t162.length) = true := decide_eq_true (by omega)
            clear c6
            by_cases c7 : (rd t162 5) = 2
            · rw [if_pos c7] at H
              have c7b0 : ((rd t162 5) == 2) = true := beq_iff_eq.mpr c7
              have c7b1 : ((rd t162 5) != 2) = false := bne_eq_false_iff_eq.mpr c7
              clear c7
              by_cases c8 : 6 < (t162.length : Int)
              · rw [if_pos c8] at H
                have c8b0 : decide (6 < (t162.length : Int)) = true := decide_eq_true c8
                have c8b1 : decide (6 < t162.length) = true := decide_eq_true (by omega)
                clear c8
                obtain rfl := Option.some.inj H
                go_enter Try.func15, Try.ntmps15
                go_wp2_with (first | ((with_reducible refine gate_callee (f := 16) rfl ?_); refine goesL_ (some 5) rfl rfl Try.func16 (by kernel_rfl) rfl #[.agg #[.int .i64 2, .slice none 0 0, .int .i64 0, .int .i64 0, .int .i64 0, .slice none 0 0, .int .i64 7]] rfl (by (try simp only [List.map_toArray, List.map_cons, List.map_nil]); first | done | rfl | (simp only [List.length_drop, List.length_take]; rfl)) ?_; (refine (record_Put.calls 2 _ _ ([] : List Int) 0 0 0 _ _ ([] : List Int) 7 t162 true _ ?side1 ?side2 ?side3 ?side4 A1.out).mono ?_); (case side1 => exact Kd.C_nil _ _); (case side2 => exact Nat.le_refl _); (case side3 => exact Kd.C_nil _ _); (case side4 => exact Nat.le_refl _); rintro e w9 ⟨v163, rfl, ho0, hb⟩; refine ⟨_, rfl, ?_⟩; have n0_ := Aside0.mk (Kd.R_lower ho0 (below_size (by repeat (first | (with_reducible first | exact HB.out | apply below_alloc | apply pw_below_drewN | apply below_drew1) | exact HB.out)))); have n1_ := Aside0.mk (below_step (by repeat (first | (with_reducible first | exact HB.out | apply below_alloc | apply pw_below_drewN | apply below_drew1) | exact HB.out)) hb); clear HB; have HO164 := n0_; have HB := n1_; clear n0_ n1_; (try clear hb); (try clear hb2); (try clear hk); (try clear hi); (try clear ho0); obtain ⟨Ao10, co10, eo10⟩ := Kd.R_slice HO164.out; subst eo10; have p166 : 0 ≤ (0 : Int) := (by omega); have q166 : 0 < (t162.length : Int) := of_decide_eq_true (by first | (with_reducible assumption) | assumption); obtain ⟨ad166, e166, hx166_0⟩ := Kd.at_int (Kd.R_reads' HO164.out).2.2 0 p166 q166; cases e166; have qi166 : (0 < t162.length) = True := eq_true (by omega); (try rw [show ((0 : Int)).toNat = 0 from rfl] at hx166_0); (try rw [Addr.add_zero'] at hx166_0); replace p166 := eq_true p166; replace q166 := eq_true q166; have p167 : 0 ≤ (5 : Int) := (by omega); have q167 : 5 < (t162.length : Int) := of_decide_eq_true (by first | (with_reducible assumption) | assumption); obtain ⟨ad167, e167, hx167_0⟩ := Kd.at_int (Kd.R_reads' HO164.out).2.2 5 p167 q167; obtain rfl : ad166 = ad167 := (by injection e167); (try simp only [show (5 : Int).toNat = 5 from rfl, Nat.reduceMul, Nat.reduceEqDiff, Go.Addr.add, ↓reduceIte] at hx167_0); have qi167 : (5 < t162.length) = True := eq_true (by omega); (try rw [show ((5 : Int)).toNat = 5 from rfl] at hx167_0); replace p167 := eq_true p167; replace q167 := eq_true q167; have p168 : 0 ≤ (6 : Int) := (by omega); have q168 : 6 < (t162.length : Int) := of_decide_eq_true (by first | (with_reducible assumption) | assumption); obtain ⟨ad168, e168, hx168_0⟩ := Kd.at_int (Kd.R_reads' HO164.out).2.2 6 p168 q168; obtain rfl : ad166 = ad168 := (by injection e168); (try simp only [show (6 : Int).toNat = 6 from rfl, Nat.reduceMul, Nat.reduceEqDiff, Go.Addr.add, ↓reduceIte] at hx168_0); have qi168 : (6 < t162.length) = True := eq_true (by omega); (try rw [show ((6 : Int)).toNat = 6 from rfl] at hx168_0); replace p168 := eq_true p168; replace q168 := eq_true q168))
                go_ret
                exact ⟨by first | rfl | (simp [errW_none, errW_some] <;> rfl) | (simp [*, errW_none, errW_some] <;> rfl), by repeat (first | (with_reducible first | exact HB.out | apply below_alloc | apply pw_below_drewN | apply below_drew1) | exact HB.out)⟩
              · rw [if_neg c8] at H
                exact absurd H (by simp)
            · rw [if_neg c7] at H
              have c7b0 : ((rd t162 5) == 2) = false := beq_eq_false_iff_ne.mpr c7
              have c7b1 : ((rd t162 5) != 2) = true := bne_iff_ne.mpr c7
              obtain rfl := Option.some.inj H
              go_enter Try.func15, Try.ntmps15
              go_wp2_with (first | ((with_reducible refine gate_callee (f := 16) rfl ?_); refine goesL_ (some 5) rfl rfl Try.func16 (by kernel_rfl) rfl #[.agg #[.int .i64 2, .slice none 0 0, .int .i64 0, .int .i64 0, .int .i64 0, .slice none 0 0, .int .i64 7]] rfl (by (try simp only [List.map_toArray, List.map_cons, List.map_nil]); first | done | rfl | (simp only [List.length_drop, List.length_take]; rfl)) ?_; (refine (record_Put.calls 2 _ _ ([] : List Int) 0 0 0 _ _ ([] : List Int) 7 t162 true _ ?side1 ?side2 ?side3 ?side4 A1.out).mono ?_); (case side1 => exact Kd.C_nil _ _); (case side2 => exact Nat.le_refl _); (case side3 => exact Kd.C_nil _ _); (case side4 => exact Nat.le_refl _); rintro e w11 ⟨v163, rfl, ho0, hb⟩; refine ⟨_, rfl, ?_⟩; have n0_ := Aside0.mk (Kd.R_lower ho0 (below_size (by repeat (first | (with_reducible first | exact HB.out | apply below_alloc | apply pw_below_drewN | apply below_drew1) | exact HB.out)))); have n1_ := Aside0.mk (below_step (by repeat (first | (with_reducible first | exact HB.out | apply below_alloc | apply pw_below_drewN | apply below_drew1) | exact HB.out)) hb); clear HB; have HO164 := n0_; have HB := n1_; clear n0_ n1_; (try clear hb); (try clear hb2); (try clear hk); (try clear hi); (try clear ho0); obtain ⟨Ao12, co12, eo12⟩ := Kd.R_slice HO164.out; subst eo12; have p166 : 0 ≤ (0 : Int) := (by omega); have q166 : 0 < (t162.length : Int) := of_decide_eq_true (by first | (with_reducible assumption) | assumption); obtain ⟨ad166, e166, hx166_0⟩ := Kd.at_int (Kd.R_reads' HO164.out).2.2 0 p166 q166; cases e166; have qi166 : (0 < t162.length) = True := eq_true (by omega); (try rw [show ((0 : Int)).toNat = 0 from rfl] at hx166_0); (try rw [Addr.add_zero'] at hx166_0); replace p166 := eq_true p166; replace q166 := eq_true q166; have p167 : 0 ≤ (5 : Int) := (by omega); have q167 : 5 < (t162.length : Int) := of_decide_eq_true (by first | (with_reducible assumption) | assumption); obtain ⟨ad167, e167, hx167_0⟩ := Kd.at_int (Kd.R_reads' HO164.out).2.2 5 p167 q167; obtain rfl : ad166 = ad167 := (by injection e167); (try simp only [show (5 : Int).toNat = 5 from rfl, Nat.reduceMul, Nat.reduceEqDiff, Go.Addr.add, ↓reduceIte] at hx167_0); have qi167 : (5 < t162.length) = True := eq_true (by omega); (try rw [show ((5 : Int)).toNat = 5 from rfl] at hx167_0); replace p167 := eq_true p167; replace q167 := eq_true q167))
              go_ret
              exact ⟨by first | rfl | (simp [errW_none, errW_some] <;> rfl) | (simp [*, errW_none, errW_some] <;> rfl), by repeat (first | (with_reducible first | exact HB.out | apply below_alloc | apply pw_below_drewN | apply below_drew1) | exact HB.out)⟩
          · rw [if_neg c6] at H
            exact absurd H (by simp)
        · rw [if_neg c5] at H
          have c5b0 : ((rd t162 0) == 2) = false := beq_eq_false_iff_ne.mpr c5
          have c5b1 : ((rd t162 0) != 2) = true := bne_iff_ne.mpr c5
          obtain rfl := Option.some.inj H
          go_enter Try.func15, Try.ntmps15
          go_wp2_with (first | ((with_reducible refine gate_callee (f := 16) rfl ?_); refine goesL_ (some 5) rfl rfl Try.func16 (by kernel_rfl) rfl #[.agg #[.int .i64 2, .slice none 0 0, .int .i64 0, .int .i64 0, .int .i64 0, .slice none 0 0, .int .i64 7]] rfl (by (try simp only [List.map_toArray, List.map_cons, List.map_nil]); first | done | rfl | (simp only [List.length_drop, List.length_take]; rfl)) ?_; (refine (record_Put.calls 2 _ _ ([] : List Int) 0 0 0 _ _ ([] : List Int) 7 t162 true _ ?side1 ?side2 ?side3 ?side4 A1.out).mono ?_); (case side1 => exact Kd.C_nil _ _); (case side2 => exact Nat.le_refl _); (case side3 => exact Kd.C_nil _ _); (case side4 => exact Nat.le_refl _); rintro e w13 ⟨v163, rfl, ho0, hb⟩; refine ⟨_, rfl, ?_⟩; have n0_ := Aside0.mk (Kd.R_lower ho0 (below_size (by repeat (first | (with_reducible first | exact HB.out | apply below_alloc | apply pw_below_drewN | apply below_drew1) | exact HB.out)))); have n1_ := Aside0.mk (below_step (by repeat (first | (with_reducible first | exact HB.out | apply below_alloc | apply pw_below_drewN | apply below_drew1) | exact HB.out)) hb); clear HB; have HO164 := n0_; have HB := n1_; clear n0_ n1_; (try clear hb); (try clear hb2); (try clear hk); (try clear hi); (try clear ho0); obtain ⟨Ao14, co14, eo14⟩ := Kd.R_slice HO164.out; subst eo14; have p166 : 0 ≤ (0 : Int) := (by omega); have q166 : 0 < (t162.length : Int) := of_decide_eq_true (by first | (with_reducible assumption) | assumption); obtain ⟨ad166, e166, hx166_0⟩ := Kd.at_int (Kd.R_reads' HO164.out).2.2 0 p166 q166; cases e166; have qi166 : (0 < t162.length) = True := eq_true (by omega); (try rw [show ((0 : Int)).toNat = 0 from rfl] at hx166_0); (try rw [Addr.add_zero'] at hx166_0); replace p166 := eq_true p166; replace q166 := eq_true q166))
          go_ret
          exact ⟨by first | rfl | (simp [errW_none, errW_some] <;> rfl) | (simp [*, errW_none, errW_some] <;> rfl), by repeat (first | (with_reducible first | exact HB.out | apply below_alloc | apply pw_below_drewN | apply below_drew1) | exact HB.out)⟩
      · rw [if_neg c4] at H
        exact absurd H (by simp)
    · rw [if_neg c3] at H
      have c3b0 : ((t162.length : Int) == 7) = false := beq_eq_false_iff_ne.mpr c3
      have c3b1 : ((t162.length : Int) != 7) = true := bne_iff_ne.mpr c3
      obtain rfl := Option.some.inj H
      go_enter Try.func15, Try.ntmps15
      go_wp2_with (first | ((with_reducible refine gate_callee (f := 16) rfl ?_); refine goesL_ (some 5) rfl rfl Try.func16 (by kernel_rfl) rfl #[.agg #[.int .i64 2, .slice none 0 0, .int .i64 0, .int .i64 0, .int .i64 0, .slice none 0 0, .int .i64 7]] rfl (by (try simp only [List.map_toArray, List.map_cons, List.map_nil]); first | done | rfl | (simp only [List.length_drop, List.length_take]; rfl)) ?_; (refine (record_Put.calls 2 _ _ ([] : List Int) 0 0 0 _ _ ([] : List Int) 7 t162 true _ ?side1 ?side2 ?side3 ?side4 A1.out).mono ?_); (case side1 => exact Kd.C_nil _ _); (case side2 => exact Nat.le_refl _); (case side3 => exact Kd.C_nil _ _); (case side4 => exact Nat.le_refl _); rintro e w15 ⟨v163, rfl, ho0, hb⟩; refine ⟨_, rfl, ?_⟩; have n0_ := Aside0.mk (Kd.R_lower ho0 (below_size (by repeat (first | (with_reducible first | exact HB.out | apply below_alloc | apply pw_below_drewN | apply below_drew1) | exact HB.out)))); have n1_ := Aside0.mk (below_step (by repeat (first | (with_reducible first | exact HB.out | apply below_alloc | apply pw_below_drewN | apply below_drew1) | exact HB.out)) hb); clear HB; have HO164 := n0_; have HB := n1_; clear n0_ n1_; (try clear hb); (try clear hb2); (try clear hk); (try clear hi); (try clear ho0); obtain ⟨Ao16, co16, eo16⟩ := Kd.R_slice HO164.out; subst eo16))
      go_ret
      exact ⟨by first | rfl | (simp [errW_none, errW_some] <;> rfl) | (simp [*, errW_none, errW_some] <;> rfl), by repeat (first | (with_reducible first | exact HB.out | apply below_alloc | apply pw_below_drewN | apply below_drew1) | exact HB.out)⟩
  · replace c2 := Bool.eq_false_iff.mpr c2
    subst c2
    have H1 : (some false) = some r := by rw [if_neg (show ¬ (false = true) by decide)] at H; exact H
    clear H
    have H := H1
    clear H1
    obtain rfl := Option.some.inj H
    go_enter Try.func15, Try.ntmps15
    go_wp2_with (first | ((with_reducible refine gate_callee (f := 16) rfl ?_); refine goesL_ (some 5) rfl rfl Try.func16 (by kernel_rfl) rfl #[.agg #[.int .i64 2, .slice none 0 0, .int .i64 0, .int .i64 0, .int .i64 0, .slice none 0 0, .int .i64 7]] rfl (by (try simp only [List.map_toArray, List.map_cons, List.map_nil]); first | done | rfl | (simp only [List.length_drop, List.length_take]; rfl)) ?_; (refine (record_Put.calls 2 _ _ ([] : List Int) 0 0 0 _ _ ([] : List Int) 7 t162 false _ ?side1 ?side2 ?side3 ?side4 A1.out).mono ?_); (case side1 => exact Kd.C_nil _ _); (case side2 => exact Nat.le_refl _); (case side3 => exact Kd.C_nil _ _); (case side4 => exact Nat.le_refl _); rintro e w17 ⟨v163, rfl, ho0, hb⟩; refine ⟨_, rfl, ?_⟩; have n0_ := Aside0.mk (Kd.R_lower ho0 (below_size (by repeat (first | (with_reducible first | exact HB.out | apply below_alloc | apply pw_below_drewN | apply below_drew1) | exact HB.out)))); have n1_ := Aside0.mk (below_step (by repeat (first | (with_reducible first | exact HB.out | apply below_alloc | apply pw_below_drewN | apply below_drew1) | exact HB.out)) hb); clear HB; have HO164 := n0_; have HB := n1_; clear n0_ n1_; (try clear hb); (try clear hb2); (try clear hk); (try clear hi); (try clear ho0)))
    go_ret
    exact ⟨by first | rfl | (simp [errW_none, errW_some] <;> rfl) | (simp [*, errW_none, errW_some] <;> rfl), by repeat (first | (with_reducible first | exact HB.out | apply below_alloc | apply pw_below_drewN | apply below_drew1) | exact HB.out)⟩

/-! ### bits_Len64: function 109 -/
def bits_Len64.f (a0 : Int) : Option Int := if 0 ≤ a0 ∧ a0 ≤ 18446744073709551615 then some (Lib.bitLen a0.toNat : Nat) else none
set_option maxHeartbeats 2000000 in
theorem bits_Len64.calls (a0 : Int) (r : Int) (w : World) (h : bits_Len64.f a0 = some r) :
    Calls Try.prog 109 #[.int .u64 a0] w fun e w' => e = .returned (.int .i64 r) ∧ Drawn0 w w' := by
  unfold bits_Len64.f at h
  split at h
  · rename_i hx
    obtain rfl := Option.some.inj h
    refine (YtanfmnobanhcnaaH.Len64_calls a0 w hx.1 hx.2).mono ?_
    rintro e w' ⟨rfl, rfl⟩
    exact ⟨rfl, Drawn0.refl _⟩
  · cases h

end Go.Proofs.Ytanfmnobanhcnaa.PRec3
