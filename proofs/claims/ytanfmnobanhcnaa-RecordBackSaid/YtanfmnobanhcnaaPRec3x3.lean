-- Written by hp.py (own driver over print.py) out of the translation, hand-made functions among it. Lean checks it.
import Derived.Test.YtanfmnobanhcnaaPRec3x0
import Derived.Test.YtanfmnobanhcnaaPRec3x1
import Derived.Test.YtanfmnobanhcnaaPRec3x2
namespace Go.Proofs.Ytanfmnobanhcnaa.PRec3
open Go.RowKit Go.Proofs.YtanfmnobanhcnaaW.PrintWords Go.Proofs.YtanfmnobanhcnaaW.PrintLast Go.Proofs.YtanfmnobanhcnaaW.PrintMore
attribute [local go_sem] max2_int min2_int max_two min_two max_three min_three max_four min_four   -- for this text's walks alone
set_option linter.unusedVariables false
set_option linter.unusedSimpArgs false

/-! ### record_may_p: function 33 -/
mutual
def record_may_p.j0 : Nat → Bool → Int → List Int → Int → Int → Int → List Int → Int → List Int → Int → Int → Int → Option (Bool)
  | 0, _, _, _, _, _, _, _, _, _, _, _, _ => none
  | k + 1, x5, x138000, x138001, x138002, x138003, x138004, x138005, x138006, x139000, x139001, x139002, x139003 => (record_may_1.f x138006).bind fun t139 => (if t139 = true then (record_may_p.j1 k x5 true x138000 x138001 x138002 x138003 x138004 x138005 x138006 x139000 x139001 x139002 x139003) else (if (x138005.length : Int) > 40 then (record_may_p.j1 k x5 true x138000 x138001 x138002 x138003 x138004 x138005 x138006 x139000 x139001 x139002 x139003) else ((slices_ContainsFunc_int_int.f x138005 69).bind fun t140 => (record_may_p.j1 k x5 t140 x138000 x138001 x138002 x138003 x138004 x138005 x138006 x139000 x139001 x139002 x139003))))
def record_may_p.j1 : Nat → Bool → Bool → Int → List Int → Int → Int → Int → List Int → Int → List Int → Int → Int → Int → Option (Bool)
  | 0, _, _, _, _, _, _, _, _, _, _, _, _, _ => none
  | k + 1, x5, x42, x138000, x138001, x138002, x138003, x138004, x138005, x138006, x139000, x139001, x139002, x139003 => if x42 = true then (some false) else (if x138000 = 1 then ((schema_Check.f x139000 x139001 x139002 x139003).bind fun t141 => (some (t141 == 0))) else (if x138000 = 2 then (if x5 = true then (some ((x138005.length : Int) == 0)) else (some false)) else (if x138000 = 3 then (if x5 = true then (some (decide ((x138005.length : Int) > 1))) else (some false)) else (some false))))
end
def record_may_p.f (k : Nat) (a0_0 : Int) (l0_1 : List Int) (a0_2 : Int) (a0_3 : Int) (a0_4 : Int) (l0_5 : List Int) (a0_6 : Int) : Option (Bool) := if (l0_1.length : Int) = 0 then (if a0_2 = 0 then (if a0_3 = 0 then (record_may_p.j0 k (a0_4 == 0) a0_0 l0_1 a0_2 a0_3 a0_4 l0_5 a0_6 l0_1 a0_2 a0_3 a0_4) else (record_may_p.j0 k false a0_0 l0_1 a0_2 a0_3 a0_4 l0_5 a0_6 l0_1 a0_2 a0_3 a0_4)) else (record_may_p.j0 k false a0_0 l0_1 a0_2 a0_3 a0_4 l0_5 a0_6 l0_1 a0_2 a0_3 a0_4)) else (record_may_p.j0 k false a0_0 l0_1 a0_2 a0_3 a0_4 l0_5 a0_6 l0_1 a0_2 a0_3 a0_4)
theorem record_may_p.mono_l : ∀ k, (∀ y0 y1 y2 y3 y4 y5 y6 y7 y8 y9 y10 y11, LeO (record_may_p.j0 k y0 y1 y2 y3 y4 y5 y6 y7 y8 y9 y10 y11) (record_may_p.j0 (k + 1) y0 y1 y2 y3 y4 y5 y6 y7 y8 y9 y10 y11)) ∧ (∀ y0 y1 y2 y3 y4 y5 y6 y7 y8 y9 y10 y11 y12, LeO (record_may_p.j1 k y0 y1 y2 y3 y4 y5 y6 y7 y8 y9 y10 y11 y12) (record_may_p.j1 (k + 1) y0 y1 y2 y3 y4 y5 y6 y7 y8 y9 y10 y11 y12))
  | 0 => ⟨fun _ _ _ _ _ _ _ _ _ _ _ _ r h => by simp [record_may_p.j0] at h, fun _ _ _ _ _ _ _ _ _ _ _ _ _ r h => by simp [record_may_p.j1] at h⟩
  | k + 1 => by
    obtain ⟨ih0, ih1⟩ := record_may_p.mono_l k
    refine ⟨?_, ?_⟩
    · intro y0 y1 y2 y3 y4 y5 y6 y7 y8 y9 y10 y11
      unfold record_may_p.j0
      repeat' first
      | (with_reducible exact ih0 _ _ _ _ _ _ _ _ _ _ _ _)
      | (with_reducible exact ih1 _ _ _ _ _ _ _ _ _ _ _ _ _)
      | (with_reducible exact LeO.refl _)
      | (with_reducible exact LeO.none _)
      | (with_reducible refine LeO.ite ?_ ?_)
      | (with_reducible refine LeO.bind ?_ (fun _ => ?_))
      | exact ih0 _ _ _ _ _ _ _ _ _ _ _ _
      | exact ih1 _ _ _ _ _ _ _ _ _ _ _ _ _
      | exact LeO.none _
      | refine LeO.ite ?_ ?_
      | refine LeO.bind ?_ (fun _ => ?_)
    · intro y0 y1 y2 y3 y4 y5 y6 y7 y8 y9 y10 y11 y12
      unfold record_may_p.j1
      repeat' first
      | (with_reducible exact ih0 _ _ _ _ _ _ _ _ _ _ _ _)
      | (with_reducible exact ih1 _ _ _ _ _ _ _ _ _ _ _ _ _)
      | (with_reducible exact LeO.refl _)
      | (with_reducible exact LeO.none _)
      | (with_reducible refine LeO.ite ?_ ?_)
      | (with_reducible refine LeO.bind ?_ (fun _ => ?_))
      | exact ih0 _ _ _ _ _ _ _ _ _ _ _ _
      | exact ih1 _ _ _ _ _ _ _ _ _ _ _ _ _
      | exact LeO.none _
      | refine LeO.ite ?_ ?_
      | refine LeO.bind ?_ (fun _ => ?_)
theorem record_may_p.mono : ∀ a0 a1 a2 a3 a4 a5 a6 k, LeO (record_may_p.f k a0 a1 a2 a3 a4 a5 a6) (record_may_p.f (k + 1) a0 a1 a2 a3 a4 a5 a6) := by
  intro a0 a1 a2 a3 a4 a5 a6 k
  obtain ⟨ih0, ih1⟩ := record_may_p.mono_l k
  unfold record_may_p.f
  repeat' first
      | (with_reducible exact ih0 _ _ _ _ _ _ _ _ _ _ _ _)
      | (with_reducible exact ih1 _ _ _ _ _ _ _ _ _ _ _ _ _)
      | (with_reducible exact LeO.refl _)
      | (with_reducible exact LeO.none _)
      | (with_reducible refine LeO.ite ?_ ?_)
      | (with_reducible refine LeO.bind ?_ (fun _ => ?_))
      | exact ih0 _ _ _ _ _ _ _ _ _ _ _ _
      | exact ih1 _ _ _ _ _ _ _ _ _ _ _ _ _
      | exact LeO.none _
      | refine LeO.ite ?_ ?_
      | refine LeO.bind ?_ (fun _ => ?_)
set_option maxHeartbeats 8000000 in
set_option maxRecDepth 100000 in
theorem record_may_p.calls (k : Nat) (a0_0 : Int) (A0_1 : Option Addr) (c0_1 : Nat) (l0_1 : List Int) (a0_2 : Int) (a0_3 : Int) (a0_4 : Int) (A0_5 : Option Addr) (c0_5 : Nat) (l0_5 : List Int) (a0_6 : Int) (r : Bool) (w : World) (hr0_1 : Kd.C (Kd.int .i64) w A0_1 l0_1.length l0_1) (hc0_1 : l0_1.length ≤ c0_1) (hr0_5 : Kd.C (Kd.int .i64) w A0_5 l0_5.length l0_5) (hc0_5 : l0_5.length ≤ c0_5) (h : record_may_p.f k a0_0 l0_1 a0_2 a0_3 a0_4 l0_5 a0_6 = some r) :
    Calls Try.prog 33 #[.agg #[.int .i64 a0_0, .slice A0_1 l0_1.length c0_1, .int .i64 a0_2, .int .i64 a0_3, .int .i64 a0_4, .slice A0_5 l0_5.length c0_5, .int .i64 a0_6]] w fun e w' => e = .returned (.bool r) ∧ Below w.heap.size w w' := by
  have hu30 := Try.underlying30
  have hu25 := Try.underlying25
  have HR0_1 := Aside0.mk hr0_1
  have HC0_1 := Aside0.mk hc0_1
  clear hr0_1 hc0_1
  have HR0_5 := Aside0.mk hr0_5
  have HC0_5 := Aside0.mk hc0_5
  clear hr0_5 hc0_5
  have HB := Aside0.mk (Below.refl w.heap.size w)
  have H : (if (l0_1.length : Int) = 0 then (if a0_2 = 0 then (if a0_3 = 0 then (record_may_p.j0 k (a0_4 == 0) a0_0 l0_1 a0_2 a0_3 a0_4 l0_5 a0_6 l0_1 a0_2 a0_3 a0_4) else (record_may_p.j0 k false a0_0 l0_1 a0_2 a0_3 a0_4 l0_5 a0_6 l0_1 a0_2 a0_3 a0_4)) else (record_may_p.j0 k false a0_0 l0_1 a0_2 a0_3 a0_4 l0_5 a0_6 l0_1 a0_2 a0_3 a0_4)) else (record_may_p.j0 k false a0_0 l0_1 a0_2 a0_3 a0_4 l0_5 a0_6 l0_1 a0_2 a0_3 a0_4)) = some r := h
  clear h
  have HC2 := Aside0.mk H
  clear H
  go_enter Try.func33, Try.ntmps33
  go_upto_region 3 with (first | ((with_reducible refine gate_dst (N := 1) rfl ?_); (try (refine gate_guard (by rfl) ?_; dsimp only)); refine box_event ?hg (N := 1) ?hd (cs := #[.int .i64 a0_0, .slice A0_1 l0_1.length c0_1, .int .i64 a0_2, .int .i64 a0_3, .int .i64 a0_4, .slice A0_5 l0_5.length c0_5, .int .i64 a0_6]) (t := 30) ?hr ?_; (case hd => rfl); (case hg => rfl); (case hr => first | (go_simp; done) | (go_simp; rfl)); intro gb137 hg w3 hbox hb; have n0_ := Aside0.mk (below_step (by repeat (first | (with_reducible first | exact HB.out | apply below_alloc | apply pw_below_drewN | apply below_drew1) | exact HB.out)) hb); have n1_ := Aside0.mk (hbox); have n2_ := Aside0.mk ((by rw [hg]; exact (below_size (by repeat (first | (with_reducible first | exact HB.out | apply below_alloc | apply pw_below_drewN | apply below_drew1) | exact HB.out))) : w.heap.size ≤ gb137)); have n3_ := Aside0.mk ((by rw [hg]; exact (below_size (by repeat (first | (with_reducible first | exact HB.out | apply below_alloc | apply pw_below_drewN | apply below_drew1) | exact HB.out))) : w.heap.size ≤ gb137)); clear HB; have HB := n0_; have BK137 := n1_; have GW137 := n2_; have GE137 := n3_; clear n0_ n1_ n2_ n3_; clear hb hbox hg; have hcz4_0 : w3.cell? ⟨gb137, 0, none⟩ = some (.int .i64 a0_0) := (blk_cell BK137.out 0).trans rfl; have hcz4_1 : w3.cell? ⟨gb137, 1, none⟩ = some (.slice A0_1 l0_1.length c0_1) := (blk_cell BK137.out 1).trans rfl; have hcz4_2 : w3.cell? ⟨gb137, 2, none⟩ = some (.int .i64 a0_2) := (blk_cell BK137.out 2).trans rfl; have hcz4_3 : w3.cell? ⟨gb137, 3, none⟩ = some (.int .i64 a0_3) := (blk_cell BK137.out 3).trans rfl; have hcz4_4 : w3.cell? ⟨gb137, 4, none⟩ = some (.int .i64 a0_4) := (blk_cell BK137.out 4).trans rfl; have hcz4_5 : w3.cell? ⟨gb137, 5, none⟩ = some (.slice A0_5 l0_5.length c0_5) := (blk_cell BK137.out 5).trans rfl; have hcz4_6 : w3.cell? ⟨gb137, 6, none⟩ = some (.int .i64 a0_6) := (blk_cell BK137.out 6).trans rfl; have hfz4_0 := blk_frozen BK137.out 0; have hfz4_1 := blk_frozen BK137.out 1; have hfz4_2 := blk_frozen BK137.out 2; have hfz4_3 := blk_frozen BK137.out 3; have hfz4_4 := blk_frozen BK137.out 4; have hfz4_5 := blk_frozen BK137.out 5; have hfz4_6 := blk_frozen BK137.out 6) | ((with_reducible refine gate_dst (N := 4) rfl ?_); (try (refine gate_guard (by rfl) ?_; dsimp only)); refine box_event ?hg (N := 4) ?hd (cs := #[.slice none 0 0, .int .i64 0, .int .i64 0, .int .i64 0]) (t := 25) ?hr ?_; (case hd => rfl); (case hg => rfl); (case hr => first | (go_simp; done) | (go_simp; rfl)); intro gb138 hg w5 hbox hb; have n0_ := Aside0.mk (blk_below (g := gb137) (o := .cells #[.int .i64 a0_0, .slice A0_1 l0_1.length c0_1, .int .i64 a0_2, .int .i64 a0_3, .int .i64 a0_4, .slice A0_5 l0_5.length c0_5, .int .i64 a0_6] 30 (0, 0)) (by (with_reducible repeat (first | refine blk_drewN ?_ _ | refine blk_drew ?_ | refine blk_alloc ?_ _)); exact BK137.out) hb); have n1_ := Aside0.mk (below_step (by repeat (first | (with_reducible first | exact HB.out | apply below_alloc | apply pw_below_drewN | apply below_drew1 | refine below_set ?_ GE137.out) | exact HB.out)) hb); have n2_ := Aside0.mk (hbox); have n3_ := Aside0.mk ((by rw [hg]; exact (below_size (by repeat (first | (with_reducible first | exact HB.out | apply below_alloc | apply pw_below_drewN | apply below_drew1 | refine below_set ?_ GE137.out) | exact HB.out))) : w.heap.size ≤ gb138)); have n4_ := Aside0.mk ((by rw [hg]; exact (below_size (by repeat (first | (with_reducible first | exact HB.out | apply below_alloc | apply pw_below_drewN | apply below_drew1 | refine below_set ?_ GE137.out) | exact HB.out))) : w.heap.size ≤ gb138)); have n5_ := Aside0.mk ((by rw [hg]; exact Nat.ne_of_lt (blk_lt (g := gb137) (o := .cells #[.int .i64 a0_0, .slice A0_1 l0_1.length c0_1, .int .i64 a0_2, .int .i64 a0_3, .int .i64 a0_4, .slice A0_5 l0_5.length c0_5, .int .i64 a0_6] 30 (0, 0)) (by (with_reducible repeat (first | refine blk_drewN ?_ _ | refine blk_drew ?_ | refine blk_alloc ?_ _)); exact BK137.out)) : gb137 ≠ gb138)); have n6_ := Aside0.mk ((by rw [hg]; exact Nat.ne_of_gt (blk_lt (g := gb137) (o := .cells #[.int .i64 a0_0, .slice A0_1 l0_1.length c0_1, .int .i64 a0_2, .int .i64 a0_3, .int .i64 a0_4, .slice A0_5 l0_5.length c0_5, .int .i64 a0_6] 30 (0, 0)) (by (with_reducible repeat (first | refine blk_drewN ?_ _ | refine blk_drew ?_ | refine blk_alloc ?_ _)); exact BK137.out)) : gb138 ≠ gb137)); clear BK137; clear HB; have BK137 := n0_; have HB := n1_; have BK138 := n2_; have GW138 := n3_; have GE138 := n4_; have NB137_138 := n5_; have NB138_137 := n6_; clear n0_ n1_ n2_ n3_ n4_ n5_ n6_; clear hb hbox hg; have hnb6 := NB138_137.out; have hnc6 := NB137_138.out; have hcz7_0 : w5.cell? ⟨gb138, 0, none⟩ = some (.slice none 0 0) := (blk_cell BK138.out 0).trans rfl; have hcz7_1 : w5.cell? ⟨gb138, 1, none⟩ = some (.int .i64 0) := (blk_cell BK138.out 1).trans rfl; have hcz7_2 : w5.cell? ⟨gb138, 2, none⟩ = some (.int .i64 0) := (blk_cell BK138.out 2).trans rfl; have hcz7_3 : w5.cell? ⟨gb138, 3, none⟩ = some (.int .i64 0) := (blk_cell BK138.out 3).trans rfl; have hfz7_0 := blk_frozen BK138.out 0; have hfz7_1 := blk_frozen BK138.out 1; have hfz7_2 := blk_frozen BK138.out 2; have hfz7_3 := blk_frozen BK138.out 3))
  (try simp only [Act.put, List.setIfInBounds_toArray, List.set_cons_zero, List.set_cons_succ])
  go_cut [5] (fun v5 wc => ∃ (kq : Nat) (x5_1 : Bool), v5 = .bool x5_1 ∧ Aside0 (record_may_p.j0 kq x5_1 a0_0 l0_1 a0_2 a0_3 a0_4 l0_5 a0_6 l0_1 a0_2 a0_3 a0_4 = some r) ∧ Aside0 (kq ≤ k) ∧ Aside0 (wc.heap[gb137]? = some (.cells #[.int .i64 a0_0, (.slice A0_1 l0_1.length c0_1), .int .i64 a0_2, .int .i64 a0_3, .int .i64 a0_4, (.slice A0_5 l0_5.length c0_5), .int .i64 a0_6] 30 (0, 0))) ∧ Aside0 (wc.heap[gb138]? = some (.cells #[(.slice A0_1 l0_1.length c0_1), .int .i64 a0_2, .int .i64 a0_3, .int .i64 a0_4] 25 (0, 0))) ∧ Aside0 (Below w.heap.size w wc))
  case first =>
    have H := HC2.out
    clear HC2
    by_cases c8 : (l0_1.length : Int) = 0
    · rw [if_pos c8] at H
      have c8b0 : ((l0_1.length : Int) == 0) = true := beq_iff_eq.mpr c8
      have c8b1 : ((l0_1.length : Int) != 0) = false := bne_eq_false_iff_eq.mpr c8
      clear c8
      (first | rw [c8b0] | (simp only [i64_w, i32_w]; rw [c8b0]) | skip)
      by_cases c9 : a0_2 = 0
      · rw [if_pos c9] at H
        have c9b0 : (a0_2 == 0) = true := beq_iff_eq.mpr c9
        have c9b1 : (a0_2 != 0) = false := bne_eq_false_iff_eq.mpr c9
        clear c9
        by_cases c10 : a0_3 = 0
        · rw [if_pos c10] at H
          have c10b0 : (a0_3 == 0) = true := beq_iff_eq.mpr c10
          have c10b1 : (a0_3 != 0) = false := bne_eq_false_iff_eq.mpr c10
          clear c10
          have H' := Aside0.mk H
          clear H
          have hnb11 := NB138_137.out
          have hnc11 := NB137_138.out
          have hcz12_0 : w5.cell? ⟨gb138, 0, none⟩ = some (.slice none 0 0) := (blk_cell BK138.out 0).trans rfl
          have hcz12_1 : w5.cell? ⟨gb138, 1, none⟩ = some (.int .i64 0) := (blk_cell BK138.out 1).trans rfl
          have hcz12_2 : w5.cell? ⟨gb138, 2, none⟩ = some (.int .i64 0) := (blk_cell BK138.out 2).trans rfl
          have hcz12_3 : w5.cell? ⟨gb138, 3, none⟩ = some (.int .i64 0) := (blk_cell BK138.out 3).trans rfl
          have hfz12_0 := blk_frozen BK138.out 0
          have hfz12_1 := blk_frozen BK138.out 1
          have hfz12_2 := blk_frozen BK138.out 2
          have hfz12_3 := blk_frozen BK138.out 3
          go_wp2
          go_meet
          case rel => exact ⟨_, ((a0_4 == 0)), (by first | rfl | (simp; done) | (simp [*]; done)), H', ⟨by first | omega | exact Nat.le_refl _⟩, ⟨by (with_reducible repeat (first | refine blk_drewN ?_ _ | refine blk_drew ?_ | refine blk_alloc ?_ _)); refine blk_far ?_ NB137_138.out _; (with_reducible repeat (first | refine blk_drewN ?_ _ | refine blk_drew ?_ | refine blk_alloc ?_ _)); refine blk_far ?_ NB137_138.out _; (with_reducible repeat (first | refine blk_drewN ?_ _ | refine blk_drew ?_ | refine blk_alloc ?_ _)); refine blk_far ?_ NB137_138.out _; (with_reducible repeat (first | refine blk_drewN ?_ _ | refine blk_drew ?_ | refine blk_alloc ?_ _)); refine blk_far ?_ NB137_138.out _; (with_reducible repeat (first | refine blk_drewN ?_ _ | refine blk_drew ?_ | refine blk_alloc ?_ _)); exact BK137.out⟩, ⟨by (with_reducible repeat (first | refine blk_drewN ?_ _ | refine blk_drew ?_ | refine blk_alloc ?_ _)); refine blk_put (cs := #[.slice A0_1 l0_1.length c0_1, .int .i64 a0_2, .int .i64 a0_3, .int .i64 0]) ?_ 3 _ rfl; (with_reducible repeat (first | refine blk_drewN ?_ _ | refine blk_drew ?_ | refine blk_alloc ?_ _)); refine blk_put (cs := #[.slice A0_1 l0_1.length c0_1, .int .i64 a0_2, .int .i64 0, .int .i64 0]) ?_ 2 _ rfl; (with_reducible repeat (first | refine blk_drewN ?_ _ | refine blk_drew ?_ | refine blk_alloc ?_ _)); refine blk_put (cs := #[.slice A0_1 l0_1.length c0_1, .int .i64 0, .int .i64 0, .int .i64 0]) ?_ 1 _ rfl; (with_reducible repeat (first | refine blk_drewN ?_ _ | refine blk_drew ?_ | refine blk_alloc ?_ _)); refine blk_put (cs := #[.slice none 0 0, .int .i64 0, .int .i64 0, .int .i64 0]) ?_ 0 _ rfl; (with_reducible repeat (first | refine blk_drewN ?_ _ | refine blk_drew ?_ | refine blk_alloc ?_ _)); exact BK138.out⟩, ⟨by repeat (first | (with_reducible first | exact HB.out | apply below_alloc | apply pw_below_drewN | apply below_drew1 | refine below_set ?_ GE137.out | refine below_set ?_ GE138.out) | exact HB.out)⟩⟩
        · rw [if_neg c10] at H
          have c10b0 : (a0_3 == 0) = false := beq_eq_false_iff_ne.mpr c10
          have c10b1 : (a0_3 != 0) = true := bne_iff_ne.mpr c10
          have H' := Aside0.mk H
          clear H
          have hnb13 := NB138_137.out
          have hnc13 := NB137_138.out
          have hcz14_0 : w5.cell? ⟨gb138, 0, none⟩ = some (.slice none 0 0) := (blk_cell BK138.out 0).trans rfl
          have hcz14_1 : w5.cell? ⟨gb138, 1, none⟩ = some (.int .i64 0) := (blk_cell BK138.out 1).trans rfl
          have hcz14_2 : w5.cell? ⟨gb138, 2, none⟩ = some (.int .i64 0) := (blk_cell BK138.out 2).trans rfl
          have hcz14_3 : w5.cell? ⟨gb138, 3, none⟩ = some (.int .i64 0) := (blk_cell BK138.out 3).trans rfl
          have hfz14_0 := blk_frozen BK138.out 0
          have hfz14_1 := blk_frozen BK138.out 1
          have hfz14_2 := blk_frozen BK138.out 2
          have hfz14_3 := blk_frozen BK138.out 3
          go_wp2
          go_meet
          case rel => exact ⟨_, (false), (by first | rfl | (simp; done) | (simp [*]; done)), H', ⟨by first | omega | exact Nat.le_refl _⟩, ⟨by (with_reducible repeat (first | refine blk_drewN ?_ _ | refine blk_drew ?_ | refine blk_alloc ?_ _)); refine blk_far ?_ NB137_138.out _; (with_reducible repeat (first | refine blk_drewN ?_ _ | refine blk_drew ?_ | refine blk_alloc ?_ _)); refine blk_far ?_ NB137_138.out _; (with_reducible repeat (first | refine blk_drewN ?_ _ | refine blk_drew ?_ | refine blk_alloc ?_ _)); refine blk_far ?_ NB137_138.out _; (with_reducible repeat (first | refine blk_drewN ?_ _ | refine blk_drew ?_ | refine blk_alloc ?_ _)); refine blk_far ?_ NB137_138.out _; (with_reducible repeat (first | refine blk_drewN ?_ _ | refine blk_drew ?_ | refine blk_alloc ?_ _)); exact BK137.out⟩, ⟨by (with_reducible repeat (first | refine blk_drewN ?_ _ | refine blk_drew ?_ | refine blk_alloc ?_ _)); refine blk_put (cs := #[.slice A0_1 l0_1.length c0_1, .int .i64 a0_2, .int .i64 a0_3, .int .i64 0]) ?_ 3 _ rfl; (with_reducible repeat (first | refine blk_drewN ?_ _ | refine blk_drew ?_ | refine blk_alloc ?_ _)); refine blk_put (cs := #[.slice A0_1 l0_1.length c0_1, .int .i64 a0_2, .int .i64 0, .int .i64 0]) ?_ 2 _ rfl; (with_reducible repeat (first | refine blk_drewN ?_ _ | refine blk_drew ?_ | refine blk_alloc ?_ _)); refine blk_put (cs := #[.slice A0_1 l0_1.length c0_1, .int .i64 0, .int .i64 0, .int .i64 0]) ?_ 1 _ rfl; (with_reducible repeat (first | refine blk_drewN ?_ _ | refine blk_drew ?_ | refine blk_alloc ?_ _)); refine blk_put (cs := #[.slice none 0 0, .int .i64 0, .int .i64 0, .int .i64 0]) ?_ 0 _ rfl; (with_reducible repeat (first | refine blk_drewN ?_ _ | refine blk_drew ?_ | refine blk_alloc ?_ _)); exact BK138.out⟩, ⟨by repeat (first | (with_reducible first | exact HB.out | apply below_alloc | apply pw_below_drewN | apply below_drew1 | refine below_set ?_ GE137.out | refine below_set ?_ GE138.out) | exact HB.out)⟩⟩
      · rw [if_neg c9] at H
        have c9b0 : (a0_2 == 0) = false := beq_eq_false_iff_ne.mpr c9
        have c9b1 : (a0_2 != 0) = true := bne_iff_ne.mpr c9
        have H' := Aside0.mk H
        clear H
        have hnb15 := NB138_137.out
        have hnc15 := NB137_138.out
        have hcz16_0 : w5.cell? ⟨gb138, 0, none⟩ = some (.slice none 0 0) := (blk_cell BK138.out 0).trans rfl
        have hcz16_1 : w5.cell? ⟨gb138, 1, none⟩ = some (.int .i64 0) := (blk_cell BK138.out 1).trans rfl
        have hcz16_2 : w5.cell? ⟨gb138, 2, none⟩ = some (.int .i64 0) := (blk_cell BK138.out 2).trans rfl
        have hcz16_3 : w5.cell? ⟨gb138, 3, none⟩ = some (.int .i64 0) := (blk_cell BK138.out 3).trans rfl
        have hfz16_0 := blk_frozen BK138.out 0
        have hfz16_1 := blk_frozen BK138.out 1
        have hfz16_2 := blk_frozen BK138.out 2
        have hfz16_3 := blk_frozen BK138.out 3
        go_wp2
        go_meet
        case rel => exact ⟨_, (false), (by first | rfl | (simp; done) | (simp [*]; done)), H', ⟨by first | omega | exact Nat.le_refl _⟩, ⟨by (with_reducible repeat (first | refine blk_drewN ?_ _ | refine blk_drew ?_ | refine blk_alloc ?_ _)); refine blk_far ?_ NB137_138.out _; (with_reducible repeat (first | refine blk_drewN ?_ _ | refine blk_drew ?_ | refine blk_alloc ?_ _)); refine blk_far ?_ NB137_138.out _; (with_reducible repeat (first | refine blk_drewN ?_ _ | refine blk_drew ?_ | refine blk_alloc ?_ _)); refine blk_far ?_ NB137_138.out _; (with_reducible repeat (first | refine blk_drewN ?_ _ | refine blk_drew ?_ | refine blk_alloc ?_ _)); refine blk_far ?_ NB137_138.out _; (with_reducible repeat (first | refine blk_drewN ?_ _ | refine blk_drew ?_ | refine blk_alloc ?_ _)); exact BK137.out⟩, ⟨by (with_reducible repeat (first | refine blk_drewN ?_ _ | refine blk_drew ?_ | refine blk_alloc ?_ _)); refine blk_put (cs := #[.slice A0_1 l0_1.length c0_1, .int .i64 a0_2, .int .i64 a0_3, .int .i64 0]) ?_ 3 _ rfl; (with_reducible repeat (first | refine blk_drewN ?_ _ | refine blk_drew ?_ | refine blk_alloc ?_ _)); refine blk_put (cs := #[.slice A0_1 l0_1.length c0_1, .int .i64 a0_2, .int .i64 0, .int .i64 0]) ?_ 2 _ rfl; (with_reducible repeat (first | refine blk_drewN ?_ _ | refine blk_drew ?_ | refine blk_alloc ?_ _)); refine blk_put (cs := #[.slice A0_1 l0_1.length c0_1, .int .i64 0, .int .i64 0, .int .i64 0]) ?_ 1 _ rfl; (with_reducible repeat (first | refine blk_drewN ?_ _ | refine blk_drew ?_ | refine blk_alloc ?_ _)); refine blk_put (cs := #[.slice none 0 0, .int .i64 0, .int .i64 0, .int .i64 0]) ?_ 0 _ rfl; (with_reducible repeat (first | refine blk_drewN ?_ _ | refine blk_drew ?_ | refine blk_alloc ?_ _)); exact BK138.out⟩, ⟨by repeat (first | (with_reducible first | exact HB.out | apply below_alloc | apply pw_below_drewN | apply below_drew1 | refine below_set ?_ GE137.out | refine below_set ?_ GE138.out) | exact HB.out)⟩⟩
    · rw [if_neg c8] at H
      have c8b0 : ((l0_1.length : Int) == 0) = false := beq_eq_false_iff_ne.mpr c8
      have c8b1 : ((l0_1.length : Int) != 0) = true := bne_iff_ne.mpr c8
      have c8b2 : ¬ (l0_1 = []) := fun h_ => c8 (by rw [h_]; rfl)
      (first | rw [c8b0] | (simp only [i64_w, i32_w]; rw [c8b0]) | skip)
      have H' := Aside0.mk H
      clear H
      have hnb17 := NB138_137.out
      have hnc17 := NB137_138.out
      have hcz18_0 : w5.cell? ⟨gb138, 0, none⟩ = some (.slice none 0 0) := (blk_cell BK138.out 0).trans rfl
      have hcz18_1 : w5.cell? ⟨gb138, 1, none⟩ = some (.int .i64 0) := (blk_cell BK138.out 1).trans rfl
      have hcz18_2 : w5.cell? ⟨gb138, 2, none⟩ = some (.int .i64 0) := (blk_cell BK138.out 2).trans rfl
      have hcz18_3 : w5.cell? ⟨gb138, 3, none⟩ = some (.int .i64 0) := (blk_cell BK138.out 3).trans rfl
      have hfz18_0 := blk_frozen BK138.out 0
      have hfz18_1 := blk_frozen BK138.out 1
      have hfz18_2 := blk_frozen BK138.out 2
      have hfz18_3 := blk_frozen BK138.out 3
      go_wp2
      go_meet
      case rel => exact ⟨_, (false), (by first | rfl | (simp; done) | (simp [*]; done)), H', ⟨by first | omega | exact Nat.le_refl _⟩, ⟨by (with_reducible repeat (first | refine blk_drewN ?_ _ | refine blk_drew ?_ | refine blk_alloc ?_ _)); refine blk_far ?_ NB137_138.out _; (with_reducible repeat (first | refine blk_drewN ?_ _ | refine blk_drew ?_ | refine blk_alloc ?_ _)); refine blk_far ?_ NB137_138.out _; (with_reducible repeat (first | refine blk_drewN ?_ _ | refine blk_drew ?_ | refine blk_alloc ?_ _)); refine blk_far ?_ NB137_138.out _; (with_reducible repeat (first | refine blk_drewN ?_ _ | refine blk_drew ?_ | refine blk_alloc ?_ _)); refine blk_far ?_ NB137_138.out _; (with_reducible repeat (first | refine blk_drewN ?_ _ | refine blk_drew ?_ | refine blk_alloc ?_ _)); exact BK137.out⟩, ⟨by (with_reducible repeat (first | refine blk_drewN ?_ _ | refine blk_drew ?_ | refine blk_alloc ?_ _)); refine blk_put (cs := #[.slice A0_1 l0_1.length c0_1, .int .i64 a0_2, .int .i64 a0_3, .int .i64 0]) ?_ 3 _ rfl; (with_reducible repeat (first | refine blk_drewN ?_ _ | refine blk_drew ?_ | refine blk_alloc ?_ _)); refine blk_put (cs := #[.slice A0_1 l0_1.length c0_1, .int .i64 a0_2, .int .i64 0, .int .i64 0]) ?_ 2 _ rfl; (with_reducible repeat (first | refine blk_drewN ?_ _ | refine blk_drew ?_ | refine blk_alloc ?_ _)); refine blk_put (cs := #[.slice A0_1 l0_1.length c0_1, .int .i64 0, .int .i64 0, .int .i64 0]) ?_ 1 _ rfl; (with_reducible repeat (first | refine blk_drewN ?_ _ | refine blk_drew ?_ | refine blk_alloc ?_ _)); refine blk_put (cs := #[.slice none 0 0, .int .i64 0, .int .i64 0, .int .i64 0]) ?_ 0 _ rfl; (with_reducible repeat (first | refine blk_drewN ?_ _ | refine blk_drew ?_ | refine blk_alloc ?_ _)); exact BK138.out⟩, ⟨by repeat (first | (with_reducible first | exact HB.out | apply below_alloc | apply pw_below_drewN | apply below_drew1 | refine below_set ?_ GE137.out | refine below_set ?_ GE138.out) | exact HB.out)⟩⟩
  case rest =>
    clear HC2
    try clear c1
    try clear p2
    try clear c3
    try clear c6
    try clear c8
    try clear c8b0
    try clear c8b1
    try clear c8b2
    try clear c9
    try clear c9b0
    try clear c9b1
    try clear c10
    try clear c10b0
    try clear c10b1
    try clear c11
    try clear c13
    try clear c15
    try clear c17
    try clear hcz12_0
    try clear hcz12_1
    try clear hcz12_2
    try clear hcz12_3
    try clear hcz14_0
    try clear hcz14_1
    try clear hcz14_2
    try clear hcz14_3
    try clear hcz16_0
    try clear hcz16_1
    try clear hcz16_2
    try clear hcz16_3
    try clear hcz18_0
    try clear hcz18_1
    try clear hcz18_2
    try clear hcz18_3
    try clear hcz4_0
    try clear hcz4_1
    try clear hcz4_2
    try clear hcz4_3
    try clear hcz4_4
    try clear hcz4_5
    try clear hcz4_6
    try clear hcz7_0
    try clear hcz7_1
    try clear hcz7_2
    try clear hcz7_3
    try clear hfz12_0
    try clear hfz12_1
    try clear hfz12_2
    try clear hfz12_3
    try clear hfz14_0
    try clear hfz14_1
    try clear hfz14_2
    try clear hfz14_3
    try clear hfz16_0
    try clear hfz16_1
    try clear hfz16_2
    try clear hfz16_3
    try clear hfz18_0
    try clear hfz18_1
    try clear hfz18_2
    try clear hfz18_3
    try clear hfz4_0
    try clear hfz4_1
    try clear hfz4_2
    try clear hfz4_3
    try clear hfz4_4
    try clear hfz4_5
    try clear hfz4_6
    try clear hfz7_0
    try clear hfz7_1
    try clear hfz7_2
    try clear hfz7_3
    obtain ⟨kq, x5_1, rfl, HA, HJ1, BK137, BK138, HB⟩ := hcut
    cases kq with
    | zero => exact absurd HA.out (by simp [record_may_p.j0])
    | succ kj1 =>
      have H := HA.out
      clear HA
      simp only [record_may_p.j0] at H
      have HC19 := Aside0.mk H
      clear H
      go_upto_region 4 with (fail)
      go_cut [42] (fun v42 wc => ∃ (kq : Nat) (x42_18 : Bool), v42 = .bool x42_18 ∧ Aside0 (record_may_p.j1 kq x5_1 x42_18 a0_0 l0_1 a0_2 a0_3 a0_4 l0_5 a0_6 l0_1 a0_2 a0_3 a0_4 = some r) ∧ Aside0 (kq ≤ kj1) ∧ Aside0 (wc.heap[gb137]? = some (.cells #[.int .i64 a0_0, (.slice A0_1 l0_1.length c0_1), .int .i64 a0_2, .int .i64 a0_3, .int .i64 a0_4, (.slice A0_5 l0_5.length c0_5), .int .i64 a0_6] 30 (0, 0))) ∧ Aside0 (wc.heap[gb138]? = some (.cells #[(.slice A0_1 l0_1.length c0_1), .int .i64 a0_2, .int .i64 a0_3, .int .i64 a0_4] 25 (0, 0))) ∧ Aside0 (Below w.heap.size w wc))
      case first =>
        have H := HC19.out
        clear HC19
        replace H := Option.bind_eq_some_iff.mp H
        obtain ⟨t139, A200, H⟩ := H
        replace H : (if t139 = true then (record_may_p.j1 kj1 x5_1 true a0_0 l0_1 a0_2 a0_3 a0_4 l0_5 a0_6 l0_1 a0_2 a0_3 a0_4) else (if (l0_5.length : Int) > 40 then (record_may_p.j1 kj1 x5_1 true a0_0 l0_1 a0_2 a0_3 a0_4 l0_5 a0_6 l0_1 a0_2 a0_3 a0_4) else ((slices_ContainsFunc_int_int.f l0_5 69).bind fun t140 => (record_may_p.j1 kj1 x5_1 t140 a0_0 l0_1 a0_2 a0_3 a0_4 l0_5 a0_6 l0_1 a0_2 a0_3 a0_4)))) = some r := H
        have A20 := Aside0.mk A200
        clear A200
        by_cases c21 : t139 = true
        · subst c21
          have H1 : (record_may_p.j1 kj1 x5_1 true a0_0 l0_1 a0_2 a0_3 a0_4 l0_5 a0_6 l0_1 a0_2 a0_3 a0_4) = some r := by rw [if_pos rfl] at H; exact H
          clear H
          have H := H1
          clear H1
          have H' := Aside0.mk H
          clear H
          have hnb22 := NB137_138.out
          have hnc22 := NB138_137.out
          have hcz23_0 : wc.cell? ⟨gb137, 0, none⟩ = some (.int .i64 a0_0) := (blk_cell BK137.out 0).trans rfl
          have hcz23_1 : wc.cell? ⟨gb137, 1, none⟩ = some (.slice A0_1 l0_1.length c0_1) := (blk_cell BK137.out 1).trans rfl
          have hcz23_2 : wc.cell? ⟨gb137, 2, none⟩ = some (.int .i64 a0_2) := (blk_cell BK137.out 2).trans rfl
          have hcz23_3 : wc.cell? ⟨gb137, 3, none⟩ = some (.int .i64 a0_3) := (blk_cell BK137.out 3).trans rfl
          have hcz23_4 : wc.cell? ⟨gb137, 4, none⟩ = some (.int .i64 a0_4) := (blk_cell BK137.out 4).trans rfl
          have hcz23_5 : wc.cell? ⟨gb137, 5, none⟩ = some (.slice A0_5 l0_5.length c0_5) := (blk_cell BK137.out 5).trans rfl
          have hcz23_6 : wc.cell? ⟨gb137, 6, none⟩ = some (.int .i64 a0_6) := (blk_cell BK137.out 6).trans rfl
          have hfz23_0 := blk_frozen BK137.out 0
          have hfz23_1 := blk_frozen BK137.out 1
          have hfz23_2 := blk_frozen BK137.out 2
          have hfz23_3 := blk_frozen BK137.out 3
          have hfz23_4 := blk_frozen BK137.out 4
          have hfz23_5 := blk_frozen BK137.out 5
          have hfz23_6 := blk_frozen BK137.out 6
          go_wp2_with (first | ((with_reducible refine YtanfmnobanhcnaaH.gate_calleeT (t := 27) rfl ?_); refine YtanfmnobanhcnaaH.goesLT_ 27 (some 30) rfl rfl Try.func69 (by kernel_rfl) rfl #[.int .i64 a0_6] rfl rfl (by (try simp only [List.map_toArray, List.map_cons, List.map_nil]); first | done | rfl | (simp only [List.length_drop, List.length_take]; rfl)) ?_; (with_reducible refine (record_may_1.calls a0_6 true _ A20.out).mono ?_); rintro e w' ⟨rfl, ⟨nd, rfl⟩⟩; refine ⟨_, rfl, ?_⟩))
          go_meet
          case rel => exact ⟨_, (true), (by first | rfl | (simp; done) | (simp [*]; done)), H', ⟨by have := HJ1.out; first | omega | exact Nat.le_refl _⟩, ⟨by (with_reducible repeat (first | refine blk_drewN ?_ _ | refine blk_drew ?_ | refine blk_alloc ?_ _)); exact BK137.out⟩, ⟨by (with_reducible repeat (first | refine blk_drewN ?_ _ | refine blk_drew ?_ | refine blk_alloc ?_ _)); exact BK138.out⟩, ⟨by repeat (first | (with_reducible first | exact HB.out | apply below_alloc | apply pw_below_drewN | apply below_drew1 | refine below_set ?_ GE137.out | refine below_set ?_ GE138.out) | exact HB.out)⟩⟩
        · replace c21 := Bool.eq_false_iff.mpr c21
          subst c21
          have H1 : (if (l0_5.length : Int) > 40 then (record_may_p.j1 kj1 x5_1 true a0_0 l0_1 a0_2 a0_3 a0_4 l0_5 a0_6 l0_1 a0_2 a0_3 a0_4) else ((slices_ContainsFunc_int_int.f l0_5 69).bind fun t140 => (record_may_p.j1 kj1 x5_1 t140 a0_0 l0_1 a0_2 a0_3 a0_4 l0_5 a0_6 l0_1 a0_2 a0_3 a0_4))) = some r := by rw [if_neg (show ¬ (false = true) by decide)] at H; exact H
          clear H
          have H := H1
          clear H1
          by_cases c24 : (l0_5.length : Int) > 40
          · rw [if_pos c24] at H
            have c24b0 : decide (40 < (l0_5.length : Int)) = true := decide_eq_true c24
            have c24b1 : decide (40 < l0_5.length) = true := decide_eq_true (by omega)
            clear c24
            (first | rw [c24b0] | (simp only [i64_w, i32_w]; rw [c24b0]) | skip)
            have H' := Aside0.mk H
            clear H
            have hnb25 := NB137_138.out
            have hnc25 := NB138_137.out
            have hcz26_0 : wc.cell? ⟨gb137, 0, none⟩ = some (.int .i64 a0_0) := (blk_cell BK137.out 0).trans rfl
            have hcz26_1 : wc.cell? ⟨gb137, 1, none⟩ = some (.slice A0_1 l0_1.length c0_1) := (blk_cell BK137.out 1).trans rfl
            have hcz26_2 : wc.cell? ⟨gb137, 2, none⟩ = some (.int .i64 a0_2) := (blk_cell BK137.out 2).trans rfl
            have hcz26_3 : wc.cell? ⟨gb137, 3, none⟩ = some (.int .i64 a0_3) := (blk_cell BK137.out 3).trans rfl
            have hcz26_4 : wc.cell? ⟨gb137, 4, none⟩ = some (.int .i64 a0_4) := (blk_cell BK137.out 4).trans rfl
            have hcz26_5 : wc.cell? ⟨gb137, 5, none⟩ = some (.slice A0_5 l0_5.length c0_5) := (blk_cell BK137.out 5).trans rfl
            have hcz26_6 : wc.cell? ⟨gb137, 6, none⟩ = some (.int .i64 a0_6) := (blk_cell BK137.out 6).trans rfl
            have hfz26_0 := blk_frozen BK137.out 0
            have hfz26_1 := blk_frozen BK137.out 1
            have hfz26_2 := blk_frozen BK137.out 2
            have hfz26_3 := blk_frozen BK137.out 3
            have hfz26_4 := blk_frozen BK137.out 4
            have hfz26_5 := blk_frozen BK137.out 5
            have hfz26_6 := blk_frozen BK137.out 6
            go_wp2_with (first | ((with_reducible refine YtanfmnobanhcnaaH.gate_calleeT (t := 27) rfl ?_); refine YtanfmnobanhcnaaH.goesLT_ 27 (some 30) rfl rfl Try.func69 (by kernel_rfl) rfl #[.int .i64 a0_6] rfl rfl (by (try simp only [List.map_toArray, List.map_cons, List.map_nil]); first | done | rfl | (simp only [List.length_drop, List.length_take]; rfl)) ?_; (with_reducible refine (record_may_1.calls a0_6 false _ A20.out).mono ?_); rintro e w' ⟨rfl, ⟨nd, rfl⟩⟩; refine ⟨_, rfl, ?_⟩))
            go_meet
            case rel => exact ⟨_, (true), (by first | rfl | (simp; done) | (simp [*]; done)), H', ⟨by have := HJ1.out; first | omega | exact Nat.le_refl _⟩, ⟨by (with_reducible repeat (first | refine blk_drewN ?_ _ | refine blk_drew ?_ | refine blk_alloc ?_ _)); exact BK137.out⟩, ⟨by (with_reducible repeat (first | refine blk_drewN ?_ _ | refine blk_drew ?_ | refine blk_alloc ?_ _)); exact BK138.out⟩, ⟨by repeat (first | (with_reducible first | exact HB.out | apply below_alloc | apply pw_below_drewN | apply below_drew1 | refine below_set ?_ GE137.out | refine below_set ?_ GE138.out) | exact HB.out)⟩⟩
          · rw [if_neg c24] at H
            have c24b0 : decide (40 < (l0_5.length : Int)) = false := decide_eq_false c24
            have c24b1 : decide (40 < l0_5.length) = false := decide_eq_false (by omega)
            clear c24
            (first | rw [c24b0] | (simp only [i64_w, i32_w]; rw [c24b0]) | skip)
            replace H := Option.bind_eq_some_iff.mp H
            obtain ⟨t140, A270, H⟩ := H
            replace H : (record_may_p.j1 kj1 x5_1 t140 a0_0 l0_1 a0_2 a0_3 a0_4 l0_5 a0_6 l0_1 a0_2 a0_3 a0_4) = some r := H
            have A27 := Aside0.mk A270
            clear A270
            have H' := Aside0.mk H
            clear H
            have hnb28 := NB137_138.out
            have hnc28 := NB138_137.out
            have hcz29_0 : wc.cell? ⟨gb137, 0, none⟩ = some (.int .i64 a0_0) := (blk_cell BK137.out 0).trans rfl
            have hcz29_1 : wc.cell? ⟨gb137, 1, none⟩ = some (.slice A0_1 l0_1.length c0_1) := (blk_cell BK137.out 1).trans rfl
            have hcz29_2 : wc.cell? ⟨gb137, 2, none⟩ = some (.int .i64 a0_2) := (blk_cell BK137.out 2).trans rfl
            have hcz29_3 : wc.cell? ⟨gb137, 3, none⟩ = some (.int .i64 a0_3) := (blk_cell BK137.out 3).trans rfl
            have hcz29_4 : wc.cell? ⟨gb137, 4, none⟩ = some (.int .i64 a0_4) := (blk_cell BK137.out 4).trans rfl
            have hcz29_5 : wc.cell? ⟨gb137, 5, none⟩ = some (.slice A0_5 l0_5.length c0_5) := (blk_cell BK137.out 5).trans rfl
            have hcz29_6 : wc.cell? ⟨gb137, 6, none⟩ = some (.int .i64 a0_6) := (blk_cell BK137.out 6).trans rfl
            have hfz29_0 := blk_frozen BK137.out 0
            have hfz29_1 := blk_frozen BK137.out 1
            have hfz29_2 := blk_frozen BK137.out 2
            have hfz29_3 := blk_frozen BK137.out 3
            have hfz29_4 := blk_frozen BK137.out 4
            have hfz29_5 := blk_frozen BK137.out 5
            have hfz29_6 := blk_frozen BK137.out 6
            go_wp2_with (first | ((with_reducible refine YtanfmnobanhcnaaH.gate_calleeT (t := 27) rfl ?_); refine YtanfmnobanhcnaaH.goesLT_ 27 (some 30) rfl rfl Try.func69 (by kernel_rfl) rfl #[.int .i64 a0_6] rfl rfl (by (try simp only [List.map_toArray, List.map_cons, List.map_nil]); first | done | rfl | (simp only [List.length_drop, List.length_take]; rfl)) ?_; (with_reducible refine (record_may_1.calls a0_6 false _ A20.out).mono ?_); rintro e w' ⟨rfl, ⟨nd, rfl⟩⟩; refine ⟨_, rfl, ?_⟩) | (go_at_call 70; (with_reducible refine (slices_ContainsFunc_int_int.calls _ _ l0_5 69 t140 _ ?side1 ?side2 A27.out).mono ?_); (case side1 => repeat (first | exact (Kd.C_below HR0_5.out (by repeat (first | (with_reducible first | exact HB.out | apply below_alloc | apply pw_below_drewN | apply below_drew1 | refine below_set ?_ GE137.out | refine below_set ?_ GE138.out) | exact HB.out))) | (with_reducible refine Kd.C_alloc ?_ _) | (with_reducible refine Kd.C_drewN ?_ _) | (with_reducible refine Kd.C_drew ?_))); (case side2 => exact HC0_5.out); rintro e w' ⟨rfl, ⟨nd, rfl⟩⟩))
            go_meet
            case rel => exact ⟨_, (t140), (by first | rfl | (simp; done) | (simp [*]; done)), H', ⟨by have := HJ1.out; first | omega | exact Nat.le_refl _⟩, ⟨by (with_reducible repeat (first | refine blk_drewN ?_ _ | refine blk_drew ?_ | refine blk_alloc ?_ _)); exact BK137.out⟩, ⟨by (with_reducible repeat (first | refine blk_drewN ?_ _ | refine blk_drew ?_ | refine blk_alloc ?_ _)); exact BK138.out⟩, ⟨by repeat (first | (with_reducible first | exact HB.out | apply below_alloc | apply pw_below_drewN | apply below_drew1 | refine below_set ?_ GE137.out | refine below_set ?_ GE138.out) | exact HB.out)⟩⟩
      case rest =>
        clear HC19
        try clear c1
        try clear c2
        try clear p2
        try clear c3
        try clear c6
        try clear c8
        try clear c8b0
        try clear c8b1
        try clear c8b2
        try clear c9
        try clear c9b0
        try clear c9b1
        try clear c10
        try clear c10b0
        try clear c10b1
        try clear c11
        try clear c13
        try clear c15
        try clear c17
        try clear c21
        try clear c22
        try clear c24
        try clear c24b0
        try clear c24b1
        try clear c25
        try clear c28
        try clear hcz12_0
        try clear hcz12_1
        try clear hcz12_2
        try clear hcz12_3
        try clear hcz14_0
        try clear hcz14_1
        try clear hcz14_2
        try clear hcz14_3
        try clear hcz16_0
        try clear hcz16_1
        try clear hcz16_2
        try clear hcz16_3
        try clear hcz18_0
        try clear hcz18_1
        try clear hcz18_2
        try clear hcz18_3
        try clear hcz23_0
        try clear hcz23_1
        try clear hcz23_2
        try clear hcz23_3
        try clear hcz23_4
        try clear hcz23_5
        try clear hcz23_6
        try clear hcz26_0
        try clear hcz26_1
        try clear hcz26_2
        try clear hcz26_3
        try clear hcz26_4
        try clear hcz26_5
        try clear hcz26_6
        try clear hcz29_0
        try clear hcz29_1
        try clear hcz29_2
        try clear hcz29_3
        try clear hcz29_4
        try clear hcz29_5
        try clear hcz29_6
        try clear hcz4_0
        try clear hcz4_1
        try clear hcz4_2
        try clear hcz4_3
        try clear hcz4_4
        try clear hcz4_5
        try clear hcz4_6
        try clear hcz7_0
        try clear hcz7_1
        try clear hcz7_2
        try clear hcz7_3
        try clear hfz12_0
        try clear hfz12_1
        try clear hfz12_2
        try clear hfz12_3
        try clear hfz14_0
        try clear hfz14_1
        try clear hfz14_2
        try clear hfz14_3
        try clear hfz16_0
        try clear hfz16_1
        try clear hfz16_2
        try clear hfz16_3
        try clear hfz18_0
        try clear hfz18_1
        try clear hfz18_2
        try clear hfz18_3
        try clear hfz23_0
        try clear hfz23_1
        try clear hfz23_2
        try clear hfz23_3
        try clear hfz23_4
        try clear hfz23_5
        try clear hfz23_6
        try clear hfz26_0
        try clear hfz26_1
        try clear hfz26_2
        try clear hfz26_3
        try clear hfz26_4
        try clear hfz26_5
        try clear hfz26_6
        try clear hfz29_0
        try clear hfz29_1
        try clear hfz29_2
        try clear hfz29_3
        try clear hfz29_4
        try clear hfz29_5
        try clear hfz29_6
        try clear hfz4_0
        try clear hfz4_1
        try clear hfz4_2
        try clear hfz4_3
        try clear hfz4_4
        try clear hfz4_5
        try clear hfz4_6
        try clear hfz7_0
        try clear hfz7_1
        try clear hfz7_2
        try clear hfz7_3
        try clear p2
        obtain ⟨kq, x42_18, rfl, HA, HJ18, BK137, BK138, HB⟩ := hcut
        cases kq with
        | zero => exact absurd HA.out (by simp [record_may_p.j1])
        | succ kj18 =>
          have H := HA.out
          clear HA
          simp only [record_may_p.j1] at H
          by_cases c30 : x42_18 = true
          · subst c30
            have H1 : (some false) = some r := by rw [if_pos rfl] at H; exact H
            clear H
            have H := H1
            clear H1
            obtain rfl := Option.some.inj H
            go_wp2
            go_ret
            exact ⟨by first | rfl | (simp [errW_none, errW_some] <;> rfl) | (simp [*, errW_none, errW_some] <;> rfl), by repeat (first | (with_reducible first | exact HB.out | apply below_alloc | apply pw_below_drewN | apply below_drew1 | refine below_set ?_ GE137.out | refine below_set ?_ GE138.out) | exact HB.out)⟩
          · replace c30 := Bool.eq_false_iff.mpr c30
            subst c30
            have H1 : (if a0_0 = 1 then ((schema_Check.f l0_1 a0_2 a0_3 a0_4).bind fun t141 => (some (t141 == 0))) else (if a0_0 = 2 then (if x5_1 = true then (some ((l0_5.length : Int) == 0)) else (some false)) else (if a0_0 = 3 then (if x5_1 = true then (some (decide ((l0_5.length : Int) > 1))) else (some false)) else (some false)))) = some r := by rw [if_neg (show ¬ (false = true) by decide)] at H; exact H
            clear H
            have H := H1
            clear H1
            by_cases c31 : a0_0 = 1
            · rw [if_pos c31] at H
              have c31b0 : (a0_0 == 1) = true := beq_iff_eq.mpr c31
              have c31b1 : (a0_0 != 1) = false := bne_eq_false_iff_eq.mpr c31
              clear c31
              replace H := Option.bind_eq_some_iff.mp H
              obtain ⟨t141, A320, H⟩ := H
              replace H : (some (t141 == 0)) = some r := H
              have A32 := Aside0.mk A320
              clear A320
              obtain rfl := Option.some.inj H
              have hnb33 := NB137_138.out
              have hnc33 := NB138_137.out
              have hcz34_0 : wc.cell? ⟨gb137, 0, none⟩ = some (.int .i64 a0_0) := (blk_cell BK137.out 0).trans rfl
              have hcz34_1 : wc.cell? ⟨gb137, 1, none⟩ = some (.slice A0_1 l0_1.length c0_1) := (blk_cell BK137.out 1).trans rfl
              have hcz34_2 : wc.cell? ⟨gb137, 2, none⟩ = some (.int .i64 a0_2) := (blk_cell BK137.out 2).trans rfl
              have hcz34_3 : wc.cell? ⟨gb137, 3, none⟩ = some (.int .i64 a0_3) := (blk_cell BK137.out 3).trans rfl
              have hcz34_4 : wc.cell? ⟨gb137, 4, none⟩ = some (.int .i64 a0_4) := (blk_cell BK137.out 4).trans rfl
              have hcz34_5 : wc.cell? ⟨gb137, 5, none⟩ = some (.slice A0_5 l0_5.length c0_5) := (blk_cell BK137.out 5).trans rfl
              have hcz34_6 : wc.cell? ⟨gb137, 6, none⟩ = some (.int .i64 a0_6) := (blk_cell BK137.out 6).trans rfl
              have hfz34_0 := blk_frozen BK137.out 0
              have hfz34_1 := blk_frozen BK137.out 1
              have hfz34_2 := blk_frozen BK137.out 2
              have hfz34_3 := blk_frozen BK137.out 3
              have hfz34_4 := blk_frozen BK137.out 4
              have hfz34_5 := blk_frozen BK137.out 5
              have hfz34_6 := blk_frozen BK137.out 6
              have hcz35_0 : wc.cell? ⟨gb138, 0, none⟩ = some (.slice A0_1 l0_1.length c0_1) := (blk_cell BK138.out 0).trans rfl
              have hcz35_1 : wc.cell? ⟨gb138, 1, none⟩ = some (.int .i64 a0_2) := (blk_cell BK138.out 1).trans rfl
              have hcz35_2 : wc.cell? ⟨gb138, 2, none⟩ = some (.int .i64 a0_3) := (blk_cell BK138.out 2).trans rfl
              have hcz35_3 : wc.cell? ⟨gb138, 3, none⟩ = some (.int .i64 a0_4) := (blk_cell BK138.out 3).trans rfl
              have hfz35_0 := blk_frozen BK138.out 0
              have hfz35_1 := blk_frozen BK138.out 1
              have hfz35_2 := blk_frozen BK138.out 2
              have hfz35_3 := blk_frozen BK138.out 3
              go_wp2_with (first | ((with_reducible refine gate_callee (f := 71) rfl ?_); refine goesL_ (some 48) rfl rfl Try.func71 (by kernel_rfl) rfl #[.agg #[.slice A0_1 l0_1.length c0_1, .int .i64 a0_2, .int .i64 a0_3, .int .i64 a0_4]] rfl (by (try simp only [List.map_toArray, List.map_cons, List.map_nil]); first | done | rfl | (simp only [List.length_drop, List.length_take]; rfl)) ?_; (with_reducible refine (schema_Check.calls _ _ l0_1 a0_2 a0_3 a0_4 t141 _ ?side1 ?side2 A32.out).mono ?_); (case side1 => repeat (first | exact (Kd.C_below HR0_1.out HB.out) | (with_reducible refine Kd.C_alloc ?_ _) | (with_reducible refine Kd.C_drewN ?_ _) | (with_reducible refine Kd.C_drew ?_))); (case side2 => exact HC0_1.out); rintro e w36 ⟨rfl, hb⟩; refine ⟨_, rfl, ?_⟩; have n0_ := Aside0.mk (blk_below (g := gb137) (o := .cells #[.int .i64 a0_0, .slice A0_1 l0_1.length c0_1, .int .i64 a0_2, .int .i64 a0_3, .int .i64 a0_4, .slice A0_5 l0_5.length c0_5, .int .i64 a0_6] 30 (0, 0)) (by (with_reducible repeat (first | refine blk_drewN ?_ _ | refine blk_drew ?_ | refine blk_alloc ?_ _)); exact BK137.out) hb); have n1_ := Aside0.mk (blk_below (g := gb138) (o := .cells #[.slice A0_1 l0_1.length c0_1, .int .i64 a0_2, .int .i64 a0_3, .int .i64 a0_4] 25 (0, 0)) (by (with_reducible repeat (first | refine blk_drewN ?_ _ | refine blk_drew ?_ | refine blk_alloc ?_ _)); exact BK138.out) hb); have n2_ := Aside0.mk (below_step (by repeat (first | (with_reducible first | exact HB.out | apply below_alloc | apply pw_below_drewN | apply below_drew1 | refine below_set ?_ GE137.out | refine below_set ?_ GE138.out) | exact HB.out)) hb); clear BK137; clear BK138; clear HB; have BK137 := n0_; have BK138 := n1_; have HB := n2_; clear n0_ n1_ n2_; (try clear hb); (try clear hb2); (try clear hk); (try clear hi)))
              go_ret
              exact ⟨by first | rfl | (simp [errW_none, errW_some] <;> rfl) | (simp [*, errW_none, errW_some] <;> rfl), by repeat (first | (with_reducible first | exact HB.out | apply below_alloc | apply pw_below_drewN | apply below_drew1 | refine below_set ?_ GE137.out | refine below_set ?_ GE138.out) | exact HB.out)⟩
            · rw [if_neg c31] at H
              have c31b0 : (a0_0 == 1) = false := beq_eq_false_iff_ne.mpr c31
              have c31b1 : (a0_0 != 1) = true := bne_iff_ne.mpr c31
              by_cases c37 : a0_0 = 2
              · rw [if_pos c37] at H
                have c37b0 : (a0_0 == 2) = true := beq_iff_eq.mpr c37
                have c37b1 : (a0_0 != 2) = false := bne_eq_false_iff_eq.mpr c37
                clear c37
                by_cases c38 : x5_1 = true
                · subst c38
                  have H1 : (some ((l0_5.length : Int) == 0)) = some r := by rw [if_pos rfl] at H; exact H
                  clear H
                  have H := H1
                  clear H1
                  obtain rfl := Option.some.inj H
                  have hnb39 := NB137_138.out
                  have hnc39 := NB138_137.out
                  have hcz40_0 : wc.cell? ⟨gb137, 0, none⟩ = some (.int .i64 a0_0) := (blk_cell BK137.out 0).trans rfl
                  have hcz40_1 : wc.cell? ⟨gb137, 1, none⟩ = some (.slice A0_1 l0_1.length c0_1) := (blk_cell BK137.out 1).trans rfl
                  have hcz40_2 : wc.cell? ⟨gb137, 2, none⟩ = some (.int .i64 a0_2) := (blk_cell BK137.out 2).trans rfl
                  have hcz40_3 : wc.cell? ⟨gb137, 3, none⟩ = some (.int .i64 a0_3) := (blk_cell BK137.out 3).trans rfl
                  have hcz40_4 : wc.cell? ⟨gb137, 4, none⟩ = some (.int .i64 a0_4) := (blk_cell BK137.out 4).trans rfl
                  have hcz40_5 : wc.cell? ⟨gb137, 5, none⟩ = some (.slice A0_5 l0_5.length c0_5) := (blk_cell BK137.out 5).trans rfl
                  have hcz40_6 : wc.cell? ⟨gb137, 6, none⟩ = some (.int .i64 a0_6) := (blk_cell BK137.out 6).trans rfl
                  have hfz40_0 := blk_frozen BK137.out 0
                  have hfz40_1 := blk_frozen BK137.out 1
                  have hfz40_2 := blk_frozen BK137.out 2
                  have hfz40_3 := blk_frozen BK137.out 3
                  have hfz40_4 := blk_frozen BK137.out 4
                  have hfz40_5 := blk_frozen BK137.out 5
                  have hfz40_6 := blk_frozen BK137.out 6
                  go_wp2
                  go_ret
                  exact ⟨by first | rfl | (simp [errW_none, errW_some] <;> rfl) | (simp [*, errW_none, errW_some] <;> rfl), by repeat (first | (with_reducible first | exact HB.out | apply below_alloc | apply pw_below_drewN | apply below_drew1 | refine below_set ?_ GE137.out | refine below_set ?_ GE138.out) | exact HB.out)⟩
                · replace c38 := Bool.eq_false_iff.mpr c38
                  subst c38
                  have H1 : (some false) = some r := by rw [if_neg (show ¬ (false = true) by decide)] at H; exact H
                  clear H
                  have H := H1
                  clear H1
                  obtain rfl := Option.some.inj H
                  have hnb41 := NB137_138.out
                  have hnc41 := NB138_137.out
                  have hcz42_0 : wc.cell? ⟨gb137, 0, none⟩ = some (.int .i64 a0_0) := (blk_cell BK137.out 0).trans rfl
                  have hcz42_1 : wc.cell? ⟨gb137, 1, none⟩ = some (.slice A0_1 l0_1.length c0_1) := (blk_cell BK137.out 1).trans rfl
                  have hcz42_2 : wc.cell? ⟨gb137, 2, none⟩ = some (.int .i64 a0_2) := (blk_cell BK137.out 2).trans rfl
                  have hcz42_3 : wc.cell? ⟨gb137, 3, none⟩ = some (.int .i64 a0_3) := (blk_cell BK137.out 3).trans rfl
                  have hcz42_4 : wc.cell? ⟨gb137, 4, none⟩ = some (.int .i64 a0_4) := (blk_cell BK137.out 4).trans rfl
                  have hcz42_5 : wc.cell? ⟨gb137, 5, none⟩ = some (.slice A0_5 l0_5.length c0_5) := (blk_cell BK137.out 5).trans rfl
                  have hcz42_6 : wc.cell? ⟨gb137, 6, none⟩ = some (.int .i64 a0_6) := (blk_cell BK137.out 6).trans rfl
                  have hfz42_0 := blk_frozen BK137.out 0
                  have hfz42_1 := blk_frozen BK137.out 1
                  have hfz42_2 := blk_frozen BK137.out 2
                  have hfz42_3 := blk_frozen BK137.out 3
                  have hfz42_4 := blk_frozen BK137.out 4
                  have hfz42_5 := blk_frozen BK137.out 5
                  have hfz42_6 := blk_frozen BK137.out 6
                  go_wp2
                  go_ret
                  exact ⟨by first | rfl | (simp [errW_none, errW_some] <;> rfl) | (simp [*, errW_none, errW_some] <;> rfl), by repeat (first | (with_reducible first | exact HB.out | apply below_alloc | apply pw_below_drewN | apply below_drew1 | refine below_set ?_ GE137.out | refine below_set ?_ GE138.out) | exact HB.out)⟩
              · rw [if_neg c37] at H
                have c37b0 : (a0_0 == 2) = false := beq_eq_false_iff_ne.mpr c37
                have c37b1 : (a0_0 != 2) = true := bne_iff_ne.mpr c37
                by_cases c43 : a0_0 = 3
                · rw [if_pos c43] at H
                  have c43b0 : (a0_0 == 3) = true := beq_iff_eq.mpr c43
                  have c43b1 : (a0_0 != 3) = false := bne_eq_false_iff_eq.mpr c43
                  clear c43
                  by_cases c44 : x5_1 = true
                  · subst c44
                    have H1 : (some (decide ((l0_5.length : Int) > 1))) = some r := by rw [if_pos rfl] at H; exact H
                    clear H
                    have H := H1
                    clear H1
                    obtain rfl := Option.some.inj H
                    have hnb45 := NB137_138.out
                    have hnc45 := NB138_137.out
                    have hcz46_0 : wc.cell? ⟨gb137, 0, none⟩ = some (.int .i64 a0_0) := (blk_cell BK137.out 0).trans rfl
                    have hcz46_1 : wc.cell? ⟨gb137, 1, none⟩ = some (.slice A0_1 l0_1.length c0_1) := (blk_cell BK137.out 1).trans rfl
                    have hcz46_2 : wc.cell? ⟨gb137, 2, none⟩ = some (.int .i64 a0_2) := (blk_cell BK137.out 2).trans rfl
                    have hcz46_3 : wc.cell? ⟨gb137, 3, none⟩ = some (.int .i64 a0_3) := (blk_cell BK137.out 3).trans rfl
                    have hcz46_4 : wc.cell? ⟨gb137, 4, none⟩ = some (.int .i64 a0_4) := (blk_cell BK137.out 4).trans rfl
                    have hcz46_5 : wc.cell? ⟨gb137, 5, none⟩ = some (.slice A0_5 l0_5.length c0_5) := (blk_cell BK137.out 5).trans rfl
                    have hcz46_6 : wc.cell? ⟨gb137, 6, none⟩ = some (.int .i64 a0_6) := (blk_cell BK137.out 6).trans rfl
                    have hfz46_0 := blk_frozen BK137.out 0
                    have hfz46_1 := blk_frozen BK137.out 1
                    have hfz46_2 := blk_frozen BK137.out 2
                    have hfz46_3 := blk_frozen BK137.out 3
                    have hfz46_4 := blk_frozen BK137.out 4
                    have hfz46_5 := blk_frozen BK137.out 5
                    have hfz46_6 := blk_frozen BK137.out 6
                    go_wp2
                    go_ret
                    exact ⟨by first | rfl | (simp [errW_none, errW_some] <;> rfl) | (simp [*, errW_none, errW_some] <;> rfl), by repeat (first | (with_reducible first | exact HB.out | apply below_alloc | apply pw_below_drewN | apply below_drew1 | refine below_set ?_ GE137.out | refine below_set ?_ GE138.out) | exact HB.out)⟩
                  · replace c44 := Bool.eq_false_iff.mpr c44
                    subst c44
                    have H1 : (some false) = some r := by rw [if_neg (show ¬ (false = true) by decide)] at H; exact H
                    clear H
                    have H := H1
                    clear H1
                    obtain rfl := Option.some.inj H
                    have hnb47 := NB137_138.out
                    have hnc47 := NB138_137.out
                    have hcz48_0 : wc.cell? ⟨gb137, 0, none⟩ = some (.int .i64 a0_0) := (blk_cell BK137.out 0).trans rfl
                    have hcz48_1 : wc.cell? ⟨gb137, 1, none⟩ = some (.slice A0_1 l0_1.length c0_1) := (blk_cell BK137.out 1).trans rfl
                    have hcz48_2 : wc.cell? ⟨gb137, 2, none⟩ = some (.int .i64 a0_2) := (blk_cell BK137.out 2).trans rfl
                    have hcz48_3 : wc.cell? ⟨gb137, 3, none⟩ = some (.int .i64 a0_3) := (blk_cell BK137.out 3).trans rfl
                    have hcz48_4 : wc.cell? ⟨gb137, 4, none⟩ = some (.int .i64 a0_4) := (blk_cell BK137.out 4).trans rfl
                    have hcz48_5 : wc.cell? ⟨gb137, 5, none⟩ = some (.slice A0_5 l0_5.length c0_5) := (blk_cell BK137.out 5).trans rfl
                    have hcz48_6 : wc.cell? ⟨gb137, 6, none⟩ = some (.int .i64 a0_6) := (blk_cell BK137.out 6).trans rfl
                    have hfz48_0 := blk_frozen BK137.out 0
                    have hfz48_1 := blk_frozen BK137.out 1
                    have hfz48_2 := blk_frozen BK137.out 2
                    have hfz48_3 := blk_frozen BK137.out 3
                    have hfz48_4 := blk_frozen BK137.out 4
                    have hfz48_5 := blk_frozen BK137.out 5
                    have hfz48_6 := blk_frozen BK137.out 6
                    go_wp2
                    go_ret
                    exact ⟨by first | rfl | (simp [errW_none, errW_some] <;> rfl) | (simp [*, errW_none, errW_some] <;> rfl), by repeat (first | (with_reducible first | exact HB.out | apply below_alloc | apply pw_below_drewN | apply below_drew1 | refine below_set ?_ GE137.out | refine below_set ?_ GE138.out) | exact HB.out)⟩
                · rw [if_neg c43] at H
                  have c43b0 : (a0_0 == 3) = false := beq_eq_false_iff_ne.mpr c43
                  have c43b1 : (a0_0 != 3) = true := bne_iff_ne.mpr c43
                  obtain rfl := Option.some.inj H
                  have hnb49 := NB137_138.out
                  have hnc49 := NB138_137.out
                  have hcz50_0 : wc.cell? ⟨gb137, 0, none⟩ = some (.int .i64 a0_0) := (blk_cell BK137.out 0).trans rfl
                  have hcz50_1 : wc.cell? ⟨gb137, 1, none⟩ = some (.slice A0_1 l0_1.length c0_1) := (blk_cell BK137.out 1).trans rfl
                  have hcz50_2 : wc.cell? ⟨gb137, 2, none⟩ = some (.int .i64 a0_2) := (blk_cell BK137.out 2).trans rfl
                  have hcz50_3 : wc.cell? ⟨gb137, 3, none⟩ = some (.int .i64 a0_3) := (blk_cell BK137.out 3).trans rfl
                  have hcz50_4 : wc.cell? ⟨gb137, 4, none⟩ = some (.int .i64 a0_4) := (blk_cell BK137.out 4).trans rfl
                  have hcz50_5 : wc.cell? ⟨gb137, 5, none⟩ = some (.slice A0_5 l0_5.length c0_5) := (blk_cell BK137.out 5).trans rfl
                  have hcz50_6 : wc.cell? ⟨gb137, 6, none⟩ = some (.int .i64 a0_6) := (blk_cell BK137.out 6).trans rfl
                  have hfz50_0 := blk_frozen BK137.out 0
                  have hfz50_1 := blk_frozen BK137.out 1
                  have hfz50_2 := blk_frozen BK137.out 2
                  have hfz50_3 := blk_frozen BK137.out 3
                  have hfz50_4 := blk_frozen BK137.out 4
                  have hfz50_5 := blk_frozen BK137.out 5
                  have hfz50_6 := blk_frozen BK137.out 6
                  go_wp2
                  go_ret
                  exact ⟨by first | rfl | (simp [errW_none, errW_some] <;> rfl) | (simp [*, errW_none, errW_some] <;> rfl), by repeat (first | (with_reducible first | exact HB.out | apply below_alloc | apply pw_below_drewN | apply below_drew1 | refine below_set ?_ GE137.out | refine below_set ?_ GE138.out) | exact HB.out)⟩

/-! ### record_may: plain, of function 33 -/
def record_may.f (a0 : Int) (l1 : List Int) (a2 a3 a4 : Int) (l5 : List Int) (a6 : Int) : Option Bool := some (YtanfmnobanhcnaaH.Rec.mayI a0 l1 a2 a3 a4 l5 a6)
set_option maxHeartbeats 2000000 in
theorem record_may.odd (a : Int) : record_may_1.f a = some (YtanfmnobanhcnaaH.Rec.odd a) := by
  unfold record_may_1.f YtanfmnobanhcnaaH.Rec.odd
  by_cases h : a < 0
  · rw [if_pos h, decide_eq_true h, Bool.true_or]
  · rw [if_neg h, decide_eq_false h, Bool.false_or]
set_option maxHeartbeats 2000000 in
theorem record_may.ev (a0 : Int) (l1 : List Int) (a2 a3 a4 : Int) (l5 : List Int) (a6 : Int) (r : Bool) (h : record_may.f a0 l1 a2 a3 a4 l5 a6 = some r) (hl : l1.length ≤ 9223372036854775807) (hl2 : l5.length ≤ 9223372036854775807) : Ev (fun k => record_may_p.f k a0 l1 a2 a3 a4 l5 a6) r := by
  obtain rfl := Option.some.inj h
  have hc : slices_ContainsFunc_int_int.f l5 69 = some (l5.any YtanfmnobanhcnaaH.Rec.odd) := by
    have e : YtanfmnobanhcnaaH.anyO record_may_1.f l5 = some (l5.any YtanfmnobanhcnaaH.Rec.odd) := YtanfmnobanhcnaaH.anyO_of (fun x _ => record_may.odd x)
    rw [← e]
    unfold slices_ContainsFunc_int_int.f
    repeat first
      | rw [if_pos rfl]
      | rw [if_neg (by decide)]
  have j1 : ∀ b o : Bool, b = YtanfmnobanhcnaaH.Rec.bare l1 a2 a3 a4 → Ev (fun k => record_may_p.j1 k b o a0 l1 a2 a3 a4 l5 a6 l1 a2 a3 a4) (!o && (if a0 = 1 then YtanfmnobanhcnaaH.Rec.schemaOk l1 a2 a3 a4 else if a0 = 2 then YtanfmnobanhcnaaH.Rec.bare l1 a2 a3 a4 && decide (l5.length = 0) else if a0 = 3 then YtanfmnobanhcnaaH.Rec.bare l1 a2 a3 a4 && decide (1 < l5.length) else false)) := by
    intro b o hb
    refine Ev.step (fun k => ?_) (Ev.now _)
    simp only [record_may_p.j1]
    cases o with
    | true => rw [if_pos rfl]; rfl
    | false =>
      rw [if_neg (by decide)]
      unfold schema_Check.f
      by_cases k1 : a0 = 1
      · rw [if_pos k1, if_pos k1, Option.bind_some]
        unfold YtanfmnobanhcnaaH.Rec.checkI
        cases YtanfmnobanhcnaaH.Rec.schemaOk l1 a2 a3 a4 <;> rfl
      · rw [if_neg k1, if_neg k1]
        by_cases k2 : a0 = 2
        · rw [if_pos k2, if_pos k2, ← hb]
          have e : (((l5.length : Int) == 0) : Bool) = decide (l5.length = 0) := by
            rw [Bool.eq_iff_iff, beq_iff_eq, decide_eq_true_iff]; omega
          cases b with
          | true => rw [if_pos rfl, e]; rfl
          | false => rw [if_neg (by decide)]; rfl
        · rw [if_neg k2, if_neg k2]
          by_cases k3 : a0 = 3
          · rw [if_pos k3, if_pos k3, ← hb]
            have e : decide ((l5.length : Int) > 1) = decide (1 < l5.length) := by
              rw [Bool.eq_iff_iff, decide_eq_true_iff, decide_eq_true_iff]; omega
            cases b with
            | true => rw [if_pos rfl, e]; rfl
            | false => rw [if_neg (by decide)]; rfl
          · rw [if_neg k3, if_neg k3]; rfl
  have j0 : ∀ b : Bool, b = YtanfmnobanhcnaaH.Rec.bare l1 a2 a3 a4 → Ev (fun k => record_may_p.j0 k b a0 l1 a2 a3 a4 l5 a6 l1 a2 a3 a4) (YtanfmnobanhcnaaH.Rec.mayI a0 l1 a2 a3 a4 l5 a6) := by
    intro b hb
    unfold YtanfmnobanhcnaaH.Rec.mayI
    have e : decide ((l5.length : Int) > 40) = decide (40 < l5.length) := by
      rw [Bool.eq_iff_iff, decide_eq_true_iff, decide_eq_true_iff]; omega
    cases ho : YtanfmnobanhcnaaH.Rec.odd a6 with
    | true =>
      refine Ev.step (fun k => ?_) (j1 b true hb)
      simp only [record_may_p.j0]
      rw [record_may.odd, ho, Option.bind_some, if_pos rfl]
    | false =>
      by_cases hlen : (l5.length : Int) > 40
      · rw [decide_eq_true (show 40 < l5.length by omega)]
        refine Ev.step (fun k => ?_) (j1 b true hb)
        simp only [record_may_p.j0]
        rw [record_may.odd, ho, Option.bind_some, if_neg (by decide), if_pos hlen]
      · rw [decide_eq_false (show ¬ 40 < l5.length by omega)]
        refine Ev.step (fun k => ?_) (j1 b (l5.any YtanfmnobanhcnaaH.Rec.odd) hb)
        simp only [record_may_p.j0]
        rw [record_may.odd, ho, Option.bind_some, if_neg (by decide), if_neg hlen, hc, Option.bind_some]
  have hb : ∀ b : Bool, b = YtanfmnobanhcnaaH.Rec.bare l1 a2 a3 a4 → ∀ F : Nat → Option Bool, (∀ k, F k = record_may_p.j0 k b a0 l1 a2 a3 a4 l5 a6 l1 a2 a3 a4) → Ev F (YtanfmnobanhcnaaH.Rec.mayI a0 l1 a2 a3 a4 l5 a6) := fun b hb F hF => Ev.congr (fun k => hF k) (j0 b hb)
  by_cases h0 : (l1.length : Int) = 0
  · by_cases h2 : a2 = 0
    · by_cases h3 : a3 = 0
      · refine hb (a4 == 0) (by unfold YtanfmnobanhcnaaH.Rec.bare; rw [decide_eq_true (show l1.length = 0 by omega), decide_eq_true h2, decide_eq_true h3, Bool.eq_iff_iff, beq_iff_eq]; simp) _ (fun k => ?_)
        unfold record_may_p.f
        rw [if_pos h0, if_pos h2, if_pos h3]
      · refine hb false (by unfold YtanfmnobanhcnaaH.Rec.bare; rw [decide_eq_false h3]; simp) _ (fun k => ?_)
        unfold record_may_p.f
        rw [if_pos h0, if_pos h2, if_neg h3]
    · refine hb false (by unfold YtanfmnobanhcnaaH.Rec.bare; rw [decide_eq_false h2]; simp) _ (fun k => ?_)
      unfold record_may_p.f
      rw [if_pos h0, if_neg h2]
  · refine hb false (by unfold YtanfmnobanhcnaaH.Rec.bare; rw [decide_eq_false (show ¬ l1.length = 0 by omega)]; simp) _ (fun k => ?_)
    unfold record_may_p.f
    rw [if_neg h0]
theorem record_may.calls (a0_0 : Int) (A0_1 : Option Addr) (c0_1 : Nat) (l0_1 : List Int) (a0_2 : Int) (a0_3 : Int) (a0_4 : Int) (A0_5 : Option Addr) (c0_5 : Nat) (l0_5 : List Int) (a0_6 : Int) (r : Bool) (w : World) (hr0_1 : Kd.C (Kd.int .i64) w A0_1 l0_1.length l0_1) (hc0_1 : l0_1.length ≤ c0_1) (hr0_5 : Kd.C (Kd.int .i64) w A0_5 l0_5.length l0_5) (hc0_5 : l0_5.length ≤ c0_5) (h : record_may.f a0_0 l0_1 a0_2 a0_3 a0_4 l0_5 a0_6 = some r) :
    Calls Try.prog 33 #[.agg #[.int .i64 a0_0, .slice A0_1 l0_1.length c0_1, .int .i64 a0_2, .int .i64 a0_3, .int .i64 a0_4, .slice A0_5 l0_5.length c0_5, .int .i64 a0_6]] w fun e w' => e = .returned (.bool r) ∧ Below w.heap.size w w' := by
  obtain ⟨k, hk⟩ := (record_may.ev a0_0 l0_1 a0_2 a0_3 a0_4 l0_5 a0_6 _ h (by first | exact hr0_1.2.1 | exact (Kd.V_reads' hs0_1).2.2.2.1 | exact (Kd.R_reads' ho0_1).2.2.2.1) (by first | exact hr0_5.2.1 | exact (Kd.V_reads' hs0_5).2.2.2.1 | exact (Kd.R_reads' ho0_5).2.2.2.1)).rounds
  exact record_may_p.calls k a0_0 A0_1 c0_1 l0_1 a0_2 a0_3 a0_4 A0_5 c0_5 l0_5 a0_6 r w hr0_1 hc0_1 hr0_5 hc0_5 hk

/-! ### slices_Grow_int_int: function 108 -/
set_option maxHeartbeats 1000000 in
set_option maxRecDepth 100000 in
/-- slices.Grow of nil: an empty row of one's own. -/
theorem slices_Grow_int_int.calls_nil (n : Int) (w : World) (h0 : 0 ≤ n) (hn : n.toNat * 8 ≤ 140737488355328) :
    Calls Try.prog 108 #[.slice none 0 0, .int .i64 n] w fun e w' => ∃ v0_ : Value, e = .returned v0_ ∧ Kd.R (Kd.int .i64) 3 w' w.heap.size (fun _ => True) v0_ [] ∧ Below w.heap.size w w' := by
  have hn' : n ≤ 140737488355328 := by omega
  have h0b : decide (n < 0) = false := by simpa using h0
  by_cases hp : 0 < n
  · have hpb : decide (0 < n) = true := by simpa using hp
    go_enter Try.func108, Try.ntmps108
    go_wp2_with (first | (at_builtin; refine Kd.R_append_zeros (Kd.int .i64) (w0 := w) w.heap.size rfl _ _ 23 3 3 (.int .i64 0) 8 rfl Try.underlying23 Try.underlying3 info3 rfl (by decide) (by omega) (.slice none 0 0) [] 0 n (fun _ => True) rfl rfl rfl (fun _ _ => trivial) (Kd.R_nil _ _ _ _ _) h0 ?hB ?hS ?hL ?_; (case hB => exact Below.refl _ _); (case hS => exact Nat.le_refl _); (case hL => simp; omega); intro v1 w1 ho hb hg hat; obtain ⟨Ao, co, eo⟩ := Kd.R_slice ho; subst eo))
    go_ret
    exact ⟨_, rfl, by have := Kd.R_take ho (m := 0) (Nat.zero_le _); simpa using this, hb⟩
  · have hz : n = 0 := by omega
    subst hz
    go_enter Try.func108, Try.ntmps108
    go_wp2
    go_ret
    exact ⟨_, rfl, Kd.R_nil _ _ _ _ _, Below.refl _ _⟩

/-! ### slices_Concat_int_int: function 72 -/
def slices_Concat_int_int.f (l0 : List (List Int)) : Option (List Int) := if l0.flatten.length * 8 < 140737488355328 then some l0.flatten else none
set_option maxHeartbeats 1000000 in
set_option maxRecDepth 100000 in
theorem slices_Concat_int_int.calls (A0 : Option Addr) (c0 : Nat) (l0 : List (List Int)) (r : List Int) (w : World) (hr0 : Kd.C (Kd.slice 3 (Kd.int .i64)) w A0 l0.length l0) (hc0 : l0.length ≤ c0) (h : slices_Concat_int_int.f l0 = some r) :
    Calls Try.prog 72 #[.slice A0 l0.length c0] w fun e w' => ∃ v0_ : Value, e = .returned v0_ ∧ Kd.R (Kd.int .i64) 3 w' w.heap.size (fun _ => True) v0_ r ∧ Below w.heap.size w w' := by
  have hlim : l0.flatten.length * 8 < 140737488355328 ∧ l0.flatten = r := by
    unfold slices_Concat_int_int.f at h
    split at h
    · exact ⟨by assumption, Option.some.inj h⟩
    · cases h
  obtain ⟨hlim, hres⟩ := hlim
  subst hres
  have HL := Aside0.mk hlim
  have HR0 := Aside0.mk hr0
  have HC0 := Aside0.mk hc0
  have hlen : l0.length ≤ 9223372036854775807 := hr0.2.1
  clear h hr0 hc0 hlim
  go_enter Try.func72, Try.ntmps72
  go_wp2
  go_loop [3, 11] (fun v3 v11 => ∃ k : Nat, k ≤ l0.length ∧ v11 = .int .i64 k ∧ v3 = .int .i64 (YtanfmnobanhcnaaH.flen l0 k : Nat)) (fun _ v11 => l0.length - (intOf v11).toNat)
  case atStart => exact ⟨0, Nat.zero_le _, rfl, rfl⟩
  case round =>
    obtain ⟨k, hk, rfl, rfl⟩ := hrel
    have hlb : YtanfmnobanhcnaaH.flen l0 k ≤ 140737488355328 := by have := HL.out; have := YtanfmnobanhcnaaH.flen_le l0 k; omega
    by_cases hlt : k < l0.length
    · obtain ⟨ad, A1, c1, rfl, hcell, hlen1, hC1⟩ := YtanfmnobanhcnaaH.at_row HR0.out k hlt
      have hn := Aside0.mk (YtanfmnobanhcnaaH.flen_succ l0 k hlt)
      have hpre2 : YtanfmnobanhcnaaH.flen l0 k + l0[k].length ≤ 140737488355328 := by
        have h1 := YtanfmnobanhcnaaH.flen_le l0 (k + 1)
        rw [hn.out] at h1
        have := HL.out
        omega
      have hneg : decide ((YtanfmnobanhcnaaH.flen l0 k : Int) + (l0[k].length : Int) < 0) = false := by simp; omega
      have HcC := Aside0.mk hC1
      have HL1 := Aside0.mk hlen1
      clear hC1 hlen1
      go_wp2
      go_round
      case rel => exact ⟨k + 1, by omega, by go_num, by rw [hn.out]; go_num⟩
      case measure => simp [intOf]; omega
    · have hkk : k = l0.length := by omega
      subst hkk
      have htk := Aside0.mk (YtanfmnobanhcnaaH.flen_all l0)
      clear hlt hk
      go_wp2_with fail
      refine (slices_Grow_int_int.calls_nil _ _ (by omega) (by have := HL.out; have := htk.out; omega)).mono ?_
      rintro e w1 ⟨v, rfl, hv, hb⟩
      have HV := Aside0.mk hv
      have HB := Aside0.mk hb
      clear hv hb
      go_wp2_with fail
      go_loopw [6, 27] (fun v6 v27 w' => ∃ k : Nat, k ≤ l0.length ∧ v27 = .int .i64 k ∧ Aside0 (Kd.R (Kd.int .i64) 3 w' w.heap.size (fun _ => True) v6 (l0.take k).flatten) ∧ Aside0 (Below w.heap.size w w')) (fun _ v27 _ => l0.length - (intOf v27).toNat)
      case atStart => exact ⟨0, Nat.zero_le _, rfl, HV, HB⟩
      case round =>
        obtain ⟨k, hk, rfl, hv, hb⟩ := hrel
        clear HV HB
        have HV := Aside0.mk hv.out
        have HB := Aside0.mk hb.out
        clear hv hb
        by_cases hlt : k < l0.length
        · obtain ⟨ad, A1, c1, rfl, hcell, hlen1, hC1⟩ := YtanfmnobanhcnaaH.at_row (Kd.C_below HR0.out HB.out) k hlt
          have hn := Aside0.mk (YtanfmnobanhcnaaH.flat_take_succ l0 k hlt)
          have hpre2 : YtanfmnobanhcnaaH.flen l0 k + l0[k].length ≤ l0.flatten.length := by
            have h1 := YtanfmnobanhcnaaH.flen_le l0 (k + 1)
            rw [YtanfmnobanhcnaaH.flen_succ l0 k hlt] at h1
            exact h1
          have HL2 := Aside0.mk hpre2
          have HcC := Aside0.mk hC1
          have HL1 := Aside0.mk hlen1
          clear hC1 hlen1 hpre2
          go_wp2_with (first | (at_builtin; go_must (refine Kd.R_append_rows (Kd.int .i64) (w0 := w) w.heap.size rfl _ _ 23 3 (.int .i64 0) 8 rfl Try.underlying23 info3 rfl (by decide) (by omega) _ (l0.take k).flatten l0[k] A1 _ c1 (fun _ => True) (fun _ => False) rfl rfl HV.out HcC.out (fun _ _ h => h) (fun _ h => h.elim) (fun _ _ => trivial) HB.out (below_size HB.out) (by have h1 := HL.out; have h2 := HL2.out; unfold YtanfmnobanhcnaaH.flen at h2; omega) ?_); intro v1 w2 ho hb hg hat))
          go_round
          case rel => exact ⟨k + 1, by omega, by go_num, ⟨by rw [hn.out]; exact ho⟩, ⟨hb⟩⟩
          case measure => simp [intOf]; omega
        · have hkk : k = l0.length := by omega
          subst hkk
          clear hlt hk
          go_wp2
          go_ret
          exact ⟨_, rfl, by have := HV.out; rwa [List.take_length] at this, HB.out⟩

end Go.Proofs.Ytanfmnobanhcnaa.PRec3
