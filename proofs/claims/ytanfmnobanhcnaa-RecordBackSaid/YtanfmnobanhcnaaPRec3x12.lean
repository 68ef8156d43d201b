-- Written by hp.py (own driver over print.py) out of the translation, hand-made functions among it. Lean checks it.
import Derived.Test.YtanfmnobanhcnaaPRec3x0
import Derived.Test.YtanfmnobanhcnaaPRec3x11
namespace Go.Proofs.Ytanfmnobanhcnaa.PRec3
open Go.RowKit Go.Proofs.YtanfmnobanhcnaaW.PrintWords Go.Proofs.YtanfmnobanhcnaaW.PrintLast Go.Proofs.YtanfmnobanhcnaaW.PrintMore
attribute [local go_sem] max2_int min2_int max_two min_two max_three min_three max_four min_four   -- for this text's walks alone
set_option linter.unusedVariables false
set_option linter.unusedSimpArgs false

/-! ### thresherref16_Same: function 21 -/
def thresherref16_Same.f (a0_0 : Int) (l0_1 : List Int) (a0_2 : Int) (a0_3 : Int) (a0_4 : Int) (l0_5 : List Int) (a0_6 : Int) (a1_0 : Int) (l1_1 : List Int) (a1_2 : Int) (a1_3 : Int) (a1_4 : Int) (l1_5 : List Int) (a1_6 : Int) : Option (Bool) := (thresherref04_Same.f l0_1 a0_2 a0_3 a0_4 l1_1 a1_2 a1_3 a1_4).bind fun t194 => ((thresherref15_Same.f l0_5 l1_5).bind fun t195 => (if t194 = true then (if t195 = true then (if a0_0 = a1_0 then (some (a0_6 == a1_6)) else (some false)) else (some false)) else (some false)))
set_option maxHeartbeats 8000000 in
set_option maxRecDepth 100000 in
theorem thresherref16_Same.calls (a0_0 : Int) (A0_1 : Option Addr) (c0_1 : Nat) (l0_1 : List Int) (a0_2 : Int) (a0_3 : Int) (a0_4 : Int) (A0_5 : Option Addr) (c0_5 : Nat) (l0_5 : List Int) (a0_6 : Int) (a1_0 : Int) (A1_1 : Option Addr) (c1_1 : Nat) (l1_1 : List Int) (a1_2 : Int) (a1_3 : Int) (a1_4 : Int) (A1_5 : Option Addr) (c1_5 : Nat) (l1_5 : List Int) (a1_6 : Int) (r : Bool) (w : World) (hr0_1 : Kd.C (Kd.int .i64) w A0_1 l0_1.length l0_1) (hc0_1 : l0_1.length ≤ c0_1) (hr0_5 : Kd.C (Kd.int .i64) w A0_5 l0_5.length l0_5) (hc0_5 : l0_5.length ≤ c0_5) (hr1_1 : Kd.C (Kd.int .i64) w A1_1 l1_1.length l1_1) (hc1_1 : l1_1.length ≤ c1_1) (hr1_5 : Kd.C (Kd.int .i64) w A1_5 l1_5.length l1_5) (hc1_5 : l1_5.length ≤ c1_5) (h : thresherref16_Same.f a0_0 l0_1 a0_2 a0_3 a0_4 l0_5 a0_6 a1_0 l1_1 a1_2 a1_3 a1_4 l1_5 a1_6 = some r) :
    Calls Try.prog 21 #[.agg #[.int .i64 a0_0, .slice A0_1 l0_1.length c0_1, .int .i64 a0_2, .int .i64 a0_3, .int .i64 a0_4, .slice A0_5 l0_5.length c0_5, .int .i64 a0_6], .agg #[.int .i64 a1_0, .slice A1_1 l1_1.length c1_1, .int .i64 a1_2, .int .i64 a1_3, .int .i64 a1_4, .slice A1_5 l1_5.length c1_5, .int .i64 a1_6]] w fun e w' => e = .returned (.bool r) ∧ Below w.heap.size w w' := by
  have hu30 := Try.underlying30
  have hu25 := Try.underlying25
  have HR0_1 := Aside0.mk hr0_1
  have HC0_1 := Aside0.mk hc0_1
  clear hr0_1 hc0_1
  have HR0_5 := Aside0.mk hr0_5
  have HC0_5 := Aside0.mk hc0_5
  clear hr0_5 hc0_5
  have HR1_1 := Aside0.mk hr1_1
  have HC1_1 := Aside0.mk hc1_1
  clear hr1_1 hc1_1
  have HR1_5 := Aside0.mk hr1_5
  have HC1_5 := Aside0.mk hc1_5
  clear hr1_5 hc1_5
  have HB := Aside0.mk (Below.refl w.heap.size w)
  have H : ((thresherref04_Same.f l0_1 a0_2 a0_3 a0_4 l1_1 a1_2 a1_3 a1_4).bind fun t194 => ((thresherref15_Same.f l0_5 l1_5).bind fun t195 => (if t194 = true then (if t195 = true then (if a0_0 = a1_0 then (some (a0_6 == a1_6)) else (some false)) else (some false)) else (some false)))) = some r := h
  clear h
  replace H := Option.bind_eq_some_iff.mp H
  obtain ⟨t194, A30, H⟩ := H
  replace H : ((thresherref15_Same.f l0_5 l1_5).bind fun t195 => (if t194 = true then (if t195 = true then (if a0_0 = a1_0 then (some (a0_6 == a1_6)) else (some false)) else (some false)) else (some false))) = some r := H
  have A3 := Aside0.mk A30
  clear A30
  replace H := Option.bind_eq_some_iff.mp H
  obtain ⟨t195, A40, H⟩ := H
  replace H : (if t194 = true then (if t195 = true then (if a0_0 = a1_0 then (some (a0_6 == a1_6)) else (some false)) else (some false)) else (some false)) = some r := H
  have A4 := Aside0.mk A40
  clear A40
  by_cases c5 : t194 = true
  · subst c5
    have H1 : (if t195 = true then (if a0_0 = a1_0 then (some (a0_6 == a1_6)) else (some false)) else (some false)) = some r := by rw [if_pos rfl] at H; exact H
    clear H
    have H := H1
    clear H1
    by_cases c6 : t195 = true
    · subst c6
      have H1 : (if a0_0 = a1_0 then (some (a0_6 == a1_6)) else (some false)) = some r := by rw [if_pos rfl] at H; exact H
      clear H
      have H := H1
      clear H1
      by_cases c7 : a0_0 = a1_0
      · rw [if_pos c7] at H
        have c7b0 : (a0_0 == a1_0) = true := beq_iff_eq.mpr c7
        have c7b1 : (a0_0 != a1_0) = false := bne_eq_false_iff_eq.mpr c7
        clear c7
        obtain rfl := Option.some.inj H
        go_enter Try.func21, Try.ntmps21
        go_wp2_with (first | ((with_reducible refine gate_dst (N := 2) rfl ?_); refine box_event ?hg (N := 2) ?hd (cs := #[.int .i64 a0_0, .slice A0_1 l0_1.length c0_1, .int .i64 a0_2, .int .i64 a0_3, .int .i64 a0_4, .slice A0_5 l0_5.length c0_5, .int .i64 a0_6]) (t := 30) ?hr ?_; (case hd => rfl); (case hg => rfl); (case hr => first | (go_simp; done) | (go_simp; rfl)); intro gb192 hg w8 hbox hb; have n0_ := Aside0.mk (below_step (by repeat (first | (with_reducible first | exact HB.out | apply below_alloc | apply pw_below_drewN | apply below_drew1) | exact HB.out)) hb); have n1_ := Aside0.mk (hbox); have n2_ := Aside0.mk ((by rw [hg]; exact (below_size (by repeat (first | (with_reducible first | exact HB.out | apply below_alloc | apply pw_below_drewN | apply below_drew1) | exact HB.out))) : w.heap.size ≤ gb192)); have n3_ := Aside0.mk ((by rw [hg]; exact (below_size (by repeat (first | (with_reducible first | exact HB.out | apply below_alloc | apply pw_below_drewN | apply below_drew1) | exact HB.out))) : w.heap.size ≤ gb192)); clear HB; have HB := n0_; have BK192 := n1_; have GW192 := n2_; have GE192 := n3_; clear n0_ n1_ n2_ n3_; clear hb hbox hg) | ((with_reducible refine gate_dst (N := 3) rfl ?_); refine box_event ?hg (N := 3) ?hd (cs := #[.int .i64 a1_0, .slice A1_1 l1_1.length c1_1, .int .i64 a1_2, .int .i64 a1_3, .int .i64 a1_4, .slice A1_5 l1_5.length c1_5, .int .i64 a1_6]) (t := 30) ?hr ?_; (case hd => rfl); (case hg => rfl); (case hr => first | (go_simp; done) | (go_simp; rfl)); intro gb193 hg w9 hbox hb; have n0_ := Aside0.mk (blk_below (g := gb192) (o := .cells #[.int .i64 a0_0, .slice A0_1 l0_1.length c0_1, .int .i64 a0_2, .int .i64 a0_3, .int .i64 a0_4, .slice A0_5 l0_5.length c0_5, .int .i64 a0_6] 30 (0, 0)) (by (with_reducible repeat (first | refine blk_drewN ?_ _ | refine blk_drew ?_ | refine blk_alloc ?_ _)); exact BK192.out) hb); have n1_ := Aside0.mk (below_step (by repeat (first | (with_reducible first | exact HB.out | apply below_alloc | apply pw_below_drewN | apply below_drew1 | refine below_set ?_ GE192.out) | exact HB.out)) hb); have n2_ := Aside0.mk (hbox); have n3_ := Aside0.mk ((by rw [hg]; exact (below_size (by repeat (first | (with_reducible first | exact HB.out | apply below_alloc | apply pw_below_drewN | apply below_drew1 | refine below_set ?_ GE192.out) | exact HB.out))) : w.heap.size ≤ gb193)); have n4_ := Aside0.mk ((by rw [hg]; exact (below_size (by repeat (first | (with_reducible first | exact HB.out | apply below_alloc | apply pw_below_drewN | apply below_drew1 | refine below_set ?_ GE192.out) | exact HB.out))) : w.heap.size ≤ gb193)); have n5_ := Aside0.mk ((by rw [hg]; exact Nat.ne_of_lt (blk_lt (g := gb192) (o := .cells #[.int .i64 a0_0, .slice A0_1 l0_1.length c0_1, .int .i64 a0_2, .int .i64 a0_3, .int .i64 a0_4, .slice A0_5 l0_5.length c0_5, .int .i64 a0_6] 30 (0, 0)) (by (with_reducible repeat (first | refine blk_drewN ?_ _ | refine blk_drew ?_ | refine blk_alloc ?_ _)); exact BK192.out)) : gb192 ≠ gb193)); have n6_ := Aside0.mk ((by rw [hg]; exact Nat.ne_of_gt (blk_lt (g := gb192) (o := .cells #[.int .i64 a0_0, .slice A0_1 l0_1.length c0_1, .int .i64 a0_2, .int .i64 a0_3, .int .i64 a0_4, .slice A0_5 l0_5.length c0_5, .int .i64 a0_6] 30 (0, 0)) (by (with_reducible repeat (first | refine blk_drewN ?_ _ | refine blk_drew ?_ | refine blk_alloc ?_ _)); exact BK192.out)) : gb193 ≠ gb192)); clear BK192; clear HB; have BK192 := n0_; have HB := n1_; have BK193 := n2_; have GW193 := n3_; have GE193 := n4_; have NB192_193 := n5_; have NB193_192 := n6_; clear n0_ n1_ n2_ n3_ n4_ n5_ n6_; clear hb hbox hg; have hnb10 := NB192_193.out; have hnc10 := NB193_192.out; have hcz11_0 : w9.cell? ⟨gb192, 0, none⟩ = some (.int .i64 a0_0) := (blk_cell BK192.out 0).trans rfl; have hcz11_1 : w9.cell? ⟨gb192, 1, none⟩ = some (.slice A0_1 l0_1.length c0_1) := (blk_cell BK192.out 1).trans rfl; have hcz11_2 : w9.cell? ⟨gb192, 2, none⟩ = some (.int .i64 a0_2) := (blk_cell BK192.out 2).trans rfl; have hcz11_3 : w9.cell? ⟨gb192, 3, none⟩ = some (.int .i64 a0_3) := (blk_cell BK192.out 3).trans rfl; have hcz11_4 : w9.cell? ⟨gb192, 4, none⟩ = some (.int .i64 a0_4) := (blk_cell BK192.out 4).trans rfl; have hcz11_5 : w9.cell? ⟨gb192, 5, none⟩ = some (.slice A0_5 l0_5.length c0_5) := (blk_cell BK192.out 5).trans rfl; have hcz11_6 : w9.cell? ⟨gb192, 6, none⟩ = some (.int .i64 a0_6) := (blk_cell BK192.out 6).trans rfl; have hfz11_0 := blk_frozen BK192.out 0; have hfz11_1 := blk_frozen BK192.out 1; have hfz11_2 := blk_frozen BK192.out 2; have hfz11_3 := blk_frozen BK192.out 3; have hfz11_4 := blk_frozen BK192.out 4; have hfz11_5 := blk_frozen BK192.out 5; have hfz11_6 := blk_frozen BK192.out 6; have hcz12_0 : w9.cell? ⟨gb193, 0, none⟩ = some (.int .i64 a1_0) := (blk_cell BK193.out 0).trans rfl; have hcz12_1 : w9.cell? ⟨gb193, 1, none⟩ = some (.slice A1_1 l1_1.length c1_1) := (blk_cell BK193.out 1).trans rfl; have hcz12_2 : w9.cell? ⟨gb193, 2, none⟩ = some (.int .i64 a1_2) := (blk_cell BK193.out 2).trans rfl; have hcz12_3 : w9.cell? ⟨gb193, 3, none⟩ = some (.int .i64 a1_3) := (blk_cell BK193.out 3).trans rfl; have hcz12_4 : w9.cell? ⟨gb193, 4, none⟩ = some (.int .i64 a1_4) := (blk_cell BK193.out 4).trans rfl; have hcz12_5 : w9.cell? ⟨gb193, 5, none⟩ = some (.slice A1_5 l1_5.length c1_5) := (blk_cell BK193.out 5).trans rfl; have hcz12_6 : w9.cell? ⟨gb193, 6, none⟩ = some (.int .i64 a1_6) := (blk_cell BK193.out 6).trans rfl; have hfz12_0 := blk_frozen BK193.out 0; have hfz12_1 := blk_frozen BK193.out 1; have hfz12_2 := blk_frozen BK193.out 2; have hfz12_3 := blk_frozen BK193.out 3; have hfz12_4 := blk_frozen BK193.out 4; have hfz12_5 := blk_frozen BK193.out 5; have hfz12_6 := blk_frozen BK193.out 6) | ((with_reducible refine gate_callee (f := 46) rfl ?_); refine goesL_ (some 11) rfl rfl Try.func46 (by kernel_rfl) rfl #[.agg #[.slice A0_1 l0_1.length c0_1, .int .i64 a0_2, .int .i64 a0_3, .int .i64 a0_4], .agg #[.slice A1_1 l1_1.length c1_1, .int .i64 a1_2, .int .i64 a1_3, .int .i64 a1_4]] rfl (by (try simp only [List.map_toArray, List.map_cons, List.map_nil]); first | done | rfl | (simp only [List.length_drop, List.length_take]; rfl)) ?_; (with_reducible refine (thresherref04_Same.calls _ _ l0_1 a0_2 a0_3 a0_4 _ _ l1_1 a1_2 a1_3 a1_4 true _ ?side1 ?side2 ?side3 ?side4 A3.out).mono ?_); (case side1 => repeat (first | exact (Kd.C_below HR0_1.out HB.out) | (with_reducible refine Kd.C_alloc ?_ _) | (with_reducible refine Kd.C_drewN ?_ _) | (with_reducible refine Kd.C_drew ?_))); (case side2 => exact HC0_1.out); (case side3 => repeat (first | exact (Kd.C_below HR1_1.out HB.out) | (with_reducible refine Kd.C_alloc ?_ _) | (with_reducible refine Kd.C_drewN ?_ _) | (with_reducible refine Kd.C_drew ?_))); (case side4 => exact HC1_1.out); rintro e w13 ⟨rfl, hb⟩; refine ⟨_, rfl, ?_⟩; have n0_ := Aside0.mk (blk_below (g := gb192) (o := .cells #[.int .i64 a0_0, .slice A0_1 l0_1.length c0_1, .int .i64 a0_2, .int .i64 a0_3, .int .i64 a0_4, .slice A0_5 l0_5.length c0_5, .int .i64 a0_6] 30 (0, 0)) (by (with_reducible repeat (first | refine blk_drewN ?_ _ | refine blk_drew ?_ | refine blk_alloc ?_ _)); exact BK192.out) hb); have n1_ := Aside0.mk (blk_below (g := gb193) (o := .cells #[.int .i64 a1_0, .slice A1_1 l1_1.length c1_1, .int .i64 a1_2, .int .i64 a1_3, .int .i64 a1_4, .slice A1_5 l1_5.length c1_5, .int .i64 a1_6] 30 (0, 0)) (by (with_reducible repeat (first | refine blk_drewN ?_ _ | refine blk_drew ?_ | refine blk_alloc ?_ _)); exact BK193.out) hb); have n2_ := Aside0.mk (below_step (by repeat (first | (with_reducible first | exact HB.out | apply below_alloc | apply pw_below_drewN | apply below_drew1 | refine below_set ?_ GE192.out | refine below_set ?_ GE193.out) | exact HB.out)) hb); clear BK192; clear BK193; clear HB; have BK192 := n0_; have BK193 := n1_; have HB := n2_; clear n0_ n1_ n2_; (try clear hb); (try clear hb2); (try clear hk); (try clear hi); have hcz14_0 : w13.cell? ⟨gb192, 0, none⟩ = some (.int .i64 a0_0) := (blk_cell BK192.out 0).trans rfl; have hcz14_1 : w13.cell? ⟨gb192, 1, none⟩ = some (.slice A0_1 l0_1.length c0_1) := (blk_cell BK192.out 1).trans rfl; have hcz14_2 : w13.cell? ⟨gb192, 2, none⟩ = some (.int .i64 a0_2) := (blk_cell BK192.out 2).trans rfl; have hcz14_3 : w13.cell? ⟨gb192, 3, none⟩ = some (.int .i64 a0_3) := (blk_cell BK192.out 3).trans rfl; have hcz14_4 : w13.cell? ⟨gb192, 4, none⟩ = some (.int .i64 a0_4) := (blk_cell BK192.out 4).trans rfl; have hcz14_5 : w13.cell? ⟨gb192, 5, none⟩ = some (.slice A0_5 l0_5.length c0_5) := (blk_cell BK192.out 5).trans rfl; have hcz14_6 : w13.cell? ⟨gb192, 6, none⟩ = some (.int .i64 a0_6) := (blk_cell BK192.out 6).trans rfl; have hfz14_0 := blk_frozen BK192.out 0; have hfz14_1 := blk_frozen BK192.out 1; have hfz14_2 := blk_frozen BK192.out 2; have hfz14_3 := blk_frozen BK192.out 3; have hfz14_4 := blk_frozen BK192.out 4; have hfz14_5 := blk_frozen BK192.out 5; have hfz14_6 := blk_frozen BK192.out 6; have hcz15_0 : w13.cell? ⟨gb193, 0, none⟩ = some (.int .i64 a1_0) := (blk_cell BK193.out 0).trans rfl; have hcz15_1 : w13.cell? ⟨gb193, 1, none⟩ = some (.slice A1_1 l1_1.length c1_1) := (blk_cell BK193.out 1).trans rfl; have hcz15_2 : w13.cell? ⟨gb193, 2, none⟩ = some (.int .i64 a1_2) := (blk_cell BK193.out 2).trans rfl; have hcz15_3 : w13.cell? ⟨gb193, 3, none⟩ = some (.int .i64 a1_3) := (blk_cell BK193.out 3).trans rfl; have hcz15_4 : w13.cell? ⟨gb193, 4, none⟩ = some (.int .i64 a1_4) := (blk_cell BK193.out 4).trans rfl; have hcz15_5 : w13.cell? ⟨gb193, 5, none⟩ = some (.slice A1_5 l1_5.length c1_5) := (blk_cell BK193.out 5).trans rfl; have hcz15_6 : w13.cell? ⟨gb193, 6, none⟩ = some (.int .i64 a1_6) := (blk_cell BK193.out 6).trans rfl; have hfz15_0 := blk_frozen BK193.out 0; have hfz15_1 := blk_frozen BK193.out 1; have hfz15_2 := blk_frozen BK193.out 2; have hfz15_3 := blk_frozen BK193.out 3; have hfz15_4 := blk_frozen BK193.out 4; have hfz15_5 := blk_frozen BK193.out 5; have hfz15_6 := blk_frozen BK193.out 6) | ((with_reducible refine gate_callee (f := 47) rfl ?_); refine goesL_ (some 16) rfl rfl Try.func47 (by kernel_rfl) rfl #[.slice A0_5 l0_5.length c0_5, .slice A1_5 l1_5.length c1_5] rfl (by (try simp only [List.map_toArray, List.map_cons, List.map_nil]); first | done | rfl | (simp only [List.length_drop, List.length_take]; rfl)) ?_; (with_reducible refine (thresherref15_Same.calls _ _ l0_5 _ _ l1_5 true _ ?side1 ?side2 ?side3 ?side4 A4.out).mono ?_); (case side1 => repeat (first | exact (Kd.C_below HR0_5.out HB.out) | (with_reducible refine Kd.C_alloc ?_ _) | (with_reducible refine Kd.C_drewN ?_ _) | (with_reducible refine Kd.C_drew ?_))); (case side2 => exact HC0_5.out); (case side3 => repeat (first | exact (Kd.C_below HR1_5.out HB.out) | (with_reducible refine Kd.C_alloc ?_ _) | (with_reducible refine Kd.C_drewN ?_ _) | (with_reducible refine Kd.C_drew ?_))); (case side4 => exact HC1_5.out); rintro e w' ⟨rfl, ⟨nd, rfl⟩⟩; refine ⟨_, rfl, ?_⟩))
        go_ret
        exact ⟨by first | rfl | (simp [errW_none, errW_some] <;> rfl) | (simp [*, errW_none, errW_some] <;> rfl), by repeat (first | (with_reducible first | exact HB.out | apply below_alloc | apply pw_below_drewN | apply below_drew1 | refine below_set ?_ GE192.out | refine below_set ?_ GE193.out) | exact HB.out)⟩
      · rw [if_neg c7] at H
        have c7b0 : (a0_0 == a1_0) = false := beq_eq_false_iff_ne.mpr c7
        have c7b1 : (a0_0 != a1_0) = true := bne_iff_ne.mpr c7
        obtain rfl := Option.some.inj H
        go_enter Try.func21, Try.ntmps21
        go_wp2_with (first | ((with_reducible refine gate_dst (N := 2) rfl ?_); refine box_event ?hg (N := 2) ?hd (cs := #[.int .i64 a0_0, .slice A0_1 l0_1.length c0_1, .int .i64 a0_2, .int .i64 a0_3, .int .i64 a0_4, .slice A0_5 l0_5.length c0_5, .int .i64 a0_6]) (t := 30) ?hr ?_; (case hd => rfl); (case hg => rfl); (case hr => first | (go_simp; done) | (go_simp; rfl)); intro gb192 hg w16 hbox hb; have n0_ := Aside0.mk (below_step (by repeat (first | (with_reducible first | exact HB.out | apply below_alloc | apply pw_below_drewN | apply below_drew1) | exact HB.out)) hb); have n1_ := Aside0.mk (hbox); have n2_ := Aside0.mk ((by rw [hg]; exact (below_size (by repeat (first | (with_reducible first | exact HB.out | apply below_alloc | apply pw_below_drewN | apply below_drew1) | exact HB.out))) : w.heap.size ≤ gb192)); have n3_ := Aside0.mk ((by rw [hg]; exact (below_size (by repeat (first | (with_reducible first | exact HB.out | apply below_alloc | apply pw_below_drewN | apply below_drew1) | exact HB.out))) : w.heap.size ≤ gb192)); clear HB; have HB := n0_; have BK192 := n1_; have GW192 := n2_; have GE192 := n3_; clear n0_ n1_ n2_ n3_; clear hb hbox hg) | ((with_reducible refine gate_dst (N := 3) rfl ?_); refine box_event ?hg (N := 3) ?hd (cs := #[.int .i64 a1_0, .slice A1_1 l1_1.length c1_1, .int .i64 a1_2, .int .i64 a1_3, .int .i64 a1_4, .slice A1_5 l1_5.length c1_5, .int .i64 a1_6]) (t := 30) ?hr ?_; (case hd => rfl); (case hg => rfl); (case hr => first | (go_simp; done) | (go_simp; rfl)); intro gb193 hg w17 hbox hb; have n0_ := Aside0.mk (blk_below (g := gb192) (o := .cells #[.int .i64 a0_0, .slice A0_1 l0_1.length c0_1, .int .i64 a0_2, .int .i64 a0_3, .int .i64 a0_4, .slice A0_5 l0_5.length c0_5, .int .i64 a0_6] 30 (0, 0)) (by (with_reducible repeat (first | refine blk_drewN ?_ _ | refine blk_drew ?_ | refine blk_alloc ?_ _)); exact BK192.out) hb); have n1_ := Aside0.mk (below_step (by repeat (first | (with_reducible first | exact HB.out | apply below_alloc | apply pw_below_drewN | apply below_drew1 | refine below_set ?_ GE192.out) | exact HB.out)) hb); have n2_ := Aside0.mk (hbox); have n3_ := Aside0.mk ((by rw [hg]; exact (below_size (by repeat (first | (with_reducible first | exact HB.out | apply below_alloc | apply pw_below_drewN | apply below_drew1 | refine below_set ?_ GE192.out) | exact HB.out))) : w.heap.size ≤ gb193)); have n4_ := Aside0.mk ((by rw [hg]; exact (below_size (by repeat (first | (with_reducible first | exact HB.out | apply below_alloc | apply pw_below_drewN | apply below_drew1 | refine below_set ?_ GE192.out) | exact HB.out))) : w.heap.size ≤ gb193)); have n5_ := Aside0.mk ((by rw [hg]; exact Nat.ne_of_lt (blk_lt (g := gb192) (o := .cells #[.int .i64 a0_0, .slice A0_1 l0_1.length c0_1, .int .i64 a0_2, .int .i64 a0_3, .int .i64 a0_4, .slice A0_5 l0_5.length c0_5, .int .i64 a0_6] 30 (0, 0)) (by (with_reducible repeat (first | refine blk_drewN ?_ _ | refine blk_drew ?_ | refine blk_alloc ?_ _)); exact BK192.out)) : gb192 ≠ gb193)); have n6_ := Aside0.mk ((by rw [hg]; exact Nat.ne_of_gt (blk_lt (g := gb192) (o := .cells #[.int .i64 a0_0, .slice A0_1 l0_1.length c0_1, .int .i64 a0_2, .int .i64 a0_3, .int .i64 a0_4, .slice A0_5 l0_5.length c0_5, .int .i64 a0_6] 30 (0, 0)) (by (with_reducible repeat (first | refine blk_drewN ?_ _ | refine blk_drew ?_ | refine blk_alloc ?_ _)); exact BK192.out)) : gb193 ≠ gb192)); clear BK192; clear HB; have BK192 := n0_; have HB := n1_; have BK193 := n2_; have GW193 := n3_; have GE193 := n4_; have NB192_193 := n5_; have NB193_192 := n6_; clear n0_ n1_ n2_ n3_ n4_ n5_ n6_; clear hb hbox hg; have hnb18 := NB192_193.out; have hnc18 := NB193_192.out; have hcz19_0 : w17.cell? ⟨gb192, 0, none⟩ = some (.int .i64 a0_0) := (blk_cell BK192.out 0).trans rfl; have hcz19_1 : w17.cell? ⟨gb192, 1, none⟩ = some (.slice A0_1 l0_1.length c0_1) := (blk_cell BK192.out 1).trans rfl; have hcz19_2 : w17.cell? ⟨gb192, 2, none⟩ = some (.int .i64 a0_2) := (blk_cell BK192.out 2).trans rfl; have hcz19_3 : w17.cell? ⟨gb192, 3, none⟩ = some (.int .i64 a0_3) := (blk_cell BK192.out 3).trans rfl; have hcz19_4 : w17.cell? ⟨gb192, 4, none⟩ = some (.int .i64 a0_4) := (blk_cell BK192.out 4).trans rfl; have hcz19_5 : w17.cell? ⟨gb192, 5, none⟩ = some (.slice A0_5 l0_5.length c0_5) := (blk_cell BK192.out 5).trans rfl; have hcz19_6 : w17.cell? ⟨gb192, 6, none⟩ = some (.int .i64 a0_6) := (blk_cell BK192.out 6).trans rfl; have hfz19_0 := blk_frozen BK192.out 0; have hfz19_1 := blk_frozen BK192.out 1; have hfz19_2 := blk_frozen BK192.out 2; have hfz19_3 := blk_frozen BK192.out 3; have hfz19_4 := blk_frozen BK192.out 4; have hfz19_5 := blk_frozen BK192.out 5; have hfz19_6 := blk_frozen BK192.out 6; have hcz20_0 : w17.cell? ⟨gb193, 0, none⟩ = some (.int .i64 a1_0) := (blk_cell BK193.out 0).trans rfl; have hcz20_1 : w17.cell? ⟨gb193, 1, none⟩ = some (.slice A1_1 l1_1.length c1_1) := (blk_cell BK193.out 1).trans rfl; have hcz20_2 : w17.cell? ⟨gb193, 2, none⟩ = some (.int .i64 a1_2) := (blk_cell BK193.out 2).trans rfl; have hcz20_3 : w17.cell? ⟨gb193, 3, none⟩ = some (.int .i64 a1_3) := (blk_cell BK193.out 3).trans rfl; have hcz20_4 : w17.cell? ⟨gb193, 4, none⟩ = some (.int .i64 a1_4) := (blk_cell BK193.out 4).trans rfl; have hcz20_5 : w17.cell? ⟨gb193, 5, none⟩ = some (.slice A1_5 l1_5.length c1_5) := (blk_cell BK193.out 5).trans rfl; have hcz20_6 : w17.cell? ⟨gb193, 6, none⟩ = some (.int .i64 a1_6) := (blk_cell BK193.out 6).trans rfl; have hfz20_0 := blk_frozen BK193.out 0; have hfz20_1 := blk_frozen BK193.out 1; have hfz20_2 := blk_frozen BK193.out 2; have hfz20_3 := blk_frozen BK193.out 3; have hfz20_4 := blk_frozen BK193.out 4; have hfz20_5 := blk_frozen BK193.out 5; have hfz20_6 := blk_frozen BK193.out 6) | ((with_reducible refine gate_callee (f := 46) rfl ?_); refine goesL_ (some 11) rfl rfl Try.func46 (by kernel_rfl) rfl #[.agg #[.slice A0_1 l0_1.length c0_1, .int .i64 a0_2, .int .i64 a0_3, .int .i64 a0_4], .agg #[.slice A1_1 l1_1.length c1_1, .int .i64 a1_2, .int .i64 a1_3, .int .i64 a1_4]] rfl (by (try simp only [List.map_toArray, List.map_cons, List.map_nil]); first | done | rfl | (simp only [List.length_drop, List.length_take]; rfl)) ?_; (with_reducible refine (thresherref04_Same.calls _ _ l0_1 a0_2 a0_3 a0_4 _ _ l1_1 a1_2 a1_3 a1_4 true _ ?side1 ?side2 ?side3 ?side4 A3.out).mono ?_); (case side1 => repeat (first | exact (Kd.C_below HR0_1.out HB.out) | (with_reducible refine Kd.C_alloc ?_ _) | (with_reducible refine Kd.C_drewN ?_ _) | (with_reducible refine Kd.C_drew ?_))); (case side2 => exact HC0_1.out); (case side3 => repeat (first | exact (Kd.C_below HR1_1.out HB.out) | (with_reducible refine Kd.C_alloc ?_ _) | (with_reducible refine Kd.C_drewN ?_ _) | (with_reducible refine Kd.C_drew ?_))); (case side4 => exact HC1_1.out); rintro e w21 ⟨rfl, hb⟩; refine ⟨_, rfl, ?_⟩; have n0_ := Aside0.mk (blk_below (g := gb192) (o := .cells #[.int .i64 a0_0, .slice A0_1 l0_1.length c0_1, .int .i64 a0_2, .int .i64 a0_3, .int .i64 a0_4, .slice A0_5 l0_5.length c0_5, .int .i64 a0_6] 30 (0, 0)) (by (with_reducible repeat (first | refine blk_drewN ?_ _ | refine blk_drew ?_ | refine blk_alloc ?_ _)); exact BK192.out) hb); have n1_ := Aside0.mk (blk_below (g := gb193) (o := .cells #[.int .i64 a1_0, .slice A1_1 l1_1.length c1_1, .int .i64 a1_2, .int .i64 a1_3, .int .i64 a1_4, .slice A1_5 l1_5.length c1_5, .int .i64 a1_6] 30 (0, 0)) (by (with_reducible repeat (first | refine blk_drewN ?_ _ | refine blk_drew ?_ | refine blk_alloc ?_ _)); exact BK193.out) hb); have n2_ := Aside0.mk (below_step (by repeat (first | (with_reducible first | exact HB.out | apply below_alloc | apply pw_below_drewN | apply below_drew1 | refine below_set ?_ GE192.out | refine below_set ?_ GE193.out) | exact HB.out)) hb); clear BK192; clear BK193; clear HB; have BK192 := n0_; have BK193 := n1_; have HB := n2_; clear n0_ n1_ n2_; (try clear hb); (try clear hb2); (try clear hk); (try clear hi); have hcz22_0 : w21.cell? ⟨gb192, 0, none⟩ = some (.int .i64 a0_0) := (blk_cell BK192.out 0).trans rfl; have hcz22_1 : w21.cell? ⟨gb192, 1, none⟩ = some (.slice A0_1 l0_1.length c0_1) := (blk_cell BK192.out 1).trans rfl; have hcz22_2 : w21.cell? ⟨gb192, 2, none⟩ = some (.int .i64 a0_2) := (blk_cell BK192.out 2).trans rfl; have hcz22_3 : w21.cell? ⟨gb192, 3, none⟩ = some (.int .i64 a0_3) := (blk_cell BK192.out 3).trans rfl; have hcz22_4 : w21.cell? ⟨gb192, 4, none⟩ = some (.int .i64 a0_4) := (blk_cell BK192.out 4).trans rfl; have hcz22_5 : w21.cell? ⟨gb192, 5, none⟩ = some (.slice A0_5 l0_5.length c0_5) := (blk_cell BK192.out 5).trans rfl; have hcz22_6 : w21.cell? ⟨gb192, 6, none⟩ = some (.int .i64 a0_6) := (blk_cell BK192.out 6).trans rfl; have hfz22_0 := blk_frozen BK192.out 0; have hfz22_1 := blk_frozen BK192.out 1; have hfz22_2 := blk_frozen BK192.out 2; have hfz22_3 := blk_frozen BK192.out 3; have hfz22_4 := blk_frozen BK192.out 4; have hfz22_5 := blk_frozen BK192.out 5; have hfz22_6 := blk_frozen BK192.out 6; have hcz23_0 : w21.cell? ⟨gb193, 0, none⟩ = some (.int .i64 a1_0) := (blk_cell BK193.out 0).trans rfl; have hcz23_1 : w21.cell? ⟨gb193, 1, none⟩ = some (.slice A1_1 l1_1.length c1_1) := (blk_cell BK193.out 1).trans rfl; have hcz23_2 : w21.cell? ⟨gb193, 2, none⟩ = some (.int .i64 a1_2) := (blk_cell BK193.out 2).trans rfl; have hcz23_3 : w21.cell? ⟨gb193, 3, none⟩ = some (.int .i64 a1_3) := (blk_cell BK193.out 3).trans rfl; have hcz23_4 : w21.cell? ⟨gb193, 4, none⟩ = some (.int .i64 a1_4) := (blk_cell BK193.out 4).trans rfl; have hcz23_5 : w21.cell? ⟨gb193, 5, none⟩ = some (.slice A1_5 l1_5.length c1_5) := (blk_cell BK193.out 5).trans rfl; have hcz23_6 : w21.cell? ⟨gb193, 6, none⟩ = some (.int .i64 a1_6) := (blk_cell BK193.out 6).trans rfl; have hfz23_0 := blk_frozen BK193.out 0; have hfz23_1 := blk_frozen BK193.out 1; have hfz23_2 := blk_frozen BK193.out 2; have hfz23_3 := blk_frozen BK193.out 3; have hfz23_4 := blk_frozen BK193.out 4; have hfz23_5 := blk_frozen BK193.out 5; have hfz23_6 := blk_frozen BK193.out 6) | ((with_reducible refine gate_callee (f := 47) rfl ?_); refine goesL_ (some 16) rfl rfl Try.func47 (by kernel_rfl) rfl #[.slice A0_5 l0_5.length c0_5, .slice A1_5 l1_5.length c1_5] rfl (by (try simp only [List.map_toArray, List.map_cons, List.map_nil]); first | done | rfl | (simp only [List.length_drop, List.length_take]; rfl)) ?_; (with_reducible refine (thresherref15_Same.calls _ _ l0_5 _ _ l1_5 true _ ?side1 ?side2 ?side3 ?side4 A4.out).mono ?_); (case side1 => repeat (first | exact (Kd.C_below HR0_5.out HB.out) | (with_reducible refine Kd.C_alloc ?_ _) | (with_reducible refine Kd.C_drewN ?_ _) | (with_reducible refine Kd.C_drew ?_))); (case side2 => exact HC0_5.out); (case side3 => repeat (first | exact (Kd.C_below HR1_5.out HB.out) | (with_reducible refine Kd.C_alloc ?_ _) | (with_reducible refine Kd.C_drewN ?_ _) | (with_reducible refine Kd.C_drew ?_))); (case side4 => exact HC1_5.out); rintro e w' ⟨rfl, ⟨nd, rfl⟩⟩; refine ⟨_, rfl, ?_⟩))
        go_ret
        exact ⟨by first | rfl | (simp [errW_none, errW_some] <;> rfl) | (simp [*, errW_none, errW_some] <;> rfl), by repeat (first | (with_reducible first | exact HB.out | apply below_alloc | apply pw_below_drewN | apply below_drew1 | refine below_set ?_ GE192.out | refine below_set ?_ GE193.out) | exact HB.out)⟩
    · replace c6 := Bool.eq_false_iff.mpr c6
      subst c6
      have H1 : (some false) = some r := by rw [if_neg (show ¬ (false = true) by decide)] at H; exact H
      clear H
      have H := H1
      clear H1
      obtain rfl := Option.some.inj H
      go_enter Try.func21, Try.ntmps21
      go_wp2_with (first | ((with_reducible refine gate_dst (N := 2) rfl ?_); refine box_event ?hg (N := 2) ?hd (cs := #[.int .i64 a0_0, .slice A0_1 l0_1.length c0_1, .int .i64 a0_2, .int .i64 a0_3, .int .i64 a0_4, .slice A0_5 l0_5.length c0_5, .int .i64 a0_6]) (t := 30) ?hr ?_; (case hd => rfl); (case hg => rfl); (case hr => first | (go_simp; done) | (go_simp; rfl)); intro gb192 hg w24 hbox hb; have n0_ := Aside0.mk (below_step (by repeat (first | (with_reducible first | exact HB.out | apply below_alloc | apply pw_below_drewN | apply below_drew1) | exact HB.out)) hb); have n1_ := Aside0.mk (hbox); have n2_ := Aside0.mk ((by rw [hg]; exact (below_size (by repeat (first | (with_reducible first | exact HB.out | apply below_alloc | apply pw_below_drewN | apply below_drew1) | exact HB.out))) : w.heap.size ≤ gb192)); have n3_ := Aside0.mk ((by rw [hg]; exact (below_size (by repeat (first | (with_reducible first | exact HB.out | apply below_alloc | apply pw_below_drewN | apply below_drew1) | exact HB.out))) : w.heap.size ≤ gb192)); clear HB; have HB := n0_; have BK192 := n1_; have GW192 := n2_; have GE192 := n3_; clear n0_ n1_ n2_ n3_; clear hb hbox hg) | ((with_reducible refine gate_dst (N := 3) rfl ?_); refine box_event ?hg (N := 3) ?hd (cs := #[.int .i64 a1_0, .slice A1_1 l1_1.length c1_1, .int .i64 a1_2, .int .i64 a1_3, .int .i64 a1_4, .slice A1_5 l1_5.length c1_5, .int .i64 a1_6]) (t := 30) ?hr ?_; (case hd => rfl); (case hg => rfl); (case hr => first | (go_simp; done) | (go_simp; rfl)); intro gb193 hg w25 hbox hb; have n0_ := Aside0.mk (blk_below (g := gb192) (o := .cells #[.int .i64 a0_0, .slice A0_1 l0_1.length c0_1, .int .i64 a0_2, .int .i64 a0_3, .int .i64 a0_4, .slice A0_5 l0_5.length c0_5, .int .i64 a0_6] 30 (0, 0)) (by (with_reducible repeat (first | refine blk_drewN ?_ _ | refine blk_drew ?_ | refine blk_alloc ?_ _)); exact BK192.out) hb); have n1_ := Aside0.mk (below_step (by repeat (first | (with_reducible first | exact HB.out | apply below_alloc | apply pw_below_drewN | apply below_drew1 | refine below_set ?_ GE192.out) | exact HB.out)) hb); have n2_ := Aside0.mk (hbox); have n3_ := Aside0.mk ((by rw [hg]; exact (below_size (by repeat (first | (with_reducible first | exact HB.out | apply below_alloc | apply pw_below_drewN | apply below_drew1 | refine below_set ?_ GE192.out) | exact HB.out))) : w.heap.size ≤ gb193)); have n4_ := Aside0.mk ((by rw [hg]; exact (below_size (by repeat (first | (with_reducible first | exact HB.out | apply below_alloc | apply pw_below_drewN | apply below_drew1 | refine below_set ?_ GE192.out) | exact HB.out))) : w.heap.size ≤ gb193)); have n5_ := Aside0.mk ((by rw [hg]; exact Nat.ne_of_lt (blk_lt (g := gb192) (o := .cells #[.int .i64 a0_0, .slice A0_1 l0_1.length c0_1, .int .i64 a0_2, .int .i64 a0_3, .int .i64 a0_4, .slice A0_5 l0_5.length c0_5, .int .i64 a0_6] 30 (0, 0)) (by (with_reducible repeat (first | refine blk_drewN ?_ _ | refine blk_drew ?_ | refine blk_alloc ?_ _)); exact BK192.out)) : gb192 ≠ gb193)); have n6_ := Aside0.mk ((by rw [hg]; exact Nat.ne_of_gt (blk_lt (g := gb192) (o := .cells #[.int .i64 a0_0, .slice A0_1 l0_1.length c0_1, .int .i64 a0_2, .int .i64 a0_3, .int .i64 a0_4, .slice A0_5 l0_5.length c0_5, .int .i64 a0_6] 30 (0, 0)) (by (with_reducible repeat (first | refine blk_drewN ?_ _ | refine blk_drew ?_ | refine blk_alloc ?_ _)); exact BK192.out)) : gb193 ≠ gb192)); clear BK192; clear HB; have BK192 := n0_; have HB := n1_; have BK193 := n2_; have GW193 := n3_; have GE193 := n4_; have NB192_193 := n5_; have NB193_192 := n6_; clear n0_ n1_ n2_ n3_ n4_ n5_ n6_; clear hb hbox hg; have hnb26 := NB192_193.out; have hnc26 := NB193_192.out; have hcz27_0 : w25.cell? ⟨gb192, 0, none⟩ = some (.int .i64 a0_0) := (blk_cell BK192.out 0).trans rfl; have hcz27_1 : w25.cell? ⟨gb192, 1, none⟩ = some (.slice A0_1 l0_1.length c0_1) := (blk_cell BK192.out 1).trans rfl; have hcz27_2 : w25.cell? ⟨gb192, 2, none⟩ = some (.int .i64 a0_2) := (blk_cell BK192.out 2).trans rfl; have hcz27_3 : w25.cell? ⟨gb192, 3, none⟩ = some (.int .i64 a0_3) := (blk_cell BK192.out 3).trans rfl; have hcz27_4 : w25.cell? ⟨gb192, 4, none⟩ = some (.int .i64 a0_4) := (blk_cell BK192.out 4).trans rfl; have hcz27_5 : w25.cell? ⟨gb192, 5, none⟩ = some (.slice A0_5 l0_5.length c0_5) := (blk_cell BK192.out 5).trans rfl; have hcz27_6 : w25.cell? ⟨gb192, 6, none⟩ = some (.int .i64 a0_6) := (blk_cell BK192.out 6).trans rfl; have hfz27_0 := blk_frozen BK192.out 0; have hfz27_1 := blk_frozen BK192.out 1; have hfz27_2 := blk_frozen BK192.out 2; have hfz27_3 := blk_frozen BK192.out 3; have hfz27_4 := blk_frozen BK192.out 4; have hfz27_5 := blk_frozen BK192.out 5; have hfz27_6 := blk_frozen BK192.out 6; have hcz28_0 : w25.cell? ⟨gb193, 0, none⟩ = some (.int .i64 a1_0) := (blk_cell BK193.out 0).trans rfl; have hcz28_1 : w25.cell? ⟨gb193, 1, none⟩ = some (.slice A1_1 l1_1.length c1_1) := (blk_cell BK193.out 1).trans rfl; have hcz28_2 : w25.cell? ⟨gb193, 2, none⟩ = some (.int .i64 a1_2) := (blk_cell BK193.out 2).trans rfl; have hcz28_3 : w25.cell? ⟨gb193, 3, none⟩ = some (.int .i64 a1_3) := (blk_cell BK193.out 3).trans rfl; have hcz28_4 : w25.cell? ⟨gb193, 4, none⟩ = some (.int .i64 a1_4) := (blk_cell BK193.out 4).trans rfl; have hcz28_5 : w25.cell? ⟨gb193, 5, none⟩ = some (.slice A1_5 l1_5.length c1_5) := (blk_cell BK193.out 5).trans rfl; have hcz28_6 : w25.cell? ⟨gb193, 6, none⟩ = some (.int .i64 a1_6) := (blk_cell BK193.out 6).trans rfl; have hfz28_0 := blk_frozen BK193.out 0; have hfz28_1 := blk_frozen BK193.out 1; have hfz28_2 := blk_frozen BK193.out 2; have hfz28_3 := blk_frozen BK193.out 3; have hfz28_4 := blk_frozen BK193.out 4; have hfz28_5 := blk_frozen BK193.out 5; have hfz28_6 := blk_frozen BK193.out 6) | ((with_reducible refine gate_callee (f := 46) rfl ?_); refine goesL_ (some 11) rfl rfl Try.func46 (by kernel_rfl) rfl #[.agg #[.slice A0_1 l0_1.length c0_1, .int .i64 a0_2, .int .i64 a0_3, .int .i64 a0_4], .agg #[.slice A1_1 l1_1.length c1_1, .int .i64 a1_2, .int .i64 a1_3, .int .i64 a1_4]] rfl (by (try simp only [List.map_toArray, List.map_cons, List.map_nil]); first | done | rfl | (simp only [List.length_drop, List.length_take]; rfl)) ?_; (with_reducible refine (thresherref04_Same.calls _ _ l0_1 a0_2 a0_3 a0_4 _ _ l1_1 a1_2 a1_3 a1_4 true _ ?side1 ?side2 ?side3 ?side4 A3.out).mono ?_); (case side1 => repeat (first | exact (Kd.C_below HR0_1.out HB.out) | (with_reducible refine Kd.C_alloc ?_ _) | (with_reducible refine Kd.C_drewN ?_ _) | (with_reducible refine Kd.C_drew ?_))); (case side2 => exact HC0_1.out); (case side3 => repeat (first | exact (Kd.C_below HR1_1.out HB.out) | (with_reducible refine Kd.C_alloc ?_ _) | (with_reducible refine Kd.C_drewN ?_ _) | (with_reducible refine Kd.C_drew ?_))); (case side4 => exact HC1_1.out); rintro e w29 ⟨rfl, hb⟩; refine ⟨_, rfl, ?_⟩; have n0_ := Aside0.mk (blk_below (g := gb192) (o := .cells #[.int .i64 a0_0, .slice A0_1 l0_1.length c0_1, .int .i64 a0_2, .int .i64 a0_3, .int .i64 a0_4, .slice A0_5 l0_5.length c0_5, .int .i64 a0_6] 30 (0, 0)) (by (with_reducible repeat (first | refine blk_drewN ?_ _ | refine blk_drew ?_ | refine blk_alloc ?_ _)); exact BK192.out) hb); have n1_ := Aside0.mk (blk_below (g := gb193) (o := .cells #[.int .i64 a1_0, .slice A1_1 l1_1.length c1_1, .int .i64 a1_2, .int .i64 a1_3, .int .i64 a1_4, .slice A1_5 l1_5.length c1_5, .int .i64 a1_6] 30 (0, 0)) (by (with_reducible repeat (first | refine blk_drewN ?_ _ | refine blk_drew ?_ | refine blk_alloc ?_ _)); exact BK193.out) hb); have n2_ := Aside0.mk (below_step (by repeat (first | (with_reducible first | exact HB.out | apply below_alloc | apply pw_below_drewN | apply below_drew1 | refine below_set ?_ GE192.out | refine below_set ?_ GE193.out) | exact HB.out)) hb); clear BK192; clear BK193; clear HB; have BK192 := n0_; have BK193 := n1_; have HB := n2_; clear n0_ n1_ n2_; (try clear hb); (try clear hb2); (try clear hk); (try clear hi); have hcz30_0 : w29.cell? ⟨gb192, 0, none⟩ = some (.int .i64 a0_0) := (blk_cell BK192.out 0).trans rfl; have hcz30_1 : w29.cell? ⟨gb192, 1, none⟩ = some (.slice A0_1 l0_1.length c0_1) := (blk_cell BK192.out 1).trans rfl; have hcz30_2 : w29.cell? ⟨gb192, 2, none⟩ = some (.int .i64 a0_2) := (blk_cell BK192.out 2).trans rfl; have hcz30_3 : w29.cell? ⟨gb192, 3, none⟩ = some (.int .i64 a0_3) := (blk_cell BK192.out 3).trans rfl; have hcz30_4 : w29.cell? ⟨gb192, 4, none⟩ = some (.int .i64 a0_4) := (blk_cell BK192.out 4).trans rfl; have hcz30_5 : w29.cell? ⟨gb192, 5, none⟩ = some (.slice A0_5 l0_5.length c0_5) := (blk_cell BK192.out 5).trans rfl; have hcz30_6 : w29.cell? ⟨gb192, 6, none⟩ = some (.int .i64 a0_6) := (blk_cell BK192.out 6).trans rfl; have hfz30_0 := blk_frozen BK192.out 0; have hfz30_1 := blk_frozen BK192.out 1; have hfz30_2 := blk_frozen BK192.out 2; have hfz30_3 := blk_frozen BK192.out 3; have hfz30_4 := blk_frozen BK192.out 4; have hfz30_5 := blk_frozen BK192.out 5; have hfz30_6 := blk_frozen BK192.out 6; have hcz31_0 : w29.cell? ⟨gb193, 0, none⟩ = some (.int .i64 a1_0) := (blk_cell BK193.out 0).trans rfl; have hcz31_1 : w29.cell? ⟨gb193, 1, none⟩ = some (.slice A1_1 l1_1.length c1_1) := (blk_cell BK193.out 1).trans rfl; have hcz31_2 : w29.cell? ⟨gb193, 2, none⟩ = some (.int .i64 a1_2) := (blk_cell BK193.out 2).trans rfl; have hcz31_3 : w29.cell? ⟨gb193, 3, none⟩ = some (.int .i64 a1_3) := (blk_cell BK193.out 3).trans rfl; have hcz31_4 : w29.cell? ⟨gb193, 4, none⟩ = some (.int .i64 a1_4) := (blk_cell BK193.out 4).trans rfl; have hcz31_5 : w29.cell? ⟨gb193, 5, none⟩ = some (.slice A1_5 l1_5.length c1_5) := (blk_cell BK193.out 5).trans rfl; have hcz31_6 : w29.cell? ⟨gb193, 6, none⟩ = some (.int .i64 a1_6) := (blk_cell BK193.out 6).trans rfl; have hfz31_0 := blk_frozen BK193.out 0; have hfz31_1 := blk_frozen BK193.out 1; have hfz31_2 := blk_frozen BK193.out 2; have hfz31_3 := blk_frozen BK193.out 3; have hfz31_4 := blk_frozen BK193.out 4; have hfz31_5 := blk_frozen BK193.out 5; have hfz31_6 := blk_frozen BK193.out 6) | ((with_reducible refine gate_callee (f := 47) rfl ?_); refine goesL_ (some 16) rfl rfl Try.func47 (by kernel_rfl) rfl #[.slice A0_5 l0_5.length c0_5, .slice A1_5 l1_5.length c1_5] rfl (by (try simp only [List.map_toArray, List.map_cons, List.map_nil]); first | done | rfl | (simp only [List.length_drop, List.length_take]; rfl)) ?_; (with_reducible refine (thresherref15_Same.calls _ _ l0_5 _ _ l1_5 false _ ?side1 ?side2 ?side3 ?side4 A4.out).mono ?_); (case side1 => repeat (first | exact (Kd.C_below HR0_5.out HB.out) | (with_reducible refine Kd.C_alloc ?_ _) | (with_reducible refine Kd.C_drewN ?_ _) | (with_reducible refine Kd.C_drew ?_))); (case side2 => exact HC0_5.out); (case side3 => repeat (first | exact (Kd.C_below HR1_5.out HB.out) | (with_reducible refine Kd.C_alloc ?_ _) | (with_reducible refine Kd.C_drewN ?_ _) | (with_reducible refine Kd.C_drew ?_))); (case side4 => exact HC1_5.out); rintro e w' ⟨rfl, ⟨nd, rfl⟩⟩; refine ⟨_, rfl, ?_⟩))
      go_ret
      exact ⟨by first | rfl | (simp [errW_none, errW_some] <;> rfl) | (simp [*, errW_none, errW_some] <;> rfl), by repeat (first | (with_reducible first | exact HB.out | apply below_alloc | apply pw_below_drewN | apply below_drew1 | refine below_set ?_ GE192.out | refine below_set ?_ GE193.out) | exact HB.out)⟩
  · replace c5 := Bool.eq_false_iff.mpr c5
    subst c5
    have H1 : (some false) = some r := by rw [if_neg (show ¬ (false = true) by decide)] at H; exact H
    clear H
    have H := H1
    clear H1
    obtain rfl := Option.some.inj H
    go_enter Try.func21, Try.ntmps21
    go_wp2_with (first | ((with_reducible refine gate_dst (N := 2) rfl ?_); refine box_event ?hg (N := 2) ?hd (cs := #[.int .i64 a0_0, .slice A0_1 l0_1.length c0_1, .int .i64 a0_2, .int .i64 a0_3, .int .i64 a0_4, .slice A0_5 l0_5.length c0_5, .int .i64 a0_6]) (t := 30) ?hr ?_; (case hd => rfl); (case hg => rfl); (case hr => first | (go_simp; done) | (go_simp; rfl)); intro gb192 hg w32 hbox hb; have n0_ := Aside0.mk (below_step (by repeat (first | (with_reducible first | exact HB.out | apply below_alloc | apply pw_below_drewN | apply below_drew1) | exact HB.out)) hb); have n1_ := Aside0.mk (hbox); have n2_ := Aside0.mk ((by rw [hg]; exact (below_size (by repeat (first | (with_reducible first | exact HB.out | apply below_alloc | apply pw_below_drewN | apply below_drew1) | exact HB.out))) : w.heap.size ≤ gb192)); have n3_ := Aside0.mk ((by rw [hg]; exact (below_size (by repeat (first | (with_reducible first | exact HB.out | apply below_alloc | apply pw_below_drewN | apply below_drew1) | exact HB.out))) : w.heap.size ≤ gb192)); clear HB; have HB := n0_; have BK192 := n1_; have GW192 := n2_; have GE192 := n3_; clear n0_ n1_ n2_ n3_; clear hb hbox hg) | ((with_reducible refine gate_dst (N := 3) rfl ?_); refine box_event ?hg (N := 3) ?hd (cs := #[.int .i64 a1_0, .slice A1_1 l1_1.length c1_1, .int .i64 a1_2, .int .i64 a1_3, .int .i64 a1_4, .slice A1_5 l1_5.length c1_5, .int .i64 a1_6]) (t := 30) ?hr ?_; (case hd => rfl); (case hg => rfl); (case hr => first | (go_simp; done) | (go_simp; rfl)); intro gb193 hg w33 hbox hb; have n0_ := Aside0.mk (blk_below (g := gb192) (o := .cells #[.int .i64 a0_0, .slice A0_1 l0_1.length c0_1, .int .i64 a0_2, .int .i64 a0_3, .int .i64 a0_4, .slice A0_5 l0_5.length c0_5, .int .i64 a0_6] 30 (0, 0)) (by (with_reducible repeat (first | refine blk_drewN ?_ _ | refine blk_drew ?_ | refine blk_alloc ?_ _)); exact BK192.out) hb); have n1_ := Aside0.mk (below_step (by repeat (first | (with_reducible first | exact HB.out | apply below_alloc | apply pw_below_drewN | apply below_drew1 | refine below_set ?_ GE192.out) | exact HB.out)) hb); have n2_ := Aside0.mk (hbox); have n3_ := Aside0.mk ((by rw [hg]; exact (below_size (by repeat (first | (with_reducible first | exact HB.out | apply below_alloc | apply pw_below_drewN | apply below_drew1 | refine below_set ?_ GE192.out) | exact HB.out))) : w.heap.size ≤ gb193)); have n4_ := Aside0.mk ((by rw [hg]; exact (below_size (by repeat (first | (with_reducible first | exact HB.out | apply below_alloc | apply pw_below_drewN | apply below_drew1 | refine below_set ?_ GE192.out) | exact HB.out))) : w.heap.size ≤ gb193)); have n5_ := Aside0.mk ((by rw [hg]; exact Nat.ne_of_lt (blk_lt (g := gb192) (o := .cells #[.int .i64 a0_0, .slice A0_1 l0_1.length c0_1, .int .i64 a0_2, .int .i64 a0_3, .int .i64 a0_4, .slice A0_5 l0_5.length c0_5, .int .i64 a0_6] 30 (0, 0)) (by (with_reducible repeat (first | refine blk_drewN ?_ _ | refine blk_drew ?_ | refine blk_alloc ?_ _)); exact BK192.out)) : gb192 ≠ gb193)); have n6_ := Aside0.mk ((by rw [hg]; exact Nat.ne_of_gt (blk_lt (g := gb192) (o := .cells #[.int .i64 a0_0, .slice A0_1 l0_1.length c0_1, .int .i64 a0_2, .int .i64 a0_3, .int .i64 a0_4, .slice A0_5 l0_5.length c0_5, .int .i64 a0_6] 30 (0, 0)) (by (with_reducible repeat (first | refine blk_drewN ?_ _ | refine blk_drew ?_ | refine blk_alloc ?_ _)); exact BK192.out)) : gb193 ≠ gb192)); clear BK192; clear HB; have BK192 := n0_; have HB := n1_; have BK193 := n2_; have GW193 := n3_; have GE193 := n4_; have NB192_193 := n5_; have NB193_192 := n6_; clear n0_ n1_ n2_ n3_ n4_ n5_ n6_; clear hb hbox hg; have hnb34 := NB192_193.out; have hnc34 := NB193_192.out; have hcz35_0 : w33.cell? ⟨gb192, 0, none⟩ = some (.int .i64 a0_0) := (blk_cell BK192.out 0).trans rfl; have hcz35_1 : w33.cell? ⟨gb192, 1, none⟩ = some (.slice A0_1 l0_1.length c0_1) := (blk_cell BK192.out 1).trans rfl; have hcz35_2 : w33.cell? ⟨gb192, 2, none⟩ = some (.int .i64 a0_2) := (blk_cell BK192.out 2).trans rfl; have hcz35_3 : w33.cell? ⟨gb192, 3, none⟩ = some (.int .i64 a0_3) := (blk_cell BK192.out 3).trans rfl; have hcz35_4 : w33.cell? ⟨gb192, 4, none⟩ = some (.int .i64 a0_4) := (blk_cell BK192.out 4).trans rfl; have hcz35_5 : w33.cell? ⟨gb192, 5, none⟩ = some (.slice A0_5 l0_5.length c0_5) := (blk_cell BK192.out 5).trans rfl; have hcz35_6 : w33.cell? ⟨gb192, 6, none⟩ = some (.int .i64 a0_6) := (blk_cell BK192.out 6).trans rfl; have hfz35_0 := blk_frozen BK192.out 0; have hfz35_1 := blk_frozen BK192.out 1; have hfz35_2 := blk_frozen BK192.out 2; have hfz35_3 := blk_frozen BK192.out 3; have hfz35_4 := blk_frozen BK192.out 4; have hfz35_5 := blk_frozen BK192.out 5; have hfz35_6 := blk_frozen BK192.out 6; have hcz36_0 : w33.cell? ⟨gb193, 0, none⟩ = some (.int .i64 a1_0) := (blk_cell BK193.out 0).trans rfl; have hcz36_1 : w33.cell? ⟨gb193, 1, none⟩ = some (.slice A1_1 l1_1.length c1_1) := (blk_cell BK193.out 1).trans rfl; have hcz36_2 : w33.cell? ⟨gb193, 2, none⟩ = some (.int .i64 a1_2) := (blk_cell BK193.out 2).trans rfl; have hcz36_3 : w33.cell? ⟨gb193, 3, none⟩ = some (.int .i64 a1_3) := (blk_cell BK193.out 3).trans rfl; have hcz36_4 : w33.cell? ⟨gb193, 4, none⟩ = some (.int .i64 a1_4) := (blk_cell BK193.out 4).trans rfl; have hcz36_5 : w33.cell? ⟨gb193, 5, none⟩ = some (.slice A1_5 l1_5.length c1_5) := (blk_cell BK193.out 5).trans rfl; have hcz36_6 : w33.cell? ⟨gb193, 6, none⟩ = some (.int .i64 a1_6) := (blk_cell BK193.out 6).trans rfl; have hfz36_0 := blk_frozen BK193.out 0; have hfz36_1 := blk_frozen BK193.out 1; have hfz36_2 := blk_frozen BK193.out 2; have hfz36_3 := blk_frozen BK193.out 3; have hfz36_4 := blk_frozen BK193.out 4; have hfz36_5 := blk_frozen BK193.out 5; have hfz36_6 := blk_frozen BK193.out 6) | ((with_reducible refine gate_callee (f := 46) rfl ?_); refine goesL_ (some 11) rfl rfl Try.func46 (by kernel_rfl) rfl #[.agg #[.slice A0_1 l0_1.length c0_1, .int .i64 a0_2, .int .i64 a0_3, .int .i64 a0_4], .agg #[.slice A1_1 l1_1.length c1_1, .int .i64 a1_2, .int .i64 a1_3, .int .i64 a1_4]] rfl (by (try simp only [List.map_toArray, List.map_cons, List.map_nil]); first | done | rfl | (simp only [List.length_drop, List.length_take]; rfl)) ?_; (with_reducible refine (thresherref04_Same.calls _ _ l0_1 a0_2 a0_3 a0_4 _ _ l1_1 a1_2 a1_3 a1_4 false _ ?side1 ?side2 ?side3 ?side4 A3.out).mono ?_); (case side1 => repeat (first | exact (Kd.C_below HR0_1.out HB.out) | (with_reducible refine Kd.C_alloc ?_ _) | (with_reducible refine Kd.C_drewN ?_ _) | (with_reducible refine Kd.C_drew ?_))); (case side2 => exact HC0_1.out); (case side3 => repeat (first | exact (Kd.C_below HR1_1.out HB.out) | (with_reducible refine Kd.C_alloc ?_ _) | (with_reducible refine Kd.C_drewN ?_ _) | (with_reducible refine Kd.C_drew ?_))); (case side4 => exact HC1_1.out); rintro e w37 ⟨rfl, hb⟩; refine ⟨_, rfl, ?_⟩; have n0_ := Aside0.mk (blk_below (g := gb192) (o := .cells #[.int .i64 a0_0, .slice A0_1 l0_1.length c0_1, .int .i64 a0_2, .int .i64 a0_3, .int .i64 a0_4, .slice A0_5 l0_5.length c0_5, .int .i64 a0_6] 30 (0, 0)) (by (with_reducible repeat (first | refine blk_drewN ?_ _ | refine blk_drew ?_ | refine blk_alloc ?_ _)); exact BK192.out) hb); have n1_ := Aside0.mk (blk_below (g := gb193) (o := .cells #[.int .i64 a1_0, .slice A1_1 l1_1.length c1_1, .int .i64 a1_2, .int .i64 a1_3, .int .i64 a1_4, .slice A1_5 l1_5.length c1_5, .int .i64 a1_6] 30 (0, 0)) (by (with_reducible repeat (first | refine blk_drewN ?_ _ | refine blk_drew ?_ | refine blk_alloc ?_ _)); exact BK193.out) hb); have n2_ := Aside0.mk (below_step (by repeat (first | (with_reducible first | exact HB.out | apply below_alloc | apply pw_below_drewN | apply below_drew1 | refine below_set ?_ GE192.out | refine below_set ?_ GE193.out) | exact HB.out)) hb); clear BK192; clear BK193; clear HB; have BK192 := n0_; have BK193 := n1_; have HB := n2_; clear n0_ n1_ n2_; (try clear hb); (try clear hb2); (try clear hk); (try clear hi); have hcz38_0 : w37.cell? ⟨gb192, 0, none⟩ = some (.int .i64 a0_0) := (blk_cell BK192.out 0).trans rfl; have hcz38_1 : w37.cell? ⟨gb192, 1, none⟩ = some (.slice A0_1 l0_1.length c0_1) := (blk_cell BK192.out 1).trans rfl; have hcz38_2 : w37.cell? ⟨gb192, 2, none⟩ = some (.int .i64 a0_2) := (blk_cell BK192.out 2).trans rfl; have hcz38_3 : w37.cell? ⟨gb192, 3, none⟩ = some (.int .i64 a0_3) := (blk_cell BK192.out 3).trans rfl; have hcz38_4 : w37.cell? ⟨gb192, 4, none⟩ = some (.int .i64 a0_4) := (blk_cell BK192.out 4).trans rfl; have hcz38_5 : w37.cell? ⟨gb192, 5, none⟩ = some (.slice A0_5 l0_5.length c0_5) := (blk_cell BK192.out 5).trans rfl; have hcz38_6 : w37.cell? ⟨gb192, 6, none⟩ = some (.int .i64 a0_6) := (blk_cell BK192.out 6).trans rfl; have hfz38_0 := blk_frozen BK192.out 0; have hfz38_1 := blk_frozen BK192.out 1; have hfz38_2 := blk_frozen BK192.out 2; have hfz38_3 := blk_frozen BK192.out 3; have hfz38_4 := blk_frozen BK192.out 4; have hfz38_5 := blk_frozen BK192.out 5; have hfz38_6 := blk_frozen BK192.out 6; have hcz39_0 : w37.cell? ⟨gb193, 0, none⟩ = some (.int .i64 a1_0) := (blk_cell BK193.out 0).trans rfl; have hcz39_1 : w37.cell? ⟨gb193, 1, none⟩ = some (.slice A1_1 l1_1.length c1_1) := (blk_cell BK193.out 1).trans rfl; have hcz39_2 : w37.cell? ⟨gb193, 2, none⟩ = some (.int .i64 a1_2) := (blk_cell BK193.out 2).trans rfl; have hcz39_3 : w37.cell? ⟨gb193, 3, none⟩ = some (.int .i64 a1_3) := (blk_cell BK193.out 3).trans rfl; have hcz39_4 : w37.cell? ⟨gb193, 4, none⟩ = some (.int .i64 a1_4) := (blk_cell BK193.out 4).trans rfl; have hcz39_5 : w37.cell? ⟨gb193, 5, none⟩ = some (.slice A1_5 l1_5.length c1_5) := (blk_cell BK193.out 5).trans rfl; have hcz39_6 : w37.cell? ⟨gb193, 6, none⟩ = some (.int .i64 a1_6) := (blk_cell BK193.out 6).trans rfl; have hfz39_0 := blk_frozen BK193.out 0; have hfz39_1 := blk_frozen BK193.out 1; have hfz39_2 := blk_frozen BK193.out 2; have hfz39_3 := blk_frozen BK193.out 3; have hfz39_4 := blk_frozen BK193.out 4; have hfz39_5 := blk_frozen BK193.out 5; have hfz39_6 := blk_frozen BK193.out 6) | ((with_reducible refine gate_callee (f := 47) rfl ?_); refine goesL_ (some 16) rfl rfl Try.func47 (by kernel_rfl) rfl #[.slice A0_5 l0_5.length c0_5, .slice A1_5 l1_5.length c1_5] rfl (by (try simp only [List.map_toArray, List.map_cons, List.map_nil]); first | done | rfl | (simp only [List.length_drop, List.length_take]; rfl)) ?_; (with_reducible refine (thresherref15_Same.calls _ _ l0_5 _ _ l1_5 t195 _ ?side1 ?side2 ?side3 ?side4 A4.out).mono ?_); (case side1 => repeat (first | exact (Kd.C_below HR0_5.out HB.out) | (with_reducible refine Kd.C_alloc ?_ _) | (with_reducible refine Kd.C_drewN ?_ _) | (with_reducible refine Kd.C_drew ?_))); (case side2 => exact HC0_5.out); (case side3 => repeat (first | exact (Kd.C_below HR1_5.out HB.out) | (with_reducible refine Kd.C_alloc ?_ _) | (with_reducible refine Kd.C_drewN ?_ _) | (with_reducible refine Kd.C_drew ?_))); (case side4 => exact HC1_5.out); rintro e w' ⟨rfl, ⟨nd, rfl⟩⟩; refine ⟨_, rfl, ?_⟩))
    go_ret
    exact ⟨by first | rfl | (simp [errW_none, errW_some] <;> rfl) | (simp [*, errW_none, errW_some] <;> rfl), by repeat (first | (with_reducible first | exact HB.out | apply below_alloc | apply pw_below_drewN | apply below_drew1 | refine below_set ?_ GE192.out | refine below_set ?_ GE193.out) | exact HB.out)⟩

/-! ### thresherref04_Made: function 22 -/
/-- What numbers make a schema. -/
def thresherref04_Made_k (n : Int) : Nat := 1 + n.toNat % 8
def thresherref04_Made_ts (bs : List Int) (n : Int) : List Int := (bs.take (thresherref04_Made_k n)).map fun b => 1 + b % 3
def thresherref04_Made_keys (n keys : Int) : Int := 1 + ((keys.toNat % thresherref04_Made_k n : Nat) : Int)
def thresherref04_Made_mode (mode : Int) : Int := 1 + ((mode.toNat % 3 : Nat) : Int)
def thresherref04_Made_grain (grain : Int) : Int := 1 + ((grain.toNat % 8 : Nat) : Int)
set_option maxHeartbeats 2000000 in
theorem thresherref04_Made_ok (bs : List Int) (hb : bs.length = 8) (hB : YtanfmnobanhcnaaH.Crc.isB bs) (n keys mode grain : Int) : YtanfmnobanhcnaaH.Rec.schemaOk (thresherref04_Made_ts bs n) (thresherref04_Made_keys n keys) (thresherref04_Made_mode mode) (thresherref04_Made_grain grain) = true := by
  have hk : (thresherref04_Made_ts bs n).length = thresherref04_Made_k n := by unfold thresherref04_Made_ts thresherref04_Made_k; rw [List.length_map, List.length_take]; omega
  have h8 : 1 ≤ thresherref04_Made_k n ∧ thresherref04_Made_k n ≤ 8 := by unfold thresherref04_Made_k; omega
  rw [YtanfmnobanhcnaaH.Rec.schemaOk_iff, hk]
  refine ⟨by omega, fun t ht => ?_, ?_, ?_, ?_⟩
  · obtain ⟨b, hb, rfl⟩ := List.mem_map.1 ht
    have := hB b (List.mem_of_mem_take hb)
    omega
  · unfold thresherref04_Made_keys
    have := Nat.mod_lt keys.toNat (show 0 < thresherref04_Made_k n by omega)
    omega
  · unfold thresherref04_Made_mode; omega
  · unfold thresherref04_Made_grain; omega
set_option maxHeartbeats 2000000 in
theorem thresherref04_Made_sz (w : World) (o : Obj) : (w.alloc o).heap.size = w.heap.size + 1 := by
  show (w.heap.push _).size = _
  simp
set_option maxHeartbeats 8000000 in
set_option maxRecDepth 100000 in
theorem thresherref04_Made.calls (bs : List Int) (n keys mode grain : Int) (w : World) (hbl : bs.length = 8) (hB : YtanfmnobanhcnaaH.Crc.isB bs) (hn : 0 ≤ n ∧ n < 256) (hkeys : 0 ≤ keys ∧ keys < 256) (hmode : 0 ≤ mode ∧ mode < 256) (hgrain : 0 ≤ grain ∧ grain < 256) :
    Calls Try.prog 22 #[.agg (bs.map (Value.int .u8)).toArray, .int .u8 n, .int .u8 keys, .int .u8 mode, .int .u8 grain] w fun e w' => ∃ vT, e = .returned (.agg #[vT, .int .i64 (thresherref04_Made_keys n keys), .int .i64 (thresherref04_Made_mode mode), .int .i64 (thresherref04_Made_grain grain)]) ∧
      Kd.V (Kd.int .i64) 3 w' 0 (fun k => w.heap.size ≤ k) vT (thresherref04_Made_ts bs n) ∧ Below w.heap.size w w' := by
  have hu25 := Try.underlying25
  obtain ⟨x, hx⟩ : ∃ x : Nat, x = n.toNat % 8 := ⟨_, rfl⟩
  have htx : (n).tmod 8 = (x : Int) := by
    have h1 := YtanfmnobanhcnaaH.Crc.tmod_nat n.toNat 8
    have e : ((n.toNat : Nat) : Int) = n := by omega
    rw [← hx, e] at h1
    exact h1
  have HWx := Aside0.mk (show wrap64 n = n from YtanfmnobanhcnaaH.Crc.wrap64_in _ (by omega) (by omega))
  obtain ⟨r, hr⟩ : ∃ r : Int, r = 1 + (x : Int) := ⟨_, rfl⟩
  obtain ⟨z, hz⟩ : ∃ x : Nat, x = mode.toNat % 3 := ⟨_, rfl⟩
  have htz : (mode).tmod 3 = (z : Int) := by
    have h1 := YtanfmnobanhcnaaH.Crc.tmod_nat mode.toNat 3
    have e : ((mode.toNat : Nat) : Int) = mode := by omega
    rw [← hz, e] at h1
    exact h1
  have HWz := Aside0.mk (show wrap64 mode = mode from YtanfmnobanhcnaaH.Crc.wrap64_in _ (by omega) (by omega))
  obtain ⟨m1, hm1⟩ : ∃ r : Int, r = 1 + (z : Int) := ⟨_, rfl⟩
  obtain ⟨u, hu⟩ : ∃ x : Nat, x = grain.toNat % 8 := ⟨_, rfl⟩
  have htu : (grain).tmod 8 = (u : Int) := by
    have h1 := YtanfmnobanhcnaaH.Crc.tmod_nat grain.toNat 8
    have e : ((grain.toNat : Nat) : Int) = grain := by omega
    rw [← hu, e] at h1
    exact h1
  have HWu := Aside0.mk (show wrap64 grain = grain from YtanfmnobanhcnaaH.Crc.wrap64_in _ (by omega) (by omega))
  obtain ⟨g1, hg1⟩ : ∃ r : Int, r = 1 + (u : Int) := ⟨_, rfl⟩
  obtain ⟨K, hK⟩ : ∃ K : Nat, K = 1 + x := ⟨_, rfl⟩
  have HRK := Aside0.mk (show wrap64 (1 + (x : Int)) = (K : Int) by rw [hK]; exact (YtanfmnobanhcnaaH.Crc.wrap64_in _ (by omega) (by omega)).trans (by omega))
  obtain ⟨y, hy⟩ : ∃ y : Nat, y = keys.toNat % K := ⟨_, rfl⟩
  have hty : (keys).tmod (K : Int) = (y : Int) := by
    have h1 := YtanfmnobanhcnaaH.Crc.tmod_nat keys.toNat K
    have e : ((keys.toNat : Nat) : Int) = keys := by omega
    rw [← hy, e] at h1
    exact h1
  have hyK : y < K := by rw [hy]; exact Nat.mod_lt _ (by omega)
  have HWy := Aside0.mk (show wrap64 keys = keys from YtanfmnobanhcnaaH.Crc.wrap64_in _ (by omega) (by omega))
  obtain ⟨k1, hk1⟩ : ∃ r : Int, r = 1 + (y : Int) := ⟨_, rfl⟩
  have HR1 := Aside0.mk (show wrap64 (1 + (y : Int)) = k1 by rw [hk1]; exact YtanfmnobanhcnaaH.Crc.wrap64_in _ (by omega) (by omega))
  have HR2 := Aside0.mk (show wrap64 (1 + (z : Int)) = m1 by rw [hm1]; exact YtanfmnobanhcnaaH.Crc.wrap64_in _ (by omega) (by omega))
  have HR3 := Aside0.mk (show wrap64 (1 + (u : Int)) = g1 by rw [hg1]; exact YtanfmnobanhcnaaH.Crc.wrap64_in _ (by omega) (by omega))
  have hK0 : ((K : Int) == 0) = false := by rw [beq_eq_false_iff_ne]; omega
  have hK0' : ¬ (K : Int) = 0 := by omega
  have hK0'' : ¬ K = 0 := by omega
  have HRS := Aside0.mk (show thresherref04_Made_k n = K ∧ thresherref04_Made_keys n keys = k1 ∧ thresherref04_Made_mode mode = m1 ∧ thresherref04_Made_grain grain = g1 by
    refine ⟨?_, ?_, ?_, ?_⟩
    · unfold thresherref04_Made_k; rw [← hx, hK]
    · unfold thresherref04_Made_keys thresherref04_Made_k; rw [← hx, ← hK, ← hy, hk1]
    · unfold thresherref04_Made_mode; rw [← hz, hm1]
    · unfold thresherref04_Made_grain; rw [← hu, hg1])
  have HK8 := Aside0.mk (show 1 ≤ K ∧ K ≤ 8 by omega)
  clear hx hz hu hy hK hk1 hm1 hg1 hn hkeys hmode hgrain hr hyK
  have hwx := HWx.out
  have hwz := HWz.out
  have hwu := HWu.out
  have hwy := HWy.out
  have hrK := HRK.out
  have hr1 := HR1.out
  have hr2 := HR2.out
  have hr3 := HR3.out
  go_enter Try.func22, Try.ntmps22
  go_wp2_with fail
  try rw [HRK.out]
  clear hK0 hK0' hK0'' hr1 hr2 hr3 hrK htx htz htu hty hwx hwz hwu hwy
  obtain ⟨gl, hgl⟩ : ∃ gl, gl = w.heap.size := ⟨_, rfl⟩
  obtain ⟨gb, hgb⟩ : ∃ gb, gb = w.heap.size + 1 := ⟨_, rfl⟩
  obtain ⟨gs, hgs⟩ : ∃ gs, gs = w.heap.size + 1 + 1 := ⟨_, rfl⟩
  rw [← hgs, ← hgb, ← hgl]
  have hL : (((w.alloc (.cells (bs.map (Value.int .u8)).toArray 38)).alloc (.cells #[.slice none 0 0, .int .i64 0, .int .i64 0, .int .i64 0] 25)).alloc (.cells #[.slice none 0 0, .int .i64 k1, .int .i64 m1, .int .i64 g1] 25)).heap[gl]? = some (.cells (bs.map (Value.int .u8)).toArray 38) := by rw [hgl]; exact blk_alloc (blk_alloc (blk_new w _) _) _
  have hZ : (((w.alloc (.cells (bs.map (Value.int .u8)).toArray 38)).alloc (.cells #[.slice none 0 0, .int .i64 0, .int .i64 0, .int .i64 0] 25)).alloc (.cells #[.slice none 0 0, .int .i64 k1, .int .i64 m1, .int .i64 g1] 25)).heap[gb]? = some (.cells #[.slice none 0 0, .int .i64 0, .int .i64 0, .int .i64 0] 25) := by rw [hgb, ← thresherref04_Made_sz w (.cells (bs.map (Value.int .u8)).toArray 38)]; exact blk_alloc (blk_new (w.alloc (.cells (bs.map (Value.int .u8)).toArray 38)) _) _
  have hS : (((w.alloc (.cells (bs.map (Value.int .u8)).toArray 38)).alloc (.cells #[.slice none 0 0, .int .i64 0, .int .i64 0, .int .i64 0] 25)).alloc (.cells #[.slice none 0 0, .int .i64 k1, .int .i64 m1, .int .i64 g1] 25)).heap[gs]? = some (.cells #[.slice none 0 0, .int .i64 k1, .int .i64 m1, .int .i64 g1] 25) := by rw [hgs, ← thresherref04_Made_sz w (.cells (bs.map (Value.int .u8)).toArray 38), ← thresherref04_Made_sz (w.alloc (.cells (bs.map (Value.int .u8)).toArray 38)) (.cells #[.slice none 0 0, .int .i64 0, .int .i64 0, .int .i64 0] 25)]; exact blk_new ((w.alloc (.cells (bs.map (Value.int .u8)).toArray 38)).alloc (.cells #[.slice none 0 0, .int .i64 0, .int .i64 0, .int .i64 0] 25)) _
  have hBB := Below.alloc (Below.alloc (YtanfmnobanhcnaaH.below_alloc1 w (.cells (bs.map (Value.int .u8)).toArray 38)) (by rw [thresherref04_Made_sz]; omega) (.cells #[.slice none 0 0, .int .i64 0, .int .i64 0, .int .i64 0] 25)) (by rw [thresherref04_Made_sz, thresherref04_Made_sz]; omega) (.cells #[.slice none 0 0, .int .i64 k1, .int .i64 m1, .int .i64 g1] 25)
  have hlt1 : gl < gb := by omega
  have hlt2 : gb < gs := by omega
  have hwb : w.heap.size ≤ gb := by omega
  have HWL := Aside0.mk hgl
  have HSZ0 := Aside0.mk (show gs < (((w.alloc (.cells (bs.map (Value.int .u8)).toArray 38)).alloc (.cells #[.slice none 0 0, .int .i64 0, .int .i64 0, .int .i64 0] 25)).alloc (.cells #[.slice none 0 0, .int .i64 k1, .int .i64 m1, .int .i64 g1] 25)).heap.size from blk_lt hS)
  clear hgl hgb hgs
  go_loopw [13] (fun v13 w' => ∃ (i : Nat) (v5 : Value), v13 = .int .i64 (i : Int) ∧ Aside0 (i ≤ K) ∧ Aside0 (w'.heap[gl]? = some (.cells (bs.map (Value.int .u8)).toArray 38)) ∧ Aside0 (w'.heap[gb]? = some (.cells #[.slice none 0 0, .int .i64 0, .int .i64 0, .int .i64 0] 25)) ∧ Aside0 (w'.heap[gs]? = some (.cells #[v5, .int .i64 k1, .int .i64 m1, .int .i64 g1] 25)) ∧ Aside0 (Kd.R (Kd.int .i64) 3 w' (gs + 1) (fun k => gs < k) v5 ((bs.take i).map fun b => 1 + b % 3)) ∧ Aside0 (gs < w'.heap.size) ∧ Aside0 (Below w.heap.size w w')) (fun v13 _ => K - (intOf v13).toNat)
  case atStart => exact ⟨0, _, rfl, ⟨Nat.zero_le _⟩, ⟨hL⟩, ⟨hZ⟩, ⟨hS⟩, ⟨Kd.R_nil _ _ _ _ _⟩, HSZ0, ⟨hBB⟩⟩
  case round =>
    clear hL hZ hS hBB HSZ0
    obtain ⟨i, v5, rfl, HI, HL, HZ, HS, HO, HSZ, HB⟩ := hrel
    obtain ⟨A5, c5, e5⟩ := Kd.R_slice HO.out
    subst e5
    have hne1 : gb ≠ gs := by omega
    have hne1' : gs ≠ gb := by omega
    have hne2 : gl ≠ gs := by omega
    by_cases hlt : i < K
    · have hltK : (i : Int) < (K : Int) := by omega
      have hi8 : i < bs.length := by have := HK8.out; omega
      obtain ⟨b, hb⟩ : ∃ b, b = bs[i] := ⟨_, rfl⟩
      have hbB := hB b (by rw [hb]; exact List.getElem_mem hi8)
      have hcl0 : wr.drew.cell? ⟨gl, i, none⟩ = some (.int .u8 b) := (blk_cell (show wr.drew.heap[gl]? = _ from HL.out) i).trans (by rw [hb]; simp [hi8])
      obtain ⟨xs, hxs⟩ : ∃ xs, xs = (bs.take i).map fun b => 1 + b % 3 := ⟨_, rfl⟩
      have ho := HO.out
      rw [← hxs] at ho HS
      have hxl : xs.length = i := by rw [hxs, List.length_map, List.length_take]; omega
      obtain ⟨t, ht⟩ : ∃ t : Int, t = 1 + ((b.toNat % 3 : Nat) : Int) := ⟨_, rfl⟩
      have HSUC := Aside0.mk (show ((bs.take (i + 1)).map fun b => 1 + b % 3) = xs ++ [t] by
        rw [List.take_succ_eq_append_getElem hi8, List.map_append, ← hxs, ← hb, ht]
        simp
        omega)
      obtain ⟨x2, hx2⟩ : ∃ x2 : Nat, x2 = b.toNat % 3 := ⟨_, rfl⟩
      have htb : b.tmod 3 = (x2 : Int) := by
        have h1 := YtanfmnobanhcnaaH.Crc.tmod_nat b.toNat 3
        have e : ((b.toNat : Nat) : Int) = b := by omega
        rw [← hx2, e] at h1
        exact h1
      rw [← hx2] at ht
      have hi8b : (i : Int) < 8 := by omega
      have HO1 := Aside0.mk (Kd.R_drew ho)
      have HL1 := Aside0.mk (show wr.drew.heap[gl]? = _ from HL.out)
      have HZ1 := Aside0.mk (show wr.drew.heap[gb]? = _ from HZ.out)
      have HS1 := Aside0.mk (show wr.drew.heap[gs]? = _ from HS.out)
      have HB1 := Aside0.mk (below_drew1 HB.out)
      have HSZ1 := Aside0.mk (show gs + 1 ≤ wr.drew.heap.size from HSZ.out)
      have HXL := Aside0.mk (show (xs.length + 1) * 8 ≤ 140737488355328 by have := HK8.out; omega)
      have HBT := Aside0.mk (show (0 ≤ b ∧ b < 256) ∧ t = 1 + (x2 : Int) ∧ x2 < 3 from ⟨hbB, ht, by rw [hx2]; exact Nat.mod_lt _ (by decide)⟩)
      have hcs0 := YtanfmnobanhcnaaH.cellv HS1.out 0 _ rfl
      have HW1 := Aside0.mk (show wrap64 b = b from YtanfmnobanhcnaaH.Crc.wrap64_in _ (by have := HBT.out; omega) (by have := HBT.out; omega))
      have HW2 := Aside0.mk (show wrap64 (1 + (x2 : Int)) = t by rw [HBT.out.2.1]; exact YtanfmnobanhcnaaH.Crc.wrap64_in _ (by have := HBT.out; omega) (by have := HBT.out; omega))
      clear HL HZ HS HO HSZ HB ho hxs hxl hb hbB ht hx2
      have hwb2 := HW1.out
      have hwt := HW2.out
      go_wp2_with fail
      refine start_ (n := 12) (S := fun w' => w'.cell? ⟨gs, 0, none⟩ = some (.slice A5 xs.length c5) ∧ w'.cell? ⟨gl, i, none⟩ = some (.int .u8 b)) (ds := [11]) #[false, false, false, false, false, false, false, false, false, false, false, false] (by kernel_rfl) rfl rfl ⟨hcs0, hcl0⟩ (fun hHeld => ?_)
      generalize wr.drew = w5 at HO1 HL1 HZ1 HS1 HB1 HSZ1 hcs0 hcl0 hHeld ⊢
      refine pure_ (i := 0) (N := some 37) (v := ?_) (a' := ?_) #[true, false, false, false, false, false, false, false, false, false, false, false] rfl rfl (by kernel_rfl) (fun _ _ _ h => h) (Or.inl ⟨by rfl, ?_⟩) ?_ ?_
      rotate_left
      · intro w'
        go_simp
        with_reducible rfl
      rotate_left
      · simp only [Act.put, List.setIfInBounds_toArray, List.set_cons_zero, List.set_cons_succ, i64_w, i32_w]
        rfl
      refine pure_ (i := 2) (N := some 39) (v := ?_) (a' := ?_) #[true, false, true, false, false, false, false, false, false, false, false, false] rfl rfl (by kernel_rfl) (fun _ _ _ h => h) (Or.inl ⟨by rfl, ?_⟩) ?_ ?_
      rotate_left
      · intro w'
        go_simp
        with_reducible rfl
      rotate_left
      · simp only [Act.put, List.setIfInBounds_toArray, List.set_cons_zero, List.set_cons_succ, i64_w, i32_w]
        rfl
      refine pure_ (i := 3) (N := some 40) (v := ?_) (a' := ?_) #[true, false, true, true, false, false, false, false, false, false, false, false] rfl rfl (by kernel_rfl) (fun _ _ _ h => h) (Or.inl ⟨by rfl, ?_⟩) ?_ ?_
      rotate_left
      · intro w'
        go_simp
        with_reducible rfl
      rotate_left
      · simp only [Act.put, List.setIfInBounds_toArray, List.set_cons_zero, List.set_cons_succ, i64_w, i32_w]
        rfl
      refine take_ (i := 1) (N := some 38) (v := ?_) (a' := ?_) #[true, true, true, true, false, false, false, false, false, false, false, false] rfl rfl (by kernel_rfl) (fun _ _ _ h => h) (Or.inl ⟨by rfl, ?_⟩) hHeld ?_ ?_
      rotate_left
      · rintro w' ⟨s0, s1⟩
        go_simp
        with_reducible rfl
      rotate_left
      · simp only [Act.put, List.setIfInBounds_toArray, List.set_cons_zero, List.set_cons_succ, i64_w, i32_w]
        rfl
      refine take_ (i := 4) (N := some 41) (v := ?_) (a' := ?_) #[true, true, true, true, true, false, false, false, false, false, false, false] rfl rfl (by kernel_rfl) (fun _ _ _ h => h) (Or.inl ⟨by rfl, ?_⟩) hHeld ?_ ?_
      rotate_left
      · rintro w' ⟨s0, s1⟩
        go_simp
        with_reducible rfl
      rotate_left
      · simp only [Act.put, List.setIfInBounds_toArray, List.set_cons_zero, List.set_cons_succ, i64_w, i32_w]
        rfl
      refine pure_ (i := 5) (N := some 42) (v := ?_) (a' := ?_) #[true, true, true, true, true, true, false, false, false, false, false, false] rfl rfl (by kernel_rfl) (fun _ _ _ h => h) (Or.inl ⟨by rfl, ?_⟩) ?_ ?_
      rotate_left
      · intro w'
        go_simp
        with_reducible rfl
      rotate_left
      · simp only [Act.put, List.setIfInBounds_toArray, List.set_cons_zero, List.set_cons_succ, i64_w, i32_w]
        rfl
      refine pure_ (i := 6) (N := some 43) (v := ?_) (a' := ?_) #[true, true, true, true, true, true, true, false, false, false, false, false] rfl rfl (by kernel_rfl) (fun _ _ _ h => h) (Or.inl ⟨by rfl, ?_⟩) ?_ ?_
      rotate_left
      · intro w'
        go_simp
        with_reducible rfl
      rotate_left
      · simp only [Act.put, List.setIfInBounds_toArray, List.set_cons_zero, List.set_cons_succ, i64_w, i32_w]
        rfl
      refine pure_ (i := 7) (N := some 44) (v := ?_) (a' := ?_) #[true, true, true, true, true, true, true, true, false, false, false, false] rfl rfl (by kernel_rfl) (fun _ _ _ h => h) (Or.inl ⟨by rfl, ?_⟩) ?_ ?_
      rotate_left
      · intro w'
        go_simp
        with_reducible rfl
      rotate_left
      · simp only [Act.put, List.setIfInBounds_toArray, List.set_cons_zero, List.set_cons_succ, i64_w, i32_w]
        rfl
      refine one_ (i := 8) (N := some 45) #[true, true, true, true, true, true, true, true, true, false, false, false] rfl rfl (by kernel_rfl) (by decide) (fun K hK => ?_)
      refine value_ (w1 := ?_) (v := ?_) (by rfl) rfl ?_ ?_
      rotate_left 2
      · go_simp
        constructor
        · rfl
        · rfl
      refine hK.out _ _ ⟨(World.cell?_alloc_lt _ _ _ (World.block_lt_of_cell? _ _ (hHeld.1))).trans (hHeld.1), (World.cell?_alloc_lt _ _ _ (World.block_lt_of_cell? _ _ (hHeld.2))).trans (hHeld.2)⟩ (fun hHeld => ?_)
      clear hK K
      refine norm_ (a' := ?_) ?_ ?_
      rotate_left
      · show Act.put _ (some 45) _ = _
        simp only [Act.put, List.setIfInBounds_toArray, List.set_cons_zero, List.set_cons_succ, i64_w, i32_w]
        rfl
      refine one_ (i := 9) (N := some 46) #[true, true, true, true, true, true, true, true, true, true, false, false] rfl rfl (by kernel_rfl) (by decide) (fun K hK => ?_)
      clear hwb2 hwt htb
      refine Kd.R_append_step (Kd.int .i64) (w0 := w5) (gs + 1) (by rfl) (.tmp 38) (.tmp 45) 23 3 (.int .i64 0) 8 rfl Try.underlying23 info3 rfl (by decide) (by decide) (.slice A5 xs.length c5) xs t [.int .i64 t] (fun k => gs < k) (fun _ => False) rfl rfl rfl (fun _ hk => hk.elim) (fun k hk => Nat.lt_of_lt_of_le HSZ1.out hk) HO1.out (Below.refl _ _) HSZ1.out HXL.out ?_
      intro v8 w8 ho8 hb8 hgr8 hat8
      have HOB := Aside0.mk (fun (j : Nat) (e : some j = (Value.slice A5 xs.length c5).ownBlock) => (HO1.out).1 j e.symm)
      have HL8 := Aside0.mk (blk_grown HL1.out hgr8 (fun e => by have := HOB.out _ e; omega))
      have HZ8 := Aside0.mk (blk_grown HZ1.out hgr8 (fun e => by have := HOB.out _ e; omega))
      have HS8 := Aside0.mk (blk_grown HS1.out hgr8 (fun e => by have := HOB.out _ e; omega))
      have HSZ8 := Aside0.mk (Nat.lt_of_lt_of_le HSZ1.out hgr8.size)
      have HB8 := Aside0.mk (show Below w.heap.size w w8 from HB1.out.trans ⟨hgr8.os, hgr8.tape, hgr8.output, hgr8.size, fun k hk => hgr8.block k (by have := HB1.out.size; omega) (fun e => by have := HOB.out _ e; have := HWL.out; omega)⟩)
      obtain ⟨ys, hys⟩ : ∃ ys, ys = xs ++ [t] := ⟨_, rfl⟩
      rw [← hys] at ho8
      have HYS := Aside0.mk hys
      clear hys
      obtain ⟨A8, c8, e8⟩ := Kd.R_slice ho8
      subst e8
      have HO8 := Aside0.mk ho8
      have hcc8 := blk_cell HS8.out 0
      have hff8 := blk_frozen HS8.out 0
      have hcl8 := (blk_cell HL8.out i).trans ((blk_cell HL1.out i).symm.trans hcl0)
      clear ho8 hb8 hgr8 hat8
      refine hK.out _ _ ⟨(hcc8.trans rfl), hcl8⟩ (fun hHeld => ?_)
      clear hK K
      refine norm_ (a' := ?_) ?_ ?_
      rotate_left
      · show Act.put _ (some 46) _ = _
        simp only [Act.put, List.setIfInBounds_toArray, List.set_cons_zero, List.set_cons_succ, i64_w, i32_w]
        rfl
      refine pure_ (i := 10) (N := some 47) (v := ?_) (a' := ?_) #[true, true, true, true, true, true, true, true, true, true, true, false] rfl rfl (by kernel_rfl) (fun _ _ _ h => h) (Or.inl ⟨by rfl, ?_⟩) ?_ ?_
      rotate_left
      · intro w'
        go_simp
        with_reducible rfl
      rotate_left
      · simp only [Act.put, List.setIfInBounds_toArray, List.set_cons_zero, List.set_cons_succ, i64_w, i32_w]
        rfl
      refine last_ (i := 11) (N := none) #[true, true, true, true, true, true, true, true, true, true, true, true] rfl rfl (by kernel_rfl) (by decide) (fun K hK => ?_)
      refine skip_ (w1 := ?_) (by rfl) rfl ?_ ?_
      rotate_left
      · go_simp
        rfl
      refine hK.out _ _ ?_
      clear hK K
      refine done_ (by kernel_rfl) ?_
      go_wp2
      go_round
      case rel => exact ⟨i + 1, _, by go_num, ⟨by omega⟩, ⟨blk_far (p := ⟨gs, 0, none⟩) HL8.out hne2 _⟩, ⟨blk_far (p := ⟨gs, 0, none⟩) HZ8.out hne1 _⟩, ⟨blk_set HS8.out 0 _⟩, ⟨by rw [HSUC.out, ← HYS.out]; exact Kd.R_far (p := ⟨gs, 0, none⟩) HO8.out (fun k hk => by show k ≠ gs; omega) _⟩, ⟨by simpa [World.setCell] using HSZ8.out⟩, ⟨below_set HB8.out (by omega)⟩⟩
      case measure => simp [intOf]; omega
    · have hik : i = K := by have := HI.out; omega
      subst hik
      have hltK : ¬ (i : Int) < (i : Int) := by omega
      obtain ⟨ts, hts⟩ : ∃ ts, ts = (bs.take i).map fun b => 1 + b % 3 := ⟨_, rfl⟩
      have ho := HO.out
      have hs := HS.out
      rw [← hts] at ho hs
      have HTS := Aside0.mk (show thresherref04_Made_ts bs n = ts by unfold thresherref04_Made_ts; rw [HRS.out.1, hts])
      have HO1 := Aside0.mk ho
      have HS1 := Aside0.mk hs
      clear HO HS ho hs hts hlt HI
      have qs0 := YtanfmnobanhcnaaH.cellv HS1.out 0 _ rfl
      have qz0 := YtanfmnobanhcnaaH.cellv HZ.out 0 _ rfl
      have fz0 := blk_frozen HZ.out 0
      have qs1 := YtanfmnobanhcnaaH.cellv HS1.out 1 _ rfl
      have qz1 := YtanfmnobanhcnaaH.cellv HZ.out 1 _ rfl
      have fz1 := blk_frozen HZ.out 1
      have qs2 := YtanfmnobanhcnaaH.cellv HS1.out 2 _ rfl
      have qz2 := YtanfmnobanhcnaaH.cellv HZ.out 2 _ rfl
      have fz2 := blk_frozen HZ.out 2
      have qs3 := YtanfmnobanhcnaaH.cellv HS1.out 3 _ rfl
      have qz3 := YtanfmnobanhcnaaH.cellv HZ.out 3 _ rfl
      have fz3 := blk_frozen HZ.out 3
      go_wp2
      refine bodyPost_ret (results_cell_row rfl _ _ gb 25 #[.slice A5 ts.length c5, .int .i64 k1, .int .i64 m1, .int .i64 g1] (0, 0) _ rfl (YtanfmnobanhcnaaH.set4 HZ.out _ _ _ _) Try.underlying25 rfl (by kernel_rfl)) rfl ?_
      refine ⟨_, by rw [HRS.out.2.1, HRS.out.2.2.1, HRS.out.2.2.2], by rw [HTS.out]; exact Kd.V_mono (YtanfmnobanhcnaaH.Vfar4 (Kd.R_V HO1.out) (fun k hk => by omega) _ _ _ _) (fun k hk => by omega), YtanfmnobanhcnaaH.below4 HB.out hwb _ _ _ _⟩


end Go.Proofs.Ytanfmnobanhcnaa.PRec3
