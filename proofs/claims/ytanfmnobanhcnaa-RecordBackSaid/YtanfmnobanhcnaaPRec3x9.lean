-- Written by hp.py (own driver over print.py) out of the translation, hand-made functions among it. Lean checks it.
import Derived.Test.YtanfmnobanhcnaaPRec3x0
import Derived.Test.YtanfmnobanhcnaaPRec3x4
import Derived.Test.YtanfmnobanhcnaaPRec3x6
import Derived.Test.YtanfmnobanhcnaaPRec3x8
namespace Go.Proofs.Ytanfmnobanhcnaa.PRec3
open Go.RowKit Go.Proofs.YtanfmnobanhcnaaW.PrintWords Go.Proofs.YtanfmnobanhcnaaW.PrintLast Go.Proofs.YtanfmnobanhcnaaW.PrintMore
attribute [local go_sem] max2_int min2_int max_two min_two max_three min_three max_four min_four   -- for this text's walks alone
set_option linter.unusedVariables false
set_option linter.unusedSimpArgs false

/-! ### record_Take: function 19 -/
set_option maxHeartbeats 2000000 in
theorem record_Take_below {w W : World} {g : Nat} (h : Below w.heap.size w W) (hg : w.heap.size ≤ g) (a b c d e f i : Value) : Below w.heap.size w (((((((W.setCell ⟨g, 0, none⟩ a).setCell ⟨g, 1, none⟩ b).setCell ⟨g, 2, none⟩ c).setCell ⟨g, 3, none⟩ d).setCell ⟨g, 4, none⟩ e).setCell ⟨g, 5, none⟩ f).setCell ⟨g, 6, none⟩ i) := below_set (below_set (below_set (below_set (below_set (below_set (below_set h hg) hg) hg) hg) hg) hg) hg
set_option maxHeartbeats 2000000 in
theorem record_Take_un (l : List Int) (h : YtanfmnobanhcnaaH.Crc.isB l) : YtanfmnobanhcnaaH.Crc.isB (YtanfmnobanhcnaaH.Fr.unframeI l).1 ∧ (YtanfmnobanhcnaaH.Fr.unframeI l).1.length ≤ 1048576 ∧ 0 ≤ (YtanfmnobanhcnaaH.Fr.unframeI l).2.1 ∧ (YtanfmnobanhcnaaH.Fr.unframeI l).2.1 ≤ l.length := by
  have hr := YtanfmnobanhcnaaH.Var.varI_range l
  unfold YtanfmnobanhcnaaH.Fr.unframeI
  split
  · exact ⟨(fun x hx => by cases hx), Nat.zero_le _, Int.le_refl 0, by show (0 : Int) ≤ _; omega⟩
  · rename_i hn
    split
    · refine ⟨YtanfmnobanhcnaaH.Var.isB_drop (YtanfmnobanhcnaaH.Var.isB_take h _) _, ?_, ?_, ?_⟩
      · show (List.drop _ (List.take _ l)).length ≤ _
        rw [List.length_drop, List.length_take]
        omega
      · show 0 ≤ (YtanfmnobanhcnaaH.Var.varI l).2 + 4 + (YtanfmnobanhcnaaH.Var.varI l).1
        omega
      · show (YtanfmnobanhcnaaH.Var.varI l).2 + 4 + (YtanfmnobanhcnaaH.Var.varI l).1 ≤ (l.length : Int)
        omega
    · exact ⟨(fun x hx => by cases hx), Nat.zero_le _, Int.le_refl 0, by show (0 : Int) ≤ _; omega⟩
set_option maxHeartbeats 2000000 in
theorem record_Take_isB (kd : Int) (ts : List Int) (k m g : Int) (ids : List Int) (id : Int) : YtanfmnobanhcnaaH.Crc.isB (YtanfmnobanhcnaaH.Rec.recPut kd ts k m g ids id).1 := by
  unfold YtanfmnobanhcnaaH.Rec.recPut
  split
  · rename_i h
    have := (YtanfmnobanhcnaaH.Rec.mayI_some h).1
    exact YtanfmnobanhcnaaH.Fr.isB_frame (YtanfmnobanhcnaaH.Rec.isB_rec (by omega))
  · intro x hx
    cases hx
set_option maxHeartbeats 2000000 in
theorem record_Take_kind (kd : Int) (l : List Int) (bad : Bool) : (YtanfmnobanhcnaaH.Rec.recR kd l bad).1.1 = kd := by
  unfold YtanfmnobanhcnaaH.Rec.recR
  generalize (if kd = 1 then YtanfmnobanhcnaaH.Rec.schR l bad else (([], 0, 0, 0), l, bad)) = s
  unfold YtanfmnobanhcnaaH.Rec.recR2
  by_cases h : s.2.2 = true
  · rw [if_pos h]
  · rw [if_neg h]
    generalize YtanfmnobanhcnaaH.Rec.numR s.2.1 s.2.2 = q
    by_cases h2 : kd = 2 ∨ q.2.2 = true
    · simp only []
      rw [if_pos h2]
    · simp only []
      rw [if_neg h2]
set_option maxHeartbeats 8000000 in
set_option maxRecDepth 100000 in
theorem record_Take.calls (A0 : Option Addr) (c0 : Nat) (l0 : List Int) (w : World) (hr0 : Kd.C (Kd.int .u8) w A0 l0.length l0) (hc0 : l0.length ≤ c0) (hB : YtanfmnobanhcnaaH.Crc.isB l0) :
    Calls Try.prog 19 #[.slice A0 l0.length c0] w fun e w' => ∃ vT vI, e = .returned (.tuple #[.agg #[.int .i64 (YtanfmnobanhcnaaH.Rec.recTake l0).1.1, vT, .int .i64 (YtanfmnobanhcnaaH.Rec.recTake l0).1.2.1.2.1, .int .i64 (YtanfmnobanhcnaaH.Rec.recTake l0).1.2.1.2.2.1, .int .i64 (YtanfmnobanhcnaaH.Rec.recTake l0).1.2.1.2.2.2, vI, .int .i64 (YtanfmnobanhcnaaH.Rec.recTake l0).1.2.2.2], .int .i64 (YtanfmnobanhcnaaH.Rec.recTake l0).2.1, .int .i64 (YtanfmnobanhcnaaH.Rec.recTake l0).2.2]) ∧
      Kd.V (Kd.int .i64) 3 w' 0 (fun k => w.heap.size ≤ k) vT (YtanfmnobanhcnaaH.Rec.recTake l0).1.2.1.1 ∧ Kd.V (Kd.int .i64) 3 w' 0 (fun k => w.heap.size ≤ k) vI (YtanfmnobanhcnaaH.Rec.recTake l0).1.2.2.1 ∧ Below w.heap.size w w' := by
  have hu30 := Try.underlying30
  have hu25 := Try.underlying25
  have hu83 := Try.underlying83
  obtain ⟨gb, hgb⟩ : ∃ gb, gb = w.heap.size := ⟨_, rfl⟩
  have hb0 := YtanfmnobanhcnaaH.below_alloc1 w (.cells #[.int .i64 0, .slice none 0 0, .int .i64 0, .int .i64 0, .int .i64 0, .slice none 0 0, .int .i64 0] 30)
  have HR0 := Aside0.mk hr0
  have hun := record_Take_un l0 hB
  have hrt : YtanfmnobanhcnaaH.Rec.recTake l0 = (fun u : List Int × Int × Int => if u.2.2 ≠ 0 then (YtanfmnobanhcnaaH.Rec.noRec, 0, u.2.2) else if u.1.length = 0 then (YtanfmnobanhcnaaH.Rec.noRec, 0, 10)
    else (fun q : YtanfmnobanhcnaaH.Rec.RecV × List Int × Bool => if q.2.2 = true ∨ (YtanfmnobanhcnaaH.Rec.putOf q.1).2 = false ∨ (YtanfmnobanhcnaaH.Rec.putOf q.1).1 ≠ l0.take u.2.1.toNat then (YtanfmnobanhcnaaH.Rec.noRec, 0, 10) else (q.1, u.2.1, 0)) (YtanfmnobanhcnaaH.Rec.recR (u.1.getD 0 0) (u.1.drop 1) false)) (YtanfmnobanhcnaaH.Fr.unframeI l0) := rfl
  have hcall : ∀ W : World, Kd.C (Kd.int .u8) W A0 l0.length l0 → _ := fun W hW => crc_Unframe.calls A0 c0 l0 (YtanfmnobanhcnaaH.Fr.unframeI l0).1 (YtanfmnobanhcnaaH.Fr.unframeI l0).2.1 (YtanfmnobanhcnaaH.Fr.unframeI l0).2.2 W hW hc0 (by unfold crc_Unframe.f; rw [if_pos hB])
  generalize YtanfmnobanhcnaaH.Fr.unframeI l0 = u at hun hrt hcall
  obtain ⟨d, n, er⟩ := u
  simp only at hun hrt hcall
  have HUN := Aside0.mk hun
  have HRT := Aside0.mk hrt
  have HCALL := Aside0.mk hcall
  clear hr0 hun hrt hcall
  go_enter Try.func19, Try.ntmps19
  go_wp2_with fail
  rw [← hgb]
  refine (HCALL.out _ (Kd.C_below HR0.out hb0)).mono ?_
  rintro e w1 ⟨v0, rfl, hd, hb1⟩
  obtain ⟨Ad, cd, rfl⟩ := Kd.R_slice hd
  have HG1 := Aside0.mk (show w1.heap[gb]? = some (.cells #[.int .i64 0, .slice none 0 0, .int .i64 0, .int .i64 0, .int .i64 0, .slice none 0 0, .int .i64 0] 30) by rw [hgb]; exact blk_below (blk_new w (.cells #[.int .i64 0, .slice none 0 0, .int .i64 0, .int .i64 0, .int .i64 0, .slice none 0 0, .int .i64 0] 30)) hb1)
  have HB1 := Aside0.mk (below_step hb0 hb1)
  have HD := Aside0.mk hd
  have HGB := Aside0.mk hgb
  clear hb0 hb1 hd HCALL hgb
  have qg0 := YtanfmnobanhcnaaH.cellv HG1.out 0 (.int .i64 0) rfl
  have fg0 := blk_frozen HG1.out 0
  have qg1 := YtanfmnobanhcnaaH.cellv HG1.out 1 (.slice none 0 0) rfl
  have fg1 := blk_frozen HG1.out 1
  have qg2 := YtanfmnobanhcnaaH.cellv HG1.out 2 (.int .i64 0) rfl
  have fg2 := blk_frozen HG1.out 2
  have qg3 := YtanfmnobanhcnaaH.cellv HG1.out 3 (.int .i64 0) rfl
  have fg3 := blk_frozen HG1.out 3
  have qg4 := YtanfmnobanhcnaaH.cellv HG1.out 4 (.int .i64 0) rfl
  have fg4 := blk_frozen HG1.out 4
  have qg5 := YtanfmnobanhcnaaH.cellv HG1.out 5 (.slice none 0 0) rfl
  have fg5 := blk_frozen HG1.out 5
  have qg6 := YtanfmnobanhcnaaH.cellv HG1.out 6 (.int .i64 0) rfl
  have fg6 := blk_frozen HG1.out 6
  by_cases h0 : er = 0
  · subst h0
    by_cases hd0 : d.length = 0
    · have HRES := Aside0.mk (show YtanfmnobanhcnaaH.Rec.recTake l0 = (YtanfmnobanhcnaaH.Rec.noRec, 0, 10) by rw [HRT.out, if_neg (by intro h; exact h rfl), if_pos hd0])
      obtain rfl := List.eq_nil_of_length_eq_zero hd0
      go_wp2
      refine bodyPost_ret (results_ctt rfl _ _ gb 30 #[.int .i64 0, .slice none 0 0, .int .i64 0, .int .i64 0, .int .i64 0, .slice none 0 0, .int .i64 0] (0, 0) _ rfl (record_reader_record_set HG1.out _ _ _ _ _ _ _) Try.underlying30 rfl (by kernel_rfl)) rfl ?_
      exact ⟨_, _, by rw [HRES.out]; rfl, by rw [HRES.out]; exact Kd.V_nil _ _ _ _ _, by rw [HRES.out]; exact Kd.V_nil _ _ _ _ _, record_Take_below HB1.out (Nat.le_of_eq HGB.out.symm) _ _ _ _ _ _ _⟩
    · have hd0b : ((d.length : Int) == 0) = false := by rw [beq_eq_false_iff_ne]; omega
      obtain ⟨ad, rfl, hcell⟩ := YtanfmnobanhcnaaH.at_int (Kd.R_reads' HD.out).2.2 0 (by omega)
      obtain ⟨d0, hd0'⟩ : ∃ d0, d0 = d[0] := ⟨_, rfl⟩
      rw [← hd0'] at hcell
      have hcell0 : w1.cell? ad = some (.int .u8 d0) := by
        have e : ad.add 0 = ad := by cases ad; simp [Addr.add]
        rw [e] at hcell
        exact hcell
      have hdB := HUN.out.1 d0 (by rw [hd0']; exact List.getElem_mem _)
      have hgd : d.getD 0 0 = d0 := by rw [hd0', List.getD_eq_getElem?_getD, List.getElem?_eq_getElem (by omega)]; rfl
      have HRT2 := Aside0.mk (show YtanfmnobanhcnaaH.Rec.recTake l0 = (fun q : YtanfmnobanhcnaaH.Rec.RecV × List Int × Bool => if q.2.2 = true ∨ (YtanfmnobanhcnaaH.Rec.putOf q.1).2 = false ∨ (YtanfmnobanhcnaaH.Rec.putOf q.1).1 ≠ l0.take n.toNat then (YtanfmnobanhcnaaH.Rec.noRec, 0, 10) else (q.1, n, 0)) (YtanfmnobanhcnaaH.Rec.recR d0 (d.drop 1) false) by rw [HRT.out, if_neg (by intro h; exact h rfl), if_neg hd0, hgd])
      have hwr : wrap64 d0 = d0 := YtanfmnobanhcnaaH.Crc.wrap64_in _ (by omega) (by omega)
      have hV0 : Kd.V (Kd.int .u8) 5 w1 0 (fun k => k < w1.heap.size) (.slice (some ad) d.length cd) d := Kd.V_mono (Kd.R_V (Kd.R_bound HD.out)) (fun k hk => hk.2.2.1)
      have hF2 := Kd.F_cut (m := 1) (c := cd) (Kd.V_at hV0).2.2 (by omega) (Kd.V_at hV0).2.1
      obtain ⟨i0, hi0, _, hsz0, _⟩ := info_parts info5
      have hcut := cut_from (P := Try.prog) 26 5 .i64 Try.underlying26 hi0 1 hsz0 (some ad) d.length cd 1 (by omega) (by omega)
      obtain ⟨A', hA'⟩ : ∃ A' : Option Addr, A' = (if cd = 1 then some ad else (some ad : Option Addr).map (·.add (1 * 1))) := ⟨_, rfl⟩
      obtain ⟨c', hc'⟩ : ∃ c', c' = cd - 1 := ⟨_, rfl⟩
      obtain ⟨l', hl'⟩ : ∃ l', l' = d.drop 1 := ⟨_, rfl⟩
      have hle : d.length - 1 = l'.length := by rw [hl', List.length_drop]
      rw [show (1 : Int).toNat = 1 from rfl, ← hA', ← hc', hle] at hcut
      have hV1 : Kd.V (Kd.int .u8) 5 w1 0 (fun k => k < w1.heap.size) (.slice A' l'.length c') l' := by
        have hF3 : Kd.F (Kd.int .u8) w1 (fun k => k < w1.heap.size) A' l'.length l' := by rw [hA', hl']; exact hF2
        exact Kd.V_mk (by have := (Kd.V_at hV0).2.1; omega) hF3
      have HLB := Aside0.mk (show YtanfmnobanhcnaaH.Crc.isB l' ∧ l'.length ≤ 1048576 by rw [hl']; exact ⟨YtanfmnobanhcnaaH.Var.isB_drop HUN.out.1 _, by have := HUN.out.2.1; rw [List.length_drop]; omega⟩)
      have hrt2 := HRT2.out
      rw [← hl'] at hrt2
      have HRT3 := Aside0.mk hrt2
      obtain ⟨gr_, hgr⟩ : ∃ gr_, gr_ = w1.heap.size := ⟨_, rfl⟩
      have hcell1 := (World.cell?_alloc_lt w1 (.cells #[.slice A' l'.length c', .bool false] 83) _ (World.block_lt_of_cell? _ _ hcell0)).trans hcell0
      have HV1 := Aside0.mk (show Kd.V (Kd.int .u8) 5 (w1.alloc (.cells #[.slice A' l'.length c', .bool false] 83)) 0 (fun k => k < gr_) (.slice A' l'.length c') l' by rw [hgr]; exact Kd.V_alloc hV1 _)
      have HGR := Aside0.mk (show (w1.alloc (.cells #[.slice A' l'.length c', .bool false] 83)).heap[gr_]? = some (.cells #[.slice A' l'.length c', .bool false] 83) by rw [hgr]; exact blk_new w1 _)
      have HB2 := Aside0.mk (show Below w.heap.size w (w1.alloc (.cells #[.slice A' l'.length c', .bool false] 83)) from Below.alloc HB1.out (below_size HB1.out) _)
      have HS1 := Aside0.mk (show (w1.alloc (.cells #[.slice A' l'.length c', .bool false] 83)).heap.size = gr_ + 1 by rw [hgr]; exact record_reader_record_sz _ _)
      have HG1' := Aside0.mk (blk_alloc HG1.out (.cells #[.slice A' l'.length c', .bool false] 83))
      have HGLT := Aside0.mk (show gb < gr_ by rw [hgr]; exact blk_lt HG1.out)
      have HKB := Aside0.mk hdB
      clear hcell hd0' hgd hF2 hi0 hsz0 hA' hc' hl' hle hV0 hV1 HRT2 hrt2 HRT hdB
      clear qg0 fg0 qg1 fg1 qg2 fg2 qg3 fg3 qg4 fg4 qg5 fg5 qg6 fg6
      go_wp2_with fail
      clear hwr
      rw [← hgr]
      refine (record_reader_record.calls gr_ d0 l' false _ ⟨_, HGR.out, HV1.out⟩ HLB.out.1 HLB.out.2).mono ?_
      rintro e w2 ⟨vT, vI, rfl, hvT, hvI, hrd, hm⟩
      have HB3 := Aside0.mk (hm.under HB2.out (by rw [HS1.out, ← HGB.out]; have := HGLT.out; omega) (by rw [← HGB.out]; exact Nat.le_of_lt HGLT.out) (fun k hk => by cases hk))
      have HG3 := Aside0.mk (hm.blk HG1'.out (by have := HGLT.out; omega) (by simp))
      rw [HS1.out] at hvT hvI
      have hrt3 := HRT3.out
      have hkd := record_Take_kind d0 l' false
      generalize YtanfmnobanhcnaaH.Rec.recR d0 l' false = q at hvT hvI hrd hrt3 hkd ⊢
      obtain ⟨⟨kd, ⟨ts, k, m, gr⟩, ids, id⟩, l2, b2⟩ := q
      simp only at hvT hvI hrd hrt3 hkd ⊢
      subst hkd
      obtain ⟨AT, cT, rfl⟩ := Kd.V_slice hvT
      obtain ⟨AI, cI, rfl⟩ := Kd.V_slice hvI
      have HRT4 := Aside0.mk hrt3
      have HVT3 := Aside0.mk hvT
      have HVI3 := Aside0.mk hvI
      have HRD3 := Aside0.mk (hrd.below (YtanfmnobanhcnaaH.below_alloc1 w2 (.cells #[.int .i64 kd, .slice AT ts.length cT, .int .i64 k, .int .i64 m, .int .i64 gr, .slice AI ids.length cI, .int .i64 id] 30)))
      obtain ⟨gx, hgx⟩ : ∃ gx, gx = w2.heap.size := ⟨_, rfl⟩
      have HB4 := Aside0.mk (show Below w.heap.size w (w2.alloc (.cells #[.int .i64 kd, .slice AT ts.length cT, .int .i64 k, .int .i64 m, .int .i64 gr, .slice AI ids.length cI, .int .i64 id] 30)) from Below.alloc HB3.out (below_size HB3.out) _)
      have HG4 := Aside0.mk (blk_alloc HG3.out (.cells #[.int .i64 kd, .slice AT ts.length cT, .int .i64 k, .int .i64 m, .int .i64 gr, .slice AI ids.length cI, .int .i64 id] 30))
      have HX4 := Aside0.mk (show (w2.alloc (.cells #[.int .i64 kd, .slice AT ts.length cT, .int .i64 k, .int .i64 m, .int .i64 gr, .slice AI ids.length cI, .int .i64 id] 30)).heap[gx]? = some (.cells #[.int .i64 kd, .slice AT ts.length cT, .int .i64 k, .int .i64 m, .int .i64 gr, .slice AI ids.length cI, .int .i64 id] 30) by rw [hgx]; exact blk_new w2 _)
      have hcT := (Kd.V_reads' (Kd.V_alloc hvT (.cells #[.int .i64 kd, .slice AT ts.length cT, .int .i64 k, .int .i64 m, .int .i64 gr, .slice AI ids.length cI, .int .i64 id] 30)))
      have hcI := (Kd.V_reads' (Kd.V_alloc hvI (.cells #[.int .i64 kd, .slice AT ts.length cT, .int .i64 k, .int .i64 m, .int .i64 gr, .slice AI ids.length cI, .int .i64 id] 30)))
      have HCT := Aside0.mk hcT.2
      have HCI := Aside0.mk hcI.2
      have hpB := record_Take_isB kd ts k m gr ids id
      have hrt4 : YtanfmnobanhcnaaH.Rec.recTake l0 = if b2 = true ∨ (YtanfmnobanhcnaaH.Rec.recPut kd ts k m gr ids id).2 = false ∨ (YtanfmnobanhcnaaH.Rec.recPut kd ts k m gr ids id).1 ≠ l0.take n.toNat then (YtanfmnobanhcnaaH.Rec.noRec, 0, 10) else ((kd, (ts, k, m, gr), ids, id), n, 0) := hrt3
      have hpf : record_Put.f kd ts k m gr ids id = some (YtanfmnobanhcnaaH.Rec.recPut kd ts k m gr ids id) := rfl
      generalize YtanfmnobanhcnaaH.Rec.recPut kd ts k m gr ids id = pp at hpB hpf hrt4
      obtain ⟨pb, pok⟩ := pp
      simp only at hpB hrt4
      have HPB := Aside0.mk hpB
      have HPF := Aside0.mk hpf
      have HRT5 := Aside0.mk hrt4
      clear hvT hvI hrd hrt3 hm HRT4 HRT3 hcT hcI hpB hpf hrt4 hcell0 hcell1 hcut hd0 hd0b HGR HV1 HB1 HB2 HG1 HG1' HS1 HLB HD HG3 HB3 hgr
      go_wp2_with fail
      rw [← hgx]
      refine (record_Put.calls kd AT cT ts k m gr AI cI ids id pb pok _ HCT.out.2 HCT.out.1 HCI.out.2 HCI.out.1 HPF.out).mono ?_
      rintro e w3 ⟨v0, rfl, hput, hb3⟩
      obtain ⟨Ap, cp, rfl⟩ := Kd.R_slice hput
      have HB5 := Aside0.mk (below_step HB4.out hb3)
      have HG5 := Aside0.mk (blk_below HG4.out hb3)
      have HX5 := Aside0.mk (blk_below HX4.out hb3)
      have hrd5 := HRD3.out.below hb3
      have HVT5 := Aside0.mk (Kd.V_below (Kd.V_alloc HVT3.out (.cells #[.int .i64 kd, .slice AT ts.length cT, .int .i64 k, .int .i64 m, .int .i64 gr, .slice AI ids.length cI, .int .i64 id] 30)) hb3)
      have HVI5 := Aside0.mk (Kd.V_below (Kd.V_alloc HVI3.out (.cells #[.int .i64 kd, .slice AT ts.length cT, .int .i64 k, .int .i64 m, .int .i64 gr, .slice AI ids.length cI, .int .i64 id] 30)) hb3)
      have HP5 := Aside0.mk (Kd.R_reads' hput)
      have HA5 := Aside0.mk (Kd.C_below HR0.out HB5.out)
      obtain ⟨v2, hg2, _⟩ := hrd5
      have hqb := YtanfmnobanhcnaaH.cellv hg2 1 (.bool b2) rfl
      clear hg2 hput hb3 hgx HPF HB4 HG4 HX4 HRD3 HCT HCI HVT3 HVI3
      have qg0 := YtanfmnobanhcnaaH.cellv HG5.out 0 (.int .i64 0) rfl
      have fg0 := blk_frozen HG5.out 0
      have qg1 := YtanfmnobanhcnaaH.cellv HG5.out 1 (.slice none 0 0) rfl
      have fg1 := blk_frozen HG5.out 1
      have qg2 := YtanfmnobanhcnaaH.cellv HG5.out 2 (.int .i64 0) rfl
      have fg2 := blk_frozen HG5.out 2
      have qg3 := YtanfmnobanhcnaaH.cellv HG5.out 3 (.int .i64 0) rfl
      have fg3 := blk_frozen HG5.out 3
      have qg4 := YtanfmnobanhcnaaH.cellv HG5.out 4 (.int .i64 0) rfl
      have fg4 := blk_frozen HG5.out 4
      have qg5 := YtanfmnobanhcnaaH.cellv HG5.out 5 (.slice none 0 0) rfl
      have fg5 := blk_frozen HG5.out 5
      have qg6 := YtanfmnobanhcnaaH.cellv HG5.out 6 (.int .i64 0) rfl
      have fg6 := blk_frozen HG5.out 6
      cases b2 with
      | true =>
        have HRES := Aside0.mk (HRT5.out.trans (if_pos (.inl rfl)))
        go_wp2
        refine bodyPost_ret (results_ctt rfl _ _ gb 30 #[.int .i64 0, .slice none 0 0, .int .i64 0, .int .i64 0, .int .i64 0, .slice none 0 0, .int .i64 0] (0, 0) _ rfl (record_reader_record_set HG5.out _ _ _ _ _ _ _) Try.underlying30 rfl (by kernel_rfl)) rfl ?_
        exact ⟨_, _, by rw [HRES.out]; rfl, by rw [HRES.out]; exact Kd.V_nil _ _ _ _ _, by rw [HRES.out]; exact Kd.V_nil _ _ _ _ _, record_Take_below HB5.out (Nat.le_of_eq HGB.out.symm) _ _ _ _ _ _ _⟩
      | false =>
        cases pok with
        | false =>
          have HRES := Aside0.mk (HRT5.out.trans (if_pos (.inr (.inl rfl))))
          go_wp2
          refine bodyPost_ret (results_ctt rfl _ _ gb 30 #[.int .i64 0, .slice none 0 0, .int .i64 0, .int .i64 0, .int .i64 0, .slice none 0 0, .int .i64 0] (0, 0) _ rfl (record_reader_record_set HG5.out _ _ _ _ _ _ _) Try.underlying30 rfl (by kernel_rfl)) rfl ?_
          exact ⟨_, _, by rw [HRES.out]; rfl, by rw [HRES.out]; exact Kd.V_nil _ _ _ _ _, by rw [HRES.out]; exact Kd.V_nil _ _ _ _ _, record_Take_below HB5.out (Nat.le_of_eq HGB.out.symm) _ _ _ _ _ _ _⟩
        | true =>
          have hcutB := cut_to (P := Try.prog) 26 5 .i64 Try.underlying26 (info_parts info5).choose_spec.1 A0 l0.length c0 n HUN.out.2.2.1 HUN.out.2.2.2 hc0
          obtain ⟨tk, htk⟩ : ∃ tk, tk = l0.take n.toNat := ⟨_, rfl⟩
          have htl : n.toNat = tk.length := by rw [htk, List.length_take]; have := HUN.out.2.2; omega
          rw [htl] at hcutB
          have hCt := Kd.C_take (m := n.toNat) HA5.out (by have := HUN.out.2.2; omega)
          rw [← htk] at hCt
          have HTK := Aside0.mk hCt
          have HTB := Aside0.mk (show YtanfmnobanhcnaaH.Crc.isB tk by rw [htk]; exact YtanfmnobanhcnaaH.Var.isB_take hB _)
          have HTL := Aside0.mk (show tk.length ≤ c0 by rw [← htl]; have := HUN.out.2.2; omega)
          have hrt6 := HRT5.out
          rw [← htk] at hrt6
          have HRT6 := Aside0.mk hrt6
          clear htk htl hCt hrt6 HRT5
          go_wp2_with fail
          refine (bytes_Equal.calls Ap cp pb A0 c0 tk (decide (pb = tk)) _ HP5.out.2.2 HP5.out.2.1 HTK.out HTL.out (by unfold bytes_Equal.f; rw [YtanfmnobanhcnaaH.Fr.str_beq HPB.out HTB.out])).mono ?_
          rintro e w4 ⟨rfl, hdr⟩
          have hb4 := hdr.below
          have HB6 := Aside0.mk (below_step HB5.out hb4)
          have HG6 := Aside0.mk (blk_below HG5.out hb4)
          have HX6 := Aside0.mk (blk_below HX5.out hb4)
          have HVT6 := Aside0.mk (Kd.V_below HVT5.out hb4)
          have HVI6 := Aside0.mk (Kd.V_below HVI5.out hb4)
          clear qg0 fg0 qg1 fg1 qg2 fg2 qg3 fg3 qg4 fg4 qg5 fg5 qg6 fg6
          clear hb4 hdr hqb HB5 HG5 HX5 HVT5 HVI5 HP5 HTK
          have qg0 := YtanfmnobanhcnaaH.cellv HG6.out 0 (.int .i64 0) rfl
          have fg0 := blk_frozen HG6.out 0
          have qg1 := YtanfmnobanhcnaaH.cellv HG6.out 1 (.slice none 0 0) rfl
          have fg1 := blk_frozen HG6.out 1
          have qg2 := YtanfmnobanhcnaaH.cellv HG6.out 2 (.int .i64 0) rfl
          have fg2 := blk_frozen HG6.out 2
          have qg3 := YtanfmnobanhcnaaH.cellv HG6.out 3 (.int .i64 0) rfl
          have fg3 := blk_frozen HG6.out 3
          have qg4 := YtanfmnobanhcnaaH.cellv HG6.out 4 (.int .i64 0) rfl
          have fg4 := blk_frozen HG6.out 4
          have qg5 := YtanfmnobanhcnaaH.cellv HG6.out 5 (.slice none 0 0) rfl
          have fg5 := blk_frozen HG6.out 5
          have qg6 := YtanfmnobanhcnaaH.cellv HG6.out 6 (.int .i64 0) rfl
          have fg6 := blk_frozen HG6.out 6
          by_cases heq : pb = tk
          · have hdec : decide (pb = tk) = true := decide_eq_true heq
            have HRES := Aside0.mk (HRT6.out.trans (if_neg (by rintro (h | h | h); cases h; cases h; exact h heq)))
            have qx0 := YtanfmnobanhcnaaH.cellv HX6.out 0 (Value.int .i64 kd) rfl
            have qx1 := YtanfmnobanhcnaaH.cellv HX6.out 1 (Value.slice AT ts.length cT) rfl
            have qx2 := YtanfmnobanhcnaaH.cellv HX6.out 2 (Value.int .i64 k) rfl
            have qx3 := YtanfmnobanhcnaaH.cellv HX6.out 3 (Value.int .i64 m) rfl
            have qx4 := YtanfmnobanhcnaaH.cellv HX6.out 4 (Value.int .i64 gr) rfl
            have qx5 := YtanfmnobanhcnaaH.cellv HX6.out 5 (Value.slice AI ids.length cI) rfl
            have qx6 := YtanfmnobanhcnaaH.cellv HX6.out 6 (Value.int .i64 id) rfl
            clear heq
            go_wp2
            refine bodyPost_ret (results_ctt rfl _ _ gb 30 #[Value.int .i64 kd, Value.slice AT ts.length cT, Value.int .i64 k, Value.int .i64 m, Value.int .i64 gr, Value.slice AI ids.length cI, Value.int .i64 id] (0, 0) _ rfl (record_reader_record_set HG6.out _ _ _ _ _ _ _) Try.underlying30 rfl (by kernel_rfl)) rfl ?_
            refine ⟨_, _, by rw [HRES.out]; rfl, by rw [HRES.out]; exact Kd.V_mono (record_reader_record_Vfar HVT6.out (fun k hk => by have := HGLT.out; omega) _ _ _ _ _ _ _) (fun k hk => by have := HGLT.out; have := HGB.out; omega), by rw [HRES.out]; exact Kd.V_mono (record_reader_record_Vfar HVI6.out (fun k hk => by have := HGLT.out; omega) _ _ _ _ _ _ _) (fun k hk => by have := HGLT.out; have := HGB.out; omega), record_Take_below HB6.out (Nat.le_of_eq HGB.out.symm) _ _ _ _ _ _ _⟩
          · have hdec : decide (pb = tk) = false := decide_eq_false heq
            have HRES := Aside0.mk (HRT6.out.trans (if_pos (.inr (.inr heq))))
            clear heq
            go_wp2
            refine bodyPost_ret (results_ctt rfl _ _ gb 30 #[.int .i64 0, .slice none 0 0, .int .i64 0, .int .i64 0, .int .i64 0, .slice none 0 0, .int .i64 0] (0, 0) _ rfl (record_reader_record_set HG6.out _ _ _ _ _ _ _) Try.underlying30 rfl (by kernel_rfl)) rfl ?_
            exact ⟨_, _, by rw [HRES.out]; rfl, by rw [HRES.out]; exact Kd.V_nil _ _ _ _ _, by rw [HRES.out]; exact Kd.V_nil _ _ _ _ _, record_Take_below HB6.out (Nat.le_of_eq HGB.out.symm) _ _ _ _ _ _ _⟩
  · have h0b : (er != 0) = true := by rw [bne_iff_ne]; exact h0
    have HRES := Aside0.mk (show YtanfmnobanhcnaaH.Rec.recTake l0 = (YtanfmnobanhcnaaH.Rec.noRec, 0, er) by rw [HRT.out, if_pos h0])
    go_wp2
    refine bodyPost_ret (results_ctt rfl _ _ gb 30 #[.int .i64 0, .slice none 0 0, .int .i64 0, .int .i64 0, .int .i64 0, .slice none 0 0, .int .i64 0] (0, 0) _ rfl (record_reader_record_set HG1.out _ _ _ _ _ _ _) Try.underlying30 rfl (by kernel_rfl)) rfl ?_
    exact ⟨_, _, by rw [HRES.out]; rfl, by rw [HRES.out]; exact Kd.V_nil _ _ _ _ _, by rw [HRES.out]; exact Kd.V_nil _ _ _ _ _, record_Take_below HB1.out (Nat.le_of_eq HGB.out.symm) _ _ _ _ _ _ _⟩


/-! ### thresherlaw16_RecordTurns: function 7 -/
set_option maxHeartbeats 2000000 in
theorem thresherlaw16_RecordTurns.shown_true : thresherlaw16_shown.f = some true := by
  unfold thresherlaw16_shown.f record_Put.f
  rw [Option.bind_some]
  have e : YtanfmnobanhcnaaH.Rec.recPut 2 [] 0 0 0 [] 7 = (YtanfmnobanhcnaaH.Fr.frameI [2, 7], true) := by
    unfold YtanfmnobanhcnaaH.Rec.recPut
    rw [if_pos (by decide)]
    have : YtanfmnobanhcnaaH.Rec.recB 2 [] 0 0 0 [] 7 = [2, 7] := by
      unfold YtanfmnobanhcnaaH.Rec.recB
      rw [if_neg (by decide), if_pos rfl]
      have : YtanfmnobanhcnaaH.Var.putI 7 = [7] := by
        unfold YtanfmnobanhcnaaH.Var.putI
        rw [show (7 : Int).toNat = 7 from rfl, YtanfmnobanhcnaaH.Var.putN_small (by decide)]
        rfl
      rw [this]
      rfl
    rw [this]
  have e2 : YtanfmnobanhcnaaH.Fr.frameI [2, 7] = [2, (YtanfmnobanhcnaaH.Crc.crcI [2, 7]) % 256, (YtanfmnobanhcnaaH.Crc.crcI [2, 7]) / 256 % 256, (YtanfmnobanhcnaaH.Crc.crcI [2, 7]) / 65536 % 256, (YtanfmnobanhcnaaH.Crc.crcI [2, 7]) / 16777216 % 256, 2, 7] := by
    unfold YtanfmnobanhcnaaH.Fr.frameI
    have : YtanfmnobanhcnaaH.Var.putI (([2, 7] : List Int).length : Int) = [2] := by
      unfold YtanfmnobanhcnaaH.Var.putI
      rw [show (([2, 7] : List Int).length : Int).toNat = 2 from rfl, YtanfmnobanhcnaaH.Var.putN_small (by decide)]
      rfl
    rw [this, YtanfmnobanhcnaaH.Fr.sum4_eq]
    rfl
  rw [e, e2]
  generalize YtanfmnobanhcnaaH.Crc.crcI [2, 7] = c
  rfl
set_option maxHeartbeats 2000000 in
theorem thresherlaw16_RecordTurns_own_at {k : IntKind} {e base : Nat} {W : World} {ok : Nat → Prop} {v : Value} {xs : List Int} (HO : (Kd.int k).R e W base ok v xs) (hn : 0 < xs.length) : ∃ g cap cur, v = .slice (some ⟨g, 0, none⟩) xs.length cap ∧ W.heap[g]? = some (.cells cur e (0, 0)) := by
  obtain ⟨_, inner, hown, hr⟩ := HO
  rcases hown.2 with ⟨_, h0⟩ | ⟨g', cap', cur, hv, hb, hh, _⟩
  · omega
  · exact ⟨g', cap', cur, hv, hh⟩
set_option maxHeartbeats 2000000 in
theorem thresherlaw16_RecordTurns_own_set {k : IntKind} {e base : Nat} {W : World} {ok : Nat → Prop} {g n cap : Nat} {xs : List Int} (HO : (Kd.int k).R e W base ok (.slice (some ⟨g, 0, none⟩) n cap) xs) (i : Nat) (hi : i < xs.length) (u : Int) :
    (Kd.int k).R e (W.setCell ⟨g, i, none⟩ (.int k u)) base ok (.slice (some ⟨g, 0, none⟩) n cap) (xs.set i u) ∧ W.grownBy (W.setCell ⟨g, i, none⟩ (.int k u)) (some g) := by
  have hnx : n = xs.length := (Kd.R_reads' HO).1
  obtain ⟨_, ea, hc⟩ := Go.Proofs.YtanfmnobanhcnaaH.at_int (Kd.R_reads' HO).2.2 i hi
  cases ea
  have hz : (Kd.int k).sz = 1 := rfl
  have := Kd.R_seg HO (i : Int) (by omega) (by omega) (c := [Value.int k xs[i]]) (x' := u) (seg := [Value.int k u]) (j := 0) (okp := fun _ => False) rfl (fun j u hj => by
    rcases j with _ | j
    · have hu : u = Value.int k xs[i] := by simpa using hj.symm
      rw [hu, hz, Nat.mul_one, Nat.add_zero, Int.toNat_natCast]
      have e : Addr.add ⟨g, 0, none⟩ i = ⟨g, i, none⟩ := by
        unfold Addr.add
        by_cases h0 : i = 0
        · subst h0; rfl
        · simp [h0]
      rw [← e]
      exact hc
    · simp at hj) (by show 0 + 1 ≤ 1; omega) (by rfl) (fun k hk => hk.elim)
  rw [hz, Nat.mul_one, Nat.add_zero, Int.toNat_natCast] at this
  exact this
def thresherlaw16_RecordTurns.f (n0 n1 a0 a1 : Int) : Option Bool := if ((Lit.int .u16 n0).wf = true ∧ (Lit.int .u16 n1).wf = true) ∧ (Lit.int .u8 a0).wf = true ∧ (Lit.int .u8 a1).wf = true then some true else none
open Go.Proofs.YtanfmnobanhcnaaH.Rec in
theorem thresherlaw16_RecordTurns.may (n0 n1 : Int) (h0 : 0 ≤ n0 ∧ n0 < 65536) (h1 : 0 ≤ n1 ∧ n1 < 65536) : mayI 3 [] 0 0 0 [n1, 5] n0 = true := by
  unfold mayI
  simp only [List.any_cons, List.any_nil]
  rw [odd_iff.2 (by omega), odd_iff.2 (by omega), odd_iff.2 (by omega)]
  rfl
open Go.Proofs.YtanfmnobanhcnaaH.Rec in
theorem thresherlaw16_RecordTurns.len (n0 n1 : Int) (h0 : 0 ≤ n0 ∧ n0 < 65536) (h1 : 0 ≤ n1 ∧ n1 < 65536) : 5 ≤ (recB 3 [] 0 0 0 [n1, 5] n0).length ∧ (recB 3 [] 0 0 0 [n1, 5] n0).length < 128 := by
  have a0 := YtanfmnobanhcnaaH.Var.putI_pos n0
  have a1 := YtanfmnobanhcnaaH.Var.putI_pos n1
  have a2 := YtanfmnobanhcnaaH.Var.putI_pos 2
  have a3 := YtanfmnobanhcnaaH.Var.putI_pos 5
  have b0 := YtanfmnobanhcnaaH.Var.putI_len10 n0 (by omega)
  have b1 := YtanfmnobanhcnaaH.Var.putI_len10 n1 (by omega)
  have b2 := YtanfmnobanhcnaaH.Var.putI_len10 2 (by omega)
  have b3 := YtanfmnobanhcnaaH.Var.putI_len10 5 (by omega)
  have e : recB 3 [] 0 0 0 [n1, 5] n0 = [3] ++ [] ++ YtanfmnobanhcnaaH.Var.putI n0 ++ (YtanfmnobanhcnaaH.Var.putI 2 ++ (YtanfmnobanhcnaaH.Var.putI n1 ++ (YtanfmnobanhcnaaH.Var.putI 5 ++ []))) := rfl
  rw [e]
  simp only [List.length_append, List.length_singleton, List.length_nil]
  omega
set_option maxHeartbeats 2000000 in
theorem thresherlaw16_RecordTurns.turned (b a : Int) (hb : 0 ≤ b ∧ b < 256) (ha : 0 ≤ a ∧ a < 256) : (0 ≤ Go.bits .xor .u8 b ((1 + a.tmod 255) % 256) ∧ Go.bits .xor .u8 b ((1 + a.tmod 255) % 256) < 256) ∧ Go.bits .xor .u8 b ((1 + a.tmod 255) % 256) ≠ b := by
  obtain ⟨x, rfl⟩ := Int.eq_ofNat_of_zero_le hb.1
  obtain ⟨y, rfl⟩ := Int.eq_ofNat_of_zero_le ha.1
  have e : (1 + ((y : Nat) : Int).tmod 255) % 256 = ((1 + y % 255 : Nat) : Int) := by
    have := YtanfmnobanhcnaaH.Crc.tmod_nat y 255
    rw [show ((255 : Nat) : Int) = 255 from rfl] at this
    rw [this]
    omega
  rw [e, u8_xor_nat x (1 + y % 255) (by omega) (by omega)]
  have hlt : x ^^^ (1 + y % 255) < 256 := Nat.xor_lt_two_pow (n := 8) (by omega) (by omega)
  refine ⟨⟨by omega, by omega⟩, fun h => ?_⟩
  have h1 : x ^^^ (1 + y % 255) = x := by omega
  have h2 := congrArg (fun t => x ^^^ t) h1
  simp only [YtanfmnobanhcnaaH.Crc.xcan, Nat.xor_self] at h2
  omega
set_option maxHeartbeats 8000000 in
set_option maxRecDepth 100000 in
theorem thresherlaw16_RecordTurns.calls (n0 n1 a0 a1 : Int) (r : Bool) (w : World) (h : thresherlaw16_RecordTurns.f n0 n1 a0 a1 = some r) :
    Calls Try.prog 7 #[.agg #[.int .u16 n0, .int .u16 n1], .agg #[.int .u8 a0, .int .u8 a1]] w fun e w' => e = .returned (.bool r) ∧ Below w.heap.size w w' := by
  have hu30 := Try.underlying30
  have hu25 := Try.underlying25
  have hr : (((Lit.int .u16 n0).wf = true ∧ (Lit.int .u16 n1).wf = true) ∧ (Lit.int .u8 a0).wf = true ∧ (Lit.int .u8 a1).wf = true) ∧ true = r := by
    unfold thresherlaw16_RecordTurns.f at h
    split at h
    · exact ⟨by assumption, Option.some.inj h⟩
    · cases h
  obtain ⟨⟨⟨hw0, hw1⟩, hw2, hw3⟩, rfl⟩ := hr
  have hn0 := YtanfmnobanhcnaaH.Crc.wf_u16 hw0
  have hn1 := YtanfmnobanhcnaaH.Crc.wf_u16 hw1
  have ha0 := YtanfmnobanhcnaaH.Crc.wf_u8 hw2
  have ha1 := YtanfmnobanhcnaaH.Crc.wf_u8 hw3
  clear h hw0 hw1 hw2 hw3
  have HN := Aside0.mk (show (0 ≤ n0 ∧ n0 < 65536) ∧ (0 ≤ n1 ∧ n1 < 65536) ∧ (0 ≤ a0 ∧ a0 < 256) ∧ (0 ≤ a1 ∧ a1 < 256) from ⟨hn0, hn1, ha0, ha1⟩)
  go_enter Try.func7, Try.ntmps7
  go_wp2_with fail
  refine (thresherlaw16_shown.calls true _ thresherlaw16_RecordTurns.shown_true).mono ?_
  rintro e w1 ⟨rfl, hb1⟩
  have hg0 := blk_below (blk_alloc (blk_new w (.cells #[.int .u16 n0, .int .u16 n1] 48)) (.cells #[.int .u8 a0, .int .u8 a1] 49)) hb1
  have hg1 := blk_below (blk_new (w.alloc (.cells #[.int .u16 n0, .int .u16 n1] 48)) (.cells #[.int .u8 a0, .int .u8 a1] 49)) hb1
  have hsz : (w.alloc (.cells #[.int .u16 n0, .int .u16 n1] 48)).heap.size = w.heap.size + 1 := by show (w.heap.push _).size = _; simp
  rw [hsz] at hg1
  have HB1 := Aside0.mk (below_step (below_step (YtanfmnobanhcnaaH.below_alloc1 w (.cells #[.int .u16 n0, .int .u16 n1] 48)) (YtanfmnobanhcnaaH.below_alloc1 (w.alloc (.cells #[.int .u16 n0, .int .u16 n1] 48)) (.cells #[.int .u8 a0, .int .u8 a1] 49))) hb1)
  have HG0 := Aside0.mk hg0
  have HG1 := Aside0.mk hg1
  clear hb1 hg0 hg1 hsz
  have qn0 := YtanfmnobanhcnaaH.cellv HG0.out 0 (.int .u16 n0) rfl
  have qn1 := YtanfmnobanhcnaaH.cellv HG0.out 1 (.int .u16 n1) rfl
  have hwr0 : wrap64 n0 = n0 := YtanfmnobanhcnaaH.Crc.wrap64_in _ (by omega) (by omega)
  have hwr1 : wrap64 n1 = n1 := YtanfmnobanhcnaaH.Crc.wrap64_in _ (by omega) (by omega)
  clear hn0 hn1 ha0 ha1
  go_wp2_with fail
  clear hwr0 hwr1 qn0 qn1
  have hmay := thresherlaw16_RecordTurns.may n0 n1 HN.out.1 HN.out.2.1
  have hlen := thresherlaw16_RecordTurns.len n0 n1 HN.out.1 HN.out.2.1
  have hput : YtanfmnobanhcnaaH.Rec.recPut 3 [] 0 0 0 [n1, 5] n0 = (YtanfmnobanhcnaaH.Fr.frameI (YtanfmnobanhcnaaH.Rec.recB 3 [] 0 0 0 [n1, 5] n0), true) := by
    unfold YtanfmnobanhcnaaH.Rec.recPut
    rw [if_pos hmay]
  have hturn := fun j hj v hv hne => YtanfmnobanhcnaaH.Rec.recTake_turn hmay hlen.2 j hj v hv hne
  have hBF : YtanfmnobanhcnaaH.Crc.isB (YtanfmnobanhcnaaH.Fr.frameI (YtanfmnobanhcnaaH.Rec.recB 3 [] 0 0 0 [n1, 5] n0)) := YtanfmnobanhcnaaH.Fr.isB_frame (YtanfmnobanhcnaaH.Rec.isB_recB hmay)
  have hfl := YtanfmnobanhcnaaH.Fr.frameI_len (YtanfmnobanhcnaaH.Rec.recB 3 [] 0 0 0 [n1, 5] n0)
  have hpos := YtanfmnobanhcnaaH.Var.putI_pos ((YtanfmnobanhcnaaH.Rec.recB 3 [] 0 0 0 [n1, 5] n0).length : Int)
  have hp10 := YtanfmnobanhcnaaH.Var.putI_len10 ((YtanfmnobanhcnaaH.Rec.recB 3 [] 0 0 0 [n1, 5] n0).length : Int) (by omega)
  have hl9 : 9 ≤ (YtanfmnobanhcnaaH.Fr.frameI (YtanfmnobanhcnaaH.Rec.recB 3 [] 0 0 0 [n1, 5] n0)).length ∧ (YtanfmnobanhcnaaH.Fr.frameI (YtanfmnobanhcnaaH.Rec.recB 3 [] 0 0 0 [n1, 5] n0)).length ≤ 200 := by omega
  obtain ⟨fr, hfr⟩ : ∃ fr, fr = YtanfmnobanhcnaaH.Fr.frameI (YtanfmnobanhcnaaH.Rec.recB 3 [] 0 0 0 [n1, 5] n0) := ⟨_, rfl⟩
  rw [← hfr] at hput hturn hl9 hBF
  have HPUT := Aside0.mk hput
  have HTURN := Aside0.mk hturn
  have HL9 := Aside0.mk hl9
  have HBF := Aside0.mk hBF
  clear hmay hlen hput hturn hfl hpos hp10 hl9 hfr hBF
  refine (record_Put.calls 3 none 0 [] 0 0 0 (some ⟨w1.heap.size, 0, none⟩) 2 [n1, 5] n0 fr true _ (YtanfmnobanhcnaaH.C_nil _ _) (Nat.le_refl 0) (Kd.R_reads' (YtanfmnobanhcnaaH.R_lits .i64 w1 w.heap.size 3 (fun _ => True) [n1, 5] HB1.out.size trivial (by simp))).2.2 (Nat.le_refl 2) (congrArg some HPUT.out)).mono ?_
  rintro e w2 ⟨v0, rfl, hr, hb⟩
  obtain ⟨gB, cB, cur, rfl, hcur⟩ := thresherlaw16_RecordTurns_own_at hr (by have := HL9.out; omega)
  have HB2 := Aside0.mk (below_step (Below.alloc HB1.out (below_size HB1.out) (.cells #[.int .i64 n1, .int .i64 5] 3)) hb)
  have hg0 := blk_below (blk_alloc HG0.out (.cells #[.int .i64 n1, .int .i64 5] 3)) hb
  have hg1 := blk_below (blk_alloc HG1.out (.cells #[.int .i64 n1, .int .i64 5] 3)) hb
  have HG0' := Aside0.mk hg0
  have HG1' := Aside0.mk hg1
  have HR := Aside0.mk hr
  have HCUR := Aside0.mk hcur
  have HS1 := Aside0.mk (below_size HB1.out)
  clear hg0 hg1 hr hb hcur HG0 HG1 HB1
  have qa0 := YtanfmnobanhcnaaH.cellv HG1'.out 0 (.int .u8 a0) rfl
  have hw0 : wrap64 a0 = a0 := YtanfmnobanhcnaaH.Crc.wrap64_in _ (by have := HN.out; omega) (by have := HN.out; omega)
  have hlt9 : decide ((fr.length : Int) < 9) = false := decide_eq_false (by have := HL9.out; omega)
  have hne0 : ((fr.length : Int) == 0) = false := by rw [beq_eq_false_iff_ne]; have := HL9.out; omega
  obtain ⟨j, hj⟩ : ∃ j, j = a0.toNat % fr.length := ⟨_, rfl⟩
  have hjl : j < fr.length := by rw [hj]; exact Nat.mod_lt _ (by have := HL9.out; omega)
  have htm : a0.tmod fr.length = (j : Int) := by
    have h1 := YtanfmnobanhcnaaH.Crc.tmod_nat a0.toNat fr.length
    have e : ((a0.toNat : Nat) : Int) = a0 := by have := HN.out; omega
    rw [← hj, e] at h1
    exact h1
  obtain ⟨_, ea, hcj⟩ := YtanfmnobanhcnaaH.at_int (Kd.R_reads' HR.out).2.2 j hjl
  cases ea
  have haddr : Addr.add ⟨gB, 0, none⟩ j = ⟨gB, j, none⟩ := by
    unfold Addr.add
    by_cases h0 : j = 0
    · rw [h0]; rfl
    · simp [h0]
  rw [haddr] at hcj
  obtain ⟨bj, hbj⟩ : ∃ bj, bj = fr[j] := ⟨_, rfl⟩
  rw [← hbj] at hcj
  have HBJ := Aside0.mk hbj
  have HTM := Aside0.mk htm
  clear hj hbj haddr
  go_wp2_with fail
  have hcA : w2.drew.cell? ⟨gB, j, none⟩ = some (.int .u8 bj) := hcj
  have hcB : w2.drew.cell? ⟨w.heap.size + 1, 1, none⟩ = some (.int .u8 a1) := YtanfmnobanhcnaaH.cellv HG1'.out 1 (.int .u8 a1) rfl
  have hfz : w2.drew.frozen? ⟨gB, j, none⟩ = false := blk_frozen (show w2.drew.heap[gB]? = _ from HCUR.out) j
  have HB3 := Aside0.mk (below_drew1 HB2.out)
  have HR3 := Aside0.mk (Kd.R_drew HR.out)
  refine start_ (n := 13) (S := fun w' => w'.cell? ⟨gB, j, none⟩ = some (.int .u8 bj) ∧ w'.cell? ⟨w.heap.size + 1, 1, none⟩ = some (.int .u8 a1)) (ds := [12]) #[false, false, false, false, false, false, false, false, false, false, false, false, false] (by kernel_rfl) rfl rfl ⟨hcA, hcB⟩ (fun hHeld => ?_)
  generalize w2.drew = w5 at HB3 HR3 hfz hHeld hcA hcB ⊢
  refine pure_ (i := 0) (N := some 38) (v := ?_) (a' := ?_) #[true, false, false, false, false, false, false, false, false, false, false, false, false] rfl rfl (by kernel_rfl) (fun _ _ _ h => h) (Or.inl ⟨by rfl, ?_⟩) ?_ ?_
  rotate_left
  · intro w'
    go_simp
    with_reducible rfl
  rotate_left
  · simp only [Act.put, List.setIfInBounds_toArray, List.set_cons_zero, List.set_cons_succ, i64_w, i32_w]
    rfl
  refine pure_ (i := 1) (N := some 39) (v := ?_) (a' := ?_) #[true, true, false, false, false, false, false, false, false, false, false, false, false] rfl rfl (by kernel_rfl) (fun _ _ _ h => h) (Or.inl ⟨by rfl, ?_⟩) ?_ ?_
  rotate_left
  · intro w'
    go_simp
    with_reducible rfl
  rotate_left
  · simp only [Act.put, List.setIfInBounds_toArray, List.set_cons_zero, List.set_cons_succ, i64_w, i32_w]
    rfl
  refine pure_ (i := 2) (N := some 40) (v := ?_) (a' := ?_) #[true, true, true, false, false, false, false, false, false, false, false, false, false] rfl rfl (by kernel_rfl) (fun _ _ _ h => h) (Or.inl ⟨by rfl, ?_⟩) ?_ ?_
  rotate_left
  · intro w'
    go_simp
    with_reducible rfl
  rotate_left
  · simp only [Act.put, List.setIfInBounds_toArray, List.set_cons_zero, List.set_cons_succ, i64_w, i32_w]
    rfl
  refine pure_ (i := 3) (N := some 41) (v := ?_) (a' := ?_) #[true, true, true, true, false, false, false, false, false, false, false, false, false] rfl rfl (by kernel_rfl) (fun _ _ _ h => h) (Or.inl ⟨by rfl, ?_⟩) ?_ ?_
  rotate_left
  · intro w'
    go_simp
    with_reducible rfl
  rotate_left
  · simp only [Act.put, List.setIfInBounds_toArray, List.set_cons_zero, List.set_cons_succ, i64_w, i32_w]
    rfl
  refine pure_ (i := 4) (N := some 42) (v := ?_) (a' := ?_) #[true, true, true, true, true, false, false, false, false, false, false, false, false] rfl rfl (by kernel_rfl) (fun _ _ _ h => h) (Or.inl ⟨by rfl, ?_⟩) ?_ ?_
  rotate_left
  · intro w'
    go_simp
    with_reducible rfl
  rotate_left
  · simp only [Act.put, List.setIfInBounds_toArray, List.set_cons_zero, List.set_cons_succ, i64_w, i32_w]
    rfl
  refine pure_ (i := 6) (N := some 44) (v := ?_) (a' := ?_) #[true, true, true, true, true, false, true, false, false, false, false, false, false] rfl rfl (by kernel_rfl) (fun _ _ _ h => h) (Or.inl ⟨by rfl, ?_⟩) ?_ ?_
  rotate_left
  · intro w'
    go_simp
    with_reducible rfl
  rotate_left
  · simp only [Act.put, List.setIfInBounds_toArray, List.set_cons_zero, List.set_cons_succ, i64_w, i32_w]
    rfl
  refine take_ (i := 5) (N := some 43) (v := ?_) (a' := ?_) #[true, true, true, true, true, true, true, false, false, false, false, false, false] rfl rfl (by kernel_rfl) (fun _ _ _ h => h) (Or.inl ⟨by rfl, ?_⟩) hHeld ?_ ?_
  rotate_left
  · rintro w' ⟨s0, s1⟩
    go_simp
    with_reducible rfl
  rotate_left
  · simp only [Act.put, List.setIfInBounds_toArray, List.set_cons_zero, List.set_cons_succ, i64_w, i32_w]
    rfl
  refine take_ (i := 7) (N := some 45) (v := ?_) (a' := ?_) #[true, true, true, true, true, true, true, true, false, false, false, false, false] rfl rfl (by kernel_rfl) (fun _ _ _ h => h) (Or.inl ⟨by rfl, ?_⟩) hHeld ?_ ?_
  rotate_left
  · rintro w' ⟨s0, s1⟩
    go_simp
    with_reducible rfl
  rotate_left
  · simp only [Act.put, List.setIfInBounds_toArray, List.set_cons_zero, List.set_cons_succ, i64_w, i32_w]
    rfl
  refine pure_ (i := 8) (N := some 46) (v := ?_) (a' := ?_) #[true, true, true, true, true, true, true, true, true, false, false, false, false] rfl rfl (by kernel_rfl) (fun _ _ _ h => h) (Or.inl ⟨by rfl, ?_⟩) ?_ ?_
  rotate_left
  · intro w'
    go_simp
    with_reducible rfl
  rotate_left
  · simp only [Act.put, List.setIfInBounds_toArray, List.set_cons_zero, List.set_cons_succ, i64_w, i32_w]
    rfl
  refine pure_ (i := 9) (N := some 47) (v := ?_) (a' := ?_) #[true, true, true, true, true, true, true, true, true, true, false, false, false] rfl rfl (by kernel_rfl) (fun _ _ _ h => h) (Or.inl ⟨by rfl, ?_⟩) ?_ ?_
  rotate_left
  · intro w'
    go_simp
    with_reducible rfl
  rotate_left
  · simp only [Act.put, List.setIfInBounds_toArray, List.set_cons_zero, List.set_cons_succ, i64_w, i32_w]
    rfl
  refine pure_ (i := 10) (N := some 48) (v := ?_) (a' := ?_) #[true, true, true, true, true, true, true, true, true, true, true, false, false] rfl rfl (by kernel_rfl) (fun _ _ _ h => h) (Or.inl ⟨by rfl, ?_⟩) ?_ ?_
  rotate_left
  · intro w'
    go_simp
    with_reducible rfl
  rotate_left
  · simp only [Act.put, List.setIfInBounds_toArray, List.set_cons_zero, List.set_cons_succ, i64_w, i32_w]
    rfl
  refine pure_ (i := 11) (N := some 49) (v := ?_) (a' := ?_) #[true, true, true, true, true, true, true, true, true, true, true, true, false] rfl rfl (by kernel_rfl) (fun _ _ _ h => h) (Or.inl ⟨by rfl, ?_⟩) ?_ ?_
  rotate_left
  · intro w'
    go_simp
    with_reducible rfl
  rotate_left
  · simp only [Act.put, List.setIfInBounds_toArray, List.set_cons_zero, List.set_cons_succ, i64_w, i32_w]
    rfl
  refine last_ (i := 12) (N := none) #[true, true, true, true, true, true, true, true, true, true, true, true, true] rfl rfl (by kernel_rfl) (by decide) (fun K hK => ?_)
  refine skip_ (w1 := ?_) (by rfl) rfl ?_ ?_
  rotate_left
  · go_simp
    rfl
  refine hK.out _ _ ?_
  clear hK K
  refine done_ (by kernel_rfl) ?_
  go_wp2_with fail
  obtain ⟨v, hv⟩ : ∃ v, v = Go.bits .xor .u8 bj ((1 + a1.tmod 255) % 256) := ⟨_, rfl⟩
  rw [← hv]
  have hvv : (0 ≤ v ∧ v < 256) ∧ v ≠ bj := by
    have hb := HBF.out bj (by rw [HBJ.out]; exact List.getElem_mem hjl)
    rw [hv]
    exact thresherlaw16_RecordTurns.turned bj a1 hb HN.out.2.2.2
  obtain ⟨fs, hfs⟩ : ∃ fs, fs = fr.set j v := ⟨_, rfl⟩
  have hls : fs.length = fr.length := by rw [hfs]; exact List.length_set ..
  have hR4 := (thresherlaw16_RecordTurns_own_set HR3.out j hjl v).1
  rw [← hfs, ← hls] at hR4
  have hBs : YtanfmnobanhcnaaH.Crc.isB fs := by
    rw [hfs]
    intro x hx
    rcases List.mem_or_eq_of_mem_set hx with hx | rfl
    · exact HBF.out x hx
    · exact hvv.1
  have hlaw := HTURN.out j hjl v hvv.1 (by rw [List.getD_eq_getElem?_getD, List.getElem?_eq_getElem hjl]; show v ≠ fr[j]; rw [← HBJ.out]; exact hvv.2)
  rw [← hfs] at hlaw
  have hB5 := Aside0.mk (Below.setCell HB3.out (p := ⟨gB, j, none⟩) (Nat.le_trans HS1.out (Nat.le_trans (below_size (YtanfmnobanhcnaaH.below_alloc1 w1 (.cells #[.int .i64 n1, .int .i64 5] 3))) (Kd.R_base HR.out gB rfl))) (.int .u8 v))
  have hc := record_Take.calls (some ⟨gB, 0, none⟩) cB fs _ (Kd.R_reads' hR4).2.2 (Kd.R_reads' hR4).2.1 hBs
  rw [hls] at hc
  refine hc.mono ?_
  clear hc hR4 hBs hfs hvv hv hls hfz HR3 HB3 HTURN HPUT HBF HBJ
  rintro e w6 ⟨vT, vI, rfl, hvT, hvI, hb6⟩
  have HB6 := Aside0.mk (below_step hB5.out hb6)
  generalize YtanfmnobanhcnaaH.Rec.recTake fs = q at hlaw hvT hvI ⊢
  obtain ⟨⟨kd, ⟨ts, k, m, gr⟩, ids, id⟩, n, er⟩ := q
  simp only at hlaw hvT hvI ⊢
  obtain ⟨AT, cT, rfl⟩ := Kd.V_slice hvT
  obtain ⟨AI, cI, rfl⟩ := Kd.V_slice hvI
  clear hvT hvI hb6 hB5
  have HBx := Aside0.mk (Below.alloc HB6.out (below_size HB6.out) (.cells #[.int .i64 kd, .slice AT ts.length cT, .int .i64 k, .int .i64 m, .int .i64 gr, .slice AI ids.length cI, .int .i64 id] 30))
  obtain ⟨rfl, hlaw⟩ := hlaw
  rcases hlaw with rfl | rfl
  · go_wp2
    go_ret
    exact ⟨rfl, HBx.out⟩
  · go_wp2
    go_ret
    exact ⟨rfl, HBx.out⟩


end Go.Proofs.Ytanfmnobanhcnaa.PRec3
