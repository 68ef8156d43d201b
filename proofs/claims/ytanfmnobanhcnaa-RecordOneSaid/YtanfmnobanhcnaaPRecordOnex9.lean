-- Written by hp.py (own driver over print.py) out of the translation, hand-made functions among it. Lean checks it.
import Derived.Test.YtanfmnobanhcnaaPRecordOnex0
import Derived.Test.YtanfmnobanhcnaaPRecordOnex4
import Derived.Test.YtanfmnobanhcnaaPRecordOnex6
import Derived.Test.YtanfmnobanhcnaaPRecordOnex8
namespace Go.Proofs.Ytanfmnobanhcnaa.PRecordOne
open Go.RowKit Go.Proofs.YtanfmnobanhcnaaW.PrintWords Go.Proofs.YtanfmnobanhcnaaW.PrintLast Go.Proofs.YtanfmnobanhcnaaW.PrintMore
attribute [local go_sem] max2_int min2_int max_two min_two max_three min_three max_four min_four   -- for this text's walks alone
set_option linter.unusedVariables false
set_option linter.unusedSimpArgs false

/-! ### record_Take: function 19 -/
set_option maxHeartbeats 2000000 in
theorem record_Take_below {w W : World} {g : Nat} (h : Below w.heap.size w W) (hg : w.heap.size ≤ g) (a b c d e f i : Value) : Below w.heap.size w (((((((W.setCell ⟨g, 0, none⟩ a).setCell ⟨g, 1, none⟩ b).setCell ⟨g, 2, none⟩ c).setCell ⟨g, 3, none⟩ d).setCell ⟨g, 4, none⟩ e).setCell ⟨g, 5, none⟩ f).setCell ⟨g, 6, none⟩ i) := below_set (below_set (below_set (below_set (below_set (below_set (below_set h hg) hg) hg) hg) hg) hg) hg
set_option maxHeartbeats 2000000 in
theorem record_Take_un (l : List Int) (h : YtanfmnobanhcnaaH.Crc.isB l) : YtanfmnobanhcnaaH.Crc.isB (YtanfmnobanhcnaaH.Fr.unframeI l).1 ∧ (YtanfmnobanhcnaaH.Fr.unframeI l).1.length ≤ 1048576 ∧ 0 ≤ (YtanfmnobanhcnaaH.Fr.unframeI l).2.1 ∧ (YtanfmnobanhcnaaH.Fr.unframeI l).2.1 ≤ l.length := by
  have hr := YtanfmnobanhcnaaH.Var.varI_range l
  unfold YtanfmnobanhcnaaH.Fr.unframeI
  split
  · exact ⟨(fun x hx => by cases hx), Nat.zero_le _, Int.le_refl 0, by show (0 : Int) ≤ _; omega⟩
  · rename_i hn
    split
    · refine ⟨YtanfmnobanhcnaaH.Var.isB_drop (YtanfmnobanhcnaaH.Var.isB_take h _) _, ?_, ?_, ?_⟩
      · show (List.drop _ (List.take _ l)).length ≤ _
        rw [List.length_drop, List.length_take]
        omega
      · show 0 ≤ (YtanfmnobanhcnaaH.Var.varI l).2 + 4 + (YtanfmnobanhcnaaH.Var.varI l).1
        omega
      · show (YtanfmnobanhcnaaH.Var.varI l).2 + 4 + (YtanfmnobanhcnaaH.Var.varI l).1 ≤ (l.length : Int)
        omega
    · exact ⟨(fun x hx => by cases hx), Nat.zero_le _, Int.le_refl 0, by show (0 : Int) ≤ _; omega⟩
set_option maxHeartbeats 2000000 in
theorem record_Take_isB (kd : Int) (ts : List Int) (k m g : Int) (ids : List Int) (id : Int) : YtanfmnobanhcnaaH.Crc.isB (YtanfmnobanhcnaaH.Rec.recPut kd ts k m g ids id).1 := by
  unfold YtanfmnobanhcnaaH.Rec.recPut
  split
  · rename_i h
    have := (YtanfmnobanhcnaaH.Rec.mayI_some h).1
    exact YtanfmnobanhcnaaH.Fr.isB_frame (YtanfmnobanhcnaaH.Rec.isB_rec (by omega))
  · intro x hx
    cases hx
set_option maxHeartbeats 2000000 in
theorem record_Take_kind (kd : Int) (l : List Int) (bad : Bool) : (YtanfmnobanhcnaaH.Rec.recR kd l bad).1.1 = kd := by
  unfold YtanfmnobanhcnaaH.Rec.recR
  generalize (if kd = 1 then YtanfmnobanhcnaaH.Rec.schR l bad else (([], 0, 0, 0), l, bad)) = s
  unfold YtanfmnobanhcnaaH.Rec.recR2
  by_cases h : s.2.2 = true
  · rw [if_pos h]
  · rw [if_neg h]
    generalize YtanfmnobanhcnaaH.Rec.numR s.2.1 s.2.2 = q
    by_cases h2 : kd = 2 ∨ q.2.2 = true
    · simp only []
      rw [if_pos h2]
    · simp only []
      rw [if_neg h2]
set_option maxHeartbeats 8000000 in
set_option maxRecDepth 100000 in
theorem record_Take.calls (A0 : Option Addr) (c0 : Nat) (l0 : List Int) (w : World) (hr0 : Kd.C (Kd.int .u8) w A0 l0.length l0) (hc0 : l0.length ≤ c0) (hB : YtanfmnobanhcnaaH.Crc.isB l0) :
    Calls Try.prog 19 #[.slice A0 l0.length c0] w fun e w' => ∃ vT vI, e = .returned (.tuple #[.agg #[.int .i64 (YtanfmnobanhcnaaH.Rec.recTake l0).1.1, vT, .int .i64 (YtanfmnobanhcnaaH.Rec.recTake l0).1.2.1.2.1, .int .i64 (YtanfmnobanhcnaaH.Rec.recTake l0).1.2.1.2.2.1, .int .i64 (YtanfmnobanhcnaaH.Rec.recTake l0).1.2.1.2.2.2, vI, .int .i64 (YtanfmnobanhcnaaH.Rec.recTake l0).1.2.2.2], .int .i64 (YtanfmnobanhcnaaH.Rec.recTake l0).2.1, .int .i64 (YtanfmnobanhcnaaH.Rec.recTake l0).2.2]) ∧
      Kd.V (Kd.int .i64) 3 w' 0 (fun k => w.heap.size ≤ k) vT (YtanfmnobanhcnaaH.Rec.recTake l0).1.2.1.1 ∧ Kd.V (Kd.int .i64) 3 w' 0 (fun k => w.heap.size ≤ k) vI (YtanfmnobanhcnaaH.Rec.recTake l0).1.2.2.1 ∧ Below w.heap.size w w' := by
  have hu30 := Try.underlying30
  have hu25 := Try.underlying25
  have hu83 := Try.underlying83
  obtain ⟨gb, hgb⟩ : ∃ gb, gb = w.heap.size := ⟨_, rfl⟩
  have hb0 := YtanfmnobanhcnaaH.below_alloc1 w (.cells #[.int .i64 0, .slice none 0 0, .int .i64 0, .int .i64 0, .int .i64 0, .slice none 0 0, .int .i64 0] 30)
  have HR0 := Aside0.mk hr0
  have hun := record_Take_un l0 hB
  have hrt : YtanfmnobanhcnaaH.Rec.recTake l0 = (fun u : List Int × Int × Int => if u.2.2 ≠ 0 then (YtanfmnobanhcnaaH.Rec.noRec, 0, u.2.2) else if u.1.length = 0 then (YtanfmnobanhcnaaH.Rec.noRec, 0, 10)
    else (fun q : YtanfmnobanhcnaaH.Rec.RecV × List Int × Bool => if q.2.2 = true ∨ (YtanfmnobanhcnaaH.Rec.putOf q.1).2 = false ∨ (YtanfmnobanhcnaaH.Rec.putOf q.1).1 ≠ l0.take u.2.1.toNat then (YtanfmnobanhcnaaH.Rec.noRec, 0, 10) else (q.1, u.2.1, 0)) (YtanfmnobanhcnaaH.Rec.recR (u.1.getD 0 0) (u.1.drop 1) false)) (YtanfmnobanhcnaaH.Fr.unframeI l0) := rfl
  have hcall : ∀ W : World, Kd.C (Kd.int .u8) W A0 l0.length l0 → _ := fun W hW => crc_Unframe.calls A0 c0 l0 (YtanfmnobanhcnaaH.Fr.unframeI l0).1 (YtanfmnobanhcnaaH.Fr.unframeI l0).2.1 (YtanfmnobanhcnaaH.Fr.unframeI l0).2.2 W hW hc0 (by unfold crc_Unframe.f; rw [if_pos hB])
  generalize YtanfmnobanhcnaaH.Fr.unframeI l0 = u at hun hrt hcall
  obtain ⟨d, n, er⟩ := u
  simp only at hun hrt hcall
  have HUN := Aside0.mk hun
  have HRT := Aside0.mk hrt
  have HCALL := Aside0.mk hcall
  clear hr0 hun hrt hcall
  go_enter Try.func19, Try.ntmps19
  go_wp2_with fail
  rw [← hgb]
  refine (HCALL.out _ (Kd.C_below HR0.out hb0)).mono ?_
  rintro e w1 ⟨v0, rfl, hd, hb1⟩
  obtain ⟨Ad, cd, rfl⟩ := Kd.R_slice hd
  have HG1 := Aside0.mk (show w1.heap[gb]? = some (.cells #[.int .i64 0, .slice none 0 0, .int .i64 0, .int .i64 0, .int .i64 0, .slice none 0 0, .int .i64 0] 30) by rw [hgb]; exact blk_below (blk_new w (.cells #[.int .i64 0, .slice none 0 0, .int .i64 0, .int .i64 0, .int .i64 0, .slice none 0 0, .int .i64 0] 30)) hb1)
  have HB1 := Aside0.mk (below_step hb0 hb1)
  have HD := Aside0.mk hd
  have HGB := Aside0.mk hgb
  clear hb0 hb1 hd HCALL hgb
  have qg0 := YtanfmnobanhcnaaH.cellv HG1.out 0 (.int .i64 0) rfl
  have fg0 := blk_frozen HG1.out 0
  have qg1 := YtanfmnobanhcnaaH.cellv HG1.out 1 (.slice none 0 0) rfl
  have fg1 := blk_frozen HG1.out 1
  have qg2 := YtanfmnobanhcnaaH.cellv HG1.out 2 (.int .i64 0) rfl
  have fg2 := blk_frozen HG1.out 2
  have qg3 := YtanfmnobanhcnaaH.cellv HG1.out 3 (.int .i64 0) rfl
  have fg3 := blk_frozen HG1.out 3
  have qg4 := YtanfmnobanhcnaaH.cellv HG1.out 4 (.int .i64 0) rfl
  have fg4 := blk_frozen HG1.out 4
  have qg5 := YtanfmnobanhcnaaH.cellv HG1.out 5 (.slice none 0 0) rfl
  have fg5 := blk_frozen HG1.out 5
  have qg6 := YtanfmnobanhcnaaH.cellv HG1.out 6 (.int .i64 0) rfl
  have fg6 := blk_frozen HG1.out 6
  by_cases h0 : er = 0
  · subst h0
    by_cases hd0 : d.length = 0
    · have HRES := Aside0.mk (show YtanfmnobanhcnaaH.Rec.recTake l0 = (YtanfmnobanhcnaaH.Rec.noRec, 0, 10) by rw [HRT.out, if_neg (by intro h; exact h rfl), if_pos hd0])
      obtain rfl := List.eq_nil_of_length_eq_zero hd0
      go_wp2
      refine bodyPost_ret (results_ctt rfl _ _ gb 30 #[.int .i64 0, .slice none 0 0, .int .i64 0, .int .i64 0, .int .i64 0, .slice none 0 0, .int .i64 0] (0, 0) _ rfl (record_reader_record_set HG1.out _ _ _ _ _ _ _) Try.underlying30 rfl (by kernel_rfl)) rfl ?_
      exact ⟨_, _, by rw [HRES.out]; rfl, by rw [HRES.out]; exact Kd.V_nil _ _ _ _ _, by rw [HRES.out]; exact Kd.V_nil _ _ _ _ _, record_Take_below HB1.out (Nat.le_of_eq HGB.out.symm) _ _ _ _ _ _ _⟩
    · have hd0b : ((d.length : Int) == 0) = false := by rw [beq_eq_false_iff_ne]; omega
      obtain ⟨ad, rfl, hcell⟩ := YtanfmnobanhcnaaH.at_int (Kd.R_reads' HD.out).2.2 0 (by omega)
      obtain ⟨d0, hd0'⟩ : ∃ d0, d0 = d[0] := ⟨_, rfl⟩
      rw [← hd0'] at hcell
      have hcell0 : w1.cell? ad = some (.int .u8 d0) := by
        have e : ad.add 0 = ad := by cases ad; simp [Addr.add]
        rw [e] at hcell
        exact hcell
      have hdB := HUN.out.1 d0 (by rw [hd0']; exact List.getElem_mem _)
      have hgd : d.getD 0 0 = d0 := by rw [hd0', List.getD_eq_getElem?_getD, List.getElem?_eq_getElem (by omega)]; rfl
      have HRT2 := Aside0.mk (show YtanfmnobanhcnaaH.Rec.recTake l0 = (fun q : YtanfmnobanhcnaaH.Rec.RecV × List Int × Bool => if q.2.2 = true ∨ (YtanfmnobanhcnaaH.Rec.putOf q.1).2 = false ∨ (YtanfmnobanhcnaaH.Rec.putOf q.1).1 ≠ l0.take n.toNat then (YtanfmnobanhcnaaH.Rec.noRec, 0, 10) else (q.1, n, 0)) (YtanfmnobanhcnaaH.Rec.recR d0 (d.drop 1) false) by rw [HRT.out, if_neg (by intro h; exact h rfl), if_neg hd0, hgd])
      have hwr : wrap64 d0 = d0 := YtanfmnobanhcnaaH.Crc.wrap64_in _ (by omega) (by omega)
      have hV0 : Kd.V (Kd.int .u8) 5 w1 0 (fun k => k < w1.heap.size) (.slice (some ad) d.length cd) d := Kd.V_mono (Kd.R_V (Kd.R_bound HD.out)) (fun k hk => hk.2.2.1)
      have hF2 := Kd.F_cut (m := 1) (c := cd) (Kd.V_at hV0).2.2 (by omega) (Kd.V_at hV0).2.1
      obtain ⟨i0, hi0, _, hsz0, _⟩ := info_parts info5
      have hcut := cut_from (P := Try.prog) 26 5 .i64 Try.underlying26 hi0 1 hsz0 (some ad) d.length cd 1 (by omega) (by omega)
      obtain ⟨A', hA'⟩ : ∃ A' : Option Addr, A' = (if cd = 1 then some ad else (some ad : Option Addr).map (·.add (1 * 1))) := ⟨_, rfl⟩
      obtain ⟨c', hc'⟩ : ∃ c', c' = cd - 1 := ⟨_, rfl⟩
      obtain ⟨l', hl'⟩ : ∃ l', l' = d.drop 1 := ⟨_, rfl⟩
      have hle : d.length - 1 = l'.length := by rw [hl', List.length_drop]
      rw [show (1 : Int).toNat = 1 from rfl, ← hA', ← hc', hle] at hcut
      have hV1 : Kd.V (Kd.int .u8) 5 w1 0 (fun k => k < w1.heap.size) (.slice A' l'.length c') l' := by
        have hF3 : Kd.F (Kd.int .u8) w1 (fun k => k < w1.heap.size) A' l'.length l' := by rw [hA', hl']; exact hF2
        exact Kd.V_mk (by have := (Kd.V_at hV0).2.1; omega) hF3
      have HLB := Aside0.mk (show YtanfmnobanhcnaaH.Crc.isB l' ∧ l'.length ≤ 1048576 by rw [hl']; exact ⟨YtanfmnobanhcnaaH.Var.isB_drop HUN.out.1 _, by have := HUN.out.2.1; rw [List.length_drop]; omega⟩)
      have hrt2 := HRT2.out
      rw [← hl'] at hrt2
      have HRT3 := Aside0.mk hrt2
      obtain ⟨gr_, hgr⟩ : ∃ gr_, gr_ = w1.heap.size := ⟨_, rfl⟩
      have hcell1 := (World.cell?_alloc_lt w1 (.cells #[.slice A' l'.length c', .bool false] 83) _ (World.block_lt_of_cell? _ _ hcell0)).trans hcell0
      have HV1 := Aside0.mk (show Kd.V (Kd.int .u8) 5 (w1.alloc (.cells #[.slice A' l'.length c', .bool false] 83)) 0 (fun k => k < gr_) (.slice A' l'.length c') l' by rw [hgr]; exact Kd.V_alloc hV1 _)
      have HGR := Aside0.mk (show (w1.alloc (.cells #[.slice A' l'.length c', .bool false] 83)).heap[gr_]? = some (.cells #[.slice A' l'.length c', .bool false] 83) by rw [hgr]; exact blk_new w1 _)
      have HB2 := Aside0.mk (show Below w.heap.size w (w1.alloc (.cells #[.slice A' l'.length c', .bool false] 83)) from Below.alloc HB1.out (below_size HB1.out) _)
      have HS1 := Aside0.mk (show (w1.alloc (.cells #[.slice A' l'.length c', .bool false] 83)).heap.size = gr_ + 1 by rw [hgr]; exact record_reader_record_sz _ _)
      have HG1' := Aside0.mk (blk_alloc HG1.out (.cells #[.slice A' l'.length c', .bool false] 83))
      have HGLT := Aside0.mk (show gb < gr_ by rw [hgr]; exact blk_lt HG1.out)
      have HKB := Aside0.mk hdB
      clear hcell hd0' hgd hF2 hi0 hsz0 hA' hc' hl' hle hV0 hV1 HRT2 hrt2 HRT hdB
      clear qg0 fg0 qg1 fg1 qg2 fg2 qg3 fg3 qg4 fg4 qg5 fg5 qg6 fg6
      go_wp2_with fail
      clear hwr
      rw [← hgr]
      refine (record_reader_record.calls gr_ d0 l' false _ ⟨_, HGR.out, HV1.out⟩ HLB.out.1 HLB.out.2).mono ?_
      rintro e w2 ⟨vT, vI, rfl, hvT, hvI, hrd, hm⟩
      have HB3 := Aside0.mk (hm.under HB2.out (by rw [HS1.out, ← HGB.out]; have := HGLT.out; omega) (by rw [← HGB.out]; exact Nat.le_of_lt HGLT.out) (fun k hk => by cases hk))
      have HG3 := Aside0.mk (hm.blk HG1'.out (by have := HGLT.out; omega) (by simp))
      rw [HS1.out] at hvT hvI
      have hrt3 := HRT3.out
      have hkd := record_Take_kind d0 l' false
      generalize YtanfmnobanhcnaaH.Rec.recR d0 l' false = q at hvT hvI hrd hrt3 hkd ⊢
      obtain ⟨⟨kd, ⟨ts, k, m, gr⟩, ids, id⟩, l2, b2⟩ := q
      simp only at hvT hvI hrd hrt3 hkd ⊢
      subst hkd
      obtain ⟨AT, cT, rfl⟩ := Kd.V_slice hvT
      obtain ⟨AI, cI, rfl⟩ := Kd.V_slice hvI
      have HRT4 := Aside0.mk hrt3
      have HVT3 := Aside0.mk hvT
      have HVI3 := Aside0.mk hvI
      have HRD3 := Aside0.mk (hrd.below (YtanfmnobanhcnaaH.below_alloc1 w2 (.cells #[.int .i64 kd, .slice AT ts.length cT, .int .i64 k, .int .i64 m, .int .i64 gr, .slice AI ids.length cI, .int .i64 id] 30)))
      obtain ⟨gx, hgx⟩ : ∃ gx, gx = w2.heap.size := ⟨_, rfl⟩
      have HB4 := Aside0.mk (show Below w.heap.size w (w2.alloc (.cells #[.int .i64 kd, .slice AT ts.length cT, .int .i64 k, .int .i64 m, .int .i64 gr, .slice AI ids.length cI, .int .i64 id] 30)) from Below.alloc HB3.out (below_size HB3.out) _)
      have HG4 := Aside0.mk (blk_alloc HG3.out (.cells #[.int .i64 kd, .slice AT ts.length cT, .int .i64 k, .int .i64 m, .int .i64 gr, .slice AI ids.length cI, .int .i64 id] 30))
      have HX4 := Aside0.mk (show (w2.alloc (.cells #[.int .i64 kd, .slice AT ts.length cT, .int .i64 k, .int .i64 m, .int .i64 gr, .slice AI ids.length cI, .int .i64 id] 30)).heap[gx]? = some (.cells #[.int .i64 kd, .slice AT ts.length cT, .int .i64 k, .int .i64 m, .int .i64 gr, .slice AI ids.length cI, .int .i64 id] 30) by rw [hgx]; exact blk_new w2 _)
      have hcT := (Kd.V_reads' (Kd.V_alloc hvT (.cells #[.int .i64 kd, .slice AT ts.length cT, .int .i64 k, .int .i64 m, .int .i64 gr, .slice AI ids.length cI, .int .i64 id] 30)))
      have hcI := (Kd.V_reads' (Kd.V_alloc hvI (.cells #[.int .i64 kd, .slice AT ts.length cT, .int .i64 k, .int .i64 m, .int .i64 gr, .slice AI ids.length cI, .int .i64 id] 30)))
      have HCT := Aside0.mk hcT.2
      have HCI := Aside0.mk hcI.2
      have hpB := record_Take_isB kd ts k m gr ids id
      have hrt4 : YtanfmnobanhcnaaH.Rec.recTake l0 = if b2 = true ∨ (YtanfmnobanhcnaaH.Rec.recPut kd ts k m gr ids id).2 = false ∨ (YtanfmnobanhcnaaH.Rec.recPut kd ts k m gr ids id).1 ≠ l0.take n.toNat then (YtanfmnobanhcnaaH.Rec.noRec, 0, 10) else ((kd, (ts, k, m, gr), ids, id), n, 0) := hrt3
      have hpf : record_Put.f kd ts k m gr ids id = some (YtanfmnobanhcnaaH.Rec.recPut kd ts k m gr ids id) := rfl
      generalize YtanfmnobanhcnaaH.Rec.recPut kd ts k m gr ids id = pp at hpB hpf hrt4
      obtain ⟨pb, pok⟩ := pp
      simp only at hpB hrt4
      have HPB := Aside0.mk hpB
      have HPF := Aside0.mk hpf
      have HRT5 := Aside0.mk hrt4
      clear hvT hvI hrd hrt3 hm HRT4 HRT3 hcT hcI hpB hpf hrt4 hcell0 hcell1 hcut hd0 hd0b HGR HV1 HB1 HB2 HG1 HG1' HS1 HLB HD HG3 HB3 hgr
      go_wp2_with fail
      rw [← hgx]
      refine (record_Put.calls kd AT cT ts k m gr AI cI ids id pb pok _ HCT.out.2 HCT.out.1 HCI.out.2 HCI.out.1 HPF.out).mono ?_
      rintro e w3 ⟨v0, rfl, hput, hb3⟩
      obtain ⟨Ap, cp, rfl⟩ := Kd.R_slice hput
      have HB5 := Aside0.mk (below_step HB4.out hb3)
      have HG5 := Aside0.mk (blk_below HG4.out hb3)
      have HX5 := Aside0.mk (blk_below HX4.out hb3)
      have hrd5 := HRD3.out.below hb3
      have HVT5 := Aside0.mk (Kd.V_below (Kd.V_alloc HVT3.out (.cells #[.int .i64 kd, .slice AT ts.length cT, .int .i64 k, .int .i64 m, .int .i64 gr, .slice AI ids.length cI, .int .i64 id] 30)) hb3)
      have HVI5 := Aside0.mk (Kd.V_below (Kd.V_alloc HVI3.out (.cells #[.int .i64 kd, .slice AT ts.length cT, .int .i64 k, .int .i64 m, .int .i64 gr, .slice AI ids.length cI, .int .i64 id] 30)) hb3)
      have HP5 := Aside0.mk (Kd.R_reads' hput)
      have HA5 := Aside0.mk (Kd.C_below HR0.out HB5.out)
      obtain ⟨v2, hg2, _⟩ := hrd5
      have hqb := YtanfmnobanhcnaaH.cellv hg2 1 (.bool b2) rfl
      clear hg2 hput hb3 hgx HPF HB4 HG4 HX4 HRD3 HCT HCI HVT3 HVI3
      have qg0 := YtanfmnobanhcnaaH.cellv HG5.out 0 (.int .i64 0) rfl
      have fg0 := blk_frozen HG5.out 0
      have qg1 := YtanfmnobanhcnaaH.cellv HG5.out 1 (.slice none 0 0) rfl
      have fg1 := blk_frozen HG5.out 1
      have qg2 := YtanfmnobanhcnaaH.cellv HG5.out 2 (.int .i64 0) rfl
      have fg2 := blk_frozen HG5.out 2
      have qg3 := YtanfmnobanhcnaaH.cellv HG5.out 3 (.int .i64 0) rfl
      have fg3 := blk_frozen HG5.out 3
      have qg4 := YtanfmnobanhcnaaH.cellv HG5.out 4 (.int .i64 0) rfl
      have fg4 := blk_frozen HG5.out 4
      have qg5 := YtanfmnobanhcnaaH.cellv HG5.out 5 (.slice none 0 0) rfl
      have fg5 := blk_frozen HG5.out 5
      have qg6 := YtanfmnobanhcnaaH.cellv HG5.out 6 (.int .i64 0) rfl
      have fg6 := blk_frozen HG5.out 6
      cases b2 with
      | true =>
        have HRES := Aside0.mk (HRT5.out.trans (if_pos (.inl rfl)))
        go_wp2
        refine bodyPost_ret (results_ctt rfl _ _ gb 30 #[.int .i64 0, .slice none 0 0, .int .i64 0, .int .i64 0, .int .i64 0, .slice none 0 0, .int .i64 0] (0, 0) _ rfl (record_reader_record_set HG5.out _ _ _ _ _ _ _) Try.underlying30 rfl (by kernel_rfl)) rfl ?_
        exact ⟨_, _, by rw [HRES.out]; rfl, by rw [HRES.out]; exact Kd.V_nil _ _ _ _ _, by rw [HRES.out]; exact Kd.V_nil _ _ _ _ _, record_Take_below HB5.out (Nat.le_of_eq HGB.out.symm) _ _ _ _ _ _ _⟩
      | false =>
        cases pok with
        | false =>
          have HRES := Aside0.mk (HRT5.out.trans (if_pos (.inr (.inl rfl))))
          go_wp2
          refine bodyPost_ret (results_ctt rfl _ _ gb 30 #[.int .i64 0, .slice none 0 0, .int .i64 0, .int .i64 0, .int .i64 0, .slice none 0 0, .int .i64 0] (0, 0) _ rfl (record_reader_record_set HG5.out _ _ _ _ _ _ _) Try.underlying30 rfl (by kernel_rfl)) rfl ?_
          exact ⟨_, _, by rw [HRES.out]; rfl, by rw [HRES.out]; exact Kd.V_nil _ _ _ _ _, by rw [HRES.out]; exact Kd.V_nil _ _ _ _ _, record_Take_below HB5.out (Nat.le_of_eq HGB.out.symm) _ _ _ _ _ _ _⟩
        | true =>
          have hcutB := cut_to (P := Try.prog) 26 5 .i64 Try.underlying26 (info_parts info5).choose_spec.1 A0 l0.length c0 n HUN.out.2.2.1 HUN.out.2.2.2 hc0
          obtain ⟨tk, htk⟩ : ∃ tk, tk = l0.take n.toNat := ⟨_, rfl⟩
          have htl : n.toNat = tk.length := by rw [htk, List.length_take]; have := HUN.out.2.2; omega
          rw [htl] at hcutB
          have hCt := Kd.C_take (m := n.toNat) HA5.out (by have := HUN.out.2.2; omega)
          rw [← htk] at hCt
          have HTK := Aside0.mk hCt
          have HTB := Aside0.mk (show YtanfmnobanhcnaaH.Crc.isB tk by rw [htk]; exact YtanfmnobanhcnaaH.Var.isB_take hB _)
          have HTL := Aside0.mk (show tk.length ≤ c0 by rw [← htl]; have := HUN.out.2.2; omega)
          have hrt6 := HRT5.out
          rw [← htk] at hrt6
          have HRT6 := Aside0.mk hrt6
          clear htk htl hCt hrt6 HRT5
          go_wp2_with fail
          refine (bytes_Equal.calls Ap cp pb A0 c0 tk (decide (pb = tk)) _ HP5.out.2.2 HP5.out.2.1 HTK.out HTL.out (by unfold bytes_Equal.f; rw [YtanfmnobanhcnaaH.Fr.str_beq HPB.out HTB.out])).mono ?_
          rintro e w4 ⟨rfl, hdr⟩
          have hb4 := hdr.below
          have HB6 := Aside0.mk (below_step HB5.out hb4)
          have HG6 := Aside0.mk (blk_below HG5.out hb4)
          have HX6 := Aside0.mk (blk_below HX5.out hb4)
          have HVT6 := Aside0.mk (Kd.V_below HVT5.out hb4)
          have HVI6 := Aside0.mk (Kd.V_below HVI5.out hb4)
          clear qg0 fg0 qg1 fg1 qg2 fg2 qg3 fg3 qg4 fg4 qg5 fg5 qg6 fg6
          clear hb4 hdr hqb HB5 HG5 HX5 HVT5 HVI5 HP5 HTK
          have qg0 := YtanfmnobanhcnaaH.cellv HG6.out 0 (.int .i64 0) rfl
          have fg0 := blk_frozen HG6.out 0
          have qg1 := YtanfmnobanhcnaaH.cellv HG6.out 1 (.slice none 0 0) rfl
          have fg1 := blk_frozen HG6.out 1
          have qg2 := YtanfmnobanhcnaaH.cellv HG6.out 2 (.int .i64 0) rfl
          have fg2 := blk_frozen HG6.out 2
          have qg3 := YtanfmnobanhcnaaH.cellv HG6.out 3 (.int .i64 0) rfl
          have fg3 := blk_frozen HG6.out 3
          have qg4 := YtanfmnobanhcnaaH.cellv HG6.out 4 (.int .i64 0) rfl
          have fg4 := blk_frozen HG6.out 4
          have qg5 := YtanfmnobanhcnaaH.cellv HG6.out 5 (.slice none 0 0) rfl
          have fg5 := blk_frozen HG6.out 5
          have qg6 := YtanfmnobanhcnaaH.cellv HG6.out 6 (.int .i64 0) rfl
          have fg6 := blk_frozen HG6.out 6
          by_cases heq : pb = tk
          · have hdec : decide (pb = tk) = true := decide_eq_true heq
            have HRES := Aside0.mk (HRT6.out.trans (if_neg (by rintro (h | h | h); cases h; cases h; exact h heq)))
            have qx0 := YtanfmnobanhcnaaH.cellv HX6.out 0 (Value.int .i64 kd) rfl
            have qx1 := YtanfmnobanhcnaaH.cellv HX6.out 1 (Value.slice AT ts.length cT) rfl
            have qx2 := YtanfmnobanhcnaaH.cellv HX6.out 2 (Value.int .i64 k) rfl
            have qx3 := YtanfmnobanhcnaaH.cellv HX6.out 3 (Value.int .i64 m) rfl
            have qx4 := YtanfmnobanhcnaaH.cellv HX6.out 4 (Value.int .i64 gr) rfl
            have qx5 := YtanfmnobanhcnaaH.cellv HX6.out 5 (Value.slice AI ids.length cI) rfl
            have qx6 := YtanfmnobanhcnaaH.cellv HX6.out 6 (Value.int .i64 id) rfl
            clear heq
            go_wp2
            refine bodyPost_ret (results_ctt rfl _ _ gb 30 #[Value.int .i64 kd, Value.slice AT ts.length cT, Value.int .i64 k, Value.int .i64 m, Value.int .i64 gr, Value.slice AI ids.length cI, Value.int .i64 id] (0, 0) _ rfl (record_reader_record_set HG6.out _ _ _ _ _ _ _) Try.underlying30 rfl (by kernel_rfl)) rfl ?_
            refine ⟨_, _, by rw [HRES.out]; rfl, by rw [HRES.out]; exact Kd.V_mono (record_reader_record_Vfar HVT6.out (fun k hk => by have := HGLT.out; omega) _ _ _ _ _ _ _) (fun k hk => by have := HGLT.out; have := HGB.out; omega), by rw [HRES.out]; exact Kd.V_mono (record_reader_record_Vfar HVI6.out (fun k hk => by have := HGLT.out; omega) _ _ _ _ _ _ _) (fun k hk => by have := HGLT.out; have := HGB.out; omega), record_Take_below HB6.out (Nat.le_of_eq HGB.out.symm) _ _ _ _ _ _ _⟩
          · have hdec : decide (pb = tk) = false := decide_eq_false heq
            have HRES := Aside0.mk (HRT6.out.trans (if_pos (.inr (.inr heq))))
            clear heq
            go_wp2
            refine bodyPost_ret (results_ctt rfl _ _ gb 30 #[.int .i64 0, .slice none 0 0, .int .i64 0, .int .i64 0, .int .i64 0, .slice none 0 0, .int .i64 0] (0, 0) _ rfl (record_reader_record_set HG6.out _ _ _ _ _ _ _) Try.underlying30 rfl (by kernel_rfl)) rfl ?_
            exact ⟨_, _, by rw [HRES.out]; rfl, by rw [HRES.out]; exact Kd.V_nil _ _ _ _ _, by rw [HRES.out]; exact Kd.V_nil _ _ _ _ _, record_Take_below HB6.out (Nat.le_of_eq HGB.out.symm) _ _ _ _ _ _ _⟩
  · have h0b : (er != 0) = true := by rw [bne_iff_ne]; exact h0
    have HRES := Aside0.mk (show YtanfmnobanhcnaaH.Rec.recTake l0 = (YtanfmnobanhcnaaH.Rec.noRec, 0, er) by rw [HRT.out, if_pos h0])
    go_wp2
    refine bodyPost_ret (results_ctt rfl _ _ gb 30 #[.int .i64 0, .slice none 0 0, .int .i64 0, .int .i64 0, .int .i64 0, .slice none 0 0, .int .i64 0] (0, 0) _ rfl (record_reader_record_set HG1.out _ _ _ _ _ _ _) Try.underlying30 rfl (by kernel_rfl)) rfl ?_
    exact ⟨_, _, by rw [HRES.out]; rfl, by rw [HRES.out]; exact Kd.V_nil _ _ _ _ _, by rw [HRES.out]; exact Kd.V_nil _ _ _ _ _, record_Take_below HB1.out (Nat.le_of_eq HGB.out.symm) _ _ _ _ _ _ _⟩


end Go.Proofs.Ytanfmnobanhcnaa.PRecordOne
