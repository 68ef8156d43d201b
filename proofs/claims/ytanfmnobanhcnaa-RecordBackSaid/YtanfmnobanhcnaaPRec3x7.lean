-- Written by hp.py (own driver over print.py) out of the translation, hand-made functions among it. Lean checks it.
import Derived.Test.YtanfmnobanhcnaaPRec3x0
import Derived.Test.YtanfmnobanhcnaaPRec3x2
import Derived.Test.YtanfmnobanhcnaaPRec3x5
import Derived.Test.YtanfmnobanhcnaaPRec3x6
namespace Go.Proofs.Ytanfmnobanhcnaa.PRec3
open Go.RowKit Go.Proofs.YtanfmnobanhcnaaW.PrintWords Go.Proofs.YtanfmnobanhcnaaW.PrintLast Go.Proofs.YtanfmnobanhcnaaW.PrintMore
attribute [local go_sem] max2_int min2_int max_two min_two max_three min_three max_four min_four   -- for this text's walks alone
set_option linter.unusedVariables false
set_option linter.unusedSimpArgs false

/-! ### schema_Take: function 110 -/
set_option maxHeartbeats 8000000 in
set_option maxRecDepth 100000 in
theorem schema_Take.calls (A0 : Option Addr) (c0 : Nat) (l0 : List Int) (ok0 : Nat → Prop) (w : World) (hv0 : Kd.V (Kd.int .u8) 5 w 0 ok0 (.slice A0 l0.length c0) l0) (hB : YtanfmnobanhcnaaH.Crc.isB l0) (hl : l0.length ≤ 1048576) :
    Calls Try.prog 110 #[.slice A0 l0.length c0] w fun e w' => ∃ vT, e = .returned (.tuple #[.agg #[vT, .int .i64 (YtanfmnobanhcnaaH.Rec.schT l0).1.2.1, .int .i64 (YtanfmnobanhcnaaH.Rec.schT l0).1.2.2.1, .int .i64 (YtanfmnobanhcnaaH.Rec.schT l0).1.2.2.2], .int .i64 (YtanfmnobanhcnaaH.Rec.schT l0).2]) ∧
      Kd.V (Kd.int .i64) 3 w' 0 (fun k => w.heap.size ≤ k) vT (YtanfmnobanhcnaaH.Rec.schT l0).1.1 ∧ Below w.heap.size w w' := by
  have hu25 := Try.underlying25
  obtain ⟨gb, hgb⟩ : ∃ gb, gb = w.heap.size := ⟨_, rfl⟩
  have hGz := Aside0.mk (show (w.alloc (.cells #[.slice none 0 0, .int .i64 0, .int .i64 0, .int .i64 0] 25)).heap[gb]? = some (.cells #[.slice none 0 0, .int .i64 0, .int .i64 0, .int .i64 0] 25) by rw [hgb]; exact blk_new w _)
  have hV1 := Aside0.mk (Kd.V_alloc (Kd.V_bound hv0) (.cells #[.slice none 0 0, .int .i64 0, .int .i64 0, .int .i64 0] 25))
  go_enter Try.func110, Try.ntmps110
  go_wp2_with fail
  rw [← hgb]
  have HGB := Aside0.mk hgb
  clear hgb
  go_loopw [0, 4] (fun v0 v4 w' => ∃ (acc l : List Int), Aside0 (YtanfmnobanhcnaaH.Rec.nums l0 = (YtanfmnobanhcnaaH.Rec.nums l).map (acc ++ ·)) ∧ Aside0 (YtanfmnobanhcnaaH.Crc.isB l ∧ acc.length + l.length ≤ l0.length ∧ ∀ y ∈ acc, 0 ≤ y ∧ y ≤ 1048576) ∧ Aside0 (Kd.V (Kd.int .u8) 5 w' 0 (fun k => ok0 k ∧ k < w.heap.size) v0 l) ∧ Aside0 (Kd.R (Kd.int .i64) 3 w' w.heap.size (fun k => k ≠ gb) v4 acc) ∧ Aside0 (Below w.heap.size w w') ∧ Aside0 (w'.heap[gb]? = some (.cells #[.slice none 0 0, .int .i64 0, .int .i64 0, .int .i64 0] 25))) (fun v0 _ _ => YtanfmnobanhcnaaH.Rec.lenOf v0)
  case atStart => exact ⟨[], l0, ⟨by cases YtanfmnobanhcnaaH.Rec.nums l0 <;> rfl⟩, ⟨hB, by simp, by simp⟩, hV1, ⟨Kd.R_nil _ _ _ _ _⟩, ⟨YtanfmnobanhcnaaH.below_alloc1 _ _⟩, hGz⟩
  case round =>
    clear hV1 hGz
    obtain ⟨acc, l, HN, HL, HV, HO, HB, HG⟩ := hrel
    obtain ⟨A, c, eA⟩ := Kd.V_slice HV.out
    subst eA
    by_cases h0 : l.length = 0
    · have hn0 : YtanfmnobanhcnaaH.Rec.nums l0 = some acc := by rw [HN.out, YtanfmnobanhcnaaH.Rec.nums_nil h0]; simp
      have HN0 := Aside0.mk hn0
      clear hn0
      obtain ⟨A4, c4, e4⟩ := Kd.R_slice HO.out
      subst e4
      have hq0 := YtanfmnobanhcnaaH.cellv HG.out 0 _ rfl
      have hq1 := YtanfmnobanhcnaaH.cellv HG.out 1 _ rfl
      have hq2 := YtanfmnobanhcnaaH.cellv HG.out 2 _ rfl
      have hq3 := YtanfmnobanhcnaaH.cellv HG.out 3 _ rfl
      have hf0 := blk_frozen HG.out 0
      have hf1 := blk_frozen HG.out 1
      have hf2 := blk_frozen HG.out 2
      have hf3 := blk_frozen HG.out 3
      by_cases h4 : acc.length < 4
      · have hres : YtanfmnobanhcnaaH.Rec.schT l0 = YtanfmnobanhcnaaH.Rec.noSch := by
          unfold YtanfmnobanhcnaaH.Rec.schT
          rw [HN0.out]
          exact if_pos h4
        have HRES := Aside0.mk hres
        clear hres
        go_wp2
        refine bodyPost_ret (results_ct rfl _ _ gb 25 #[.slice none 0 0, .int .i64 0, .int .i64 0, .int .i64 0] (0, 0) _ rfl (YtanfmnobanhcnaaH.set4 HG.out _ _ _ _) Try.underlying25 rfl (by kernel_rfl)) rfl ?_
        exact ⟨_, by rw [HRES.out]; rfl, by rw [HRES.out]; exact Kd.V_nil _ _ _ _ _, YtanfmnobanhcnaaH.below4 HB.out (Nat.le_of_eq HGB.out.symm) _ _ _ _⟩
      · obtain ⟨ad, rfl, hcell0⟩ := YtanfmnobanhcnaaH.at_int (Kd.R_reads' HO.out).2.2 0 (by omega)
        obtain ⟨n0, hn0⟩ : ∃ n0, n0 = acc[0] := ⟨_, rfl⟩
        rw [← hn0] at hcell0
        have hcell00 : wr.cell? ad = some (.int .i64 n0) := by
          have e : ad.add 0 = ad := by cases ad; simp [Addr.add]
          rw [e] at hcell0
          exact hcell0
        have hb0 := HL.out.2.2 n0 (by rw [hn0]; exact List.getElem_mem _)
        have hg0 : acc.getD 0 0 = n0 := by rw [hn0, List.getD_eq_getElem?_getD, List.getElem?_eq_getElem (by omega)]; rfl
        have HG0 := Aside0.mk hg0
        clear hn0 hg0
        obtain ⟨N, rfl⟩ := Int.eq_ofNat_of_zero_le hb0.1
        by_cases h5 : (acc.length : Int) = (N : Int) + 4
        · have hN : acc.length = N + 4 := by omega
          have hNb : N ≤ 1048576 := by omega
          obtain ⟨_, ea1, hcell1⟩ := YtanfmnobanhcnaaH.at_int (Kd.R_reads' HO.out).2.2 (N + 1) (by omega)
          cases ea1
          obtain ⟨_, ea2, hcell2⟩ := YtanfmnobanhcnaaH.at_int (Kd.R_reads' HO.out).2.2 (N + 2) (by omega)
          cases ea2
          obtain ⟨_, ea3, hcell3⟩ := YtanfmnobanhcnaaH.at_int (Kd.R_reads' HO.out).2.2 (N + 3) (by omega)
          cases ea3
          obtain ⟨k1, hk1⟩ : ∃ k1, k1 = acc[N + 1] := ⟨_, rfl⟩
          obtain ⟨k2, hk2⟩ : ∃ k2, k2 = acc[N + 2] := ⟨_, rfl⟩
          obtain ⟨k3, hk3⟩ : ∃ k3, k3 = acc[N + 3] := ⟨_, rfl⟩
          rw [← hk1] at hcell1
          rw [← hk2] at hcell2
          rw [← hk3] at hcell3
          have HK1 := Aside0.mk (show acc.getD (N + 1) 0 = k1 by rw [hk1, List.getD_eq_getElem?_getD, List.getElem?_eq_getElem (by omega)]; rfl)
          have HK2 := Aside0.mk (show acc.getD (N + 2) 0 = k2 by rw [hk2, List.getD_eq_getElem?_getD, List.getElem?_eq_getElem (by omega)]; rfl)
          have HK3 := Aside0.mk (show acc.getD (N + 3) 0 = k3 by rw [hk3, List.getD_eq_getElem?_getD, List.getElem?_eq_getElem (by omega)]; rfl)
          clear hk1 hk2 hk3
          have hres : YtanfmnobanhcnaaH.Rec.schT l0 = if YtanfmnobanhcnaaH.Rec.schemaOk ((acc.drop 1).take N) k1 k2 k3 = true then (((acc.drop 1).take N, k1, k2, k3), 0) else YtanfmnobanhcnaaH.Rec.noSch := by
            unfold YtanfmnobanhcnaaH.Rec.schT
            rw [HN0.out]
            show (if acc.length < 4 then _ else if (acc.length : Int) = acc.getD 0 0 + 4 then _ else _) = _
            rw [if_neg h4, HG0.out, if_pos h5]
            simp only [Int.toNat_natCast]
            rw [HK1.out, HK2.out, HK3.out]
          obtain ⟨ts, hts⟩ : ∃ ts, ts = (acc.drop 1).take N := ⟨_, rfl⟩
          have htl : ts.length = N := by rw [hts, List.length_take, List.length_drop]; omega
          obtain ⟨A', hA'⟩ : ∃ A', A' = (if N = 0 then some ad else some (ad.add 1)) := ⟨_, rfl⟩
          have hV0 : Kd.V (Kd.int .i64) 3 wr 0 (fun k => k ≠ gb ∧ w.heap.size ≤ k) (.slice (some ad) acc.length c4) acc := Kd.V_mono (Kd.R_V (Kd.R_bound HO.out)) (fun k hk => ⟨hk.1, hk.2.1⟩)
          have hF : Kd.F (Kd.int .i64) wr (fun k => k ≠ gb ∧ w.heap.size ≤ k) A' ts.length ts := by
            by_cases hz : N = 0
            · have : ts = [] := List.eq_nil_of_length_eq_zero (by omega)
              rw [this]
              exact fun W' _ => ⟨rfl, by simp, fun h => absurd h (by simp)⟩
            · have h1 := Kd.F_mid (lo := 1) (hi := N + 1) (c := c4) (Kd.V_at hV0).2.2 (by omega) (by omega) (Kd.V_at hV0).2.1
              have e1 : (acc.take (N + 1)).drop 1 = ts := by rw [hts, List.drop_take]; simp
              have e2 : (if c4 = 1 then (some ad : Option Addr) else (some ad).map (·.add (1 * (Kd.int .i64).sz))) = A' := by
                have := (Kd.V_at hV0).2.1
                rw [if_neg (by omega), hA', if_neg (by omega)]
                rfl
              rw [e1, e2] at h1
              exact h1
          have hcut : ∀ W : World, (Instr.slice 23 (.slice (some ad) (N + 4) c4) (some (.int .i64 1)) (some (.int .i64 ((N : Int) + 1))) (some (.int .i64 ((N : Int) + 1)))).run Try.prog W = .ok (.slice A' N N) W := by
            intro W
            have hel : (Try.prog).elem 23 = 3 := by simp [Program.elem, Try.underlying23]
            have hu : (Try.prog).underlying 23 = some (.slice ((Try.prog).elem 23)) := by rw [hel]; exact Try.underlying23
            obtain ⟨i0, hi0, _, hsz0, _⟩ := info_parts info3
            have hcc := (Kd.V_at hV0).2.1
            rw [run_slice_lhm W 23 (some ad) (N + 4) c4 hu .i64 .i64 .i64 1 ((N : Int) + 1) ((N : Int) + 1) (by omega) (by omega) (by omega) (by omega), hel]
            have e : ((N : Int) + 1).toNat = N + 1 := by omega
            simp [sizeOf, typeInfo, hi0, hsz0, sliced, Result.andThen, hA', e]
          have HRES0 := Aside0.mk hres
          have HTS := Aside0.mk (⟨hts, htl⟩ : ts = (acc.drop 1).take N ∧ ts.length = N)
          have HVT := Aside0.mk (Kd.V_mk (e := 3) (base := 0) (c := N) (show ts.length ≤ N by omega) hF)
          clear hres hts htl hA' hV0 hF
          go_wp2_with fail
          have hp1 : (0 : Int) ≤ (N : Int) + 1 := by omega
          have hp2 : wrap64 ((N : Int) + 1 + 1) = ((N + 2 : Nat) : Int) := (YtanfmnobanhcnaaH.Crc.wrap64_in _ (by omega) (by omega)).trans (by omega)
          have hp3 : wrap64 ((N : Int) + 1 + 2) = ((N + 3 : Nat) : Int) := (YtanfmnobanhcnaaH.Crc.wrap64_in _ (by omega) (by omega)).trans (by omega)
          have hq2' : (0 : Int) ≤ (N : Int) + 2 := by omega
          have hq3' : (0 : Int) ≤ (N : Int) + 3 := by omega
          have ht2 : ((N : Int) + 2).toNat = N + 2 := by omega
          have ht3 : ((N : Int) + 3).toNat = N + 3 := by omega
          have HB5 := Aside0.mk (below_drew1 HB.out)
          have HG5 := Aside0.mk (show wr.drew.heap[gb]? = _ from HG.out)
          have HV5 := Aside0.mk (Kd.V_drew HVT.out)
          refine start_ (n := 21) (S := fun w' => w'.cell? { block := ad.block, off := ad.off + (N + 1) } = some (.int .i64 k1) ∧ w'.cell? { block := ad.block, off := ad.off + (N + 2) } = some (.int .i64 k2) ∧ w'.cell? { block := ad.block, off := ad.off + (N + 3) } = some (.int .i64 k3)) (ds := [20]) #[false, false, false, false, false, false, false, false, false, false, false, false, false, false, false, false, false, false, false, false, false] (by kernel_rfl) rfl rfl ⟨hcell1, hcell2, hcell3⟩ (fun hHeld => ?_)
          generalize wr.drew = w5 at HB5 HG5 HV5 hHeld ⊢
          refine pure_ (i := 0) (N := some 49) (v := ?_) (a' := ?_) #[true, false, false, false, false, false, false, false, false, false, false, false, false, false, false, false, false, false, false, false, false] rfl rfl (by kernel_rfl) (fun _ _ _ h => h) (Or.inl ⟨by rfl, ?_⟩) ?_ ?_
          rotate_left
          · intro w'
            go_simp
            with_reducible rfl
          rotate_left
          · simp only [Act.put, List.setIfInBounds_toArray, List.set_cons_zero, List.set_cons_succ, i64_w, i32_w]
            rfl
          refine pure_ (i := 1) (N := some 50) (v := ?_) (a' := ?_) #[true, true, false, false, false, false, false, false, false, false, false, false, false, false, false, false, false, false, false, false, false] rfl rfl (by kernel_rfl) (fun _ _ _ h => h) (Or.inl ⟨by rfl, ?_⟩) ?_ ?_
          rotate_left
          · intro w'
            go_simp
            with_reducible rfl
          rotate_left
          · simp only [Act.put, List.setIfInBounds_toArray, List.set_cons_zero, List.set_cons_succ, i64_w, i32_w]
            rfl
          refine pure_ (i := 2) (N := some 51) (v := ?_) (a' := ?_) #[true, true, true, false, false, false, false, false, false, false, false, false, false, false, false, false, false, false, false, false, false] rfl rfl (by kernel_rfl) (fun _ _ _ h => h) (Or.inl ⟨by rfl, ?_⟩) ?_ ?_
          rotate_left
          · intro w'
            go_simp
            with_reducible rfl
          rotate_left
          · simp only [Act.put, List.setIfInBounds_toArray, List.set_cons_zero, List.set_cons_succ, i64_w, i32_w]
            rfl
          refine pure_ (i := 3) (N := some 52) (v := ?_) (a' := ?_) #[true, true, true, true, false, false, false, false, false, false, false, false, false, false, false, false, false, false, false, false, false] rfl rfl (by kernel_rfl) (fun _ _ _ h => h) (Or.inl ⟨by rfl, ?_⟩) ?_ ?_
          rotate_left
          · intro w'
            go_simp
            with_reducible rfl
          rotate_left
          · simp only [Act.put, List.setIfInBounds_toArray, List.set_cons_zero, List.set_cons_succ, i64_w, i32_w]
            rfl
          refine pure_ (i := 4) (N := some 53) (v := ?_) (a' := ?_) #[true, true, true, true, true, false, false, false, false, false, false, false, false, false, false, false, false, false, false, false, false] rfl rfl (by kernel_rfl) (fun _ _ _ h => h) (Or.inl ⟨by rfl, ?_⟩) ?_ ?_
          rotate_left
          · intro w'
            go_simp
            with_reducible rfl
          rotate_left
          · simp only [Act.put, List.setIfInBounds_toArray, List.set_cons_zero, List.set_cons_succ, i64_w, i32_w]
            rfl
          refine pure_ (i := 5) (N := some 54) (v := ?_) (a' := ?_) #[true, true, true, true, true, true, false, false, false, false, false, false, false, false, false, false, false, false, false, false, false] rfl rfl (by kernel_rfl) (fun _ _ _ h => h) (Or.inl ⟨by rfl, ?_⟩) ?_ ?_
          rotate_left
          · intro w'
            go_simp
            with_reducible rfl
          rotate_left
          · simp only [Act.put, List.setIfInBounds_toArray, List.set_cons_zero, List.set_cons_succ, i64_w, i32_w]
            rfl
          refine pure_ (i := 6) (N := some 55) (v := ?_) (a' := ?_) #[true, true, true, true, true, true, true, false, false, false, false, false, false, false, false, false, false, false, false, false, false] rfl rfl (by kernel_rfl) (fun _ _ _ h => h) (Or.inl ⟨by rfl, ?_⟩) ?_ ?_
          rotate_left
          · intro w'
            go_simp
            with_reducible rfl
          rotate_left
          · simp only [Act.put, List.setIfInBounds_toArray, List.set_cons_zero, List.set_cons_succ, i64_w, i32_w]
            rfl
          refine pure_ (i := 8) (N := some 57) (v := ?_) (a' := ?_) #[true, true, true, true, true, true, true, false, true, false, false, false, false, false, false, false, false, false, false, false, false] rfl rfl (by kernel_rfl) (fun _ _ _ h => h) (Or.inl ⟨by rfl, ?_⟩) ?_ ?_
          rotate_left
          · intro w'
            go_simp
            with_reducible rfl
          rotate_left
          · simp only [Act.put, List.setIfInBounds_toArray, List.set_cons_zero, List.set_cons_succ, i64_w, i32_w]
            rfl
          refine pure_ (i := 9) (N := some 58) (v := ?_) (a' := ?_) #[true, true, true, true, true, true, true, false, true, true, false, false, false, false, false, false, false, false, false, false, false] rfl rfl (by kernel_rfl) (fun _ _ _ h => h) (Or.inl ⟨by rfl, ?_⟩) ?_ ?_
          rotate_left
          · intro w'
            go_simp
            with_reducible rfl
          rotate_left
          · simp only [Act.put, List.setIfInBounds_toArray, List.set_cons_zero, List.set_cons_succ, i64_w, i32_w]
            rfl
          refine pure_ (i := 10) (N := some 59) (v := ?_) (a' := ?_) #[true, true, true, true, true, true, true, false, true, true, true, false, false, false, false, false, false, false, false, false, false] rfl rfl (by kernel_rfl) (fun _ _ _ h => h) (Or.inl ⟨by rfl, ?_⟩) ?_ ?_
          rotate_left
          · intro w'
            go_simp
            with_reducible rfl
          rotate_left
          · simp only [Act.put, List.setIfInBounds_toArray, List.set_cons_zero, List.set_cons_succ, i64_w, i32_w]
            rfl
          refine pure_ (i := 11) (N := some 60) (v := ?_) (a' := ?_) #[true, true, true, true, true, true, true, false, true, true, true, true, false, false, false, false, false, false, false, false, false] rfl rfl (by kernel_rfl) (fun _ _ _ h => h) (Or.inl ⟨by rfl, ?_⟩) ?_ ?_
          rotate_left
          · intro w'
            go_simp
            with_reducible rfl
          rotate_left
          · simp only [Act.put, List.setIfInBounds_toArray, List.set_cons_zero, List.set_cons_succ, i64_w, i32_w]
            rfl
          refine pure_ (i := 13) (N := some 62) (v := ?_) (a' := ?_) #[true, true, true, true, true, true, true, false, true, true, true, true, false, true, false, false, false, false, false, false, false] rfl rfl (by kernel_rfl) (fun _ _ _ h => h) (Or.inl ⟨by rfl, ?_⟩) ?_ ?_
          rotate_left
          · intro w'
            go_simp
            with_reducible rfl
          rotate_left
          · simp only [Act.put, List.setIfInBounds_toArray, List.set_cons_zero, List.set_cons_succ, i64_w, i32_w]
            rfl
          refine pure_ (i := 14) (N := some 63) (v := ?_) (a' := ?_) #[true, true, true, true, true, true, true, false, true, true, true, true, false, true, true, false, false, false, false, false, false] rfl rfl (by kernel_rfl) (fun _ _ _ h => h) (Or.inl ⟨by rfl, ?_⟩) ?_ ?_
          rotate_left
          · intro w'
            go_simp
            with_reducible rfl
          rotate_left
          · simp only [Act.put, List.setIfInBounds_toArray, List.set_cons_zero, List.set_cons_succ, i64_w, i32_w]
            rfl
          refine pure_ (i := 15) (N := some 64) (v := ?_) (a' := ?_) #[true, true, true, true, true, true, true, false, true, true, true, true, false, true, true, true, false, false, false, false, false] rfl rfl (by kernel_rfl) (fun _ _ _ h => h) (Or.inl ⟨by rfl, ?_⟩) ?_ ?_
          rotate_left
          · intro w'
            go_simp
            with_reducible rfl
          rotate_left
          · simp only [Act.put, List.setIfInBounds_toArray, List.set_cons_zero, List.set_cons_succ, i64_w, i32_w]
            rfl
          refine pure_ (i := 16) (N := some 65) (v := ?_) (a' := ?_) #[true, true, true, true, true, true, true, false, true, true, true, true, false, true, true, true, true, false, false, false, false] rfl rfl (by kernel_rfl) (fun _ _ _ h => h) (Or.inl ⟨by rfl, ?_⟩) ?_ ?_
          rotate_left
          · intro w'
            go_simp
            with_reducible rfl
          rotate_left
          · simp only [Act.put, List.setIfInBounds_toArray, List.set_cons_zero, List.set_cons_succ, i64_w, i32_w]
            rfl
          refine take_ (i := 7) (N := some 56) (v := ?_) (a' := ?_) #[true, true, true, true, true, true, true, true, true, true, true, true, false, true, true, true, true, false, false, false, false] rfl rfl (by kernel_rfl) (fun _ _ _ h => h) (Or.inl ⟨by rfl, ?_⟩) hHeld ?_ ?_
          rotate_left
          · rintro w' ⟨s0, s1, s2⟩
            go_simp
            with_reducible rfl
          rotate_left
          · simp only [Act.put, List.setIfInBounds_toArray, List.set_cons_zero, List.set_cons_succ, i64_w, i32_w]
            rfl
          refine take_ (i := 12) (N := some 61) (v := ?_) (a' := ?_) #[true, true, true, true, true, true, true, true, true, true, true, true, true, true, true, true, true, false, false, false, false] rfl rfl (by kernel_rfl) (fun _ _ _ h => h) (Or.inl ⟨by rfl, ?_⟩) hHeld ?_ ?_
          rotate_left
          · rintro w' ⟨s0, s1, s2⟩
            go_simp
            with_reducible rfl
          rotate_left
          · simp only [Act.put, List.setIfInBounds_toArray, List.set_cons_zero, List.set_cons_succ, i64_w, i32_w]
            rfl
          refine take_ (i := 17) (N := some 66) (v := ?_) (a' := ?_) #[true, true, true, true, true, true, true, true, true, true, true, true, true, true, true, true, true, true, false, false, false] rfl rfl (by kernel_rfl) (fun _ _ _ h => h) (Or.inl ⟨by rfl, ?_⟩) hHeld ?_ ?_
          rotate_left
          · rintro w' ⟨s0, s1, s2⟩
            go_simp
            with_reducible rfl
          rotate_left
          · simp only [Act.put, List.setIfInBounds_toArray, List.set_cons_zero, List.set_cons_succ, i64_w, i32_w]
            rfl
          refine pure_ (i := 18) (N := some 67) (v := ?_) (a' := ?_) #[true, true, true, true, true, true, true, true, true, true, true, true, true, true, true, true, true, true, true, false, false] rfl rfl (by kernel_rfl) (fun _ _ _ h => h) (Or.inl ⟨by rfl, ?_⟩) ?_ ?_
          rotate_left
          · intro w'
            go_simp
            with_reducible rfl
          rotate_left
          · simp only [Act.put, List.setIfInBounds_toArray, List.set_cons_zero, List.set_cons_succ, i64_w, i32_w]
            rfl
          refine one_ (i := 19) (N := some 8) #[true, true, true, true, true, true, true, true, true, true, true, true, true, true, true, true, true, true, true, true, false] rfl rfl (by kernel_rfl) (by decide) (fun K hK => ?_)
          refine value_ (w1 := ?_) (v := ?_) (by rfl) rfl ?_ ?_
          rotate_left 2
          · go_simp
            constructor
            · rfl
            · rfl
          refine hK.out _ _ ⟨(World.cell?_alloc_lt _ _ _ (World.block_lt_of_cell? _ _ (hHeld.1))).trans (hHeld.1), (World.cell?_alloc_lt _ _ _ (World.block_lt_of_cell? _ _ (hHeld.2.1))).trans (hHeld.2.1), (World.cell?_alloc_lt _ _ _ (World.block_lt_of_cell? _ _ (hHeld.2.2))).trans (hHeld.2.2)⟩ (fun hHeld => ?_)
          clear hK K
          refine norm_ (a' := ?_) ?_ ?_
          rotate_left
          · show Act.put _ (some 8) _ = _
            simp only [Act.put, List.setIfInBounds_toArray, List.set_cons_zero, List.set_cons_succ, i64_w, i32_w]
            rfl
          refine last_ (i := 20) (N := none) #[true, true, true, true, true, true, true, true, true, true, true, true, true, true, true, true, true, true, true, true, true] rfl rfl (by kernel_rfl) (by decide) (fun K hK => ?_)
          refine skip_ (w1 := ?_) (by rfl) rfl ?_ ?_
          rotate_left
          · go_simp
            rfl
          refine hK.out _ _ ?_
          clear hK K
          refine done_ (by kernel_rfl) ?_
          have hN5 := HTS.out.2
          clear hp2 hp3 hq2' hq3' ht2 ht3 hcut hcell0 hcell00 hcell1 hcell2 hcell3 hq0 hq1 hq2 hq3 hf0 hf1 hf2 hf3
          have hK := blk_new w5 (.cells #[.slice A' N N, .int .i64 k1, .int .i64 k2, .int .i64 k3] 25)
          have hB6 := Below.alloc HB5.out (HB5.out.size) (.cells #[.slice A' N N, .int .i64 k1, .int .i64 k2, .int .i64 k3] 25)
          have HG6 := Aside0.mk (blk_alloc HG5.out (.cells #[.slice A' N N, .int .i64 k1, .int .i64 k2, .int .i64 k3] 25))
          have HV6 := Aside0.mk (Kd.V_alloc HV5.out (.cells #[.slice A' N N, .int .i64 k1, .int .i64 k2, .int .i64 k3] 25))
          have HB6 := Aside0.mk hB6
          have HK := Aside0.mk hK
          have HNE := Aside0.mk (show gb < w5.heap.size from blk_lt HG5.out)
          clear hK hB6
          obtain ⟨gq, hgq⟩ : ∃ gq, gq = w5.heap.size := ⟨_, rfl⟩
          rw [← hgq] at HK HNE ⊢
          clear hgq
          generalize w5.alloc _ = w6 at HG6 HV6 HB6 HK ⊢
          have hq0 := YtanfmnobanhcnaaH.cellv HK.out 0 _ rfl
          have hq1 := YtanfmnobanhcnaaH.cellv HK.out 1 _ rfl
          have hq2 := YtanfmnobanhcnaaH.cellv HK.out 2 _ rfl
          have hq3 := YtanfmnobanhcnaaH.cellv HK.out 3 _ rfl
          have hg0 := YtanfmnobanhcnaaH.cellv HG6.out 0 _ rfl
          have hg1 := YtanfmnobanhcnaaH.cellv HG6.out 1 _ rfl
          have hg2 := YtanfmnobanhcnaaH.cellv HG6.out 2 _ rfl
          have hg3 := YtanfmnobanhcnaaH.cellv HG6.out 3 _ rfl
          have hf0 := blk_frozen HG6.out 0
          have hf1 := blk_frozen HG6.out 1
          have hf2 := blk_frozen HG6.out 2
          have hf3 := blk_frozen HG6.out 3
          go_wp2_with fail
          have hcc := schema_Check.calls A' N ts k1 k2 k3 _ w6 (Kd.V_reads' HV6.out).2.2 (by omega) rfl
          rw [hN5] at hcc
          refine hcc.mono ?_
          clear hcc
          rintro e w7 ⟨rfl, hb7⟩
          have HG7 := Aside0.mk (blk_below HG6.out hb7)
          have HK7 := Aside0.mk (blk_below HK.out hb7)
          have HV7 := Aside0.mk (Kd.V_below HV6.out hb7)
          have HB7 := Aside0.mk (below_step HB6.out hb7)
          clear hg0 hg1 hg2 hg3 hf0 hf1 hf2 hf3 hq0 hq1 hq2 hq3 hb7
          have hq0 := YtanfmnobanhcnaaH.cellv HK7.out 0 _ rfl
          have hq1 := YtanfmnobanhcnaaH.cellv HK7.out 1 _ rfl
          have hq2 := YtanfmnobanhcnaaH.cellv HK7.out 2 _ rfl
          have hq3 := YtanfmnobanhcnaaH.cellv HK7.out 3 _ rfl
          have hg0 := YtanfmnobanhcnaaH.cellv HG7.out 0 _ rfl
          have hg1 := YtanfmnobanhcnaaH.cellv HG7.out 1 _ rfl
          have hg2 := YtanfmnobanhcnaaH.cellv HG7.out 2 _ rfl
          have hg3 := YtanfmnobanhcnaaH.cellv HG7.out 3 _ rfl
          have hf0 := blk_frozen HG7.out 0
          have hf1 := blk_frozen HG7.out 1
          have hf2 := blk_frozen HG7.out 2
          have hf3 := blk_frozen HG7.out 3
          have hres := HRES0.out
          rw [← HTS.out.1] at hres
          cases hok : YtanfmnobanhcnaaH.Rec.schemaOk ts k1 k2 k3 with
          | false =>
            rw [hok, if_neg (by decide)] at hres
            have HRES := Aside0.mk hres
            have hck : YtanfmnobanhcnaaH.Rec.checkI ts k1 k2 k3 = 20 := by
              unfold YtanfmnobanhcnaaH.Rec.checkI
              rw [hok]
              exact if_neg (by decide)
            rw [hck]
            clear hck hok hres
            go_wp2
            refine bodyPost_ret (results_ct rfl _ _ gb 25 #[.slice none 0 0, .int .i64 0, .int .i64 0, .int .i64 0] (0, 0) _ rfl (YtanfmnobanhcnaaH.set4 HG7.out _ _ _ _) Try.underlying25 rfl (by kernel_rfl)) rfl ?_
            exact ⟨_, by rw [HRES.out]; rfl, by rw [HRES.out]; exact Kd.V_nil _ _ _ _ _, YtanfmnobanhcnaaH.below4 HB7.out (Nat.le_of_eq HGB.out.symm) _ _ _ _⟩
          | true =>
            rw [hok, if_pos rfl] at hres
            have HRES := Aside0.mk hres
            have hck : YtanfmnobanhcnaaH.Rec.checkI ts k1 k2 k3 = 0 := by
              unfold YtanfmnobanhcnaaH.Rec.checkI
              rw [hok]
              exact if_pos rfl
            rw [hck]
            clear hck hok hres
            go_wp2
            refine bodyPost_ret (results_ct rfl _ _ gb 25 #[.slice A' N N, .int .i64 k1, .int .i64 k2, .int .i64 k3] (0, 0) _ rfl (YtanfmnobanhcnaaH.set4 HG7.out _ _ _ _) Try.underlying25 rfl (by kernel_rfl)) rfl ?_
            have hv := HV7.out
            rw [hN5] at hv
            exact ⟨_, by rw [HRES.out]; rfl, by rw [HRES.out]; exact Kd.V_mono (Kd.V_far (p := ⟨gb, 3, none⟩) (Kd.V_far (p := ⟨gb, 2, none⟩) (Kd.V_far (p := ⟨gb, 1, none⟩) (Kd.V_far (p := ⟨gb, 0, none⟩) hv (fun k hk => hk.1) _) (fun k hk => hk.1) _) (fun k hk => hk.1) _) (fun k hk => hk.1) _) (fun k hk => hk.2), YtanfmnobanhcnaaH.below4 HB7.out (Nat.le_of_eq HGB.out.symm) _ _ _ _⟩
        · have hres : YtanfmnobanhcnaaH.Rec.schT l0 = YtanfmnobanhcnaaH.Rec.noSch := by
            unfold YtanfmnobanhcnaaH.Rec.schT
            rw [HN0.out]
            show (if acc.length < 4 then _ else if (acc.length : Int) = acc.getD 0 0 + 4 then _ else _) = _
            rw [if_neg h4, HG0.out, if_neg h5]
          have HRES := Aside0.mk hres
          clear hres
          have h5b : ((acc.length : Int) == (N : Int) + 4) = false := by rw [beq_eq_false_iff_ne]; exact h5
          have h5c : ((acc.length : Int) != (N : Int) + 4) = true := by rw [bne, h5b]; rfl
          go_wp2
          refine bodyPost_ret (results_ct rfl _ _ gb 25 #[.slice none 0 0, .int .i64 0, .int .i64 0, .int .i64 0] (0, 0) _ rfl (YtanfmnobanhcnaaH.set4 HG.out _ _ _ _) Try.underlying25 rfl (by kernel_rfl)) rfl ?_
          exact ⟨_, by rw [HRES.out]; rfl, by rw [HRES.out]; exact Kd.V_nil _ _ _ _ _, YtanfmnobanhcnaaH.below4 HB.out (Nat.le_of_eq HGB.out.symm) _ _ _ _⟩
    · have h0b : decide (0 < l.length) = true := by rw [decide_eq_true_iff]; omega
      have h0c : (0 : Int) < (l.length : Int) := by omega
      have hr2 := YtanfmnobanhcnaaH.Var.varI_range l
      obtain ⟨x, hx⟩ : ∃ x, x = (YtanfmnobanhcnaaH.Var.varI l).1 := ⟨_, rfl⟩
      obtain ⟨k, hk⟩ : ∃ k, k = (YtanfmnobanhcnaaH.Var.varI l).2 := ⟨_, rfl⟩
      have hstep := YtanfmnobanhcnaaH.Rec.nums_step h0
      have hf : num_Var.f l = some (x, k) := by unfold num_Var.f; rw [if_pos HL.out.1, hx, hk]
      rw [← hx, ← hk] at hr2
      rw [← hx, ← hk] at hstep
      have HN2 := Aside0.mk hstep
      clear hx hk hstep
      go_wp2_with fail
      refine (num_Var.calls A c l x k _ (Kd.V_reads' HV.out).2.2 (Kd.V_reads' HV.out).2.1 hf).mono ?_
      rintro e w1 ⟨rfl, hd⟩
      have hb := hd.below
      have HV1 := Aside0.mk (Kd.V_below HV.out hb)
      have HO1 := Aside0.mk (Kd.R_below HO.out hb)
      have HB1 := Aside0.mk (below_step HB.out hb)
      have HG1 := Aside0.mk (blk_below HG.out hb)
      clear HV HO HB HG hd hb hf
      have hq0 := YtanfmnobanhcnaaH.cellv HG1.out 0 _ rfl
      have hq1 := YtanfmnobanhcnaaH.cellv HG1.out 1 _ rfl
      have hq2 := YtanfmnobanhcnaaH.cellv HG1.out 2 _ rfl
      have hq3 := YtanfmnobanhcnaaH.cellv HG1.out 3 _ rfl
      have hf0 := blk_frozen HG1.out 0
      have hf1 := blk_frozen HG1.out 1
      have hf2 := blk_frozen HG1.out 2
      have hf3 := blk_frozen HG1.out 3
      by_cases h1 : k = 0
      · have hres : YtanfmnobanhcnaaH.Rec.schT l0 = YtanfmnobanhcnaaH.Rec.noSch := by
          unfold YtanfmnobanhcnaaH.Rec.schT
          rw [HN.out, HN2.out, if_pos h1]
          rfl
        have HRES := Aside0.mk hres
        clear hres
        go_wp2
        refine bodyPost_ret (results_ct rfl _ _ gb 25 #[.slice none 0 0, .int .i64 0, .int .i64 0, .int .i64 0] (0, 0) _ rfl (YtanfmnobanhcnaaH.set4 HG1.out _ _ _ _) Try.underlying25 rfl (by kernel_rfl)) rfl ?_
        exact ⟨_, by rw [HRES.out]; rfl, by rw [HRES.out]; exact Kd.V_nil _ _ _ _ _, YtanfmnobanhcnaaH.below4 HB1.out (Nat.le_of_eq HGB.out.symm) _ _ _ _⟩
      · have h1b : (k == 0) = false := by rw [beq_eq_false_iff_ne]; exact h1
        by_cases h2 : 1048576 < x
        · have hres : YtanfmnobanhcnaaH.Rec.schT l0 = YtanfmnobanhcnaaH.Rec.noSch := by
            unfold YtanfmnobanhcnaaH.Rec.schT
            rw [HN.out, HN2.out, if_neg h1, if_pos h2]
            rfl
          have HRES := Aside0.mk hres
          clear hres
          go_wp2
          refine bodyPost_ret (results_ct rfl _ _ gb 25 #[.slice none 0 0, .int .i64 0, .int .i64 0, .int .i64 0] (0, 0) _ rfl (YtanfmnobanhcnaaH.set4 HG1.out _ _ _ _) Try.underlying25 rfl (by kernel_rfl)) rfl ?_
          exact ⟨_, by rw [HRES.out]; rfl, by rw [HRES.out]; exact Kd.V_nil _ _ _ _ _, YtanfmnobanhcnaaH.below4 HB1.out (Nat.le_of_eq HGB.out.symm) _ _ _ _⟩
        · have h2b : decide (1048576 < x) = false := decide_eq_false h2
          have hn3 := HN2.out
          rw [if_neg h1, if_neg h2] at hn3
          have HN3 := Aside0.mk hn3
          have hF := Kd.F_cut (m := k.toNat) (c := c) (Kd.V_at HV1.out).2.2 (by omega) (Kd.V_at HV1.out).2.1
          obtain ⟨i0, hi0, _, hsz0, _⟩ := info_parts info5
          have hcut := cut_from (P := Try.prog) 26 5 .i64 Try.underlying26 hi0 1 hsz0 A l.length c k (by omega) (by omega)
          obtain ⟨A', hA'⟩ : ∃ A', A' = (if c = k.toNat then A else (A : Option Addr).map (·.add (k.toNat * 1))) := ⟨_, rfl⟩
          obtain ⟨c', hc'⟩ : ∃ c', c' = c - k.toNat := ⟨_, rfl⟩
          obtain ⟨l', hl'⟩ : ∃ l', l' = l.drop k.toNat := ⟨_, rfl⟩
          have hle : l.length - k.toNat = l'.length := by rw [hl', List.length_drop]
          rw [← hA', ← hc', hle] at hcut
          have hF' : Kd.F (Kd.int .u8) w1 (fun j => ok0 j ∧ j < w.heap.size) A' l'.length l' := by rw [hA', hl']; exact hF
          have hlc : l'.length ≤ c' := by have := (Kd.V_at HV1.out).2.1; omega
          have HL' := Aside0.mk hl'
          have hkl : k.toNat ≤ l.length := by omega
          have hk0 : 0 < k.toNat := by omega
          have HLEN := Aside0.mk (⟨hle, hkl, hk0⟩ : l.length - k.toNat = l'.length ∧ k.toNat ≤ l.length ∧ 0 < k.toNat)
          have HVV := Aside0.mk (Kd.V_mk (e := 5) (base := 0) hlc hF')
          have hwr : wrap64 x = x := YtanfmnobanhcnaaH.Crc.wrap64_in _ (by omega) (by omega)
          have HAL := Aside0.mk (show (acc.length + 1) * 8 ≤ 140737488355328 by have := HL.out.2.1; omega)
          have HVO := Aside0.mk (fun j (hj : ok0 j ∧ j < w.heap.size) (e : some j = (u4 : Value).ownBlock) => Nat.not_le.2 hj.2 (Kd.R_base HO1.out j e.symm))
          clear hA' hc' hl' hF hF' hi0 hsz0 hle hn3 hkl hk0 hlc hq0 hq1 hq2 hq3 hf0 hf1 hf2 hf3
          go_wp2_with fail
          have HO5 := Aside0.mk (Kd.R_drew HO1.out)
          have HB5 := Aside0.mk (below_drew1 HB1.out)
          have HG5 := Aside0.mk (show w1.drew.heap[gb]? = _ from HG1.out)
          have HV5 := Aside0.mk (Kd.V_drew HVV.out)
          refine start_ (n := 10) (S := fun w' => True) (ds := []) #[false, false, false, false, false, false, false, false, false, false] (by kernel_rfl) rfl rfl trivial (fun hHeld => ?_)
          generalize w1.drew = w5 at HO5 HB5 HG5 HV5 hHeld ⊢
          refine pure_ (i := 0) (N := some 24) (v := ?_) (a' := ?_) #[true, false, false, false, false, false, false, false, false, false] rfl rfl (by kernel_rfl) (fun _ _ _ h => h) (Or.inl ⟨by rfl, ?_⟩) ?_ ?_
          rotate_left
          · intro w'
            go_simp
            with_reducible rfl
          rotate_left
          · simp only [Act.put, List.setIfInBounds_toArray, List.set_cons_zero, List.set_cons_succ, i64_w, i32_w]
            rfl
          refine pure_ (i := 1) (N := some 25) (v := ?_) (a' := ?_) #[true, true, false, false, false, false, false, false, false, false] rfl rfl (by kernel_rfl) (fun _ _ _ h => h) (Or.inl ⟨by rfl, ?_⟩) ?_ ?_
          rotate_left
          · intro w'
            go_simp
            with_reducible rfl
          rotate_left
          · simp only [Act.put, List.setIfInBounds_toArray, List.set_cons_zero, List.set_cons_succ, i64_w, i32_w]
            rfl
          refine pure_ (i := 2) (N := some 26) (v := ?_) (a' := ?_) #[true, true, true, false, false, false, false, false, false, false] rfl rfl (by kernel_rfl) (fun _ _ _ h => h) (Or.inl ⟨by rfl, ?_⟩) ?_ ?_
          rotate_left
          · intro w'
            go_simp
            with_reducible rfl
          rotate_left
          · simp only [Act.put, List.setIfInBounds_toArray, List.set_cons_zero, List.set_cons_succ, i64_w, i32_w]
            rfl
          refine pure_ (i := 5) (N := some 29) (v := ?_) (a' := ?_) #[true, true, true, false, false, true, false, false, false, false] rfl rfl (by kernel_rfl) (fun _ _ _ h => h) (Or.inl ⟨by rfl, ?_⟩) ?_ ?_
          rotate_left
          · intro w'
            go_simp
            with_reducible rfl
          rotate_left
          · simp only [Act.put, List.setIfInBounds_toArray, List.set_cons_zero, List.set_cons_succ, i64_w, i32_w]
            rfl
          refine pure_ (i := 6) (N := some 30) (v := ?_) (a' := ?_) #[true, true, true, false, false, true, true, false, false, false] rfl rfl (by kernel_rfl) (fun _ _ _ h => h) (Or.inl ⟨by rfl, ?_⟩) ?_ ?_
          rotate_left
          · intro w'
            go_simp
            with_reducible rfl
          rotate_left
          · simp only [Act.put, List.setIfInBounds_toArray, List.set_cons_zero, List.set_cons_succ, i64_w, i32_w]
            rfl
          refine pure_ (i := 7) (N := some 31) (v := ?_) (a' := ?_) #[true, true, true, false, false, true, true, true, false, false] rfl rfl (by kernel_rfl) (fun _ _ _ h => h) (Or.inl ⟨by rfl, ?_⟩) ?_ ?_
          rotate_left
          · intro w'
            go_simp
            with_reducible rfl
          rotate_left
          · simp only [Act.put, List.setIfInBounds_toArray, List.set_cons_zero, List.set_cons_succ, i64_w, i32_w]
            rfl
          refine one_ (i := 3) (N := some 27) #[true, true, true, true, false, true, true, true, false, false] rfl rfl (by kernel_rfl) (by decide) (fun K hK => ?_)
          refine value_ (w1 := ?_) (v := ?_) (by rfl) rfl ?_ ?_
          rotate_left 2
          · go_simp
            constructor
            · rfl
            · rfl
          refine hK.out _ _ trivial (fun hHeld => ?_)
          clear hK K
          refine norm_ (a' := ?_) ?_ ?_
          rotate_left
          · show Act.put _ (some 27) _ = _
            simp only [Act.put, List.setIfInBounds_toArray, List.set_cons_zero, List.set_cons_succ, i64_w, i32_w]
            rfl
          refine one_ (i := 4) (N := some 28) #[true, true, true, true, true, true, true, true, false, false] rfl rfl (by kernel_rfl) (by decide) (fun K hK => ?_)
          refine Kd.R_append_step (Kd.int .i64) (w0 := w) w.heap.size (by rfl) (.tmp 24) (.tmp 27) 23 3 (.int .i64 0) 8 rfl Try.underlying23 info3 rfl (by decide) (by decide) u4 acc x [.int .i64 x] (fun k => k ≠ gb) (fun _ => False) rfl rfl rfl (fun _ hk => hk.elim) (fun k hk e => Nat.not_le.2 (blk_lt HG5.out) (e ▸ hk)) HO5.out HB5.out (below_size HB5.out) (by have := HAL.out; omega) ?_
          intro v6 w6 ho6 hb6 hgr6 hat6
          have HO6 := Aside0.mk ho6
          have HB6 := Aside0.mk hb6
          have HG6 := Aside0.mk (blk_grown HG5.out hgr6 (fun e => (HO5.out).1 _ e.symm rfl))
          have HV6 := Aside0.mk (Kd.V_step HV5.out (fun k hk hlt => hgr6.block k hlt ((fun e => HVO.out k hk e))))
          clear ho6 hb6 hgr6 hat6
          refine hK.out _ _ trivial (fun hHeld => ?_)
          clear hK K
          refine norm_ (a' := ?_) ?_ ?_
          rotate_left
          · show Act.put _ (some 28) _ = _
            simp only [Act.put, List.setIfInBounds_toArray, List.set_cons_zero, List.set_cons_succ, i64_w, i32_w]
            rfl
          refine pure_ (i := 8) (N := some 4) (v := ?_) (a' := ?_) #[true, true, true, true, true, true, true, true, true, false] rfl rfl (by kernel_rfl) (fun _ _ _ h => h) (Or.inl ⟨by rfl, ?_⟩) ?_ ?_
          rotate_left
          · intro w'
            go_simp
            with_reducible rfl
          rotate_left
          · simp only [Act.put, List.setIfInBounds_toArray, List.set_cons_zero, List.set_cons_succ, i64_w, i32_w]
            rfl
          refine pure_ (i := 9) (N := some 0) (v := ?_) (a' := ?_) #[true, true, true, true, true, true, true, true, true, true] rfl rfl (by kernel_rfl) (fun _ _ _ h => h) (Or.inl ⟨by rfl, ?_⟩) ?_ ?_
          rotate_left
          · intro w'
            go_simp
            with_reducible rfl
          rotate_left
          · simp only [Act.put, List.setIfInBounds_toArray, List.set_cons_zero, List.set_cons_succ, i64_w, i32_w]
            rfl
          refine done_ (by kernel_rfl) ?_
          go_wp2
          refine ⟨⟨acc ++ [x], l', ⟨?_⟩, ⟨⟨by rw [HL'.out]; exact YtanfmnobanhcnaaH.Var.isB_drop HL.out.1 _, by have := HL.out.2.1; have := HLEN.out; rw [List.length_append]; simp; omega, ?_⟩⟩, HV6, HO6, HB6, HG6⟩, ?_⟩
          · rw [HN.out, HN3.out, ← HL'.out]
            cases YtanfmnobanhcnaaH.Rec.nums l' <;> simp
          · intro y hy
            rcases List.mem_append.1 hy with hy | hy
            · exact HL.out.2.2 y hy
            · rw [List.mem_singleton.1 hy]
              omega
          · show l'.length < l.length
            have := HLEN.out
            omega


/-! ### record_reader_schema: function 77 -/
set_option maxHeartbeats 8000000 in
set_option maxRecDepth 100000 in
theorem record_reader_schema.calls (g : Nat) (l : List Int) (bad : Bool) (w : World) (h : YtanfmnobanhcnaaH.Rec.Rd 83 5 g w l bad) (hB : YtanfmnobanhcnaaH.Crc.isB l) (hl : l.length ≤ 1048576) :
    Calls Try.prog 77 #[.pointer (some ⟨g, 0, none⟩)] w fun e w' => ∃ vT, e = .returned (.agg #[vT, .int .i64 (YtanfmnobanhcnaaH.Rec.schR l bad).1.2.1, .int .i64 (YtanfmnobanhcnaaH.Rec.schR l bad).1.2.2.1, .int .i64 (YtanfmnobanhcnaaH.Rec.schR l bad).1.2.2.2]) ∧
      Kd.V (Kd.int .i64) 3 w' 0 (fun k => w.heap.size ≤ k) vT (YtanfmnobanhcnaaH.Rec.schR l bad).1.1 ∧ YtanfmnobanhcnaaH.Rec.Rd 83 5 g w' (YtanfmnobanhcnaaH.Rec.schR l bad).2.1 (YtanfmnobanhcnaaH.Rec.schR l bad).2.2 ∧ YtanfmnobanhcnaaH.Mut g none w w' := by
  have hu25 := Try.underlying25
  obtain ⟨gb, hgb⟩ : ∃ gb, gb = w.heap.size := ⟨_, rfl⟩
  have hgl : g < w.heap.size := by obtain ⟨v, hg, _⟩ := h; exact blk_lt hg
  have HGL := Aside0.mk (show g < gb by omega)
  have hM1 := Aside0.mk ((YtanfmnobanhcnaaH.Mut.refl g none w).below_ (YtanfmnobanhcnaaH.below_alloc1 w (.cells #[.slice none 0 0, .int .i64 0, .int .i64 0, .int .i64 0] 25)))
  have hR1 := Aside0.mk (h.below (YtanfmnobanhcnaaH.below_alloc1 w (.cells #[.slice none 0 0, .int .i64 0, .int .i64 0, .int .i64 0] 25)))
  have hGz := Aside0.mk (show (w.alloc (.cells #[.slice none 0 0, .int .i64 0, .int .i64 0, .int .i64 0] 25)).heap[gb]? = some (.cells #[.slice none 0 0, .int .i64 0, .int .i64 0, .int .i64 0] 25) by rw [hgb]; exact blk_new w _)
  clear hgl h
  go_enter Try.func77, Try.ntmps77
  go_wp2_with fail
  rw [← hgb]
  have HGB := Aside0.mk hgb
  clear hgb
  refine (record_reader_number.calls g l bad _ hR1.out hB).mono ?_
  rintro e w2 ⟨rfl, hrd, hm⟩
  have HM2 := Aside0.mk (hM1.out.trans_ hm (.inl rfl))
  have HG2 := Aside0.mk (hm.blk hGz.out (by have := HGL.out; omega) (by simp))
  have hnB := YtanfmnobanhcnaaH.Rec.numR_B (bad := bad) hB
  have hnr := YtanfmnobanhcnaaH.Rec.numR_range l bad
  have hnl := YtanfmnobanhcnaaH.Rec.numR_le l bad
  have hsr := YtanfmnobanhcnaaH.Rec.schR_eq l bad
  generalize YtanfmnobanhcnaaH.Rec.numR l bad = q at hrd hnB hnr hnl hsr ⊢
  obtain ⟨x, l1, b1⟩ := q
  simp only at hrd hnB hnr hnl hsr ⊢
  have HSR := Aside0.mk hsr
  have HNB := Aside0.mk hnB
  have HL1 := Aside0.mk (Nat.le_trans hnl hl)
  obtain ⟨v2, hg2, hv2⟩ := hrd
  obtain ⟨A, c, rfl⟩ := Kd.V_slice hv2
  have HV2 := Aside0.mk hv2
  have HR2 := Aside0.mk hg2
  have hq0 := YtanfmnobanhcnaaH.cellv hg2 0 _ rfl
  have hq1 := YtanfmnobanhcnaaH.cellv hg2 1 _ rfl
  have hf0 := blk_frozen hg2 0
  have hf1 := blk_frozen hg2 1
  have hp0 := YtanfmnobanhcnaaH.cellv HG2.out 0 _ rfl
  have hp1 := YtanfmnobanhcnaaH.cellv HG2.out 1 _ rfl
  have hp2 := YtanfmnobanhcnaaH.cellv HG2.out 2 _ rfl
  have hp3 := YtanfmnobanhcnaaH.cellv HG2.out 3 _ rfl
  have hpf0 := blk_frozen HG2.out 0
  have hpf1 := blk_frozen HG2.out 1
  have hpf2 := blk_frozen HG2.out 2
  have hpf3 := blk_frozen HG2.out 3
  have hne1 : gb ≠ g := by have := HGL.out; omega
  have hne2 : g ≠ gb := hne1.symm
  clear hg2 hv2 hm hsr hnB hnl hGz hR1 hM1
  cases b1 with
  | true =>
    have hres : YtanfmnobanhcnaaH.Rec.schR l bad = (([], 0, 0, 0), l1, true) := by rw [HSR.out, if_pos (.inl rfl)]
    have HRES := Aside0.mk hres
    clear hres
    go_wp2
    refine bodyPost_ret (results_cell_row rfl _ _ gb 25 #[.slice none 0 0, .int .i64 0, .int .i64 0, .int .i64 0] (0, 0) _ rfl (YtanfmnobanhcnaaH.set4 (blk_far (p := ⟨g, 1, none⟩) HG2.out hne1 _) _ _ _ _) Try.underlying25 rfl (by kernel_rfl)) rfl ?_
    exact ⟨_, by rw [HRES.out], by rw [HRES.out]; exact Kd.V_nil _ _ _ _ _, by rw [HRES.out]; exact ⟨_, YtanfmnobanhcnaaH.far4 (blk_set HR2.out 1 (.bool true)) hne2 _ _ _ _, YtanfmnobanhcnaaH.Vfar4 (Kd.V_far (p := ⟨g, 1, none⟩) HV2.out (fun k hk => Nat.ne_of_lt hk) _) (fun k hk => Nat.ne_of_lt (Nat.lt_trans hk HGL.out)) _ _ _ _⟩, (HM2.out.set_ 1 _).new4 (Nat.le_of_eq HGB.out.symm) _ _ _ _⟩
  | false =>
    by_cases h1 : (l1.length : Int) < x
    · have hres : YtanfmnobanhcnaaH.Rec.schR l bad = (([], 0, 0, 0), l1, true) := by rw [HSR.out, if_pos (.inr h1)]
      have HRES := Aside0.mk hres
      clear hres
      go_wp2
      refine bodyPost_ret (results_cell_row rfl _ _ gb 25 #[.slice none 0 0, .int .i64 0, .int .i64 0, .int .i64 0] (0, 0) _ rfl (YtanfmnobanhcnaaH.set4 (blk_far (p := ⟨g, 1, none⟩) HG2.out hne1 _) _ _ _ _) Try.underlying25 rfl (by kernel_rfl)) rfl ?_
      exact ⟨_, by rw [HRES.out], by rw [HRES.out]; exact Kd.V_nil _ _ _ _ _, by rw [HRES.out]; exact ⟨_, YtanfmnobanhcnaaH.far4 (blk_set HR2.out 1 (.bool true)) hne2 _ _ _ _, YtanfmnobanhcnaaH.Vfar4 (Kd.V_far (p := ⟨g, 1, none⟩) HV2.out (fun k hk => Nat.ne_of_lt hk) _) (fun k hk => Nat.ne_of_lt (Nat.lt_trans hk HGL.out)) _ _ _ _⟩, (HM2.out.set_ 1 _).new4 (Nat.le_of_eq HGB.out.symm) _ _ _ _⟩
    · have hres : YtanfmnobanhcnaaH.Rec.schR l bad = ((YtanfmnobanhcnaaH.Rec.schT (l1.take x.toNat)).1, l1.drop x.toNat, (YtanfmnobanhcnaaH.Rec.schT (l1.take x.toNat)).2 != 0) := by
        rw [HSR.out, if_neg]
        rintro (h | h)
        · cases h
        · exact h1 h
      have HRES0 := Aside0.mk hres
      clear hres
      have h1b : decide ((l1.length : Int) < x) = false := decide_eq_false h1
      have hF := Kd.F_take (m := x.toNat) (Kd.V_at HV2.out).2.2 (by omega)
      have hF2 := Kd.F_cut (m := x.toNat) (c := c) (Kd.V_at HV2.out).2.2 (by omega) (Kd.V_at HV2.out).2.1
      obtain ⟨i0, hi0, _, hsz0, _⟩ := info_parts info5
      have hcutA := cut_to (P := Try.prog) 26 5 .i64 Try.underlying26 hi0 A l1.length c x (by omega) (by omega) (Kd.V_at HV2.out).2.1
      have hcutB := cut_from (P := Try.prog) 26 5 .i64 Try.underlying26 hi0 1 hsz0 A l1.length c x (by omega) (by omega)
      obtain ⟨A', hA'⟩ : ∃ A', A' = (if c = x.toNat then A else (A : Option Addr).map (·.add (x.toNat * 1))) := ⟨_, rfl⟩
      obtain ⟨c', hc'⟩ : ∃ c', c' = c - x.toNat := ⟨_, rfl⟩
      obtain ⟨l', hl'⟩ : ∃ l', l' = l1.drop x.toNat := ⟨_, rfl⟩
      obtain ⟨tk, htk⟩ : ∃ tk, tk = l1.take x.toNat := ⟨_, rfl⟩
      have htl : x.toNat = tk.length := by rw [htk, List.length_take]; omega
      have hle : l1.length - x.toNat = l'.length := by rw [hl', List.length_drop]
      rw [← hA', ← hc', hle] at hcutB
      rw [htl] at hcutA
      rw [← htk] at hF
      have hV3 : Kd.V (Kd.int .u8) 5 w2 0 (fun k => k < g) (.slice A tk.length c) tk := Kd.V_mk (by have := (Kd.V_at HV2.out).2.1; omega) hF
      have hV4 : Kd.V (Kd.int .u8) 5 w2 0 (fun k => k < g) (.slice A' l'.length c') l' := by
        have hF3 : Kd.F (Kd.int .u8) w2 (fun k => k < g) A' l'.length l' := by rw [hA', hl']; exact hF2
        exact Kd.V_mk (by have := (Kd.V_at HV2.out).2.1; omega) hF3
      have hres := HRES0.out
      rw [← htk, ← hl'] at hres
      have HTB := Aside0.mk (show YtanfmnobanhcnaaH.Crc.isB tk ∧ tk.length ≤ 1048576 by rw [htk]; exact ⟨YtanfmnobanhcnaaH.Var.isB_take HNB.out _, by have := HL1.out; rw [List.length_take]; omega⟩)
      have HRES := Aside0.mk hres
      have HV3 := Aside0.mk hV3
      have HV4 := Aside0.mk hV4
      clear hF hF2 hi0 hsz0 hA' hc' hl' htk htl hle hV3 hV4 hres HRES0 hp0 hp1 hp2 hp3 hpf0 hpf1 hpf2 hpf3
      go_wp2_with fail
      refine (schema_Take.calls A c tk _ _ HV3.out HTB.out.1 HTB.out.2).mono ?_
      rintro e w3 ⟨vT, rfl, hvT, hb3⟩
      have HG3 := Aside0.mk (blk_below HG2.out hb3)
      have HR3 := Aside0.mk (blk_below HR2.out hb3)
      have HV5 := Aside0.mk (Kd.V_below HV4.out hb3)
      have HM3 := Aside0.mk (HM2.out.below_ hb3)
      have HS3 := Aside0.mk hb3.size
      have hres := HRES.out
      generalize YtanfmnobanhcnaaH.Rec.schT tk = s at hvT hres ⊢
      obtain ⟨⟨ts, k, m, gr⟩, er⟩ := s
      simp only at hvT hres ⊢
      have HVT := Aside0.mk hvT
      obtain ⟨AT, cT, rfl⟩ := Kd.V_slice hvT
      have HRES5 := Aside0.mk hres
      clear HRES hvT hres hq0 hq1 hf0 hf1 hb3
      have hr0 := HR3.out
      have hr1 := blk_set hr0 0 (.slice A' l'.length c')
      have hr2 := blk_set hr1 1 (.bool (er != 0))
      have hg0 := HG3.out
      have hg1 := blk_far (p := ⟨g, 0, none⟩) hg0 hne1 (.slice A' l'.length c')
      have hg2 := blk_far (p := ⟨g, 1, none⟩) hg1 hne1 (.bool (er != 0))
      have hg3 := blk_set hg2 0 (.slice AT ts.length cT)
      have hg4 := blk_set hg3 1 (.int .i64 k)
      have hg5 := blk_set hg4 2 (.int .i64 m)
      have hg6 := blk_set hg5 3 (.int .i64 gr)
      have qr00 := YtanfmnobanhcnaaH.cellv (blk_alloc hr0 (.cells #[.slice AT ts.length cT, .int .i64 k, .int .i64 m, .int .i64 gr] 25)) 0 (.slice A l1.length c) rfl
      have fr00 := blk_frozen (blk_alloc hr0 (.cells #[.slice AT ts.length cT, .int .i64 k, .int .i64 m, .int .i64 gr] 25)) 0
      have qr10 := YtanfmnobanhcnaaH.cellv (blk_alloc hr1 (.cells #[.slice AT ts.length cT, .int .i64 k, .int .i64 m, .int .i64 gr] 25)) 0 (.slice A' l'.length c') rfl
      have fr10 := blk_frozen (blk_alloc hr1 (.cells #[.slice AT ts.length cT, .int .i64 k, .int .i64 m, .int .i64 gr] 25)) 0
      have qr11 := YtanfmnobanhcnaaH.cellv (blk_alloc hr1 (.cells #[.slice AT ts.length cT, .int .i64 k, .int .i64 m, .int .i64 gr] 25)) 1 (.bool false) rfl
      have fr11 := blk_frozen (blk_alloc hr1 (.cells #[.slice AT ts.length cT, .int .i64 k, .int .i64 m, .int .i64 gr] 25)) 1
      have qg0 := YtanfmnobanhcnaaH.cellv (blk_alloc hg2 (.cells #[.slice AT ts.length cT, .int .i64 k, .int .i64 m, .int .i64 gr] 25)) 0 (.slice none 0 0) rfl
      have fg0 := blk_frozen (blk_alloc hg2 (.cells #[.slice AT ts.length cT, .int .i64 k, .int .i64 m, .int .i64 gr] 25)) 0
      have qg1 := YtanfmnobanhcnaaH.cellv (blk_alloc hg3 (.cells #[.slice AT ts.length cT, .int .i64 k, .int .i64 m, .int .i64 gr] 25)) 1 (.int .i64 0) rfl
      have fg1 := blk_frozen (blk_alloc hg3 (.cells #[.slice AT ts.length cT, .int .i64 k, .int .i64 m, .int .i64 gr] 25)) 1
      have qg2 := YtanfmnobanhcnaaH.cellv (blk_alloc hg4 (.cells #[.slice AT ts.length cT, .int .i64 k, .int .i64 m, .int .i64 gr] 25)) 2 (.int .i64 0) rfl
      have fg2 := blk_frozen (blk_alloc hg4 (.cells #[.slice AT ts.length cT, .int .i64 k, .int .i64 m, .int .i64 gr] 25)) 2
      have qg3 := YtanfmnobanhcnaaH.cellv (blk_alloc hg5 (.cells #[.slice AT ts.length cT, .int .i64 k, .int .i64 m, .int .i64 gr] 25)) 3 (.int .i64 0) rfl
      have fg3 := blk_frozen (blk_alloc hg5 (.cells #[.slice AT ts.length cT, .int .i64 k, .int .i64 m, .int .i64 gr] 25)) 3
      have hsz : ((w3.setCell ⟨g, 0, none⟩ (.slice A' l'.length c')).setCell ⟨g, 1, none⟩ (.bool (er != 0))).heap.size = w3.heap.size := by simp [World.setCell]
      have hs2 : (((w3.setCell ⟨g, 0, none⟩ (.slice A' l'.length c')).setCell ⟨g, 1, none⟩ (.bool (er != 0))).alloc (.cells #[.slice AT ts.length cT, .int .i64 k, .int .i64 m, .int .i64 gr] 25)).heap[w3.heap.size]? = some (.cells #[.slice AT ts.length cT, .int .i64 k, .int .i64 m, .int .i64 gr] 25) := by rw [← hsz]; exact blk_new _ _
      have qs0 := YtanfmnobanhcnaaH.cellv hs2 0 (.slice AT ts.length cT) rfl
      have qs1 := YtanfmnobanhcnaaH.cellv hs2 1 (.int .i64 k) rfl
      have qs2 := YtanfmnobanhcnaaH.cellv hs2 2 (.int .i64 m) rfl
      have qs3 := YtanfmnobanhcnaaH.cellv hs2 3 (.int .i64 gr) rfl
      have HRW := Aside0.mk (⟨hr2, hg6⟩ : _ ∧ _)
      clear hr0 hr1 hr2 hg0 hg1 hg2 hg3 hg4 hg5 hg6 hsz hs2
      have hlt1 : g < w3.heap.size := blk_lt HR3.out
      have hlt2 : gb < w3.heap.size := blk_lt HG3.out
      have hne3 : w3.heap.size ≠ g := by omega
      have hne4 : g ≠ w3.heap.size := by omega
      have hne5 : w3.heap.size ≠ gb := by omega
      have hne6 : gb ≠ w3.heap.size := by omega
      go_wp2
      refine bodyPost_ret (results_cell_row rfl _ _ gb 25 #[.slice AT ts.length cT, .int .i64 k, .int .i64 m, .int .i64 gr] (0, 0) _ rfl (blk_alloc HRW.out.2 (.cells #[.slice AT ts.length cT, .int .i64 k, .int .i64 m, .int .i64 gr] 25)) Try.underlying25 rfl (by kernel_rfl)) rfl ?_
      have hlg : g < w2.heap.size := blk_lt HR2.out
      have hlb : gb < w2.heap.size := blk_lt HG2.out
      refine ⟨_, by rw [HRES5.out], by rw [HRES5.out]; exact Kd.V_mono (Kd.V_alloc (YtanfmnobanhcnaaH.Vfar4 (Kd.V_far (p := ⟨g, 1, none⟩) (Kd.V_far (p := ⟨g, 0, none⟩) HVT.out (fun k hk => by show k ≠ g; omega) _) (fun k hk => by show k ≠ g; omega) _) (fun k hk => by omega) _ _ _ _) (.cells #[.slice AT ts.length cT, .int .i64 k, .int .i64 m, .int .i64 gr] 25)) (fun k hk => Nat.le_trans HM2.out.keep.1 hk), by rw [HRES5.out]; exact ⟨_, blk_alloc (YtanfmnobanhcnaaH.far4 HRW.out.1 hne2 _ _ _ _) _, Kd.V_alloc (YtanfmnobanhcnaaH.Vfar4 (Kd.V_far (p := ⟨g, 1, none⟩) (Kd.V_far (p := ⟨g, 0, none⟩) HV5.out (fun k hk => Nat.ne_of_lt hk) _) (fun k hk => Nat.ne_of_lt hk) _) (fun k hk => Nat.ne_of_lt (Nat.lt_trans hk HGL.out)) _ _ _ _) _⟩, (((HM3.out.set_ 0 _).set_ 1 _).new4 (Nat.le_of_eq HGB.out.symm) _ _ _ _).below_ (YtanfmnobanhcnaaH.below_alloc1 _ _)⟩


end Go.Proofs.Ytanfmnobanhcnaa.PRec3
