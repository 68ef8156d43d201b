-- Written by hp.py (own driver over print.py) out of the translation, hand-made functions among it. Lean checks it.
import Derived.Test.YtanfmnobanhcnaaPRecordOnex0
import Derived.Test.YtanfmnobanhcnaaPRecordOnex4
import Derived.Test.YtanfmnobanhcnaaPRecordOnex9
import Derived.Test.YtanfmnobanhcnaaPRecordOnex10
import Derived.Test.YtanfmnobanhcnaaPRecordOnex11
namespace Go.Proofs.Ytanfmnobanhcnaa.PRecordOne
open Go.RowKit Go.Proofs.YtanfmnobanhcnaaW.PrintWords Go.Proofs.YtanfmnobanhcnaaW.PrintLast Go.Proofs.YtanfmnobanhcnaaW.PrintMore
attribute [local go_sem] max2_int min2_int max_two min_two max_three min_three max_four min_four   -- for this text's walks alone
set_option linter.unusedVariables false
set_option linter.unusedSimpArgs false

/-! ### thresherlaw16_RecordOne: function 6 -/
set_option maxHeartbeats 2000000 in
theorem thresherlaw16_RecordOne.shown_true : thresherlaw16_shown.f = some true := by
  unfold thresherlaw16_shown.f record_Put.f
  rw [Option.bind_some]
  have e : YtanfmnobanhcnaaH.Rec.recPut 2 [] 0 0 0 [] 7 = (YtanfmnobanhcnaaH.Fr.frameI [2, 7], true) := by
    unfold YtanfmnobanhcnaaH.Rec.recPut
    rw [if_pos (by decide)]
    have : YtanfmnobanhcnaaH.Rec.recB 2 [] 0 0 0 [] 7 = [2, 7] := by
      unfold YtanfmnobanhcnaaH.Rec.recB
      rw [if_neg (by decide), if_pos rfl]
      have : YtanfmnobanhcnaaH.Var.putI 7 = [7] := by
        unfold YtanfmnobanhcnaaH.Var.putI
        rw [show (7 : Int).toNat = 7 from rfl, YtanfmnobanhcnaaH.Var.putN_small (by decide)]
        rfl
      rw [this]
      rfl
    rw [this]
  have e2 : YtanfmnobanhcnaaH.Fr.frameI [2, 7] = [2, (YtanfmnobanhcnaaH.Crc.crcI [2, 7]) % 256, (YtanfmnobanhcnaaH.Crc.crcI [2, 7]) / 256 % 256, (YtanfmnobanhcnaaH.Crc.crcI [2, 7]) / 65536 % 256, (YtanfmnobanhcnaaH.Crc.crcI [2, 7]) / 16777216 % 256, 2, 7] := by
    unfold YtanfmnobanhcnaaH.Fr.frameI
    have : YtanfmnobanhcnaaH.Var.putI (([2, 7] : List Int).length : Int) = [2] := by
      unfold YtanfmnobanhcnaaH.Var.putI
      rw [show (([2, 7] : List Int).length : Int).toNat = 2 from rfl, YtanfmnobanhcnaaH.Var.putN_small (by decide)]
      rfl
    rw [this, YtanfmnobanhcnaaH.Fr.sum4_eq]
    rfl
  rw [e, e2]
  generalize YtanfmnobanhcnaaH.Crc.crcI [2, 7] = c
  rfl
def thresherlaw16_RecordOne.f (l0 : List Int) : Option Bool := if YtanfmnobanhcnaaH.Crc.isB l0 then some true else none
set_option maxHeartbeats 2000000 in
theorem thresherlaw16_RecordOne.law (l : List Int) (hB : YtanfmnobanhcnaaH.Crc.isB l) : ((YtanfmnobanhcnaaH.Rec.recTake l).2.2 = 0 ∧ YtanfmnobanhcnaaH.Rec.recPut (YtanfmnobanhcnaaH.Rec.recTake l).1.1 (YtanfmnobanhcnaaH.Rec.recTake l).1.2.1.1 (YtanfmnobanhcnaaH.Rec.recTake l).1.2.1.2.1 (YtanfmnobanhcnaaH.Rec.recTake l).1.2.1.2.2.1 (YtanfmnobanhcnaaH.Rec.recTake l).1.2.1.2.2.2 (YtanfmnobanhcnaaH.Rec.recTake l).1.2.2.1 (YtanfmnobanhcnaaH.Rec.recTake l).1.2.2.2 = (l.take (YtanfmnobanhcnaaH.Rec.recTake l).2.1.toNat, true) ∧ 0 ≤ (YtanfmnobanhcnaaH.Rec.recTake l).2.1 ∧ (YtanfmnobanhcnaaH.Rec.recTake l).2.1 ≤ l.length) ∨
    ((YtanfmnobanhcnaaH.Rec.recTake l).2.2 ≠ 0 ∧ (YtanfmnobanhcnaaH.Rec.recTake l).2.1 = 0 ∧ (YtanfmnobanhcnaaH.Rec.recTake l).1 = YtanfmnobanhcnaaH.Rec.noRec) := by
  have hu := record_Take_un l hB
  unfold YtanfmnobanhcnaaH.Rec.recTake
  generalize YtanfmnobanhcnaaH.Fr.unframeI l = u at hu ⊢
  simp only []
  by_cases h0 : u.2.2 ≠ 0
  · rw [if_pos h0]
    exact .inr ⟨h0, rfl, rfl⟩
  · rw [if_neg h0]
    by_cases h1 : u.1.length = 0
    · rw [if_pos h1]
      exact .inr ⟨by decide, rfl, rfl⟩
    · rw [if_neg h1]
      generalize YtanfmnobanhcnaaH.Rec.recR (u.1.getD 0 0) (u.1.drop 1) false = q
      by_cases h2 : q.2.2 = true ∨ (YtanfmnobanhcnaaH.Rec.putOf q.1).2 = false ∨ (YtanfmnobanhcnaaH.Rec.putOf q.1).1 ≠ l.take u.2.1.toNat
      · rw [if_pos h2]
        exact .inr ⟨by decide, rfl, rfl⟩
      · rw [if_neg h2]
        have h3 : (YtanfmnobanhcnaaH.Rec.putOf q.1).2 = true := by
          cases h : (YtanfmnobanhcnaaH.Rec.putOf q.1).2 with
          | true => rfl
          | false => exact absurd (.inr (.inl h)) h2
        have h4 : (YtanfmnobanhcnaaH.Rec.putOf q.1).1 = l.take u.2.1.toNat := Classical.byContradiction fun h => h2 (.inr (.inr h))
        exact .inl ⟨rfl, Prod.ext h4 h3, hu.2.2.1, hu.2.2.2⟩
/-- Whether a record is none. -/
def thresherlaw16_RecordOne.isNo (kd : Int) (ts : List Int) (k m g : Int) (ids : List Int) (id : Int) : Bool := (decide (ts = []) && (k == 0) && (m == 0) && (g == 0)) && decide (ids = []) && (kd == 0) && (id == 0)
set_option maxHeartbeats 2000000 in
theorem thresherlaw16_RecordOne.same (kd : Int) (ts : List Int) (k m g : Int) (ids : List Int) (id : Int) : thresherref16_Same.f kd ts k m g ids id 0 [] 0 0 0 [] 0 = some (thresherlaw16_RecordOne.isNo kd ts k m g ids id) := by
  unfold thresherref16_Same.f thresherref04_Same.f thresherref15_Same.f thresherlaw16_RecordOne.isNo
  rw [Option.bind_some, Option.bind_some]
  cases (decide (ts = []) && (k == 0) && (m == 0) && (g == 0)) <;> cases decide (ids = [])
  all_goals first
    | rfl
    | (by_cases h : kd = 0
       · rw [if_pos rfl, if_pos rfl, if_pos h, h]; rfl
       · rw [if_pos rfl, if_pos rfl, if_neg h, show (kd == 0) = false by rw [beq_eq_false_iff_ne]; exact h]; rfl)
set_option maxHeartbeats 8000000 in
set_option maxRecDepth 100000 in
theorem thresherlaw16_RecordOne.calls (A0 : Option Addr) (c0 : Nat) (l0 : List Int) (r : Bool) (w : World) (hr0 : Kd.C (Kd.int .u8) w A0 l0.length l0) (hc0 : l0.length ≤ c0) (h : thresherlaw16_RecordOne.f l0 = some r) :
    Calls Try.prog 6 #[.slice A0 l0.length c0] w fun e w' => e = .returned (.bool r) ∧ Below w.heap.size w w' := by
  have hu30 := Try.underlying30
  have hu25 := Try.underlying25
  have hr : YtanfmnobanhcnaaH.Crc.isB l0 ∧ true = r := by
    unfold thresherlaw16_RecordOne.f at h
    split at h
    · exact ⟨by assumption, Option.some.inj h⟩
    · cases h
  obtain ⟨hB, rfl⟩ := hr
  clear h
  by_cases h4 : 400 < l0.length
  · have h4b : decide (400 < (l0.length : Int)) = true := decide_eq_true (by omega)
    have hcut := cut_to (P := Try.prog) 26 5 .i64 Try.underlying26 (info_parts info5).choose_spec.1 A0 l0.length c0 400 (by omega) (by omega) hc0
    obtain ⟨l, hl⟩ : ∃ l, l = l0.take 400 := ⟨_, rfl⟩
    have hll : l.length = 400 := by rw [hl, List.length_take]; omega
    rw [show (400 : Int).toNat = l.length by rw [hll]; rfl] at hcut
    have hCt := Kd.C_take (m := 400) hr0 (by omega)
    rw [← hl] at hCt
    have HC0 := Aside0.mk hCt
    have HL := Aside0.mk (show l.length ≤ 400 ∧ l.length ≤ c0 by omega)
    have HBL := Aside0.mk (show YtanfmnobanhcnaaH.Crc.isB l by rw [hl]; exact YtanfmnobanhcnaaH.Var.isB_take hB _)
    clear hr0 hc0 hB hl hll hCt h4
    go_enter Try.func6, Try.ntmps6
    go_wp2_with fail
    refine (thresherlaw16_shown.calls true _ thresherlaw16_RecordOne.shown_true).mono ?_
    rintro e w1 ⟨rfl, hb1⟩
    have HB1 := Aside0.mk hb1
    clear hb1
    go_wp2_with fail
    go_loopw [4] (fun v4 w' => ∃ i : Nat, i ≤ 2 ∧ v4 = .int .i64 (i : Int) ∧ Aside0 (Below w.heap.size w w')) (fun v4 _ => 2 - (intOf v4).toNat)
    case atStart => exact ⟨0, by omega, rfl, HB1⟩
    case round =>
      clear HB1
      obtain ⟨i, hi, rfl, HB⟩ := hrel
      obtain rfl | rfl | rfl : i = 0 ∨ i = 1 ∨ i = 2 := by omega
      · go_wp2_with fail
        refine (record_Take.calls A0 c0 l _ (Kd.C_below HC0.out HB.out) HL.out.2 HBL.out).mono ?_
        rintro e w2 ⟨vT, vI, rfl, hvT, hvI, hb⟩
        have hlaw := thresherlaw16_RecordOne.law l HBL.out
        generalize YtanfmnobanhcnaaH.Rec.recTake l = q at hlaw hvT hvI ⊢
        obtain ⟨⟨kd, ⟨ts, k, m, gr⟩, ids, id⟩, n, er⟩ := q
        simp only at hlaw hvT hvI ⊢
        obtain ⟨AT, cT, rfl⟩ := Kd.V_slice hvT
        obtain ⟨AI, cI, rfl⟩ := Kd.V_slice hvI
        have HB2 := Aside0.mk (below_step HB.out hb)
        have HL2 := Aside0.mk (Kd.C_below ((Kd.C_below HC0.out HB.out)) hb)
        have HVT2 := Aside0.mk (Kd.V_alloc hvT (.cells #[.int .i64 kd, .slice AT ts.length cT, .int .i64 k, .int .i64 m, .int .i64 gr, .slice AI ids.length cI, .int .i64 id] 30))
        have HVI2 := Aside0.mk (Kd.V_alloc hvI (.cells #[.int .i64 kd, .slice AT ts.length cT, .int .i64 k, .int .i64 m, .int .i64 gr, .slice AI ids.length cI, .int .i64 id] 30))
        have HX2 := Aside0.mk (blk_new w2 (.cells #[.int .i64 kd, .slice AT ts.length cT, .int .i64 k, .int .i64 m, .int .i64 gr, .slice AI ids.length cI, .int .i64 id] 30))
        have HB2' := Aside0.mk (Below.alloc HB2.out (below_size HB2.out) (.cells #[.int .i64 kd, .slice AT ts.length cT, .int .i64 k, .int .i64 m, .int .i64 gr, .slice AI ids.length cI, .int .i64 id] 30))
        clear hvT hvI hb
        rcases hlaw with ⟨rfl, hput, hn0, hn1⟩ | ⟨he, rfl, hno⟩
        · obtain ⟨tk, htk⟩ : ∃ tk, tk = (l).take n.toNat := ⟨_, rfl⟩
          have htl : n.toNat = tk.length := by rw [htk, List.length_take]; omega
          have hcut := cut_to (P := Try.prog) 26 5 .i64 Try.underlying26 (info_parts info5).choose_spec.1 A0 (l).length c0 n hn0 hn1 HL.out.2
          rw [htl] at hcut
          rw [← htk] at hput
          have hCt := Kd.C_take (m := n.toNat) HL2.out (by omega)
          rw [← htk] at hCt
          have HPUT := Aside0.mk hput
          have HTK := Aside0.mk (Kd.C_alloc hCt (.cells #[.int .i64 kd, .slice AT ts.length cT, .int .i64 k, .int .i64 m, .int .i64 gr, .slice AI ids.length cI, .int .i64 id] 30))
          have hgt : decide (((l).length : Int) < n) = false := decide_eq_false (by omega)
          clear hput htk htl hCt HL2 hn0 hn1
          go_wp2_with fail
          refine (record_Put.calls kd AT cT ts k m gr AI cI ids id tk true _ (Kd.V_reads' HVT2.out).2.2 (Kd.V_reads' HVT2.out).2.1 (Kd.V_reads' HVI2.out).2.2 (Kd.V_reads' HVI2.out).2.1 (congrArg some HPUT.out)).mono ?_
          rintro e w3 ⟨v0, rfl, hr, hb⟩
          obtain ⟨Ap, cp, rfl⟩ := Kd.R_slice hr
          have hp1 := Kd.C_drew (Kd.R_reads' hr).2.2
          have hp2 := Kd.C_drew (Kd.C_below HTK.out hb)
          have hx3 := blk_below HX2.out hb
          have HX3 := Aside0.mk (show w3.drew.heap[w2.heap.size]? = some (.cells #[.int .i64 kd, .slice AT ts.length cT, .int .i64 k, .int .i64 m, .int .i64 gr, .slice AI ids.length cI, .int .i64 id] 30) from hx3)
          clear hx3
          have HB3 := Aside0.mk (below_drew1 (below_step HB2'.out hb))
          have HVT3 := Aside0.mk (Kd.V_drew (Kd.V_below HVT2.out hb))
          have HVI3 := Aside0.mk (Kd.V_drew (Kd.V_below HVI2.out hb))
          clear hr hb HX2 HB2 HB2' HVT2 HVI2 HTK HPUT
          go_wp2_with fail
          refine start_ (n := 17) (S := fun w' => Kd.C (Kd.int .u8) w' Ap tk.length tk ∧ Kd.C (Kd.int .u8) w' A0 tk.length tk) (ds := []) #[false, false, false, false, false, false, false, false, false, false, false, false, false, false, false, false, false] (by kernel_rfl) rfl rfl ⟨hp1, hp2⟩ (fun hHeld => ?_)
          generalize w3.drew = w5 at HX3 HB3 HVT3 HVI3 hHeld hp1 hp2 ⊢
          refine pure_ (i := 0) (N := some 40) (v := ?_) (a' := ?_) #[true, false, false, false, false, false, false, false, false, false, false, false, false, false, false, false, false] rfl rfl (by kernel_rfl) (fun _ _ _ h => h) (Or.inl ⟨by rfl, ?_⟩) ?_ ?_
          rotate_left
          · intro w'
            go_simp
            with_reducible rfl
          rotate_left
          · simp only [Act.put, List.setIfInBounds_toArray, List.set_cons_zero, List.set_cons_succ, i64_w, i32_w]
            rfl
          refine pure_ (i := 1) (N := some 41) (v := ?_) (a' := ?_) #[true, true, false, false, false, false, false, false, false, false, false, false, false, false, false, false, false] rfl rfl (by kernel_rfl) (fun _ _ _ h => h) (Or.inl ⟨by rfl, ?_⟩) ?_ ?_
          rotate_left
          · intro w'
            go_simp
            with_reducible rfl
          rotate_left
          · simp only [Act.put, List.setIfInBounds_toArray, List.set_cons_zero, List.set_cons_succ, i64_w, i32_w]
            rfl
          refine pure_ (i := 2) (N := some 42) (v := ?_) (a' := ?_) #[true, true, true, false, false, false, false, false, false, false, false, false, false, false, false, false, false] rfl rfl (by kernel_rfl) (fun _ _ _ h => h) (Or.inl ⟨by rfl, ?_⟩) ?_ ?_
          rotate_left
          · intro w'
            go_simp
            with_reducible rfl
          rotate_left
          · simp only [Act.put, List.setIfInBounds_toArray, List.set_cons_zero, List.set_cons_succ, i64_w, i32_w]
            rfl
          refine pure_ (i := 3) (N := some 43) (v := ?_) (a' := ?_) #[true, true, true, true, false, false, false, false, false, false, false, false, false, false, false, false, false] rfl rfl (by kernel_rfl) (fun _ _ _ h => h) (Or.inl ⟨by rfl, ?_⟩) ?_ ?_
          rotate_left
          · intro w'
            go_simp
            with_reducible rfl
          rotate_left
          · simp only [Act.put, List.setIfInBounds_toArray, List.set_cons_zero, List.set_cons_succ, i64_w, i32_w]
            rfl
          refine pure_ (i := 4) (N := some 44) (v := ?_) (a' := ?_) #[true, true, true, true, true, false, false, false, false, false, false, false, false, false, false, false, false] rfl rfl (by kernel_rfl) (fun _ _ _ h => h) (Or.inl ⟨by rfl, ?_⟩) ?_ ?_
          rotate_left
          · intro w'
            go_simp
            with_reducible rfl
          rotate_left
          · simp only [Act.put, List.setIfInBounds_toArray, List.set_cons_zero, List.set_cons_succ, i64_w, i32_w]
            rfl
          refine pure_ (i := 5) (N := some 45) (v := ?_) (a' := ?_) #[true, true, true, true, true, true, false, false, false, false, false, false, false, false, false, false, false] rfl rfl (by kernel_rfl) (fun _ _ _ h => h) (Or.inl ⟨by rfl, ?_⟩) ?_ ?_
          rotate_left
          · intro w'
            go_simp
            with_reducible rfl
          rotate_left
          · simp only [Act.put, List.setIfInBounds_toArray, List.set_cons_zero, List.set_cons_succ, i64_w, i32_w]
            rfl
          refine pure_ (i := 6) (N := some 46) (v := ?_) (a' := ?_) #[true, true, true, true, true, true, true, false, false, false, false, false, false, false, false, false, false] rfl rfl (by kernel_rfl) (fun _ _ _ h => h) (Or.inl ⟨by rfl, ?_⟩) ?_ ?_
          rotate_left
          · intro w'
            go_simp
            with_reducible rfl
          rotate_left
          · simp only [Act.put, List.setIfInBounds_toArray, List.set_cons_zero, List.set_cons_succ, i64_w, i32_w]
            rfl
          refine pure_ (i := 7) (N := some 47) (v := ?_) (a' := ?_) #[true, true, true, true, true, true, true, true, false, false, false, false, false, false, false, false, false] rfl rfl (by kernel_rfl) (fun _ _ _ h => h) (Or.inl ⟨by rfl, ?_⟩) ?_ ?_
          rotate_left
          · intro w'
            go_simp
            with_reducible rfl
          rotate_left
          · simp only [Act.put, List.setIfInBounds_toArray, List.set_cons_zero, List.set_cons_succ, i64_w, i32_w]
            rfl
          refine pure_ (i := 8) (N := some 48) (v := ?_) (a' := ?_) #[true, true, true, true, true, true, true, true, true, false, false, false, false, false, false, false, false] rfl rfl (by kernel_rfl) (fun _ _ _ h => h) (Or.inl ⟨by rfl, ?_⟩) ?_ ?_
          rotate_left
          · intro w'
            go_simp
            with_reducible rfl
          rotate_left
          · simp only [Act.put, List.setIfInBounds_toArray, List.set_cons_zero, List.set_cons_succ, i64_w, i32_w]
            rfl
          refine pure_ (i := 9) (N := some 49) (v := ?_) (a' := ?_) #[true, true, true, true, true, true, true, true, true, true, false, false, false, false, false, false, false] rfl rfl (by kernel_rfl) (fun _ _ _ h => h) (Or.inl ⟨by rfl, ?_⟩) ?_ ?_
          rotate_left
          · intro w'
            go_simp
            with_reducible rfl
          rotate_left
          · simp only [Act.put, List.setIfInBounds_toArray, List.set_cons_zero, List.set_cons_succ, i64_w, i32_w]
            rfl
          refine pure_ (i := 11) (N := some 51) (v := ?_) (a' := ?_) #[true, true, true, true, true, true, true, true, true, true, false, true, false, false, false, false, false] rfl rfl (by kernel_rfl) (fun _ _ _ h => h) (Or.inl ⟨by rfl, ?_⟩) ?_ ?_
          rotate_left
          · intro w'
            go_simp
            with_reducible rfl
          rotate_left
          · simp only [Act.put, List.setIfInBounds_toArray, List.set_cons_zero, List.set_cons_succ, i64_w, i32_w]
            rfl
          refine pure_ (i := 12) (N := some 52) (v := ?_) (a' := ?_) #[true, true, true, true, true, true, true, true, true, true, false, true, true, false, false, false, false] rfl rfl (by kernel_rfl) (fun _ _ _ h => h) (Or.inl ⟨by rfl, ?_⟩) ?_ ?_
          rotate_left
          · intro w'
            go_simp
            with_reducible rfl
          rotate_left
          · simp only [Act.put, List.setIfInBounds_toArray, List.set_cons_zero, List.set_cons_succ, i64_w, i32_w]
            rfl
          refine pure_ (i := 13) (N := some 53) (v := ?_) (a' := ?_) #[true, true, true, true, true, true, true, true, true, true, false, true, true, true, false, false, false] rfl rfl (by kernel_rfl) (fun _ _ _ h => h) (Or.inl ⟨by rfl, ?_⟩) ?_ ?_
          rotate_left
          · intro w'
            go_simp
            with_reducible rfl
          rotate_left
          · simp only [Act.put, List.setIfInBounds_toArray, List.set_cons_zero, List.set_cons_succ, i64_w, i32_w]
            rfl
          refine take_ (i := 10) (N := some 50) (v := ?_) (a' := ?_) #[true, true, true, true, true, true, true, true, true, true, true, true, true, true, false, false, false] rfl rfl (by kernel_rfl) (fun _ _ _ h => h) (Or.inl ⟨by rfl, ?_⟩) hHeld ?_ ?_
          rotate_left
          · rintro w' ⟨s0, s1⟩
            have hcv_ : ∀ n_ : Nat, n_ = tk.length → (convert 26 9 (.slice Ap n_ cp)).run Try.prog w' = .ok (.string (strOfNums tk)) w' := fun n_ e_ => by rw [e_]; exact Kd.C_string (P := Try.prog) (A := Ap) (c := cp) Try.underlying26 Try.underlying5 Try.underlying9 s0
            go_simp
            with_reducible rfl
          rotate_left
          · simp only [Act.put, List.setIfInBounds_toArray, List.set_cons_zero, List.set_cons_succ, i64_w, i32_w]
            rfl
          refine take_ (i := 14) (N := some 54) (v := ?_) (a' := ?_) #[true, true, true, true, true, true, true, true, true, true, true, true, true, true, true, false, false] rfl rfl (by kernel_rfl) (fun _ _ _ h => h) (Or.inl ⟨by rfl, ?_⟩) hHeld ?_ ?_
          rotate_left
          · rintro w' ⟨s0, s1⟩
            have hcv_ : ∀ n_ : Nat, n_ = tk.length → (convert 26 9 (.slice A0 n_ c0)).run Try.prog w' = .ok (.string (strOfNums tk)) w' := fun n_ e_ => by rw [e_]; exact Kd.C_string (P := Try.prog) (A := A0) (c := c0) Try.underlying26 Try.underlying5 Try.underlying9 s1
            go_simp
            with_reducible rfl
          rotate_left
          · simp only [Act.put, List.setIfInBounds_toArray, List.set_cons_zero, List.set_cons_succ, i64_w, i32_w]
            rfl
          refine pure_ (i := 15) (N := some 55) (v := ?_) (a' := ?_) #[true, true, true, true, true, true, true, true, true, true, true, true, true, true, true, true, false] rfl rfl (by kernel_rfl) (fun _ _ _ h => h) (Or.inl ⟨by rfl, ?_⟩) ?_ ?_
          rotate_left
          · intro w'
            go_simp
            with_reducible rfl
          rotate_left
          · simp only [Act.put, List.setIfInBounds_toArray, List.set_cons_zero, List.set_cons_succ, i64_w, i32_w]
            rfl
          refine pure_ (i := 16) (N := some 56) (v := ?_) (a' := ?_) #[true, true, true, true, true, true, true, true, true, true, true, true, true, true, true, true, true] rfl rfl (by kernel_rfl) (fun _ _ _ h => h) (Or.inl ⟨by rfl, ?_⟩) ?_ ?_
          rotate_left
          · intro w'
            go_simp
            with_reducible rfl
          rotate_left
          · simp only [Act.put, List.setIfInBounds_toArray, List.set_cons_zero, List.set_cons_succ, i64_w, i32_w]
            rfl
          refine done_ (by kernel_rfl) ?_
          have hs := thresherlaw16_RecordOne.same kd ts k m gr ids id
          have HSM := Aside0.mk hs
          clear hs
          have qx0 := YtanfmnobanhcnaaH.cellv HX3.out 0 (Value.int .i64 kd) rfl
          have qx1 := YtanfmnobanhcnaaH.cellv HX3.out 1 (Value.slice AT ts.length cT) rfl
          have qx2 := YtanfmnobanhcnaaH.cellv HX3.out 2 (Value.int .i64 k) rfl
          have qx3 := YtanfmnobanhcnaaH.cellv HX3.out 3 (Value.int .i64 m) rfl
          have qx4 := YtanfmnobanhcnaaH.cellv HX3.out 4 (Value.int .i64 gr) rfl
          have qx5 := YtanfmnobanhcnaaH.cellv HX3.out 5 (Value.slice AI ids.length cI) rfl
          have qx6 := YtanfmnobanhcnaaH.cellv HX3.out 6 (Value.int .i64 id) rfl
          go_wp2_with fail
          refine (thresherref16_Same.calls kd AT cT ts k m gr AI cI ids id 0 none 0 [] 0 0 0 none 0 [] 0 _ _ (Kd.V_reads' HVT3.out).2.2 (Kd.V_reads' HVT3.out).2.1 (Kd.V_reads' HVI3.out).2.2 (Kd.V_reads' HVI3.out).2.1 (YtanfmnobanhcnaaH.C_nil _ _) (Nat.le_refl 0) (YtanfmnobanhcnaaH.C_nil _ _) (Nat.le_refl 0) HSM.out).mono ?_
          rintro e w6 ⟨rfl, hb6⟩
          have HB6 := Aside0.mk (below_step HB3.out hb6)
          clear hb6 HX3 HVT3 HVI3 HSM HB3
          go_wp2
          go_round
          case rel => exact ⟨1, by omega, by go_num, HB6⟩
          case measure => simp [intOf]
        · have h1 : (er == 0) = false := by rw [beq_eq_false_iff_ne]; exact he
          have h2 : (er != 0) = true := by rw [bne_iff_ne]; exact he
          have hs := thresherlaw16_RecordOne.same kd ts k m gr ids id
          have hno2 : thresherlaw16_RecordOne.isNo kd ts k m gr ids id = true := by injection hno with e1 hno; injection hno with e2 hno; injection hno with e3 e4; injection e2 with e5 e6; injection e6 with e7 e8; injection e8 with e9 e10; subst e1 e3 e4 e5 e7 e9 e10; rfl
          rw [hno2] at hs
          have HSM := Aside0.mk hs
          clear he hno hno2 hs HL2
          go_wp2_with fail
          refine (thresherref16_Same.calls kd AT cT ts k m gr AI cI ids id 0 none 0 [] 0 0 0 none 0 [] 0 _ _ (Kd.V_reads' HVT2.out).2.2 (Kd.V_reads' HVT2.out).2.1 (Kd.V_reads' HVI2.out).2.2 (Kd.V_reads' HVI2.out).2.1 (YtanfmnobanhcnaaH.C_nil _ _) (Nat.le_refl 0) (YtanfmnobanhcnaaH.C_nil _ _) (Nat.le_refl 0) HSM.out).mono ?_
          rintro e w6 ⟨rfl, hb6⟩
          have HB6 := Aside0.mk (below_step HB2'.out hb6)
          clear hb6 HX2 HVT2 HVI2 HSM HB2 HB2'
          go_wp2
          go_round
          case rel => exact ⟨1, by omega, by go_num, HB6⟩
          case measure => simp [intOf]
      · go_wp2_with fail
        refine (thresherref02_Frame.calls A0 c0 l (YtanfmnobanhcnaaH.Fr.frameI l) _ (Kd.C_below HC0.out HB.out) HL.out.2 (by unfold thresherref02_Frame.f; rw [if_pos ⟨HBL.out, by have := HL.out.1; omega⟩])).mono ?_
        rintro e w4 ⟨v0, rfl, hr, hb⟩
        obtain ⟨lf, hlf⟩ : ∃ lf, lf = YtanfmnobanhcnaaH.Fr.frameI l := ⟨_, rfl⟩
        rw [← hlf] at hr
        have HBF := Aside0.mk (show YtanfmnobanhcnaaH.Crc.isB lf by rw [hlf]; exact YtanfmnobanhcnaaH.Fr.isB_frame HBL.out)
        obtain ⟨Af, cf, rfl⟩ := Kd.R_slice hr
        have HCF := Aside0.mk (Kd.R_reads' hr)
        have HB' := Aside0.mk (below_step HB.out hb)
        clear hlf hr hb HB
        have HB := HB'
        clear HB'
        go_wp2_with fail
        refine (record_Take.calls Af cf lf _ HCF.out.2.2 HCF.out.2.1 HBF.out).mono ?_
        rintro e w2 ⟨vT, vI, rfl, hvT, hvI, hb⟩
        have hlaw := thresherlaw16_RecordOne.law lf HBF.out
        generalize YtanfmnobanhcnaaH.Rec.recTake lf = q at hlaw hvT hvI ⊢
        obtain ⟨⟨kd, ⟨ts, k, m, gr⟩, ids, id⟩, n, er⟩ := q
        simp only at hlaw hvT hvI ⊢
        obtain ⟨AT, cT, rfl⟩ := Kd.V_slice hvT
        obtain ⟨AI, cI, rfl⟩ := Kd.V_slice hvI
        have HB2 := Aside0.mk (below_step HB.out hb)
        have HL2 := Aside0.mk (Kd.C_below (HCF.out.2.2) hb)
        have HVT2 := Aside0.mk (Kd.V_alloc hvT (.cells #[.int .i64 kd, .slice AT ts.length cT, .int .i64 k, .int .i64 m, .int .i64 gr, .slice AI ids.length cI, .int .i64 id] 30))
        have HVI2 := Aside0.mk (Kd.V_alloc hvI (.cells #[.int .i64 kd, .slice AT ts.length cT, .int .i64 k, .int .i64 m, .int .i64 gr, .slice AI ids.length cI, .int .i64 id] 30))
        have HX2 := Aside0.mk (blk_new w2 (.cells #[.int .i64 kd, .slice AT ts.length cT, .int .i64 k, .int .i64 m, .int .i64 gr, .slice AI ids.length cI, .int .i64 id] 30))
        have HB2' := Aside0.mk (Below.alloc HB2.out (below_size HB2.out) (.cells #[.int .i64 kd, .slice AT ts.length cT, .int .i64 k, .int .i64 m, .int .i64 gr, .slice AI ids.length cI, .int .i64 id] 30))
        clear hvT hvI hb
        rcases hlaw with ⟨rfl, hput, hn0, hn1⟩ | ⟨he, rfl, hno⟩
        · obtain ⟨tk, htk⟩ : ∃ tk, tk = (lf).take n.toNat := ⟨_, rfl⟩
          have htl : n.toNat = tk.length := by rw [htk, List.length_take]; omega
          have hcut := cut_to (P := Try.prog) 26 5 .i64 Try.underlying26 (info_parts info5).choose_spec.1 Af (lf).length cf n hn0 hn1 HCF.out.2.1
          rw [htl] at hcut
          rw [← htk] at hput
          have hCt := Kd.C_take (m := n.toNat) HL2.out (by omega)
          rw [← htk] at hCt
          have HPUT := Aside0.mk hput
          have HTK := Aside0.mk (Kd.C_alloc hCt (.cells #[.int .i64 kd, .slice AT ts.length cT, .int .i64 k, .int .i64 m, .int .i64 gr, .slice AI ids.length cI, .int .i64 id] 30))
          have hgt : decide (((lf).length : Int) < n) = false := decide_eq_false (by omega)
          clear hput htk htl hCt HL2 hn0 hn1
          go_wp2_with fail
          refine (record_Put.calls kd AT cT ts k m gr AI cI ids id tk true _ (Kd.V_reads' HVT2.out).2.2 (Kd.V_reads' HVT2.out).2.1 (Kd.V_reads' HVI2.out).2.2 (Kd.V_reads' HVI2.out).2.1 (congrArg some HPUT.out)).mono ?_
          rintro e w3 ⟨v0, rfl, hr, hb⟩
          obtain ⟨Ap, cp, rfl⟩ := Kd.R_slice hr
          have hp1 := Kd.C_drew (Kd.R_reads' hr).2.2
          have hp2 := Kd.C_drew (Kd.C_below HTK.out hb)
          have hx3 := blk_below HX2.out hb
          have HX3 := Aside0.mk (show w3.drew.heap[w2.heap.size]? = some (.cells #[.int .i64 kd, .slice AT ts.length cT, .int .i64 k, .int .i64 m, .int .i64 gr, .slice AI ids.length cI, .int .i64 id] 30) from hx3)
          clear hx3
          have HB3 := Aside0.mk (below_drew1 (below_step HB2'.out hb))
          have HVT3 := Aside0.mk (Kd.V_drew (Kd.V_below HVT2.out hb))
          have HVI3 := Aside0.mk (Kd.V_drew (Kd.V_below HVI2.out hb))
          clear hr hb HX2 HB2 HB2' HVT2 HVI2 HTK HPUT
          go_wp2_with fail
          refine start_ (n := 17) (S := fun w' => Kd.C (Kd.int .u8) w' Ap tk.length tk ∧ Kd.C (Kd.int .u8) w' Af tk.length tk) (ds := []) #[false, false, false, false, false, false, false, false, false, false, false, false, false, false, false, false, false] (by kernel_rfl) rfl rfl ⟨hp1, hp2⟩ (fun hHeld => ?_)
          generalize w3.drew = w5 at HX3 HB3 HVT3 HVI3 hHeld hp1 hp2 ⊢
          refine pure_ (i := 0) (N := some 40) (v := ?_) (a' := ?_) #[true, false, false, false, false, false, false, false, false, false, false, false, false, false, false, false, false] rfl rfl (by kernel_rfl) (fun _ _ _ h => h) (Or.inl ⟨by rfl, ?_⟩) ?_ ?_
          rotate_left
          · intro w'
            go_simp
            with_reducible rfl
          rotate_left
          · simp only [Act.put, List.setIfInBounds_toArray, List.set_cons_zero, List.set_cons_succ, i64_w, i32_w]
            rfl
          refine pure_ (i := 1) (N := some 41) (v := ?_) (a' := ?_) #[true, true, false, false, false, false, false, false, false, false, false, false, false, false, false, false, false] rfl rfl (by kernel_rfl) (fun _ _ _ h => h) (Or.inl ⟨by rfl, ?_⟩) ?_ ?_
          rotate_left
          · intro w'
            go_simp
            with_reducible rfl
          rotate_left
          · simp only [Act.put, List.setIfInBounds_toArray, List.set_cons_zero, List.set_cons_succ, i64_w, i32_w]
            rfl
          refine pure_ (i := 2) (N := some 42) (v := ?_) (a' := ?_) #[true, true, true, false, false, false, false, false, false, false, false, false, false, false, false, false, false] rfl rfl (by kernel_rfl) (fun _ _ _ h => h) (Or.inl ⟨by rfl, ?_⟩) ?_ ?_
          rotate_left
          · intro w'
            go_simp
            with_reducible rfl
          rotate_left
          · simp only [Act.put, List.setIfInBounds_toArray, List.set_cons_zero, List.set_cons_succ, i64_w, i32_w]
            rfl
          refine pure_ (i := 3) (N := some 43) (v := ?_) (a' := ?_) #[true, true, true, true, false, false, false, false, false, false, false, false, false, false, false, false, false] rfl rfl (by kernel_rfl) (fun _ _ _ h => h) (Or.inl ⟨by rfl, ?_⟩) ?_ ?_
          rotate_left
          · intro w'
            go_simp
            with_reducible rfl
          rotate_left
          · simp only [Act.put, List.setIfInBounds_toArray, List.set_cons_zero, List.set_cons_succ, i64_w, i32_w]
            rfl
          refine pure_ (i := 4) (N := some 44) (v := ?_) (a' := ?_) #[true, true, true, true, true, false, false, false, false, false, false, false, false, false, false, false, false] rfl rfl (by kernel_rfl) (fun _ _ _ h => h) (Or.inl ⟨by rfl, ?_⟩) ?_ ?_
          rotate_left
          · intro w'
            go_simp
            with_reducible rfl
          rotate_left
          · simp only [Act.put, List.setIfInBounds_toArray, List.set_cons_zero, List.set_cons_succ, i64_w, i32_w]
            rfl
          refine pure_ (i := 5) (N := some 45) (v := ?_) (a' := ?_) #[true, true, true, true, true, true, false, false, false, false, false, false, false, false, false, false, false] rfl rfl (by kernel_rfl) (fun _ _ _ h => h) (Or.inl ⟨by rfl, ?_⟩) ?_ ?_
          rotate_left
          · intro w'
            go_simp
            with_reducible rfl
          rotate_left
          · simp only [Act.put, List.setIfInBounds_toArray, List.set_cons_zero, List.set_cons_succ, i64_w, i32_w]
            rfl
          refine pure_ (i := 6) (N := some 46) (v := ?_) (a' := ?_) #[true, true, true, true, true, true, true, false, false, false, false, false, false, false, false, false, false] rfl rfl (by kernel_rfl) (fun _ _ _ h => h) (Or.inl ⟨by rfl, ?_⟩) ?_ ?_
          rotate_left
          · intro w'
            go_simp
            with_reducible rfl
          rotate_left
          · simp only [Act.put, List.setIfInBounds_toArray, List.set_cons_zero, List.set_cons_succ, i64_w, i32_w]
            rfl
          refine pure_ (i := 7) (N := some 47) (v := ?_) (a' := ?_) #[true, true, true, true, true, true, true, true, false, false, false, false, false, false, false, false, false] rfl rfl (by kernel_rfl) (fun _ _ _ h => h) (Or.inl ⟨by rfl, ?_⟩) ?_ ?_
          rotate_left
          · intro w'
            go_simp
            with_reducible rfl
          rotate_left
          · simp only [Act.put, List.setIfInBounds_toArray, List.set_cons_zero, List.set_cons_succ, i64_w, i32_w]
            rfl
          refine pure_ (i := 8) (N := some 48) (v := ?_) (a' := ?_) #[true, true, true, true, true, true, true, true, true, false, false, false, false, false, false, false, false] rfl rfl (by kernel_rfl) (fun _ _ _ h => h) (Or.inl ⟨by rfl, ?_⟩) ?_ ?_
          rotate_left
          · intro w'
            go_simp
            with_reducible rfl
          rotate_left
          · simp only [Act.put, List.setIfInBounds_toArray, List.set_cons_zero, List.set_cons_succ, i64_w, i32_w]
            rfl
          refine pure_ (i := 9) (N := some 49) (v := ?_) (a' := ?_) #[true, true, true, true, true, true, true, true, true, true, false, false, false, false, false, false, false] rfl rfl (by kernel_rfl) (fun _ _ _ h => h) (Or.inl ⟨by rfl, ?_⟩) ?_ ?_
          rotate_left
          · intro w'
            go_simp
            with_reducible rfl
          rotate_left
          · simp only [Act.put, List.setIfInBounds_toArray, List.set_cons_zero, List.set_cons_succ, i64_w, i32_w]
            rfl
          refine pure_ (i := 11) (N := some 51) (v := ?_) (a' := ?_) #[true, true, true, true, true, true, true, true, true, true, false, true, false, false, false, false, false] rfl rfl (by kernel_rfl) (fun _ _ _ h => h) (Or.inl ⟨by rfl, ?_⟩) ?_ ?_
          rotate_left
          · intro w'
            go_simp
            with_reducible rfl
          rotate_left
          · simp only [Act.put, List.setIfInBounds_toArray, List.set_cons_zero, List.set_cons_succ, i64_w, i32_w]
            rfl
          refine pure_ (i := 12) (N := some 52) (v := ?_) (a' := ?_) #[true, true, true, true, true, true, true, true, true, true, false, true, true, false, false, false, false] rfl rfl (by kernel_rfl) (fun _ _ _ h => h) (Or.inl ⟨by rfl, ?_⟩) ?_ ?_
          rotate_left
          · intro w'
            go_simp
            with_reducible rfl
          rotate_left
          · simp only [Act.put, List.setIfInBounds_toArray, List.set_cons_zero, List.set_cons_succ, i64_w, i32_w]
            rfl
          refine pure_ (i := 13) (N := some 53) (v := ?_) (a' := ?_) #[true, true, true, true, true, true, true, true, true, true, false, true, true, true, false, false, false] rfl rfl (by kernel_rfl) (fun _ _ _ h => h) (Or.inl ⟨by rfl, ?_⟩) ?_ ?_
          rotate_left
          · intro w'
            go_simp
            with_reducible rfl
          rotate_left
          · simp only [Act.put, List.setIfInBounds_toArray, List.set_cons_zero, List.set_cons_succ, i64_w, i32_w]
            rfl
          refine take_ (i := 10) (N := some 50) (v := ?_) (a' := ?_) #[true, true, true, true, true, true, true, true, true, true, true, true, true, true, false, false, false] rfl rfl (by kernel_rfl) (fun _ _ _ h => h) (Or.inl ⟨by rfl, ?_⟩) hHeld ?_ ?_
          rotate_left
          · rintro w' ⟨s0, s1⟩
            have hcv_ : ∀ n_ : Nat, n_ = tk.length → (convert 26 9 (.slice Ap n_ cp)).run Try.prog w' = .ok (.string (strOfNums tk)) w' := fun n_ e_ => by rw [e_]; exact Kd.C_string (P := Try.prog) (A := Ap) (c := cp) Try.underlying26 Try.underlying5 Try.underlying9 s0
            go_simp
            with_reducible rfl
          rotate_left
          · simp only [Act.put, List.setIfInBounds_toArray, List.set_cons_zero, List.set_cons_succ, i64_w, i32_w]
            rfl
          refine take_ (i := 14) (N := some 54) (v := ?_) (a' := ?_) #[true, true, true, true, true, true, true, true, true, true, true, true, true, true, true, false, false] rfl rfl (by kernel_rfl) (fun _ _ _ h => h) (Or.inl ⟨by rfl, ?_⟩) hHeld ?_ ?_
          rotate_left
          · rintro w' ⟨s0, s1⟩
            have hcv_ : ∀ n_ : Nat, n_ = tk.length → (convert 26 9 (.slice Af n_ cf)).run Try.prog w' = .ok (.string (strOfNums tk)) w' := fun n_ e_ => by rw [e_]; exact Kd.C_string (P := Try.prog) (A := Af) (c := cf) Try.underlying26 Try.underlying5 Try.underlying9 s1
            go_simp
            with_reducible rfl
          rotate_left
          · simp only [Act.put, List.setIfInBounds_toArray, List.set_cons_zero, List.set_cons_succ, i64_w, i32_w]
            rfl
          refine pure_ (i := 15) (N := some 55) (v := ?_) (a' := ?_) #[true, true, true, true, true, true, true, true, true, true, true, true, true, true, true, true, false] rfl rfl (by kernel_rfl) (fun _ _ _ h => h) (Or.inl ⟨by rfl, ?_⟩) ?_ ?_
          rotate_left
          · intro w'
            go_simp
            with_reducible rfl
          rotate_left
          · simp only [Act.put, List.setIfInBounds_toArray, List.set_cons_zero, List.set_cons_succ, i64_w, i32_w]
            rfl
          refine pure_ (i := 16) (N := some 56) (v := ?_) (a' := ?_) #[true, true, true, true, true, true, true, true, true, true, true, true, true, true, true, true, true] rfl rfl (by kernel_rfl) (fun _ _ _ h => h) (Or.inl ⟨by rfl, ?_⟩) ?_ ?_
          rotate_left
          · intro w'
            go_simp
            with_reducible rfl
          rotate_left
          · simp only [Act.put, List.setIfInBounds_toArray, List.set_cons_zero, List.set_cons_succ, i64_w, i32_w]
            rfl
          refine done_ (by kernel_rfl) ?_
          have hs := thresherlaw16_RecordOne.same kd ts k m gr ids id
          have HSM := Aside0.mk hs
          clear hs
          have qx0 := YtanfmnobanhcnaaH.cellv HX3.out 0 (Value.int .i64 kd) rfl
          have qx1 := YtanfmnobanhcnaaH.cellv HX3.out 1 (Value.slice AT ts.length cT) rfl
          have qx2 := YtanfmnobanhcnaaH.cellv HX3.out 2 (Value.int .i64 k) rfl
          have qx3 := YtanfmnobanhcnaaH.cellv HX3.out 3 (Value.int .i64 m) rfl
          have qx4 := YtanfmnobanhcnaaH.cellv HX3.out 4 (Value.int .i64 gr) rfl
          have qx5 := YtanfmnobanhcnaaH.cellv HX3.out 5 (Value.slice AI ids.length cI) rfl
          have qx6 := YtanfmnobanhcnaaH.cellv HX3.out 6 (Value.int .i64 id) rfl
          go_wp2_with fail
          refine (thresherref16_Same.calls kd AT cT ts k m gr AI cI ids id 0 none 0 [] 0 0 0 none 0 [] 0 _ _ (Kd.V_reads' HVT3.out).2.2 (Kd.V_reads' HVT3.out).2.1 (Kd.V_reads' HVI3.out).2.2 (Kd.V_reads' HVI3.out).2.1 (YtanfmnobanhcnaaH.C_nil _ _) (Nat.le_refl 0) (YtanfmnobanhcnaaH.C_nil _ _) (Nat.le_refl 0) HSM.out).mono ?_
          rintro e w6 ⟨rfl, hb6⟩
          have HB6 := Aside0.mk (below_step HB3.out hb6)
          clear hb6 HX3 HVT3 HVI3 HSM HB3
          go_wp2
          go_round
          case rel => exact ⟨2, by omega, by go_num, HB6⟩
          case measure => simp [intOf]
        · have h1 : (er == 0) = false := by rw [beq_eq_false_iff_ne]; exact he
          have h2 : (er != 0) = true := by rw [bne_iff_ne]; exact he
          have hs := thresherlaw16_RecordOne.same kd ts k m gr ids id
          have hno2 : thresherlaw16_RecordOne.isNo kd ts k m gr ids id = true := by injection hno with e1 hno; injection hno with e2 hno; injection hno with e3 e4; injection e2 with e5 e6; injection e6 with e7 e8; injection e8 with e9 e10; subst e1 e3 e4 e5 e7 e9 e10; rfl
          rw [hno2] at hs
          have HSM := Aside0.mk hs
          clear he hno hno2 hs HL2
          go_wp2_with fail
          refine (thresherref16_Same.calls kd AT cT ts k m gr AI cI ids id 0 none 0 [] 0 0 0 none 0 [] 0 _ _ (Kd.V_reads' HVT2.out).2.2 (Kd.V_reads' HVT2.out).2.1 (Kd.V_reads' HVI2.out).2.2 (Kd.V_reads' HVI2.out).2.1 (YtanfmnobanhcnaaH.C_nil _ _) (Nat.le_refl 0) (YtanfmnobanhcnaaH.C_nil _ _) (Nat.le_refl 0) HSM.out).mono ?_
          rintro e w6 ⟨rfl, hb6⟩
          have HB6 := Aside0.mk (below_step HB2'.out hb6)
          clear hb6 HX2 HVT2 HVI2 HSM HB2 HB2'
          go_wp2
          go_round
          case rel => exact ⟨2, by omega, by go_num, HB6⟩
          case measure => simp [intOf]
      · go_wp2
        go_ret
        exact ⟨rfl, HB.out⟩
  · have h4b : decide (400 < (l0.length : Int)) = false := decide_eq_false (by omega)
    obtain ⟨l, hl⟩ : ∃ l, l = l0 := ⟨_, rfl⟩
    rw [← hl] at hr0 hc0 hB h4 h4b ⊢
    have HC0 := Aside0.mk hr0
    have HL := Aside0.mk (show l.length ≤ 400 ∧ l.length ≤ c0 by omega)
    have HBL := Aside0.mk hB
    clear hr0 hc0 hB hl h4
    go_enter Try.func6, Try.ntmps6
    go_wp2_with fail
    refine (thresherlaw16_shown.calls true _ thresherlaw16_RecordOne.shown_true).mono ?_
    rintro e w1 ⟨rfl, hb1⟩
    have HB1 := Aside0.mk hb1
    clear hb1
    go_wp2_with fail
    go_loopw [4] (fun v4 w' => ∃ i : Nat, i ≤ 2 ∧ v4 = .int .i64 (i : Int) ∧ Aside0 (Below w.heap.size w w')) (fun v4 _ => 2 - (intOf v4).toNat)
    case atStart => exact ⟨0, by omega, rfl, HB1⟩
    case round =>
      clear HB1
      obtain ⟨i, hi, rfl, HB⟩ := hrel
      obtain rfl | rfl | rfl : i = 0 ∨ i = 1 ∨ i = 2 := by omega
      · go_wp2_with fail
        refine (record_Take.calls A0 c0 l _ (Kd.C_below HC0.out HB.out) HL.out.2 HBL.out).mono ?_
        rintro e w2 ⟨vT, vI, rfl, hvT, hvI, hb⟩
        have hlaw := thresherlaw16_RecordOne.law l HBL.out
        generalize YtanfmnobanhcnaaH.Rec.recTake l = q at hlaw hvT hvI ⊢
        obtain ⟨⟨kd, ⟨ts, k, m, gr⟩, ids, id⟩, n, er⟩ := q
        simp only at hlaw hvT hvI ⊢
        obtain ⟨AT, cT, rfl⟩ := Kd.V_slice hvT
        obtain ⟨AI, cI, rfl⟩ := Kd.V_slice hvI
        have HB2 := Aside0.mk (below_step HB.out hb)
        have HL2 := Aside0.mk (Kd.C_below ((Kd.C_below HC0.out HB.out)) hb)
        have HVT2 := Aside0.mk (Kd.V_alloc hvT (.cells #[.int .i64 kd, .slice AT ts.length cT, .int .i64 k, .int .i64 m, .int .i64 gr, .slice AI ids.length cI, .int .i64 id] 30))
        have HVI2 := Aside0.mk (Kd.V_alloc hvI (.cells #[.int .i64 kd, .slice AT ts.length cT, .int .i64 k, .int .i64 m, .int .i64 gr, .slice AI ids.length cI, .int .i64 id] 30))
        have HX2 := Aside0.mk (blk_new w2 (.cells #[.int .i64 kd, .slice AT ts.length cT, .int .i64 k, .int .i64 m, .int .i64 gr, .slice AI ids.length cI, .int .i64 id] 30))
        have HB2' := Aside0.mk (Below.alloc HB2.out (below_size HB2.out) (.cells #[.int .i64 kd, .slice AT ts.length cT, .int .i64 k, .int .i64 m, .int .i64 gr, .slice AI ids.length cI, .int .i64 id] 30))
        clear hvT hvI hb
        rcases hlaw with ⟨rfl, hput, hn0, hn1⟩ | ⟨he, rfl, hno⟩
        · obtain ⟨tk, htk⟩ : ∃ tk, tk = (l).take n.toNat := ⟨_, rfl⟩
          have htl : n.toNat = tk.length := by rw [htk, List.length_take]; omega
          have hcut := cut_to (P := Try.prog) 26 5 .i64 Try.underlying26 (info_parts info5).choose_spec.1 A0 (l).length c0 n hn0 hn1 HL.out.2
          rw [htl] at hcut
          rw [← htk] at hput
          have hCt := Kd.C_take (m := n.toNat) HL2.out (by omega)
          rw [← htk] at hCt
          have HPUT := Aside0.mk hput
          have HTK := Aside0.mk (Kd.C_alloc hCt (.cells #[.int .i64 kd, .slice AT ts.length cT, .int .i64 k, .int .i64 m, .int .i64 gr, .slice AI ids.length cI, .int .i64 id] 30))
          have hgt : decide (((l).length : Int) < n) = false := decide_eq_false (by omega)
          clear hput htk htl hCt HL2 hn0 hn1
          go_wp2_with fail
          refine (record_Put.calls kd AT cT ts k m gr AI cI ids id tk true _ (Kd.V_reads' HVT2.out).2.2 (Kd.V_reads' HVT2.out).2.1 (Kd.V_reads' HVI2.out).2.2 (Kd.V_reads' HVI2.out).2.1 (congrArg some HPUT.out)).mono ?_
          rintro e w3 ⟨v0, rfl, hr, hb⟩
          obtain ⟨Ap, cp, rfl⟩ := Kd.R_slice hr
          have hp1 := Kd.C_drew (Kd.R_reads' hr).2.2
          have hp2 := Kd.C_drew (Kd.C_below HTK.out hb)
          have hx3 := blk_below HX2.out hb
          have HX3 := Aside0.mk (show w3.drew.heap[w2.heap.size]? = some (.cells #[.int .i64 kd, .slice AT ts.length cT, .int .i64 k, .int .i64 m, .int .i64 gr, .slice AI ids.length cI, .int .i64 id] 30) from hx3)
          clear hx3
          have HB3 := Aside0.mk (below_drew1 (below_step HB2'.out hb))
          have HVT3 := Aside0.mk (Kd.V_drew (Kd.V_below HVT2.out hb))
          have HVI3 := Aside0.mk (Kd.V_drew (Kd.V_below HVI2.out hb))
          clear hr hb HX2 HB2 HB2' HVT2 HVI2 HTK HPUT
          go_wp2_with fail
          refine start_ (n := 17) (S := fun w' => Kd.C (Kd.int .u8) w' Ap tk.length tk ∧ Kd.C (Kd.int .u8) w' A0 tk.length tk) (ds := []) #[false, false, false, false, false, false, false, false, false, false, false, false, false, false, false, false, false] (by kernel_rfl) rfl rfl ⟨hp1, hp2⟩ (fun hHeld => ?_)
          generalize w3.drew = w5 at HX3 HB3 HVT3 HVI3 hHeld hp1 hp2 ⊢
          refine pure_ (i := 0) (N := some 40) (v := ?_) (a' := ?_) #[true, false, false, false, false, false, false, false, false, false, false, false, false, false, false, false, false] rfl rfl (by kernel_rfl) (fun _ _ _ h => h) (Or.inl ⟨by rfl, ?_⟩) ?_ ?_
          rotate_left
          · intro w'
            go_simp
            with_reducible rfl
          rotate_left
          · simp only [Act.put, List.setIfInBounds_toArray, List.set_cons_zero, List.set_cons_succ, i64_w, i32_w]
            rfl
          refine pure_ (i := 1) (N := some 41) (v := ?_) (a' := ?_) #[true, true, false, false, false, false, false, false, false, false, false, false, false, false, false, false, false] rfl rfl (by kernel_rfl) (fun _ _ _ h => h) (Or.inl ⟨by rfl, ?_⟩) ?_ ?_
          rotate_left
          · intro w'
            go_simp
            with_reducible rfl
          rotate_left
          · simp only [Act.put, List.setIfInBounds_toArray, List.set_cons_zero, List.set_cons_succ, i64_w, i32_w]
            rfl
          refine pure_ (i := 2) (N := some 42) (v := ?_) (a' := ?_) #[true, true, true, false, false, false, false, false, false, false, false, false, false, false, false, false, false] rfl rfl (by kernel_rfl) (fun _ _ _ h => h) (Or.inl ⟨by rfl, ?_⟩) ?_ ?_
          rotate_left
          · intro w'
            go_simp
            with_reducible rfl
          rotate_left
          · simp only [Act.put, List.setIfInBounds_toArray, List.set_cons_zero, List.set_cons_succ, i64_w, i32_w]
            rfl
          refine pure_ (i := 3) (N := some 43) (v := ?_) (a' := ?_) #[true, true, true, true, false, false, false, false, false, false, false, false, false, false, false, false, false] rfl rfl (by kernel_rfl) (fun _ _ _ h => h) (Or.inl ⟨by rfl, ?_⟩) ?_ ?_
          rotate_left
          · intro w'
            go_simp
            with_reducible rfl
          rotate_left
          · simp only [Act.put, List.setIfInBounds_toArray, List.set_cons_zero, List.set_cons_succ, i64_w, i32_w]
            rfl
          refine pure_ (i := 4) (N := some 44) (v := ?_) (a' := ?_) #[true, true, true, true, true, false, false, false, false, false, false, false, false, false, false, false, false] rfl rfl (by kernel_rfl) (fun _ _ _ h => h) (Or.inl ⟨by rfl, ?_⟩) ?_ ?_
          rotate_left
          · intro w'
            go_simp
            with_reducible rfl
          rotate_left
          · simp only [Act.put, List.setIfInBounds_toArray, List.set_cons_zero, List.set_cons_succ, i64_w, i32_w]
            rfl
          refine pure_ (i := 5) (N := some 45) (v := ?_) (a' := ?_) #[true, true, true, true, true, true, false, false, false, false, false, false, false, false, false, false, false] rfl rfl (by kernel_rfl) (fun _ _ _ h => h) (Or.inl ⟨by rfl, ?_⟩) ?_ ?_
          rotate_left
          · intro w'
            go_simp
            with_reducible rfl
          rotate_left
          · simp only [Act.put, List.setIfInBounds_toArray, List.set_cons_zero, List.set_cons_succ, i64_w, i32_w]
            rfl
          refine pure_ (i := 6) (N := some 46) (v := ?_) (a' := ?_) #[true, true, true, true, true, true, true, false, false, false, false, false, false, false, false, false, false] rfl rfl (by kernel_rfl) (fun _ _ _ h => h) (Or.inl ⟨by rfl, ?_⟩) ?_ ?_
          rotate_left
          · intro w'
            go_simp
            with_reducible rfl
          rotate_left
          · simp only [Act.put, List.setIfInBounds_toArray, List.set_cons_zero, List.set_cons_succ, i64_w, i32_w]
            rfl
          refine pure_ (i := 7) (N := some 47) (v := ?_) (a' := ?_) #[true, true, true, true, true, true, true, true, false, false, false, false, false, false, false, false, false] rfl rfl (by kernel_rfl) (fun _ _ _ h => h) (Or.inl ⟨by rfl, ?_⟩) ?_ ?_
          rotate_left
          · intro w'
            go_simp
            with_reducible rfl
          rotate_left
          · simp only [Act.put, List.setIfInBounds_toArray, List.set_cons_zero, List.set_cons_succ, i64_w, i32_w]
            rfl
          refine pure_ (i := 8) (N := some 48) (v := ?_) (a' := ?_) #[true, true, true, true, true, true, true, true, true, false, false, false, false, false, false, false, false] rfl rfl (by kernel_rfl) (fun _ _ _ h => h) (Or.inl ⟨by rfl, ?_⟩) ?_ ?_
          rotate_left
          · intro w'
            go_simp
            with_reducible rfl
          rotate_left
          · simp only [Act.put, List.setIfInBounds_toArray, List.set_cons_zero, List.set_cons_succ, i64_w, i32_w]
            rfl
          refine pure_ (i := 9) (N := some 49) (v := ?_) (a' := ?_) #[true, true, true, true, true, true, true, true, true, true, false, false, false, false, false, false, false] rfl rfl (by kernel_rfl) (fun _ _ _ h => h) (Or.inl ⟨by rfl, ?_⟩) ?_ ?_
          rotate_left
          · intro w'
            go_simp
            with_reducible rfl
          rotate_left
          · simp only [Act.put, List.setIfInBounds_toArray, List.set_cons_zero, List.set_cons_succ, i64_w, i32_w]
            rfl
          refine pure_ (i := 11) (N := some 51) (v := ?_) (a' := ?_) #[true, true, true, true, true, true, true, true, true, true, false, true, false, false, false, false, false] rfl rfl (by kernel_rfl) (fun _ _ _ h => h) (Or.inl ⟨by rfl, ?_⟩) ?_ ?_
          rotate_left
          · intro w'
            go_simp
            with_reducible rfl
          rotate_left
          · simp only [Act.put, List.setIfInBounds_toArray, List.set_cons_zero, List.set_cons_succ, i64_w, i32_w]
            rfl
          refine pure_ (i := 12) (N := some 52) (v := ?_) (a' := ?_) #[true, true, true, true, true, true, true, true, true, true, false, true, true, false, false, false, false] rfl rfl (by kernel_rfl) (fun _ _ _ h => h) (Or.inl ⟨by rfl, ?_⟩) ?_ ?_
          rotate_left
          · intro w'
            go_simp
            with_reducible rfl
          rotate_left
          · simp only [Act.put, List.setIfInBounds_toArray, List.set_cons_zero, List.set_cons_succ, i64_w, i32_w]
            rfl
          refine pure_ (i := 13) (N := some 53) (v := ?_) (a' := ?_) #[true, true, true, true, true, true, true, true, true, true, false, true, true, true, false, false, false] rfl rfl (by kernel_rfl) (fun _ _ _ h => h) (Or.inl ⟨by rfl, ?_⟩) ?_ ?_
          rotate_left
          · intro w'
            go_simp
            with_reducible rfl
          rotate_left
          · simp only [Act.put, List.setIfInBounds_toArray, List.set_cons_zero, List.set_cons_succ, i64_w, i32_w]
            rfl
          refine take_ (i := 10) (N := some 50) (v := ?_) (a' := ?_) #[true, true, true, true, true, true, true, true, true, true, true, true, true, true, false, false, false] rfl rfl (by kernel_rfl) (fun _ _ _ h => h) (Or.inl ⟨by rfl, ?_⟩) hHeld ?_ ?_
          rotate_left
          · rintro w' ⟨s0, s1⟩
            have hcv_ : ∀ n_ : Nat, n_ = tk.length → (convert 26 9 (.slice Ap n_ cp)).run Try.prog w' = .ok (.string (strOfNums tk)) w' := fun n_ e_ => by rw [e_]; exact Kd.C_string (P := Try.prog) (A := Ap) (c := cp) Try.underlying26 Try.underlying5 Try.underlying9 s0
            go_simp
            with_reducible rfl
          rotate_left
          · simp only [Act.put, List.setIfInBounds_toArray, List.set_cons_zero, List.set_cons_succ, i64_w, i32_w]
            rfl
          refine take_ (i := 14) (N := some 54) (v := ?_) (a' := ?_) #[true, true, true, true, true, true, true, true, true, true, true, true, true, true, true, false, false] rfl rfl (by kernel_rfl) (fun _ _ _ h => h) (Or.inl ⟨by rfl, ?_⟩) hHeld ?_ ?_
          rotate_left
          · rintro w' ⟨s0, s1⟩
            have hcv_ : ∀ n_ : Nat, n_ = tk.length → (convert 26 9 (.slice A0 n_ c0)).run Try.prog w' = .ok (.string (strOfNums tk)) w' := fun n_ e_ => by rw [e_]; exact Kd.C_string (P := Try.prog) (A := A0) (c := c0) Try.underlying26 Try.underlying5 Try.underlying9 s1
            go_simp
            with_reducible rfl
          rotate_left
          · simp only [Act.put, List.setIfInBounds_toArray, List.set_cons_zero, List.set_cons_succ, i64_w, i32_w]
            rfl
          refine pure_ (i := 15) (N := some 55) (v := ?_) (a' := ?_) #[true, true, true, true, true, true, true, true, true, true, true, true, true, true, true, true, false] rfl rfl (by kernel_rfl) (fun _ _ _ h => h) (Or.inl ⟨by rfl, ?_⟩) ?_ ?_
          rotate_left
          · intro w'
            go_simp
            with_reducible rfl
          rotate_left
          · simp only [Act.put, List.setIfInBounds_toArray, List.set_cons_zero, List.set_cons_succ, i64_w, i32_w]
            rfl
          refine pure_ (i := 16) (N := some 56) (v := ?_) (a' := ?_) #[true, true, true, true, true, true, true, true, true, true, true, true, true, true, true, true, true] rfl rfl (by kernel_rfl) (fun _ _ _ h => h) (Or.inl ⟨by rfl, ?_⟩) ?_ ?_
          rotate_left
          · intro w'
            go_simp
            with_reducible rfl
          rotate_left
          · simp only [Act.put, List.setIfInBounds_toArray, List.set_cons_zero, List.set_cons_succ, i64_w, i32_w]
            rfl
          refine done_ (by kernel_rfl) ?_
          have hs := thresherlaw16_RecordOne.same kd ts k m gr ids id
          have HSM := Aside0.mk hs
          clear hs
          have qx0 := YtanfmnobanhcnaaH.cellv HX3.out 0 (Value.int .i64 kd) rfl
          have qx1 := YtanfmnobanhcnaaH.cellv HX3.out 1 (Value.slice AT ts.length cT) rfl
          have qx2 := YtanfmnobanhcnaaH.cellv HX3.out 2 (Value.int .i64 k) rfl
          have qx3 := YtanfmnobanhcnaaH.cellv HX3.out 3 (Value.int .i64 m) rfl
          have qx4 := YtanfmnobanhcnaaH.cellv HX3.out 4 (Value.int .i64 gr) rfl
          have qx5 := YtanfmnobanhcnaaH.cellv HX3.out 5 (Value.slice AI ids.length cI) rfl
          have qx6 := YtanfmnobanhcnaaH.cellv HX3.out 6 (Value.int .i64 id) rfl
          go_wp2_with fail
          refine (thresherref16_Same.calls kd AT cT ts k m gr AI cI ids id 0 none 0 [] 0 0 0 none 0 [] 0 _ _ (Kd.V_reads' HVT3.out).2.2 (Kd.V_reads' HVT3.out).2.1 (Kd.V_reads' HVI3.out).2.2 (Kd.V_reads' HVI3.out).2.1 (YtanfmnobanhcnaaH.C_nil _ _) (Nat.le_refl 0) (YtanfmnobanhcnaaH.C_nil _ _) (Nat.le_refl 0) HSM.out).mono ?_
          rintro e w6 ⟨rfl, hb6⟩
          have HB6 := Aside0.mk (below_step HB3.out hb6)
          clear hb6 HX3 HVT3 HVI3 HSM HB3
          go_wp2
          go_round
          case rel => exact ⟨1, by omega, by go_num, HB6⟩
          case measure => simp [intOf]
        · have h1 : (er == 0) = false := by rw [beq_eq_false_iff_ne]; exact he
          have h2 : (er != 0) = true := by rw [bne_iff_ne]; exact he
          have hs := thresherlaw16_RecordOne.same kd ts k m gr ids id
          have hno2 : thresherlaw16_RecordOne.isNo kd ts k m gr ids id = true := by injection hno with e1 hno; injection hno with e2 hno; injection hno with e3 e4; injection e2 with e5 e6; injection e6 with e7 e8; injection e8 with e9 e10; subst e1 e3 e4 e5 e7 e9 e10; rfl
          rw [hno2] at hs
          have HSM := Aside0.mk hs
          clear he hno hno2 hs HL2
          go_wp2_with fail
          refine (thresherref16_Same.calls kd AT cT ts k m gr AI cI ids id 0 none 0 [] 0 0 0 none 0 [] 0 _ _ (Kd.V_reads' HVT2.out).2.2 (Kd.V_reads' HVT2.out).2.1 (Kd.V_reads' HVI2.out).2.2 (Kd.V_reads' HVI2.out).2.1 (YtanfmnobanhcnaaH.C_nil _ _) (Nat.le_refl 0) (YtanfmnobanhcnaaH.C_nil _ _) (Nat.le_refl 0) HSM.out).mono ?_
          rintro e w6 ⟨rfl, hb6⟩
          have HB6 := Aside0.mk (below_step HB2'.out hb6)
          clear hb6 HX2 HVT2 HVI2 HSM HB2 HB2'
          go_wp2
          go_round
          case rel => exact ⟨1, by omega, by go_num, HB6⟩
          case measure => simp [intOf]
      · go_wp2_with fail
        refine (thresherref02_Frame.calls A0 c0 l (YtanfmnobanhcnaaH.Fr.frameI l) _ (Kd.C_below HC0.out HB.out) HL.out.2 (by unfold thresherref02_Frame.f; rw [if_pos ⟨HBL.out, by have := HL.out.1; omega⟩])).mono ?_
        rintro e w4 ⟨v0, rfl, hr, hb⟩
        obtain ⟨lf, hlf⟩ : ∃ lf, lf = YtanfmnobanhcnaaH.Fr.frameI l := ⟨_, rfl⟩
        rw [← hlf] at hr
        have HBF := Aside0.mk (show YtanfmnobanhcnaaH.Crc.isB lf by rw [hlf]; exact YtanfmnobanhcnaaH.Fr.isB_frame HBL.out)
        obtain ⟨Af, cf, rfl⟩ := Kd.R_slice hr
        have HCF := Aside0.mk (Kd.R_reads' hr)
        have HB' := Aside0.mk (below_step HB.out hb)
        clear hlf hr hb HB
        have HB := HB'
        clear HB'
        go_wp2_with fail
        refine (record_Take.calls Af cf lf _ HCF.out.2.2 HCF.out.2.1 HBF.out).mono ?_
        rintro e w2 ⟨vT, vI, rfl, hvT, hvI, hb⟩
        have hlaw := thresherlaw16_RecordOne.law lf HBF.out
        generalize YtanfmnobanhcnaaH.Rec.recTake lf = q at hlaw hvT hvI ⊢
        obtain ⟨⟨kd, ⟨ts, k, m, gr⟩, ids, id⟩, n, er⟩ := q
        simp only at hlaw hvT hvI ⊢
        obtain ⟨AT, cT, rfl⟩ := Kd.V_slice hvT
        obtain ⟨AI, cI, rfl⟩ := Kd.V_slice hvI
        have HB2 := Aside0.mk (below_step HB.out hb)
        have HL2 := Aside0.mk (Kd.C_below (HCF.out.2.2) hb)
        have HVT2 := Aside0.mk (Kd.V_alloc hvT (.cells #[.int .i64 kd, .slice AT ts.length cT, .int .i64 k, .int .i64 m, .int .i64 gr, .slice AI ids.length cI, .int .i64 id] 30))
        have HVI2 := Aside0.mk (Kd.V_alloc hvI (.cells #[.int .i64 kd, .slice AT ts.length cT, .int .i64 k, .int .i64 m, .int .i64 gr, .slice AI ids.length cI, .int .i64 id] 30))
        have HX2 := Aside0.mk (blk_new w2 (.cells #[.int .i64 kd, .slice AT ts.length cT, .int .i64 k, .int .i64 m, .int .i64 gr, .slice AI ids.length cI, .int .i64 id] 30))
        have HB2' := Aside0.mk (Below.alloc HB2.out (below_size HB2.out) (.cells #[.int .i64 kd, .slice AT ts.length cT, .int .i64 k, .int .i64 m, .int .i64 gr, .slice AI ids.length cI, .int .i64 id] 30))
        clear hvT hvI hb
        rcases hlaw with ⟨rfl, hput, hn0, hn1⟩ | ⟨he, rfl, hno⟩
        · obtain ⟨tk, htk⟩ : ∃ tk, tk = (lf).take n.toNat := ⟨_, rfl⟩
          have htl : n.toNat = tk.length := by rw [htk, List.length_take]; omega
          have hcut := cut_to (P := Try.prog) 26 5 .i64 Try.underlying26 (info_parts info5).choose_spec.1 Af (lf).length cf n hn0 hn1 HCF.out.2.1
          rw [htl] at hcut
          rw [← htk] at hput
          have hCt := Kd.C_take (m := n.toNat) HL2.out (by omega)
          rw [← htk] at hCt
          have HPUT := Aside0.mk hput
          have HTK := Aside0.mk (Kd.C_alloc hCt (.cells #[.int .i64 kd, .slice AT ts.length cT, .int .i64 k, .int .i64 m, .int .i64 gr, .slice AI ids.length cI, .int .i64 id] 30))
          have hgt : decide (((lf).length : Int) < n) = false := decide_eq_false (by omega)
          clear hput htk htl hCt HL2 hn0 hn1
          go_wp2_with fail
          refine (record_Put.calls kd AT cT ts k m gr AI cI ids id tk true _ (Kd.V_reads' HVT2.out).2.2 (Kd.V_reads' HVT2.out).2.1 (Kd.V_reads' HVI2.out).2.2 (Kd.V_reads' HVI2.out).2.1 (congrArg some HPUT.out)).mono ?_
          rintro e w3 ⟨v0, rfl, hr, hb⟩
          obtain ⟨Ap, cp, rfl⟩ := Kd.R_slice hr
          have hp1 := Kd.C_drew (Kd.R_reads' hr).2.2
          have hp2 := Kd.C_drew (Kd.C_below HTK.out hb)
          have hx3 := blk_below HX2.out hb
          have HX3 := Aside0.mk (show w3.drew.heap[w2.heap.size]? = some (.cells #[.int .i64 kd, .slice AT ts.length cT, .int .i64 k, .int .i64 m, .int .i64 gr, .slice AI ids.length cI, .int .i64 id] 30) from hx3)
          clear hx3
          have HB3 := Aside0.mk (below_drew1 (below_step HB2'.out hb))
          have HVT3 := Aside0.mk (Kd.V_drew (Kd.V_below HVT2.out hb))
          have HVI3 := Aside0.mk (Kd.V_drew (Kd.V_below HVI2.out hb))
          clear hr hb HX2 HB2 HB2' HVT2 HVI2 HTK HPUT
          go_wp2_with fail
          refine start_ (n := 17) (S := fun w' => Kd.C (Kd.int .u8) w' Ap tk.length tk ∧ Kd.C (Kd.int .u8) w' Af tk.length tk) (ds := []) #[false, false, false, false, false, false, false, false, false, false, false, false, false, false, false, false, false] (by kernel_rfl) rfl rfl ⟨hp1, hp2⟩ (fun hHeld => ?_)
          generalize w3.drew = w5 at HX3 HB3 HVT3 HVI3 hHeld hp1 hp2 ⊢
          refine pure_ (i := 0) (N := some 40) (v := ?_) (a' := ?_) #[true, false, false, false, false, false, false, false, false, false, false, false, false, false, false, false, false] rfl rfl (by kernel_rfl) (fun _ _ _ h => h) (Or.inl ⟨by rfl, ?_⟩) ?_ ?_
          rotate_left
          · intro w'
            go_simp
            with_reducible rfl
          rotate_left
          · simp only [Act.put, List.setIfInBounds_toArray, List.set_cons_zero, List.set_cons_succ, i64_w, i32_w]
            rfl
          refine pure_ (i := 1) (N := some 41) (v := ?_) (a' := ?_) #[true, true, false, false, false, false, false, false, false, false, false, false, false, false, false, false, false] rfl rfl (by kernel_rfl) (fun _ _ _ h => h) (Or.inl ⟨by rfl, ?_⟩) ?_ ?_
          rotate_left
          · intro w'
            go_simp
            with_reducible rfl
          rotate_left
          · simp only [Act.put, List.setIfInBounds_toArray, List.set_cons_zero, List.set_cons_succ, i64_w, i32_w]
            rfl
          refine pure_ (i := 2) (N := some 42) (v := ?_) (a' := ?_) #[true, true, true, false, false, false, false, false, false, false, false, false, false, false, false, false, false] rfl rfl (by kernel_rfl) (fun _ _ _ h => h) (Or.inl ⟨by rfl, ?_⟩) ?_ ?_
          rotate_left
          · intro w'
            go_simp
            with_reducible rfl
          rotate_left
          · simp only [Act.put, List.setIfInBounds_toArray, List.set_cons_zero, List.set_cons_succ, i64_w, i32_w]
            rfl
          refine pure_ (i := 3) (N := some 43) (v := ?_) (a' := ?_) #[true, true, true, true, false, false, false, false, false, false, false, false, false, false, false, false, false] rfl rfl (by kernel_rfl) (fun _ _ _ h => h) (Or.inl ⟨by rfl, ?_⟩) ?_ ?_
          rotate_left
          · intro w'
            go_simp
            with_reducible rfl
          rotate_left
          · simp only [Act.put, List.setIfInBounds_toArray, List.set_cons_zero, List.set_cons_succ, i64_w, i32_w]
            rfl
          refine pure_ (i := 4) (N := some 44) (v := ?_) (a' := ?_) #[true, true, true, true, true, false, false, false, false, false, false, false, false, false, false, false, false] rfl rfl (by kernel_rfl) (fun _ _ _ h => h) (Or.inl ⟨by rfl, ?_⟩) ?_ ?_
          rotate_left
          · intro w'
            go_simp
            with_reducible rfl
          rotate_left
          · simp only [Act.put, List.setIfInBounds_toArray, List.set_cons_zero, List.set_cons_succ, i64_w, i32_w]
            rfl
          refine pure_ (i := 5) (N := some 45) (v := ?_) (a' := ?_) #[true, true, true, true, true, true, false, false, false, false, false, false, false, false, false, false, false] rfl rfl (by kernel_rfl) (fun _ _ _ h => h) (Or.inl ⟨by rfl, ?_⟩) ?_ ?_
          rotate_left
          · intro w'
            go_simp
            with_reducible rfl
          rotate_left
          · simp only [Act.put, List.setIfInBounds_toArray, List.set_cons_zero, List.set_cons_succ, i64_w, i32_w]
            rfl
          refine pure_ (i := 6) (N := some 46) (v := ?_) (a' := ?_) #[true, true, true, true, true, true, true, false, false, false, false, false, false, false, false, false, false] rfl rfl (by kernel_rfl) (fun _ _ _ h => h) (Or.inl ⟨by rfl, ?_⟩) ?_ ?_
          rotate_left
          · intro w'
            go_simp
            with_reducible rfl
          rotate_left
          · simp only [Act.put, List.setIfInBounds_toArray, List.set_cons_zero, List.set_cons_succ, i64_w, i32_w]
            rfl
          refine pure_ (i := 7) (N := some 47) (v := ?_) (a' := ?_) #[true, true, true, true, true, true, true, true, false, false, false, false, false, false, false, false, false] rfl rfl (by kernel_rfl) (fun _ _ _ h => h) (Or.inl ⟨by rfl, ?_⟩) ?_ ?_
          rotate_left
          · intro w'
            go_simp
            with_reducible rfl
          rotate_left
          · simp only [Act.put, List.setIfInBounds_toArray, List.set_cons_zero, List.set_cons_succ, i64_w, i32_w]
            rfl
          refine pure_ (i := 8) (N := some 48) (v := ?_) (a' := ?_) #[true, true, true, true, true, true, true, true, true, false, false, false, false, false, false, false, false] rfl rfl (by kernel_rfl) (fun _ _ _ h => h) (Or.inl ⟨by rfl, ?_⟩) ?_ ?_
          rotate_left
          · intro w'
            go_simp
            with_reducible rfl
          rotate_left
          · simp only [Act.put, List.setIfInBounds_toArray, List.set_cons_zero, List.set_cons_succ, i64_w, i32_w]
            rfl
          refine pure_ (i := 9) (N := some 49) (v := ?_) (a' := ?_) #[true, true, true, true, true, true, true, true, true, true, false, false, false, false, false, false, false] rfl rfl (by kernel_rfl) (fun _ _ _ h => h) (Or.inl ⟨by rfl, ?_⟩) ?_ ?_
          rotate_left
          · intro w'
            go_simp
            with_reducible rfl
          rotate_left
          · simp only [Act.put, List.setIfInBounds_toArray, List.set_cons_zero, List.set_cons_succ, i64_w, i32_w]
            rfl
          refine pure_ (i := 11) (N := some 51) (v := ?_) (a' := ?_) #[true, true, true, true, true, true, true, true, true, true, false, true, false, false, false, false, false] rfl rfl (by kernel_rfl) (fun _ _ _ h => h) (Or.inl ⟨by rfl, ?_⟩) ?_ ?_
          rotate_left
          · intro w'
            go_simp
            with_reducible rfl
          rotate_left
          · simp only [Act.put, List.setIfInBounds_toArray, List.set_cons_zero, List.set_cons_succ, i64_w, i32_w]
            rfl
          refine pure_ (i := 12) (N := some 52) (v := ?_) (a' := ?_) #[true, true, true, true, true, true, true, true, true, true, false, true, true, false, false, false, false] rfl rfl (by kernel_rfl) (fun _ _ _ h => h) (Or.inl ⟨by rfl, ?_⟩) ?_ ?_
          rotate_left
          · intro w'
            go_simp
            with_reducible rfl
          rotate_left
          · simp only [Act.put, List.setIfInBounds_toArray, List.set_cons_zero, List.set_cons_succ, i64_w, i32_w]
            rfl
          refine pure_ (i := 13) (N := some 53) (v := ?_) (a' := ?_) #[true, true, true, true, true, true, true, true, true, true, false, true, true, true, false, false, false] rfl rfl (by kernel_rfl) (fun _ _ _ h => h) (Or.inl ⟨by rfl, ?_⟩) ?_ ?_
          rotate_left
          · intro w'
            go_simp
            with_reducible rfl
          rotate_left
          · simp only [Act.put, List.setIfInBounds_toArray, List.set_cons_zero, List.set_cons_succ, i64_w, i32_w]
            rfl
          refine take_ (i := 10) (N := some 50) (v := ?_) (a' := ?_) #[true, true, true, true, true, true, true, true, true, true, true, true, true, true, false, false, false] rfl rfl (by kernel_rfl) (fun _ _ _ h => h) (Or.inl ⟨by rfl, ?_⟩) hHeld ?_ ?_
          rotate_left
          · rintro w' ⟨s0, s1⟩
            have hcv_ : ∀ n_ : Nat, n_ = tk.length → (convert 26 9 (.slice Ap n_ cp)).run Try.prog w' = .ok (.string (strOfNums tk)) w' := fun n_ e_ => by rw [e_]; exact Kd.C_string (P := Try.prog) (A := Ap) (c := cp) Try.underlying26 Try.underlying5 Try.underlying9 s0
            go_simp
            with_reducible rfl
          rotate_left
          · simp only [Act.put, List.setIfInBounds_toArray, List.set_cons_zero, List.set_cons_succ, i64_w, i32_w]
            rfl
          refine take_ (i := 14) (N := some 54) (v := ?_) (a' := ?_) #[true, true, true, true, true, true, true, true, true, true, true, true, true, true, true, false, false] rfl rfl (by kernel_rfl) (fun _ _ _ h => h) (Or.inl ⟨by rfl, ?_⟩) hHeld ?_ ?_
          rotate_left
          · rintro w' ⟨s0, s1⟩
            have hcv_ : ∀ n_ : Nat, n_ = tk.length → (convert 26 9 (.slice Af n_ cf)).run Try.prog w' = .ok (.string (strOfNums tk)) w' := fun n_ e_ => by rw [e_]; exact Kd.C_string (P := Try.prog) (A := Af) (c := cf) Try.underlying26 Try.underlying5 Try.underlying9 s1
            go_simp
            with_reducible rfl
          rotate_left
          · simp only [Act.put, List.setIfInBounds_toArray, List.set_cons_zero, List.set_cons_succ, i64_w, i32_w]
            rfl
          refine pure_ (i := 15) (N := some 55) (v := ?_) (a' := ?_) #[true, true, true, true, true, true, true, true, true, true, true, true, true, true, true, true, false] rfl rfl (by kernel_rfl) (fun _ _ _ h => h) (Or.inl ⟨by rfl, ?_⟩) ?_ ?_
          rotate_left
          · intro w'
            go_simp
            with_reducible rfl
          rotate_left
          · simp only [Act.put, List.setIfInBounds_toArray, List.set_cons_zero, List.set_cons_succ, i64_w, i32_w]
            rfl
          refine pure_ (i := 16) (N := some 56) (v := ?_) (a' := ?_) #[true, true, true, true, true, true, true, true, true, true, true, true, true, true, true, true, true] rfl rfl (by kernel_rfl) (fun _ _ _ h => h) (Or.inl ⟨by rfl, ?_⟩) ?_ ?_
          rotate_left
          · intro w'
            go_simp
            with_reducible rfl
          rotate_left
          · simp only [Act.put, List.setIfInBounds_toArray, List.set_cons_zero, List.set_cons_succ, i64_w, i32_w]
            rfl
          refine done_ (by kernel_rfl) ?_
          have hs := thresherlaw16_RecordOne.same kd ts k m gr ids id
          have HSM := Aside0.mk hs
          clear hs
          have qx0 := YtanfmnobanhcnaaH.cellv HX3.out 0 (Value.int .i64 kd) rfl
          have qx1 := YtanfmnobanhcnaaH.cellv HX3.out 1 (Value.slice AT ts.length cT) rfl
          have qx2 := YtanfmnobanhcnaaH.cellv HX3.out 2 (Value.int .i64 k) rfl
          have qx3 := YtanfmnobanhcnaaH.cellv HX3.out 3 (Value.int .i64 m) rfl
          have qx4 := YtanfmnobanhcnaaH.cellv HX3.out 4 (Value.int .i64 gr) rfl
          have qx5 := YtanfmnobanhcnaaH.cellv HX3.out 5 (Value.slice AI ids.length cI) rfl
          have qx6 := YtanfmnobanhcnaaH.cellv HX3.out 6 (Value.int .i64 id) rfl
          go_wp2_with fail
          refine (thresherref16_Same.calls kd AT cT ts k m gr AI cI ids id 0 none 0 [] 0 0 0 none 0 [] 0 _ _ (Kd.V_reads' HVT3.out).2.2 (Kd.V_reads' HVT3.out).2.1 (Kd.V_reads' HVI3.out).2.2 (Kd.V_reads' HVI3.out).2.1 (YtanfmnobanhcnaaH.C_nil _ _) (Nat.le_refl 0) (YtanfmnobanhcnaaH.C_nil _ _) (Nat.le_refl 0) HSM.out).mono ?_
          rintro e w6 ⟨rfl, hb6⟩
          have HB6 := Aside0.mk (below_step HB3.out hb6)
          clear hb6 HX3 HVT3 HVI3 HSM HB3
          go_wp2
          go_round
          case rel => exact ⟨2, by omega, by go_num, HB6⟩
          case measure => simp [intOf]
        · have h1 : (er == 0) = false := by rw [beq_eq_false_iff_ne]; exact he
          have h2 : (er != 0) = true := by rw [bne_iff_ne]; exact he
          have hs := thresherlaw16_RecordOne.same kd ts k m gr ids id
          have hno2 : thresherlaw16_RecordOne.isNo kd ts k m gr ids id = true := by injection hno with e1 hno; injection hno with e2 hno; injection hno with e3 e4; injection e2 with e5 e6; injection e6 with e7 e8; injection e8 with e9 e10; subst e1 e3 e4 e5 e7 e9 e10; rfl
          rw [hno2] at hs
          have HSM := Aside0.mk hs
          clear he hno hno2 hs HL2
          go_wp2_with fail
          refine (thresherref16_Same.calls kd AT cT ts k m gr AI cI ids id 0 none 0 [] 0 0 0 none 0 [] 0 _ _ (Kd.V_reads' HVT2.out).2.2 (Kd.V_reads' HVT2.out).2.1 (Kd.V_reads' HVI2.out).2.2 (Kd.V_reads' HVI2.out).2.1 (YtanfmnobanhcnaaH.C_nil _ _) (Nat.le_refl 0) (YtanfmnobanhcnaaH.C_nil _ _) (Nat.le_refl 0) HSM.out).mono ?_
          rintro e w6 ⟨rfl, hb6⟩
          have HB6 := Aside0.mk (below_step HB2'.out hb6)
          clear hb6 HX2 HVT2 HVI2 HSM HB2 HB2'
          go_wp2
          go_round
          case rel => exact ⟨2, by omega, by go_num, HB6⟩
          case measure => simp [intOf]
      · go_wp2
        go_ret
        exact ⟨rfl, HB.out⟩


end Go.Proofs.Ytanfmnobanhcnaa.PRecordOne
