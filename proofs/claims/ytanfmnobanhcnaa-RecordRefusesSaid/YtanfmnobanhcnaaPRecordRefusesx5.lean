-- Written by hp.py (own driver over print.py) out of the translation, hand-made functions among it. Lean checks it.
import Derived.Test.YtanfmnobanhcnaaPRecordRefusesx0
import Derived.Test.YtanfmnobanhcnaaPRecordRefusesx4
namespace Go.Proofs.Ytanfmnobanhcnaa.PRecordRefuses
open Go.RowKit Go.Proofs.YtanfmnobanhcnaaW.PrintWords Go.Proofs.YtanfmnobanhcnaaW.PrintLast Go.Proofs.YtanfmnobanhcnaaW.PrintMore
attribute [local go_sem] max2_int min2_int max_two min_two max_three min_three max_four min_four   -- for this text's walks alone
set_option linter.unusedVariables false
set_option linter.unusedSimpArgs false

/-! ### thresherlaw16_RecordRefuses: function 3 -/
/-- The numbers that are not put, or are. -/
def thresherlaw16_RecordRefuses.upto (k : Nat) : List Int := (List.range k).map fun i : Nat => (i : Int)
def thresherlaw16_RecordRefuses.f (a0 a1 a2 : Int) : Option Bool := if (Lit.int .i64 a0).wf = true ∧ (Lit.int .i64 a1).wf = true ∧ (Lit.int .u8 a2).wf = true then some true else none
set_option maxHeartbeats 2000000 in
theorem thresherlaw16_RecordRefuses.shown_true : thresherlaw16_shown.f = some true := by
  unfold thresherlaw16_shown.f record_Put.f
  rw [Option.bind_some]
  have e : YtanfmnobanhcnaaH.Rec.recPut 2 [] 0 0 0 [] 7 = (YtanfmnobanhcnaaH.Fr.frameI [2, 7], true) := by
    unfold YtanfmnobanhcnaaH.Rec.recPut
    rw [if_pos (by decide)]
    have : YtanfmnobanhcnaaH.Rec.recB 2 [] 0 0 0 [] 7 = [2, 7] := by
      unfold YtanfmnobanhcnaaH.Rec.recB
      rw [if_neg (by decide), if_pos rfl]
      have : YtanfmnobanhcnaaH.Var.putI 7 = [7] := by
        unfold YtanfmnobanhcnaaH.Var.putI
        rw [show (7 : Int).toNat = 7 from rfl, YtanfmnobanhcnaaH.Var.putN_small (by decide)]
        rfl
      rw [this]
      rfl
    rw [this]
  have e2 : YtanfmnobanhcnaaH.Fr.frameI [2, 7] = [2, (YtanfmnobanhcnaaH.Crc.crcI [2, 7]) % 256, (YtanfmnobanhcnaaH.Crc.crcI [2, 7]) / 256 % 256, (YtanfmnobanhcnaaH.Crc.crcI [2, 7]) / 65536 % 256, (YtanfmnobanhcnaaH.Crc.crcI [2, 7]) / 16777216 % 256, 2, 7] := by
    unfold YtanfmnobanhcnaaH.Fr.frameI
    have : YtanfmnobanhcnaaH.Var.putI (([2, 7] : List Int).length : Int) = [2] := by
      unfold YtanfmnobanhcnaaH.Var.putI
      rw [show (([2, 7] : List Int).length : Int).toNat = 2 from rfl, YtanfmnobanhcnaaH.Var.putN_small (by decide)]
      rfl
    rw [this, YtanfmnobanhcnaaH.Fr.sum4_eq]
    rfl
  rw [e, e2]
  generalize YtanfmnobanhcnaaH.Crc.crcI [2, 7] = c
  rfl
set_option maxHeartbeats 2000000 in
theorem thresherlaw16_RecordRefuses.upto_succ (k : Nat) : thresherlaw16_RecordRefuses.upto (k + 1) = thresherlaw16_RecordRefuses.upto k ++ [(k : Int)] := by
  unfold thresherlaw16_RecordRefuses.upto
  rw [List.range_succ, List.map_append]
  rfl
set_option maxHeartbeats 2000000 in
theorem thresherlaw16_RecordRefuses.upto_len (k : Nat) : (thresherlaw16_RecordRefuses.upto k).length = k := by simp [thresherlaw16_RecordRefuses.upto]
set_option maxHeartbeats 2000000 in
theorem thresherlaw16_RecordRefuses.upto_ok (k : Nat) (hk : k ≤ 46) : (thresherlaw16_RecordRefuses.upto k).any YtanfmnobanhcnaaH.Rec.odd = false := by
  rw [List.any_eq_false]
  intro x hx
  obtain ⟨i, hi, rfl⟩ := List.mem_map.1 hx
  have := List.mem_range.1 hi
  rw [YtanfmnobanhcnaaH.Rec.odd_iff.2 (by omega)]
  decide
set_option maxHeartbeats 2000000 in
theorem thresherlaw16_RecordRefuses.lt1 (k : Nat) : decide (2 ≤ (k : Int)) = decide (1 < k) := by rw [Bool.eq_iff_iff, decide_eq_true_iff, decide_eq_true_iff]; omega
set_option maxHeartbeats 2000000 in
theorem thresherlaw16_RecordRefuses.lt40 (k : Nat) : decide ((k : Int) ≤ 40) = !decide (40 < k) := by rw [Bool.eq_iff_iff, decide_eq_true_iff, Bool.not_eq_true', decide_eq_false_iff_not]; omega
set_option maxHeartbeats 2000000 in
theorem thresherlaw16_RecordRefuses.eq0 (k : Nat) : ((k : Int) == 0) = decide (k = 0) := by rw [Bool.eq_iff_iff, beq_iff_eq, decide_eq_true_iff]; omega
set_option maxHeartbeats 2000000 in
theorem thresherlaw16_RecordRefuses.odds (a : Int) : (!YtanfmnobanhcnaaH.Rec.odd a) = (decide (0 ≤ a) && decide (a ≤ 999999)) := by
  rw [Bool.eq_iff_iff, Bool.not_eq_true', YtanfmnobanhcnaaH.Rec.odd_iff, Bool.and_eq_true, decide_eq_true_iff, decide_eq_true_iff]
open Go.Proofs.YtanfmnobanhcnaaH.Rec in
theorem thresherlaw16_RecordRefuses.may1 (id : Int) : mayI 2 [] 0 0 0 [] id = (decide (0 ≤ id) && decide (id ≤ 999999)) := by
  rw [← thresherlaw16_RecordRefuses.odds]
  unfold mayI
  cases odd id <;> rfl
open Go.Proofs.YtanfmnobanhcnaaH.Rec in
theorem thresherlaw16_RecordRefuses.may2 (id : Int) : mayI 3 [] 0 0 0 [id, 5] 1 = (decide (0 ≤ id) && decide (id ≤ 999999)) := by
  rw [← thresherlaw16_RecordRefuses.odds]
  unfold mayI
  simp only [List.any_cons, List.any_nil]
  cases odd id <;> rfl
open Go.Proofs.YtanfmnobanhcnaaH.Rec in
theorem thresherlaw16_RecordRefuses.may3 (k : Nat) (hk : k ≤ 45) : mayI 3 [] 0 0 0 (thresherlaw16_RecordRefuses.upto k) 1 = (decide (2 ≤ (k : Int)) && decide ((k : Int) ≤ 40)) := by
  unfold mayI
  rw [thresherlaw16_RecordRefuses.upto_ok k (by omega), thresherlaw16_RecordRefuses.upto_len, thresherlaw16_RecordRefuses.lt1, thresherlaw16_RecordRefuses.lt40]
  cases decide (40 < k) <;> cases decide (1 < k) <;> rfl
open Go.Proofs.YtanfmnobanhcnaaH.Rec in
theorem thresherlaw16_RecordRefuses.may4 (k : Nat) (hk : k ≤ 45) : mayI 2 [] 0 0 0 (thresherlaw16_RecordRefuses.upto k) 1 = ((k : Int) == 0) := by
  unfold mayI
  rw [thresherlaw16_RecordRefuses.upto_ok k (by omega), thresherlaw16_RecordRefuses.upto_len, thresherlaw16_RecordRefuses.eq0]
  by_cases h : k = 0
  · subst h; rfl
  · rw [decide_eq_false h]
    cases decide (40 < k) <;> rfl
open Go.Proofs.YtanfmnobanhcnaaH.Rec in
theorem thresherlaw16_RecordRefuses.may5 (k : Nat) (hk : k ≤ 45) : mayI 1 [2] 1 1 1 (thresherlaw16_RecordRefuses.upto k) 1 = decide ((k : Int) ≤ 40) := by
  unfold mayI
  rw [thresherlaw16_RecordRefuses.upto_ok k (by omega), thresherlaw16_RecordRefuses.upto_len, thresherlaw16_RecordRefuses.lt40]
  have : schemaOk [2] 1 1 1 = true := by decide
  rw [this]
  cases decide (40 < k) <;> rfl
open Go.Proofs.YtanfmnobanhcnaaH.Rec in
theorem thresherlaw16_RecordRefuses.may6 (kd : Int) : mayI kd [] 0 0 0 [] 1 = (kd == 2) := by
  rw [show (kd == 2) = decide (kd = 2) by rw [Bool.eq_iff_iff, beq_iff_eq, decide_eq_true_iff]]
  unfold mayI
  have : schemaOk [] 0 0 0 = false := by decide
  rw [this]
  by_cases h1 : kd = 1
  · subst h1; rfl
  · by_cases h2 : kd = 2
    · subst h2; rfl
    · rw [if_neg h1, if_neg h2, decide_eq_false h2]
      by_cases h3 : kd = 3
      · subst h3; rfl
      · rw [if_neg h3]; rfl
set_option maxHeartbeats 4000000 in
set_option maxRecDepth 100000 in
theorem thresherlaw16_RecordRefuses.calls (a0 a1 a2 : Int) (r : Bool) (w : World) (h : thresherlaw16_RecordRefuses.f a0 a1 a2 = some r) :
    Calls Try.prog 3 #[.int .i64 a0, .int .i64 a1, .int .u8 a2] w fun e w' => e = .returned (.bool r) ∧ Below w.heap.size w w' := by
  have hu30 := Try.underlying30
  have hu25 := Try.underlying25
  have hr : ((Lit.int .i64 a0).wf = true ∧ (Lit.int .i64 a1).wf = true ∧ (Lit.int .u8 a2).wf = true) ∧ true = r := by
    unfold thresherlaw16_RecordRefuses.f at h
    split at h
    · exact ⟨by assumption, Option.some.inj h⟩
    · cases h
  obtain ⟨⟨hw0, hw1, hw2⟩, rfl⟩ := hr
  have h2 := YtanfmnobanhcnaaH.Crc.wf_u8 hw2
  obtain ⟨m, rfl⟩ := Int.eq_ofNat_of_zero_le h2.1
  have hm : m < 256 := by omega
  clear h hw0 hw1 hw2 h2
  go_enter Try.func3, Try.ntmps3
  go_wp2_with fail
  refine (thresherlaw16_shown.calls true _ thresherlaw16_RecordRefuses.shown_true).mono ?_
  rintro e w1 ⟨rfl, hb1⟩
  have HB1 := Aside0.mk hb1
  clear hb1
  have hk45 : m % 46 ≤ 45 := by omega
  have hk : ((m : Int) % 46) = ((m % 46 : Nat) : Int) := by omega
  obtain ⟨k, hkd⟩ : ∃ k, k = m % 46 := ⟨_, rfl⟩
  rw [← hkd] at hk hk45
  have HK := Aside0.mk hk
  clear hkd hk
  go_wp2_with fail
  rw [HK.out]
  have hr0 : Kd.R (Kd.int .i64) 3 (w1.alloc (.cells #[] 3)) w.heap.size (fun _ => True) (.slice (some ⟨w1.heap.size, 0, none⟩) 0 0) (thresherlaw16_RecordRefuses.upto 0) := YtanfmnobanhcnaaH.R_lits .i64 w1 w.heap.size 3 (fun _ => True) [] HB1.out.size trivial (by simp)
  go_loopw [9, 10] (fun v9 v10 w' => ∃ i : Nat, i ≤ k ∧ v10 = .int .i64 i ∧ Aside0 (Kd.R (Kd.int .i64) 3 w' w.heap.size (fun _ => True) v9 (thresherlaw16_RecordRefuses.upto i)) ∧ Aside0 (Below w.heap.size w w')) (fun _ v10 _ => k - (intOf v10).toNat)
  case atStart => exact ⟨0, Nat.zero_le _, rfl, ⟨hr0⟩, ⟨HB1.out.alloc HB1.out.size _⟩⟩
  case round =>
    clear hr0
    obtain ⟨i, hi, rfl, HO, HB⟩ := hrel
    by_cases hlt : i < k
    · have HL := Aside0.mk (thresherlaw16_RecordRefuses.upto_len i)
      have HS := Aside0.mk (thresherlaw16_RecordRefuses.upto_succ i)
      go_wp2_with (first | (at_builtin; go_must (refine Kd.R_append (Kd.int .i64) (w0 := w) w.heap.size rfl (.tmp 37) (.tmp 39) 23 3 (.int .i64 0) 8 rfl Try.underlying23 info3 rfl (by decide) (by decide) _ (thresherlaw16_RecordRefuses.upto i) (i : Int) [.int .i64 (i : Int)] (fun _ => True) (fun _ => False) rfl rfl rfl (fun _ hk => hk.elim) (fun _ _ => trivial) (by (with_reducible repeat (first | apply Kd.R_alloc | apply Kd.R_drewN | apply Kd.R_drew)); exact HO.out) (by repeat (first | (with_reducible first | exact HB.out | apply below_alloc | apply pw_below_drewN | apply below_drew1) | exact HB.out)) (below_size (by repeat (first | (with_reducible first | exact HB.out | apply below_alloc | apply pw_below_drewN | apply below_drew1) | exact HB.out))) (by have := HL.out; omega) ?_; intro v2 w2 ho2 hb2 hg2 hat2)))
      go_round
      case rel => exact ⟨i + 1, by omega, by go_num, ⟨by rw [HS.out]; exact ho2⟩, ⟨hb2⟩⟩
      case measure => simp [intOf]; omega
    · have hkk : i = k := by omega
      subst hkk
      clear hlt hi
      obtain ⟨A9, c9, e9⟩ := Kd.R_slice HO.out
      subst e9
      have HC9 := Aside0.mk (Kd.R_reads' HO.out).2.1
      have hsz : (wr.alloc (.cells #[.int .i64 2] 3)).heap.size = wr.heap.size + 1 := by show (wr.heap.push _).size = _; simp
      have hG0' := blk_new (wr.alloc (.cells #[.int .i64 2] 3)) (.cells #[.slice (some ⟨wr.heap.size, 0, none⟩) 1 1, .int .i64 1, .int .i64 1, .int .i64 1] 25)
      rw [hsz] at hG0'
      have HG0 := Aside0.mk hG0'
      have hT0' : Kd.R (Kd.int .i64) 3 (wr.alloc (.cells #[.int .i64 2] 3)) w.heap.size (fun _ => True) (.slice (some ⟨wr.heap.size, 0, none⟩) 1 1) [2] := YtanfmnobanhcnaaH.R_lits .i64 wr w.heap.size 3 (fun _ => True) [2] HB.out.size trivial (by simp)
      have HT0 := Aside0.mk (Kd.R_alloc hT0' (.cells #[.slice (some ⟨wr.heap.size, 0, none⟩) 1 1, .int .i64 1, .int .i64 1, .int .i64 1] 25))
      have HO0 := Aside0.mk (Kd.R_alloc (Kd.R_alloc HO.out (.cells #[.int .i64 2] 3)) (.cells #[.slice (some ⟨wr.heap.size, 0, none⟩) 1 1, .int .i64 1, .int .i64 1, .int .i64 1] 25))
      have HB0 := Aside0.mk ((HB.out.alloc HB.out.size (.cells #[.int .i64 2] 3)).alloc (by rw [hsz]; have := HB.out.size; omega) (.cells #[.slice (some ⟨wr.heap.size, 0, none⟩) 1 1, .int .i64 1, .int .i64 1, .int .i64 1] 25))
      clear hsz hG0' hT0' HB HO
      obtain ⟨ids, hids⟩ : ∃ ids, ids = thresherlaw16_RecordRefuses.upto i := ⟨_, rfl⟩
      rw [← hids] at HO0 HC9 ⊢
      have HI := Aside0.mk hids
      clear hids
      by_cases h1 : 0 ≤ a0
      · have h1b : decide (0 ≤ a0) = true := decide_eq_true h1
        go_wp2_with fail
        refine (record_Put.calls 2 none 0 ([] : List Int) 0 0 0 none 0 ([] : List Int) a0 (YtanfmnobanhcnaaH.Rec.recPut 2 ([] : List Int) 0 0 0 [] a0).1 (YtanfmnobanhcnaaH.Rec.recPut 2 ([] : List Int) 0 0 0 [] a0).2 _ (YtanfmnobanhcnaaH.C_nil _ _) (Nat.le_refl 0) (YtanfmnobanhcnaaH.C_nil _ _) (Nat.le_refl 0) rfl).mono ?_
        rintro e w1_ ⟨v1_, rfl, _, hb⟩
        have HB1 := Aside0.mk (below_step HB0.out hb)
        have HG1 := Aside0.mk (blk_below HG0.out hb)
        have HT1 := Aside0.mk (Kd.R_below HT0.out hb)
        have HO1 := Aside0.mk (Kd.R_below HO0.out hb)
        clear hb
        rw [YtanfmnobanhcnaaH.Rec.recPut_2, thresherlaw16_RecordRefuses.may1, h1b, Bool.true_and]
        go_wp2_with fail
        refine (record_Put.calls 3 none 0 ([] : List Int) 0 0 0 (some ⟨w1_.heap.size, 0, none⟩) 2 ([a0, 5] : List Int) 1 (YtanfmnobanhcnaaH.Rec.recPut 3 ([] : List Int) 0 0 0 [a0, 5] 1).1 (YtanfmnobanhcnaaH.Rec.recPut 3 ([] : List Int) 0 0 0 [a0, 5] 1).2 _ (YtanfmnobanhcnaaH.C_nil _ _) (Nat.le_refl 0) (Kd.R_reads' (YtanfmnobanhcnaaH.R_lits .i64 w1_ w.heap.size 3 (fun _ => True) [a0, 5] HB1.out.size trivial (by simp))).2.2 (Nat.le_refl 2) rfl).mono ?_
        rintro e w2_ ⟨v2_, rfl, _, hb⟩
        have HB2 := Aside0.mk (below_step (HB1.out.alloc HB1.out.size _) hb)
        have HG2 := Aside0.mk (blk_below (blk_alloc HG1.out _) hb)
        have HT2 := Aside0.mk (Kd.R_below (Kd.R_alloc HT1.out _) hb)
        have HO2 := Aside0.mk (Kd.R_below (Kd.R_alloc HO1.out _) hb)
        clear hb
        rw [YtanfmnobanhcnaaH.Rec.recPut_2, thresherlaw16_RecordRefuses.may2, h1b, Bool.true_and]
        go_wp2_with fail
        refine (record_Put.calls 3 none 0 ([] : List Int) 0 0 0 A9 c9 ids 1 (YtanfmnobanhcnaaH.Rec.recPut 3 ([] : List Int) 0 0 0 ids 1).1 (YtanfmnobanhcnaaH.Rec.recPut 3 ([] : List Int) 0 0 0 ids 1).2 _ (YtanfmnobanhcnaaH.C_nil _ _) (Nat.le_refl 0) (Kd.R_reads' HO2.out).2.2 HC9.out rfl).mono ?_
        rintro e w3_ ⟨v3_, rfl, _, hb⟩
        have HB3 := Aside0.mk (below_step HB2.out hb)
        have HG3 := Aside0.mk (blk_below HG2.out hb)
        have HT3 := Aside0.mk (Kd.R_below HT2.out hb)
        have HO3 := Aside0.mk (Kd.R_below HO2.out hb)
        clear hb
        rw [YtanfmnobanhcnaaH.Rec.recPut_2, HI.out, thresherlaw16_RecordRefuses.may3 i hk45, ← HI.out]
        go_wp2_with fail
        refine (record_Put.calls 2 none 0 ([] : List Int) 0 0 0 A9 c9 ids 1 (YtanfmnobanhcnaaH.Rec.recPut 2 ([] : List Int) 0 0 0 ids 1).1 (YtanfmnobanhcnaaH.Rec.recPut 2 ([] : List Int) 0 0 0 ids 1).2 _ (YtanfmnobanhcnaaH.C_nil _ _) (Nat.le_refl 0) (Kd.R_reads' HO3.out).2.2 HC9.out rfl).mono ?_
        rintro e w4_ ⟨v4_, rfl, _, hb⟩
        have HB4 := Aside0.mk (below_step HB3.out hb)
        have HG4 := Aside0.mk (blk_below HG3.out hb)
        have HT4 := Aside0.mk (Kd.R_below HT3.out hb)
        have HO4 := Aside0.mk (Kd.R_below HO3.out hb)
        clear hb
        rw [YtanfmnobanhcnaaH.Rec.recPut_2, HI.out, thresherlaw16_RecordRefuses.may4 i hk45, ← HI.out]
        have hc4_0 := YtanfmnobanhcnaaH.cellv HG4.out 0 (.slice (some ⟨wr.heap.size, 0, none⟩) 1 1) rfl
        have hc4_1 := YtanfmnobanhcnaaH.cellv HG4.out 1 (.int .i64 1) rfl
        have hc4_2 := YtanfmnobanhcnaaH.cellv HG4.out 2 (.int .i64 1) rfl
        have hc4_3 := YtanfmnobanhcnaaH.cellv HG4.out 3 (.int .i64 1) rfl
        go_wp2_with fail
        refine (record_Put.calls 1 (some ⟨wr.heap.size, 0, none⟩) 1 ([2] : List Int) 1 1 1 A9 c9 ids 1 (YtanfmnobanhcnaaH.Rec.recPut 1 [2] 1 1 1 ids 1).1 (YtanfmnobanhcnaaH.Rec.recPut 1 [2] 1 1 1 ids 1).2 _ (Kd.R_reads' HT4.out).2.2 (Nat.le_refl 1) (Kd.R_reads' HO4.out).2.2 HC9.out rfl).mono ?_
        rintro e w5_ ⟨v5_, rfl, _, hb⟩
        have HB5 := Aside0.mk (below_step HB4.out hb)
        have HG5 := Aside0.mk (blk_below HG4.out hb)
        have HT5 := Aside0.mk (Kd.R_below HT4.out hb)
        have HO5 := Aside0.mk (Kd.R_below HO4.out hb)
        clear hb
        rw [YtanfmnobanhcnaaH.Rec.recPut_2, HI.out, thresherlaw16_RecordRefuses.may5 i hk45, ← HI.out]
        go_wp2_with fail
        refine (record_Put.calls a1 none 0 ([] : List Int) 0 0 0 none 0 ([] : List Int) 1 (YtanfmnobanhcnaaH.Rec.recPut a1 ([] : List Int) 0 0 0 [] 1).1 (YtanfmnobanhcnaaH.Rec.recPut a1 ([] : List Int) 0 0 0 [] 1).2 _ (YtanfmnobanhcnaaH.C_nil _ _) (Nat.le_refl 0) (YtanfmnobanhcnaaH.C_nil _ _) (Nat.le_refl 0) rfl).mono ?_
        rintro e w6_ ⟨v6_, rfl, _, hb⟩
        have HB6 := Aside0.mk (below_step HB5.out hb)
        have HG6 := Aside0.mk (blk_below HG5.out hb)
        have HT6 := Aside0.mk (Kd.R_below HT5.out hb)
        have HO6 := Aside0.mk (Kd.R_below HO5.out hb)
        clear hb
        rw [YtanfmnobanhcnaaH.Rec.recPut_2, thresherlaw16_RecordRefuses.may6]
        have hc6_0 := YtanfmnobanhcnaaH.cellv HG6.out 0 (.slice (some ⟨wr.heap.size, 0, none⟩) 1 1) rfl
        have hc6_1 := YtanfmnobanhcnaaH.cellv HG6.out 1 (.int .i64 1) rfl
        have hc6_2 := YtanfmnobanhcnaaH.cellv HG6.out 2 (.int .i64 1) rfl
        have hc6_3 := YtanfmnobanhcnaaH.cellv HG6.out 3 (.int .i64 1) rfl
        go_wp2_with fail
        refine (record_Put.calls 2 (some ⟨wr.heap.size, 0, none⟩) 1 ([2] : List Int) 1 1 1 none 0 ([] : List Int) 1 (YtanfmnobanhcnaaH.Rec.recPut 2 [2] 1 1 1 [] 1).1 (YtanfmnobanhcnaaH.Rec.recPut 2 [2] 1 1 1 [] 1).2 _ (Kd.R_reads' HT6.out).2.2 (Nat.le_refl 1) (YtanfmnobanhcnaaH.C_nil _ _) (Nat.le_refl 0) rfl).mono ?_
        rintro e w7_ ⟨v7_, rfl, _, hb⟩
        have HB7 := Aside0.mk (below_step HB6.out hb)
        have HG7 := Aside0.mk (blk_below HG6.out hb)
        have HT7 := Aside0.mk (Kd.R_below HT6.out hb)
        have HO7 := Aside0.mk (Kd.R_below HO6.out hb)
        clear hb
        rw [YtanfmnobanhcnaaH.Rec.recPut_2, show YtanfmnobanhcnaaH.Rec.mayI 2 [2] 1 1 1 [] 1 = false by decide]
        cases hb2 : decide (2 ≤ (i : Int))
        all_goals (go_wp2; go_ret; exact ⟨by first | rfl | simp [*], HB7.out⟩)
      · have h1b : decide (0 ≤ a0) = false := decide_eq_false h1
        go_wp2_with fail
        refine (record_Put.calls 2 none 0 ([] : List Int) 0 0 0 none 0 ([] : List Int) a0 (YtanfmnobanhcnaaH.Rec.recPut 2 ([] : List Int) 0 0 0 [] a0).1 (YtanfmnobanhcnaaH.Rec.recPut 2 ([] : List Int) 0 0 0 [] a0).2 _ (YtanfmnobanhcnaaH.C_nil _ _) (Nat.le_refl 0) (YtanfmnobanhcnaaH.C_nil _ _) (Nat.le_refl 0) rfl).mono ?_
        rintro e w1_ ⟨v1_, rfl, _, hb⟩
        have HB1 := Aside0.mk (below_step HB0.out hb)
        have HG1 := Aside0.mk (blk_below HG0.out hb)
        have HT1 := Aside0.mk (Kd.R_below HT0.out hb)
        have HO1 := Aside0.mk (Kd.R_below HO0.out hb)
        clear hb
        rw [YtanfmnobanhcnaaH.Rec.recPut_2, thresherlaw16_RecordRefuses.may1, h1b, Bool.false_and]
        go_wp2_with fail
        refine (record_Put.calls 3 none 0 ([] : List Int) 0 0 0 (some ⟨w1_.heap.size, 0, none⟩) 2 ([a0, 5] : List Int) 1 (YtanfmnobanhcnaaH.Rec.recPut 3 ([] : List Int) 0 0 0 [a0, 5] 1).1 (YtanfmnobanhcnaaH.Rec.recPut 3 ([] : List Int) 0 0 0 [a0, 5] 1).2 _ (YtanfmnobanhcnaaH.C_nil _ _) (Nat.le_refl 0) (Kd.R_reads' (YtanfmnobanhcnaaH.R_lits .i64 w1_ w.heap.size 3 (fun _ => True) [a0, 5] HB1.out.size trivial (by simp))).2.2 (Nat.le_refl 2) rfl).mono ?_
        rintro e w2_ ⟨v2_, rfl, _, hb⟩
        have HB2 := Aside0.mk (below_step (HB1.out.alloc HB1.out.size _) hb)
        have HG2 := Aside0.mk (blk_below (blk_alloc HG1.out _) hb)
        have HT2 := Aside0.mk (Kd.R_below (Kd.R_alloc HT1.out _) hb)
        have HO2 := Aside0.mk (Kd.R_below (Kd.R_alloc HO1.out _) hb)
        clear hb
        rw [YtanfmnobanhcnaaH.Rec.recPut_2, thresherlaw16_RecordRefuses.may2, h1b, Bool.false_and]
        go_wp2_with fail
        refine (record_Put.calls 3 none 0 ([] : List Int) 0 0 0 A9 c9 ids 1 (YtanfmnobanhcnaaH.Rec.recPut 3 ([] : List Int) 0 0 0 ids 1).1 (YtanfmnobanhcnaaH.Rec.recPut 3 ([] : List Int) 0 0 0 ids 1).2 _ (YtanfmnobanhcnaaH.C_nil _ _) (Nat.le_refl 0) (Kd.R_reads' HO2.out).2.2 HC9.out rfl).mono ?_
        rintro e w3_ ⟨v3_, rfl, _, hb⟩
        have HB3 := Aside0.mk (below_step HB2.out hb)
        have HG3 := Aside0.mk (blk_below HG2.out hb)
        have HT3 := Aside0.mk (Kd.R_below HT2.out hb)
        have HO3 := Aside0.mk (Kd.R_below HO2.out hb)
        clear hb
        rw [YtanfmnobanhcnaaH.Rec.recPut_2, HI.out, thresherlaw16_RecordRefuses.may3 i hk45, ← HI.out]
        go_wp2_with fail
        refine (record_Put.calls 2 none 0 ([] : List Int) 0 0 0 A9 c9 ids 1 (YtanfmnobanhcnaaH.Rec.recPut 2 ([] : List Int) 0 0 0 ids 1).1 (YtanfmnobanhcnaaH.Rec.recPut 2 ([] : List Int) 0 0 0 ids 1).2 _ (YtanfmnobanhcnaaH.C_nil _ _) (Nat.le_refl 0) (Kd.R_reads' HO3.out).2.2 HC9.out rfl).mono ?_
        rintro e w4_ ⟨v4_, rfl, _, hb⟩
        have HB4 := Aside0.mk (below_step HB3.out hb)
        have HG4 := Aside0.mk (blk_below HG3.out hb)
        have HT4 := Aside0.mk (Kd.R_below HT3.out hb)
        have HO4 := Aside0.mk (Kd.R_below HO3.out hb)
        clear hb
        rw [YtanfmnobanhcnaaH.Rec.recPut_2, HI.out, thresherlaw16_RecordRefuses.may4 i hk45, ← HI.out]
        have hc4_0 := YtanfmnobanhcnaaH.cellv HG4.out 0 (.slice (some ⟨wr.heap.size, 0, none⟩) 1 1) rfl
        have hc4_1 := YtanfmnobanhcnaaH.cellv HG4.out 1 (.int .i64 1) rfl
        have hc4_2 := YtanfmnobanhcnaaH.cellv HG4.out 2 (.int .i64 1) rfl
        have hc4_3 := YtanfmnobanhcnaaH.cellv HG4.out 3 (.int .i64 1) rfl
        go_wp2_with fail
        refine (record_Put.calls 1 (some ⟨wr.heap.size, 0, none⟩) 1 ([2] : List Int) 1 1 1 A9 c9 ids 1 (YtanfmnobanhcnaaH.Rec.recPut 1 [2] 1 1 1 ids 1).1 (YtanfmnobanhcnaaH.Rec.recPut 1 [2] 1 1 1 ids 1).2 _ (Kd.R_reads' HT4.out).2.2 (Nat.le_refl 1) (Kd.R_reads' HO4.out).2.2 HC9.out rfl).mono ?_
        rintro e w5_ ⟨v5_, rfl, _, hb⟩
        have HB5 := Aside0.mk (below_step HB4.out hb)
        have HG5 := Aside0.mk (blk_below HG4.out hb)
        have HT5 := Aside0.mk (Kd.R_below HT4.out hb)
        have HO5 := Aside0.mk (Kd.R_below HO4.out hb)
        clear hb
        rw [YtanfmnobanhcnaaH.Rec.recPut_2, HI.out, thresherlaw16_RecordRefuses.may5 i hk45, ← HI.out]
        go_wp2_with fail
        refine (record_Put.calls a1 none 0 ([] : List Int) 0 0 0 none 0 ([] : List Int) 1 (YtanfmnobanhcnaaH.Rec.recPut a1 ([] : List Int) 0 0 0 [] 1).1 (YtanfmnobanhcnaaH.Rec.recPut a1 ([] : List Int) 0 0 0 [] 1).2 _ (YtanfmnobanhcnaaH.C_nil _ _) (Nat.le_refl 0) (YtanfmnobanhcnaaH.C_nil _ _) (Nat.le_refl 0) rfl).mono ?_
        rintro e w6_ ⟨v6_, rfl, _, hb⟩
        have HB6 := Aside0.mk (below_step HB5.out hb)
        have HG6 := Aside0.mk (blk_below HG5.out hb)
        have HT6 := Aside0.mk (Kd.R_below HT5.out hb)
        have HO6 := Aside0.mk (Kd.R_below HO5.out hb)
        clear hb
        rw [YtanfmnobanhcnaaH.Rec.recPut_2, thresherlaw16_RecordRefuses.may6]
        have hc6_0 := YtanfmnobanhcnaaH.cellv HG6.out 0 (.slice (some ⟨wr.heap.size, 0, none⟩) 1 1) rfl
        have hc6_1 := YtanfmnobanhcnaaH.cellv HG6.out 1 (.int .i64 1) rfl
        have hc6_2 := YtanfmnobanhcnaaH.cellv HG6.out 2 (.int .i64 1) rfl
        have hc6_3 := YtanfmnobanhcnaaH.cellv HG6.out 3 (.int .i64 1) rfl
        go_wp2_with fail
        refine (record_Put.calls 2 (some ⟨wr.heap.size, 0, none⟩) 1 ([2] : List Int) 1 1 1 none 0 ([] : List Int) 1 (YtanfmnobanhcnaaH.Rec.recPut 2 [2] 1 1 1 [] 1).1 (YtanfmnobanhcnaaH.Rec.recPut 2 [2] 1 1 1 [] 1).2 _ (Kd.R_reads' HT6.out).2.2 (Nat.le_refl 1) (YtanfmnobanhcnaaH.C_nil _ _) (Nat.le_refl 0) rfl).mono ?_
        rintro e w7_ ⟨v7_, rfl, _, hb⟩
        have HB7 := Aside0.mk (below_step HB6.out hb)
        have HG7 := Aside0.mk (blk_below HG6.out hb)
        have HT7 := Aside0.mk (Kd.R_below HT6.out hb)
        have HO7 := Aside0.mk (Kd.R_below HO6.out hb)
        clear hb
        rw [YtanfmnobanhcnaaH.Rec.recPut_2, show YtanfmnobanhcnaaH.Rec.mayI 2 [2] 1 1 1 [] 1 = false by decide]
        cases hb2 : decide (2 ≤ (i : Int))
        all_goals (go_wp2; go_ret; exact ⟨by first | rfl | simp [*], HB7.out⟩)


end Go.Proofs.Ytanfmnobanhcnaa.PRecordRefuses
