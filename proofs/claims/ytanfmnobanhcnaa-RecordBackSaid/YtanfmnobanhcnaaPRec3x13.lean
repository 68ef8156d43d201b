-- Written by hp.py (own driver over print.py) out of the translation, hand-made functions among it. Lean checks it.
import Derived.Test.YtanfmnobanhcnaaPRec3x0
import Derived.Test.YtanfmnobanhcnaaPRec3x4
import Derived.Test.YtanfmnobanhcnaaPRec3x9
import Derived.Test.YtanfmnobanhcnaaPRec3x11
import Derived.Test.YtanfmnobanhcnaaPRec3x12
namespace Go.Proofs.Ytanfmnobanhcnaa.PRec3
open Go.RowKit Go.Proofs.YtanfmnobanhcnaaW.PrintWords Go.Proofs.YtanfmnobanhcnaaW.PrintLast Go.Proofs.YtanfmnobanhcnaaW.PrintMore
attribute [local go_sem] max2_int min2_int max_two min_two max_three min_three max_four min_four   -- for this text's walks alone
set_option linter.unusedVariables false
set_option linter.unusedSimpArgs false

/-! ### thresherlaw16_RecordBack: function 5 -/
set_option maxHeartbeats 2000000 in
theorem thresherlaw16_RecordBack.shown_true : thresherlaw16_shown.f = some true := by
  unfold thresherlaw16_shown.f record_Put.f
  rw [Option.bind_some]
  have e : YtanfmnobanhcnaaH.Rec.recPut 2 [] 0 0 0 [] 7 = (YtanfmnobanhcnaaH.Fr.frameI [2, 7], true) := by
    unfold YtanfmnobanhcnaaH.Rec.recPut
    rw [if_pos (by decide)]
    have : YtanfmnobanhcnaaH.Rec.recB 2 [] 0 0 0 [] 7 = [2, 7] := by
      unfold YtanfmnobanhcnaaH.Rec.recB
      rw [if_neg (by decide), if_pos rfl]
      have : YtanfmnobanhcnaaH.Var.putI 7 = [7] := by
        unfold YtanfmnobanhcnaaH.Var.putI
        rw [show (7 : Int).toNat = 7 from rfl, YtanfmnobanhcnaaH.Var.putN_small (by decide)]
        rfl
      rw [this]
      rfl
    rw [this]
  have e2 : YtanfmnobanhcnaaH.Fr.frameI [2, 7] = [2, (YtanfmnobanhcnaaH.Crc.crcI [2, 7]) % 256, (YtanfmnobanhcnaaH.Crc.crcI [2, 7]) / 256 % 256, (YtanfmnobanhcnaaH.Crc.crcI [2, 7]) / 65536 % 256, (YtanfmnobanhcnaaH.Crc.crcI [2, 7]) / 16777216 % 256, 2, 7] := by
    unfold YtanfmnobanhcnaaH.Fr.frameI
    have : YtanfmnobanhcnaaH.Var.putI (([2, 7] : List Int).length : Int) = [2] := by
      unfold YtanfmnobanhcnaaH.Var.putI
      rw [show (([2, 7] : List Int).length : Int).toNat = 2 from rfl, YtanfmnobanhcnaaH.Var.putN_small (by decide)]
      rfl
    rw [this, YtanfmnobanhcnaaH.Fr.sum4_eq]
    rfl
  rw [e, e2]
  generalize YtanfmnobanhcnaaH.Crc.crcI [2, 7] = c
  rfl
def thresherlaw16_RecordBack.f (s0 s1 s2 s3 s4 s5 s6 s7 s8 s9 s10 s11 n0 n1 n2 : Int) (l2 : List Int) : Option Bool := if (([s0, s1, s2, s3, s4, s5, s6, s7, s8, s9, s10, s11].all fun x => (Lit.int .u8 x).wf) && (([n0, n1, n2].all fun x => (Lit.int .u16 x).wf) && (l2.all fun x => (Lit.int .u16 x).wf))) = true then some true else none
set_option maxHeartbeats 2000000 in
theorem thresherlaw16_RecordBack.len {kd : Int} {ts : List Int} {k m g : Int} {ids : List Int} {id : Int} (h : YtanfmnobanhcnaaH.Rec.mayI kd ts k m g ids id = true) : 7 ≤ (YtanfmnobanhcnaaH.Fr.frameI (YtanfmnobanhcnaaH.Rec.recB kd ts k m g ids id)).length ∧ (YtanfmnobanhcnaaH.Fr.frameI (YtanfmnobanhcnaaH.Rec.recB kd ts k m g ids id)).length ≤ 2000 := by
  have h1 := YtanfmnobanhcnaaH.Rec.recB_len h
  have h2 := YtanfmnobanhcnaaH.Fr.frameI_len (YtanfmnobanhcnaaH.Rec.recB kd ts k m g ids id)
  have h3 := YtanfmnobanhcnaaH.Var.putI_len10 ((YtanfmnobanhcnaaH.Rec.recB kd ts k m g ids id).length : Int) (by omega)
  have h4 := YtanfmnobanhcnaaH.Var.putI_pos ((YtanfmnobanhcnaaH.Rec.recB kd ts k m g ids id).length : Int)
  have h5 : 2 ≤ (YtanfmnobanhcnaaH.Rec.recB kd ts k m g ids id).length := by
    have := YtanfmnobanhcnaaH.Var.putI_pos id
    unfold YtanfmnobanhcnaaH.Rec.recB
    simp only [List.length_append, List.length_singleton]
    omega
  omega
set_option maxHeartbeats 2000000 in
theorem thresherlaw16_RecordBack.same (kd : Int) (ts : List Int) (k m g : Int) (ids : List Int) (id : Int) : thresherref16_Same.f kd ts k m g ids id kd ts k m g ids id = some true := by
  unfold thresherref16_Same.f thresherref04_Same.f thresherref15_Same.f
  rw [Option.bind_some, Option.bind_some]
  simp
set_option maxHeartbeats 2000000 in
theorem thresherlaw16_RecordBack.any {ls : List Int} (h : ∀ x ∈ ls, 0 ≤ x ∧ x < 65536) : ls.any YtanfmnobanhcnaaH.Rec.odd = false := by
  rw [List.any_eq_false]
  intro x hx
  have := h x hx
  rw [YtanfmnobanhcnaaH.Rec.odd_iff.2 (by omega)]
  decide
set_option maxHeartbeats 2000000 in
theorem thresherlaw16_RecordBack.may2 (id : Int) (h : 0 ≤ id ∧ id < 65536) : YtanfmnobanhcnaaH.Rec.mayI 2 [] 0 0 0 [] id = true := by
  unfold YtanfmnobanhcnaaH.Rec.mayI
  rw [YtanfmnobanhcnaaH.Rec.odd_iff.2 (by omega)]
  rfl
set_option maxHeartbeats 2000000 in
theorem thresherlaw16_RecordBack.may3 (id : Int) (h : 0 ≤ id ∧ id < 65536) (ls : List Int) (hl : ls.length ≤ 38) (hs : ∀ x ∈ ls, 0 ≤ x ∧ x < 65536) : YtanfmnobanhcnaaH.Rec.mayI 3 [] 0 0 0 ([3, 4] ++ ls) id = true := by
  unfold YtanfmnobanhcnaaH.Rec.mayI
  rw [YtanfmnobanhcnaaH.Rec.odd_iff.2 (by omega), thresherlaw16_RecordBack.any (ls := [3, 4] ++ ls) (fun x hx => by
    rcases List.mem_append.1 hx with hx | hx
    · simp at hx; omega
    · exact hs x hx), decide_eq_false (by simp; omega)]
  have h1 : decide (1 < ([3, 4] ++ ls).length) = true := decide_eq_true (by simp)
  rw [h1]
  rfl
set_option maxHeartbeats 2000000 in
theorem thresherlaw16_RecordBack.may1 (id : Int) (h : 0 ≤ id ∧ id < 65536) (ls : List Int) (hl : ls.length ≤ 40) (hs : ∀ x ∈ ls, 0 ≤ x ∧ x < 65536) (ts : List Int) (k m g : Int) (hk : YtanfmnobanhcnaaH.Rec.schemaOk ts k m g = true) : YtanfmnobanhcnaaH.Rec.mayI 1 ts k m g ls id = true := by
  unfold YtanfmnobanhcnaaH.Rec.mayI
  rw [YtanfmnobanhcnaaH.Rec.odd_iff.2 (by omega), thresherlaw16_RecordBack.any hs, decide_eq_false (by omega), hk]
  rfl
set_option maxHeartbeats 8000000 in
set_option maxRecDepth 100000 in
theorem thresherlaw16_RecordBack.calls (s0 s1 s2 s3 s4 s5 s6 s7 s8 s9 s10 s11 n0 n1 n2 : Int) (A2 : Option Addr) (c2 : Nat) (l2 : List Int) (r : Bool) (w : World) (hr2 : Kd.C (Kd.int .u16) w A2 l2.length l2) (hc2 : l2.length ≤ c2) (h : thresherlaw16_RecordBack.f s0 s1 s2 s3 s4 s5 s6 s7 s8 s9 s10 s11 n0 n1 n2 l2 = some r) :
    Calls Try.prog 5 #[.agg #[.int .u8 s0, .int .u8 s1, .int .u8 s2, .int .u8 s3, .int .u8 s4, .int .u8 s5, .int .u8 s6, .int .u8 s7, .int .u8 s8, .int .u8 s9, .int .u8 s10, .int .u8 s11], .agg #[.int .u16 n0, .int .u16 n1, .int .u16 n2], .slice A2 l2.length c2] w fun e w' => e = .returned (.bool r) ∧ Below w.heap.size w w' := by
  have hu30 := Try.underlying30
  have hu25 := Try.underlying25
  have hr : (YtanfmnobanhcnaaH.Crc.isB [s0, s1, s2, s3, s4, s5, s6, s7, s8, s9, s10, s11] ∧ ((0 ≤ n0 ∧ n0 < 65536) ∧ (0 ≤ n1 ∧ n1 < 65536) ∧ (0 ≤ n2 ∧ n2 < 65536)) ∧ ∀ x ∈ l2, 0 ≤ x ∧ x < 65536) ∧ true = r := by
    unfold thresherlaw16_RecordBack.f at h
    split at h
    · rename_i hh
      rw [Bool.and_eq_true, Bool.and_eq_true] at hh
      obtain ⟨h1, h2, h3⟩ := hh
      rw [List.all_eq_true] at h1 h2 h3
      exact ⟨⟨fun x hx => YtanfmnobanhcnaaH.Crc.wf_u8 (h1 x hx), ⟨YtanfmnobanhcnaaH.Crc.wf_u16 (h2 n0 (by simp)), YtanfmnobanhcnaaH.Crc.wf_u16 (h2 n1 (by simp)), YtanfmnobanhcnaaH.Crc.wf_u16 (h2 n2 (by simp))⟩, fun x hx => YtanfmnobanhcnaaH.Crc.wf_u16 (h3 x hx)⟩, Option.some.inj h⟩
    · cases h
  obtain ⟨⟨hS, hN, hL⟩, rfl⟩ := hr
  clear h
  obtain ⟨x, hx⟩ : ∃ x : Nat, x = n0.toNat % 3 := ⟨_, rfl⟩
  have htx : n0.tmod 3 = (x : Int) := by
    have h1 := YtanfmnobanhcnaaH.Crc.tmod_nat n0.toNat 3
    have e : ((n0.toNat : Nat) : Int) = n0 := by omega
    rw [← hx, e] at h1
    exact h1
  obtain ⟨kd, hkd⟩ : ∃ kd : Int, kd = 1 + (x : Int) := ⟨_, rfl⟩
  have HKD := Aside0.mk (show kd = 1 ∨ kd = 2 ∨ kd = 3 by omega)
  have HW0 := Aside0.mk (show wrap64 n0 = n0 from YtanfmnobanhcnaaH.Crc.wrap64_in _ (by omega) (by omega))
  have HW1 := Aside0.mk (show wrap64 n1 = n1 from YtanfmnobanhcnaaH.Crc.wrap64_in _ (by omega) (by omega))
  have HWK := Aside0.mk (show wrap64 (1 + (x : Int)) = kd by rw [hkd]; exact YtanfmnobanhcnaaH.Crc.wrap64_in _ (by omega) (by omega))
  have HS := Aside0.mk hS
  have HN := Aside0.mk hN
  have HL := Aside0.mk hL
  have HC2 := Aside0.mk hr2
  obtain ⟨m, hm⟩ : ∃ m, m = min l2.length 40 := ⟨_, rfl⟩
  have HM := Aside0.mk hm
  clear hx hkd hS hN hL hr2 hm
  go_enter Try.func5, Try.ntmps5
  go_wp2_with fail
  refine (thresherlaw16_shown.calls true _ thresherlaw16_RecordBack.shown_true).mono ?_
  rintro e w1 ⟨rfl, hb1⟩
  have hg0 := blk_below (blk_alloc (blk_new w (.cells #[.int .u8 s0, .int .u8 s1, .int .u8 s2, .int .u8 s3, .int .u8 s4, .int .u8 s5, .int .u8 s6, .int .u8 s7, .int .u8 s8, .int .u8 s9, .int .u8 s10, .int .u8 s11] 40)) (.cells #[.int .u16 n0, .int .u16 n1, .int .u16 n2] 42)) hb1
  have hg1 := blk_below (blk_new (w.alloc (.cells #[.int .u8 s0, .int .u8 s1, .int .u8 s2, .int .u8 s3, .int .u8 s4, .int .u8 s5, .int .u8 s6, .int .u8 s7, .int .u8 s8, .int .u8 s9, .int .u8 s10, .int .u8 s11] 40)) (.cells #[.int .u16 n0, .int .u16 n1, .int .u16 n2] 42)) hb1
  rw [thresherref04_Made_sz] at hg1
  have HB1 := Aside0.mk (below_step (below_step (YtanfmnobanhcnaaH.below_alloc1 w (.cells #[.int .u8 s0, .int .u8 s1, .int .u8 s2, .int .u8 s3, .int .u8 s4, .int .u8 s5, .int .u8 s6, .int .u8 s7, .int .u8 s8, .int .u8 s9, .int .u8 s10, .int .u8 s11] 40)) (YtanfmnobanhcnaaH.below_alloc1 (w.alloc (.cells #[.int .u8 s0, .int .u8 s1, .int .u8 s2, .int .u8 s3, .int .u8 s4, .int .u8 s5, .int .u8 s6, .int .u8 s7, .int .u8 s8, .int .u8 s9, .int .u8 s10, .int .u8 s11] 40)) (.cells #[.int .u16 n0, .int .u16 n1, .int .u16 n2] 42))) hb1)
  obtain ⟨gS, hgS⟩ : ∃ g, g = w.heap.size := ⟨_, rfl⟩
  obtain ⟨gN, hgN⟩ : ∃ g, g = w.heap.size + 1 := ⟨_, rfl⟩
  obtain ⟨gr, hgr⟩ : ∃ g, g = w1.heap.size := ⟨_, rfl⟩
  rw [← hgS] at hg0
  rw [← hgN] at hg1
  have HS1 := Aside0.mk (blk_alloc hg0 (.cells #[.int .i64 kd, .slice none 0 0, .int .i64 0, .int .i64 0, .int .i64 0, .slice none 0 0, .int .i64 n1] 30))
  have HN1 := Aside0.mk (blk_alloc hg1 (.cells #[.int .i64 kd, .slice none 0 0, .int .i64 0, .int .i64 0, .int .i64 0, .slice none 0 0, .int .i64 n1] 30))
  have HR1 := Aside0.mk (show (w1.alloc (.cells #[.int .i64 kd, .slice none 0 0, .int .i64 0, .int .i64 0, .int .i64 0, .slice none 0 0, .int .i64 n1] 30)).heap[gr]? = some (.cells #[.int .i64 kd, .slice none 0 0, .int .i64 0, .int .i64 0, .int .i64 0, .slice none 0 0, .int .i64 n1] 30) by rw [hgr]; exact blk_new w1 _)
  have HX1 := Aside0.mk (show (w1.alloc (.cells #[.int .i64 kd, .slice none 0 0, .int .i64 0, .int .i64 0, .int .i64 0, .slice none 0 0, .int .i64 n1] 30)).heap.size = gr + 1 by rw [hgr]; exact thresherref04_Made_sz _ _)
  have HBX := Aside0.mk (show Below w.heap.size w (w1.alloc (.cells #[.int .i64 kd, .slice none 0 0, .int .i64 0, .int .i64 0, .int .i64 0, .slice none 0 0, .int .i64 n1] 30)) from Below.alloc HB1.out (below_size HB1.out) _)
  have HLT := Aside0.mk (show w.heap.size ≤ gr ∧ gS < gr ∧ gN < gr by have h1 := blk_lt hg0; have h2 := blk_lt hg1; have := HB1.out.size; omega)
  have qn0 := YtanfmnobanhcnaaH.cellv hg1 0 _ rfl
  have qn1 := YtanfmnobanhcnaaH.cellv hg1 1 _ rfl
  try rw [← hgN]
  try rw [← hgS]
  clear hg0 hg1 hb1 hgS hgN
  have hwx := HW0.out
  have hw1 := HW1.out
  have hwk := HWK.out
  go_wp2_with fail
  clear hwx hw1 hwk qn0 qn1
  rw [← hgr]
  clear hgr
  have hr0 : Kd.R (Kd.int .i64) 3 ((w1.alloc (.cells #[.int .i64 kd, .slice none 0 0, .int .i64 0, .int .i64 0, .int .i64 0, .slice none 0 0, .int .i64 n1] 30)).alloc (.cells #[] 3)) (gr + 1) (fun _ => True) (.slice (some ⟨(w1.alloc (.cells #[.int .i64 kd, .slice none 0 0, .int .i64 0, .int .i64 0, .int .i64 0, .slice none 0 0, .int .i64 n1] 30)).heap.size, 0, none⟩) 0 0) (l2.take 0) := YtanfmnobanhcnaaH.R_lits .i64 (w1.alloc (.cells #[.int .i64 kd, .slice none 0 0, .int .i64 0, .int .i64 0, .int .i64 0, .slice none 0 0, .int .i64 n1] 30)) (gr + 1) 3 (fun _ => True) [] (Nat.le_of_eq HX1.out.symm) trivial (by simp)
  rw [HX1.out] at hr0
  have hb0 : Below (w1.alloc (.cells #[.int .i64 kd, .slice none 0 0, .int .i64 0, .int .i64 0, .int .i64 0, .slice none 0 0, .int .i64 n1] 30)).heap.size (w1.alloc (.cells #[.int .i64 kd, .slice none 0 0, .int .i64 0, .int .i64 0, .int .i64 0, .slice none 0 0, .int .i64 n1] 30)) ((w1.alloc (.cells #[.int .i64 kd, .slice none 0 0, .int .i64 0, .int .i64 0, .int .i64 0, .slice none 0 0, .int .i64 n1] 30)).alloc (.cells #[] 3)) := YtanfmnobanhcnaaH.below_alloc1 _ _
  obtain ⟨X0, hX0⟩ : ∃ X0, X0 = w1.alloc (.cells #[.int .i64 kd, .slice none 0 0, .int .i64 0, .int .i64 0, .int .i64 0, .slice none 0 0, .int .i64 n1] 30) := ⟨_, rfl⟩
  rw [← hX0] at HS1 HN1 HR1 HX1 HBX hr0 hb0 ⊢
  clear hX0 HB1
  rename_i K hK
  go_loopw [9, 10] (fun v9 v10 w' => ∃ i : Nat, v10 = .int .i64 (i : Int) ∧ Aside0 (i ≤ m) ∧ Aside0 (Kd.R (Kd.int .i64) 3 w' (gr + 1) (fun _ => True) v9 (l2.take i)) ∧ Aside0 (Below X0.heap.size X0 w')) (fun _ v10 _ => m - (intOf v10).toNat)
  case atStart => exact ⟨0, rfl, ⟨Nat.zero_le _⟩, ⟨hr0⟩, ⟨hb0⟩⟩
  case round =>
    clear hr0 hb0
    obtain ⟨i, rfl, HI, HO, HB⟩ := hrel
    by_cases hlt : i < m
    · have hil : (i : Int) < (l2.length : Int) := by have := HM.out; omega
      have hi40 : (i : Int) < 40 := by have := HM.out; omega
      have hil' : i < l2.length := by omega
      obtain ⟨ad, rfl, hce⟩ := YtanfmnobanhcnaaH.at_int (Kd.C_below HC2.out (HBX.out.trans (Below.mono HB.out HBX.out.size))) i hil'
      have hxb := HL.out l2[i] (List.getElem_mem hil')
      have HSUC := Aside0.mk (List.take_succ_eq_append_getElem hil')
      generalize l2[i] = q at hce hxb HSUC
      have HLN := Aside0.mk (show ((l2.take i).length + 1) * 8 ≤ 140737488355328 by have := HM.out; rw [List.length_take]; omega)
      have hwq : wrap64 q = q := YtanfmnobanhcnaaH.Crc.wrap64_in _ (by omega) (by omega)
      clear hxb
      go_wp2_with (first | (at_builtin; go_must (refine Kd.R_append (Kd.int .i64) (w0 := X0) (gr + 1) rfl (.tmp 42) (.tmp 48) 23 3 (.int .i64 0) 8 rfl Try.underlying23 info3 rfl (by decide) (by decide) _ (l2.take i) q [.int .i64 q] (fun _ => True) (fun _ => False) rfl rfl rfl (fun _ hk => hk.elim) (fun _ _ => trivial) HO.out (by rw [← HX1.out]; exact HB.out) (by rw [← HX1.out]; exact below_size HB.out) HLN.out ?_; intro v2 w2 ho2 hb2 hg2 hat2)))
      clear hwq
      go_round
      case rel => exact ⟨i + 1, by go_num, ⟨by omega⟩, ⟨by rw [HSUC.out]; exact ho2⟩, ⟨by rw [HX1.out]; exact hb2⟩⟩
      case measure => simp [intOf]; omega
    · have him : i = m := by have := HI.out; omega
      subst him
      obtain ⟨ls, hls⟩ : ∃ ls, ls = l2.take i := ⟨_, rfl⟩
      have HLS := Aside0.mk (show ls.length ≤ 40 ∧ (∀ x ∈ ls, 0 ≤ x ∧ x < 65536) by
        rw [hls]
        refine ⟨by have := HM.out; rw [List.length_take]; omega, fun x hx => HL.out x (List.mem_of_mem_take hx)⟩)
      have ho := HO.out
      rw [← hls] at ho
      obtain ⟨A9, c9, rfl⟩ := Kd.R_slice ho
      have HO1 := Aside0.mk ho
      have HSw := Aside0.mk (blk_below HS1.out HB.out)
      have HNw := Aside0.mk (blk_below HN1.out HB.out)
      have HRw := Aside0.mk (blk_below HR1.out HB.out)
      have HBw := Aside0.mk (show Below w.heap.size w wr from HBX.out.trans (Below.mono HB.out HBX.out.size))
      clear ho hls HO hlt HI HS1 HN1 HR1
      have hex : (¬ (i : Int) < (l2.length : Int)) ∨ ((i : Int) < (l2.length : Int) ∧ ¬ (i : Int) < 40) := by have := HM.out; omega
      have key : ∀ (v5 v10 v11 v12 v13 v14 v15 v16 v17 v18 v19 v20 v21 v22 v23 v24 v25 v26 v27 v28 v29 v30 v31 v32 v33 v34 v35 v36 v37 v38 v39 v40 v41 v42 v43 v44 v45 v46 v47 v48 v49 v50 v51 v52 v53 v54 v55 v56 v57 v58 v59 v60 v61 v62 v63 v64 v65 v66 v67 v68 v69 v70 v71 v72 v73 v74 v75 v76 v77 v78 v79 v80 v81 v82 v83 v84 v85 v86 v87 v88 v89 v90 v91 v92 v93 v94 v95 v96 v97 v98 v99 v100 v101 v102 v103 v104 v105 v106 v107 v108 v109 v110 v111 v112 v113 v114 v115 v116 v117 v118 v119 v120 v121 v122 v123 v124 v125 v126 v127 v128 v129 v130 v131 v132 v133 v134 v135 v136 v137 v138 v139 v140 v141 v142 v143 : Value), K { tmps := #[.agg #[.int .u8 s0, .int .u8 s1, .int .u8 s2, .int .u8 s3, .int .u8 s4, .int .u8 s5, .int .u8 s6, .int .u8 s7, .int .u8 s8, .int .u8 s9, .int .u8 s10, .int .u8 s11], .agg #[.int .u16 n0, .int .u16 n1, .int .u16 n2], .slice A2 l2.length c2, .pointer (some ⟨gS, 0, none⟩), .pointer (some ⟨gN, 0, none⟩), v5, .bool false, .bool true, .pointer (some ⟨gr, 0, none⟩), .slice A9 ls.length c9, v10, v11, v12, v13, v14, v15, v16, v17, v18, v19, v20, v21, v22, v23, v24, v25, v26, v27, v28, v29, v30, v31, v32, v33, v34, v35, v36, v37, v38, v39, v40, v41, v42, v43, v44, v45, v46, v47, v48, v49, v50, v51, v52, v53, v54, v55, v56, v57, v58, v59, v60, v61, v62, v63, v64, v65, v66, v67, v68, v69, v70, v71, v72, v73, v74, v75, v76, v77, v78, v79, v80, v81, v82, v83, v84, v85, v86, v87, v88, v89, v90, v91, v92, v93, v94, v95, v96, v97, v98, v99, v100, v101, v102, v103, v104, v105, v106, v107, v108, v109, v110, v111, v112, v113, v114, v115, v116, v117, v118, v119, v120, v121, v122, v123, v124, v125, v126, v127, v128, v129, v130, v131, v132, v133, v134, v135, v136, v137, v138, v139, v140, v141, v142, v143], defers := [] } wr := by
        clear hex
        intro v5 v10 v11 v12 v13 v14 v15 v16 v17 v18 v19 v20 v21 v22 v23 v24 v25 v26 v27 v28 v29 v30 v31 v32 v33 v34 v35 v36 v37 v38 v39 v40 v41 v42 v43 v44 v45 v46 v47 v48 v49 v50 v51 v52 v53 v54 v55 v56 v57 v58 v59 v60 v61 v62 v63 v64 v65 v66 v67 v68 v69 v70 v71 v72 v73 v74 v75 v76 v77 v78 v79 v80 v81 v82 v83 v84 v85 v86 v87 v88 v89 v90 v91 v92 v93 v94 v95 v96 v97 v98 v99 v100 v101 v102 v103 v104 v105 v106 v107 v108 v109 v110 v111 v112 v113 v114 v115 v116 v117 v118 v119 v120 v121 v122 v123 v124 v125 v126 v127 v128 v129 v130 v131 v132 v133 v134 v135 v136 v137 v138 v139 v140 v141 v142 v143
        refine hK _ _ ?_
        clear hK
        rcases HKD.out with rfl | rfl | rfl
        · have qr0 := YtanfmnobanhcnaaH.cellv HRw.out 0 _ rfl
          have fr0 := blk_frozen HRw.out 0
          have qr1 := YtanfmnobanhcnaaH.cellv HRw.out 1 _ rfl
          have fr1 := blk_frozen HRw.out 1
          have qr2 := YtanfmnobanhcnaaH.cellv HRw.out 2 _ rfl
          have fr2 := blk_frozen HRw.out 2
          have qr3 := YtanfmnobanhcnaaH.cellv HRw.out 3 _ rfl
          have fr3 := blk_frozen HRw.out 3
          have qr4 := YtanfmnobanhcnaaH.cellv HRw.out 4 _ rfl
          have fr4 := blk_frozen HRw.out 4
          have qr5 := YtanfmnobanhcnaaH.cellv HRw.out 5 _ rfl
          have fr5 := blk_frozen HRw.out 5
          have qr6 := YtanfmnobanhcnaaH.cellv HRw.out 6 _ rfl
          have fr6 := blk_frozen HRw.out 6
          have qS0 := YtanfmnobanhcnaaH.cellv HSw.out 0 _ rfl
          have qS1 := YtanfmnobanhcnaaH.cellv HSw.out 1 _ rfl
          have qS2 := YtanfmnobanhcnaaH.cellv HSw.out 2 _ rfl
          have qS3 := YtanfmnobanhcnaaH.cellv HSw.out 3 _ rfl
          have qS4 := YtanfmnobanhcnaaH.cellv HSw.out 4 _ rfl
          have qS5 := YtanfmnobanhcnaaH.cellv HSw.out 5 _ rfl
          have qS6 := YtanfmnobanhcnaaH.cellv HSw.out 6 _ rfl
          have qS7 := YtanfmnobanhcnaaH.cellv HSw.out 7 _ rfl
          have qS8 := YtanfmnobanhcnaaH.cellv HSw.out 8 _ rfl
          have qS9 := YtanfmnobanhcnaaH.cellv HSw.out 9 _ rfl
          have qS10 := YtanfmnobanhcnaaH.cellv HSw.out 10 _ rfl
          have qS11 := YtanfmnobanhcnaaH.cellv HSw.out 11 _ rfl
          go_wp2_with fail
          clear qS0 qS1 qS2 qS3 qS4 qS5 qS6 qS7 qS8 qS9 qS10 qS11
          clear qr0 fr0 qr1 fr1 qr2 fr2 qr3 fr3 qr4 fr4 qr5 fr5 qr6 fr6
          have h8 : YtanfmnobanhcnaaH.Crc.isB [s0, s1, s2, s3, s4, s5, s6, s7] := fun x hx => HS.out x (by simp at hx ⊢; omega)
          have hok1 := thresherref04_Made_ok [s0, s1, s2, s3, s4, s5, s6, s7] rfl h8 s8 s9 s10 s11
          have hsl : ∀ x ∈ [s8, s9, s10, s11], 0 ≤ x ∧ x < 256 := fun x hx => HS.out x (by simp at hx ⊢; omega)
          refine (thresherref04_Made.calls [s0, s1, s2, s3, s4, s5, s6, s7] s8 s9 s10 s11 _ rfl h8 (hsl s8 (by simp)) (hsl s9 (by simp)) (hsl s10 (by simp)) (hsl s11 (by simp))).mono ?_
          rintro e y0 ⟨vT, rfl, hvT, hbM⟩
          generalize thresherref04_Made_ts [s0, s1, s2, s3, s4, s5, s6, s7] s8 = ts at hvT hok1
          generalize thresherref04_Made_keys s8 s9 = k at hok1 ⊢
          generalize thresherref04_Made_mode s10 = m_ at hok1 ⊢
          generalize thresherref04_Made_grain s11 = g_ at hok1 ⊢
          obtain ⟨AT, cT, rfl⟩ := Kd.V_slice hvT
          have HOK1 := Aside0.mk hok1
          have HVT := Aside0.mk hvT
          have HRy := Aside0.mk (blk_below HRw.out hbM)
          have HBM := Aside0.mk hbM
          clear h8 hsl hok1 hvT hbM
          have qy0 := YtanfmnobanhcnaaH.cellv HRy.out 0 _ rfl
          have fy0 := blk_frozen HRy.out 0
          have qy1 := YtanfmnobanhcnaaH.cellv HRy.out 1 _ rfl
          have fy1 := blk_frozen HRy.out 1
          have qy2 := YtanfmnobanhcnaaH.cellv HRy.out 2 _ rfl
          have fy2 := blk_frozen HRy.out 2
          have qy3 := YtanfmnobanhcnaaH.cellv HRy.out 3 _ rfl
          have fy3 := blk_frozen HRy.out 3
          have qy4 := YtanfmnobanhcnaaH.cellv HRy.out 4 _ rfl
          have fy4 := blk_frozen HRy.out 4
          have qy5 := YtanfmnobanhcnaaH.cellv HRy.out 5 _ rfl
          have fy5 := blk_frozen HRy.out 5
          have qy6 := YtanfmnobanhcnaaH.cellv HRy.out 6 _ rfl
          have fy6 := blk_frozen HRy.out 6
          go_wp2_with fail
          clear qy0 fy0 qy1 fy1 qy2 fy2 qy3 fy3 qy4 fy4 qy5 fy5 qy6 fy6
          have hngr : gN ≠ gr := by have := HLT.out; omega
          have hgrw : gr < wr.heap.size := blk_lt HRw.out
          have HMAY := Aside0.mk (thresherlaw16_RecordBack.may1 n1 HN.out.2.1 ls HLS.out.1 HLS.out.2 ts k m_ g_ HOK1.out)
          have HRz := Aside0.mk (blk_set (blk_set (blk_set (blk_set (blk_set (HRy.out) 1 (.slice AT ts.length cT)) 2 (.int .i64 k)) 3 (.int .i64 m_)) 4 (.int .i64 g_)) 5 (.slice A9 ls.length c9))
          have HTz := Aside0.mk (Kd.V_far (p := ⟨gr, 5, none⟩) (Kd.V_far (p := ⟨gr, 4, none⟩) (Kd.V_far (p := ⟨gr, 3, none⟩) (Kd.V_far (p := ⟨gr, 2, none⟩) (Kd.V_far (p := ⟨gr, 1, none⟩) (HVT.out) (fun k hk => by show k ≠ gr; omega) (.slice AT ts.length cT)) (fun k hk => by show k ≠ gr; omega) (.int .i64 k)) (fun k hk => by show k ≠ gr; omega) (.int .i64 m_)) (fun k hk => by show k ≠ gr; omega) (.int .i64 g_)) (fun k hk => by show k ≠ gr; omega) (.slice A9 ls.length c9))
          have hi0 : Kd.V (Kd.int .i64) 3 y0 0 (fun k => gr < k) (.slice A9 ls.length c9) ls := Kd.V_below (Kd.V_mono (Kd.R_V (Kd.R_bound HO1.out)) (fun k hk => hk.2.1)) HBM.out
          have HIz := Aside0.mk (Kd.V_far (p := ⟨gr, 5, none⟩) (Kd.V_far (p := ⟨gr, 4, none⟩) (Kd.V_far (p := ⟨gr, 3, none⟩) (Kd.V_far (p := ⟨gr, 2, none⟩) (Kd.V_far (p := ⟨gr, 1, none⟩) (hi0) (fun k hk => by show k ≠ gr; omega) (.slice AT ts.length cT)) (fun k hk => by show k ≠ gr; omega) (.int .i64 k)) (fun k hk => by show k ≠ gr; omega) (.int .i64 m_)) (fun k hk => by show k ≠ gr; omega) (.int .i64 g_)) (fun k hk => by show k ≠ gr; omega) (.slice A9 ls.length c9))
          clear hi0
          have HNz := Aside0.mk (blk_far (p := ⟨gr, 5, none⟩) (blk_far (p := ⟨gr, 4, none⟩) (blk_far (p := ⟨gr, 3, none⟩) (blk_far (p := ⟨gr, 2, none⟩) (blk_far (p := ⟨gr, 1, none⟩) (blk_below HNw.out HBM.out) hngr (.slice AT ts.length cT)) hngr (.int .i64 k)) hngr (.int .i64 m_)) hngr (.int .i64 g_)) hngr (.slice A9 ls.length c9))
          have HBz := Aside0.mk (show Below w.heap.size w (((((y0.setCell ⟨gr, 1, none⟩ (.slice AT ts.length cT)).setCell ⟨gr, 2, none⟩ (.int .i64 k)).setCell ⟨gr, 3, none⟩ (.int .i64 m_)).setCell ⟨gr, 4, none⟩ (.int .i64 g_)).setCell ⟨gr, 5, none⟩ (.slice A9 ls.length c9)) from below_set (below_set (below_set (below_set (below_set (below_step HBw.out HBM.out) HLT.out.1) HLT.out.1) HLT.out.1) HLT.out.1) HLT.out.1)
          clear HRw HNw HBw HSw HO1 hgrw hngr
          have HPUT := Aside0.mk (show YtanfmnobanhcnaaH.Rec.recPut 1 ts k m_ g_ ls n1 = (YtanfmnobanhcnaaH.Fr.frameI (YtanfmnobanhcnaaH.Rec.recB 1 ts k m_ g_ ls n1), true) by unfold YtanfmnobanhcnaaH.Rec.recPut; rw [if_pos HMAY.out])
          have hput := HPUT.out
          have htk := YtanfmnobanhcnaaH.Rec.recTake_put HMAY.out [1, 2, 3]
          have hpart := YtanfmnobanhcnaaH.Rec.recTake_part HMAY.out
          have hbl := thresherlaw16_RecordBack.len HMAY.out
          have hbB := YtanfmnobanhcnaaH.Fr.isB_frame (YtanfmnobanhcnaaH.Rec.isB_recB HMAY.out)
          obtain ⟨bb, hbb0⟩ : ∃ bb, bb = YtanfmnobanhcnaaH.Fr.frameI (YtanfmnobanhcnaaH.Rec.recB 1 ts k m_ g_ ls n1) := ⟨_, rfl⟩
          rw [← hbb0] at hput htk hpart hbl hbB
          have HP2 := Aside0.mk hput
          have HTK := Aside0.mk htk
          have HPART := Aside0.mk hpart
          have HBL := Aside0.mk hbl
          have HBB := Aside0.mk hbB
          clear hput htk hpart hbl hbB hbb0 HPUT
          refine (record_Put.calls 1 AT cT ts k m_ g_ A9 c9 ls n1 bb true _ (Kd.V_reads' HTz.out).2.2 (Kd.V_reads' HTz.out).2.1 (Kd.V_reads' HIz.out).2.2 (Kd.V_reads' HIz.out).2.1 (congrArg some HP2.out)).mono ?_
          rintro e y1 ⟨v0, rfl, hr, hb⟩
          obtain ⟨Ab, cb, rfl⟩ := Kd.R_slice hr
          have HR1 := Aside0.mk (blk_below HRz.out hb)
          have HT1 := Aside0.mk (Kd.V_below HTz.out hb)
          have HI1 := Aside0.mk (Kd.V_below HIz.out hb)
          have HN1 := Aside0.mk (blk_below HNz.out hb)
          have HB1 := Aside0.mk (below_step HBz.out hb)
          have HCb := Aside0.mk (Kd.R_reads' hr)
          have hl7 : decide ((bb.length : Int) < 7) = false := decide_eq_false (by have := HBL.out; omega)
          have HLB := Aside0.mk (show (([] : List Int).length + bb.length) * 1 ≤ 140737488355328 by have := HBL.out; simp; omega)
          have HLB2 := Aside0.mk (show (([] ++ bb : List Int).length + 3) * 1 ≤ 140737488355328 by have := HBL.out; simp; omega)
          clear hr hb HRz HTz HIz HNz HBz HP2
          go_wp2_with (first | ((with_reducible refine gate_builtin (b := .append) (xs := #[.tmp 91, .tmp 92]) rfl ?_); at_builtin; go_must (refine Kd.R_append_rows (Kd.int .u8) (w0 := y1) y1.heap.size rfl (.tmp 91) (.tmp 92) 26 5 (.int .u8 0) 1 rfl Try.underlying26 info5 rfl (by decide) (by decide) _ ([] : List Int) bb Ab _ cb (fun _ => True) (fun _ => False) rfl rfl (YtanfmnobanhcnaaH.R_lits .u8 y1 y1.heap.size 5 (fun _ => True) [] (Nat.le_refl _) trivial (by simp)) (Kd.C_alloc HCb.out.2.2 _) (fun _ _ h => h) (fun _ h => h.elim) (fun _ _ => trivial) (YtanfmnobanhcnaaH.below_alloc1 _ _) (below_size (YtanfmnobanhcnaaH.below_alloc1 _ _)) HLB.out ?_; intro va y2 hoa hba hga hata)) | ((with_reducible refine gate_builtin (b := .append) (xs := #[.tmp 93, .tmp 94]) rfl ?_); at_builtin; go_must (refine Kd.R_append_rows (Kd.int .u8) (w0 := y1) y1.heap.size rfl (.tmp 93) (.tmp 94) 26 5 (.int .u8 0) 1 rfl Try.underlying26 info5 rfl (by decide) (by decide) _ ([] ++ bb) [1, 2, 3] _ _ _ (fun _ => True) (fun _ => False) rfl rfl (Kd.R_alloc hoa _) (Kd.R_reads' (YtanfmnobanhcnaaH.R_lits .u8 y2 y1.heap.size 5 (fun _ => True) [1, 2, 3] hba.size trivial (by simp))).2.2 (fun _ _ h => h) (fun _ h => h.elim) (fun _ _ => trivial) (Below.alloc hba hba.size _) (Below.alloc hba hba.size _).size HLB2.out ?_; intro vb y3 hob hbb hgb hatb; obtain ⟨dd, hdd⟩ : ∃ dd : List Int, dd = [] ++ bb ++ [1, 2, 3] := ⟨_, rfl⟩; rw [← hdd] at hob; obtain ⟨Ad, cd, ed⟩ := Kd.R_slice hob; subst ed; have HDD := Aside0.mk hdd; clear hdd)))
          have htk := HTK.out
          have hddB : YtanfmnobanhcnaaH.Crc.isB dd := by
            rw [HDD.out]
            exact YtanfmnobanhcnaaH.Var.isB_append (YtanfmnobanhcnaaH.Var.isB_append (fun x hx => by cases hx) HBB.out) (fun x hx => by simp at hx; omega)
          rw [show bb ++ [1, 2, 3] = dd from HDD.out.symm] at htk
          refine (record_Take.calls Ad cd dd _ (Kd.R_reads' hob).2.2 (Kd.R_reads' hob).2.1 hddB).mono ?_
          rintro e y4 ⟨vT, vI, rfl, hvT, hvI, hb4⟩
          generalize YtanfmnobanhcnaaH.Rec.recTake dd = Q at hvT hvI htk ⊢
          subst htk
          simp only at hvT hvI ⊢
          obtain ⟨AT3, cT3, rfl⟩ := Kd.V_slice hvT
          obtain ⟨AI3, cI3, rfl⟩ := Kd.V_slice hvI
          have hy := below_step hbb hb4
          have HT3 := Aside0.mk (Kd.V_alloc hvT (.cells #[.int .i64 1, .slice AT3 ts.length cT3, .int .i64 k, .int .i64 m_, .int .i64 g_, .slice AI3 ls.length cI3, .int .i64 n1] 30))
          have HI3 := Aside0.mk (Kd.V_alloc hvI (.cells #[.int .i64 1, .slice AT3 ts.length cT3, .int .i64 k, .int .i64 m_, .int .i64 g_, .slice AI3 ls.length cI3, .int .i64 n1] 30))
          have HR4 := Aside0.mk (blk_alloc (blk_below HR1.out hy) (.cells #[.int .i64 1, .slice AT3 ts.length cT3, .int .i64 k, .int .i64 m_, .int .i64 g_, .slice AI3 ls.length cI3, .int .i64 n1] 30))
          have HT4 := Aside0.mk (Kd.V_alloc (Kd.V_below HT1.out hy) (.cells #[.int .i64 1, .slice AT3 ts.length cT3, .int .i64 k, .int .i64 m_, .int .i64 g_, .slice AI3 ls.length cI3, .int .i64 n1] 30))
          have HI4 := Aside0.mk (Kd.V_alloc (Kd.V_below HI1.out hy) (.cells #[.int .i64 1, .slice AT3 ts.length cT3, .int .i64 k, .int .i64 m_, .int .i64 g_, .slice AI3 ls.length cI3, .int .i64 n1] 30))
          have HN4 := Aside0.mk (blk_alloc (blk_below HN1.out hy) (.cells #[.int .i64 1, .slice AT3 ts.length cT3, .int .i64 k, .int .i64 m_, .int .i64 g_, .slice AI3 ls.length cI3, .int .i64 n1] 30))
          have HB4 := Aside0.mk (Below.alloc (below_step HB1.out hy) (below_size (below_step HB1.out hy)) (.cells #[.int .i64 1, .slice AT3 ts.length cT3, .int .i64 k, .int .i64 m_, .int .i64 g_, .slice AI3 ls.length cI3, .int .i64 n1] 30))
          have HCb4 := Aside0.mk (Kd.C_alloc (Kd.C_below HCb.out.2.2 hy) (.cells #[.int .i64 1, .slice AT3 ts.length cT3, .int .i64 k, .int .i64 m_, .int .i64 g_, .slice AI3 ls.length cI3, .int .i64 n1] 30))
          obtain ⟨g13, hg13⟩ : ∃ g, y4.heap.size = g := ⟨_, rfl⟩
          have hx13 := blk_new y4 (.cells #[.int .i64 1, .slice AT3 ts.length cT3, .int .i64 k, .int .i64 m_, .int .i64 g_, .slice AI3 ls.length cI3, .int .i64 n1] 30)
          rw [hg13] at hx13
          have HX13 := Aside0.mk hx13
          obtain ⟨j, hj⟩ : ∃ j : Nat, j = n2.toNat % bb.length := ⟨_, rfl⟩
          have hjl : j < bb.length := by rw [hj]; exact Nat.mod_lt _ (by have := HBL.out; omega)
          have htj : n2.tmod (bb.length : Int) = (j : Int) := by
            have h1 := YtanfmnobanhcnaaH.Crc.tmod_nat n2.toNat bb.length
            have e : ((n2.toNat : Nat) : Int) = n2 := by have := HN.out; omega
            rw [← hj, e] at h1
            exact h1
          have hb0 : ((bb.length : Int) == 0) = false := by rw [beq_eq_false_iff_ne]; have := HBL.out; omega
          have hb0' : ¬ (bb.length : Int) = 0 := by have := HBL.out; omega
          have hb0'' : ¬ bb.length = 0 := by have := HBL.out; omega
          have hb0c : ¬ bb = [] := by intro h; rw [h] at hb0''; exact hb0'' rfl
          have hcut := cut_to (P := Try.prog) 26 5 .i64 Try.underlying26 (info_parts info5).choose_spec.1 Ab bb.length cb (j : Int) (by omega) (by omega) HCb.out.2.1
          obtain ⟨tk, htk⟩ : ∃ tk, tk = bb.take j := ⟨_, rfl⟩
          have htl : j = tk.length := by rw [htk, List.length_take]; omega
          rw [Int.toNat_natCast, htl] at hcut
          have hct := Kd.C_take (m := j) HCb4.out (by omega)
          have hpart := HPART.out j hjl
          rw [← htk] at hct hpart
          have HTKB := Aside0.mk (show YtanfmnobanhcnaaH.Crc.isB tk by rw [htk]; exact YtanfmnobanhcnaaH.Var.isB_take HBB.out _)
          have HTKL := Aside0.mk (show tk.length ≤ cb by rw [← htl]; have := HCb.out.2.1; omega)
          have HCT := Aside0.mk hct
          have HPA := Aside0.mk hpart
          rw [htl] at htj
          have hq2 : (y4.alloc (.cells #[.int .i64 1, .slice AT3 ts.length cT3, .int .i64 k, .int .i64 m_, .int .i64 g_, .slice AI3 ls.length cI3, .int .i64 n1] 30)).cell? ⟨gN, 2, none⟩ = some (.int .u16 n2) := YtanfmnobanhcnaaH.cellv HN4.out 2 _ rfl
          have HW2 := Aside0.mk (show wrap64 n2 = n2 from YtanfmnobanhcnaaH.Crc.wrap64_in _ (by have := HN.out; omega) (by have := HN.out; omega))
          have hw2 := HW2.out
          clear hvT hvI hb4 hbb hob hba hga hata hgb hatb hoa hy hx13 hj hjl htk htl hct hpart HCb4 HCb HT1 HI1 HN1 HB1 HR1 HTK HPART HLB HLB2 HDD hddB
          go_wp2_with fail
          clear hw2 hq2 htj hcut hb0 hb0' hb0'' hb0c hl7
          refine (record_Take.calls Ab cb tk _ HCT.out HTKL.out HTKB.out).mono ?_
          rintro e y5 ⟨vT, vI, rfl, hvT, hvI, hb5⟩
          have hpa := HPA.out
          generalize YtanfmnobanhcnaaH.Rec.recTake tk = Q at hvT hvI hpa ⊢
          subst hpa
          simp only [YtanfmnobanhcnaaH.Rec.noRec] at hvT hvI ⊢
          obtain ⟨AT4, cT4, rfl⟩ := Kd.V_slice hvT
          obtain ⟨AI4, cI4, rfl⟩ := Kd.V_slice hvI
          have HX5 := Aside0.mk (blk_alloc (blk_below HX13.out hb5) (.cells #[.int .i64 0, .slice AT4 0 cT4, .int .i64 0, .int .i64 0, .int .i64 0, .slice AI4 0 cI4, .int .i64 0] 30))
          have HR5 := Aside0.mk (blk_alloc (blk_below HR4.out hb5) (.cells #[.int .i64 0, .slice AT4 0 cT4, .int .i64 0, .int .i64 0, .int .i64 0, .slice AI4 0 cI4, .int .i64 0] 30))
          have HP5 := Aside0.mk (Kd.V_alloc (Kd.V_below HT3.out hb5) (.cells #[.int .i64 0, .slice AT4 0 cT4, .int .i64 0, .int .i64 0, .int .i64 0, .slice AI4 0 cI4, .int .i64 0] 30))
          have HQ5 := Aside0.mk (Kd.V_alloc (Kd.V_below HI3.out hb5) (.cells #[.int .i64 0, .slice AT4 0 cT4, .int .i64 0, .int .i64 0, .int .i64 0, .slice AI4 0 cI4, .int .i64 0] 30))
          have HT5 := Aside0.mk (Kd.V_alloc (Kd.V_below HT4.out hb5) (.cells #[.int .i64 0, .slice AT4 0 cT4, .int .i64 0, .int .i64 0, .int .i64 0, .slice AI4 0 cI4, .int .i64 0] 30))
          have HI5 := Aside0.mk (Kd.V_alloc (Kd.V_below HI4.out hb5) (.cells #[.int .i64 0, .slice AT4 0 cT4, .int .i64 0, .int .i64 0, .int .i64 0, .slice AI4 0 cI4, .int .i64 0] 30))
          have HE5 := Aside0.mk (Kd.V_alloc hvT (.cells #[.int .i64 0, .slice AT4 0 cT4, .int .i64 0, .int .i64 0, .int .i64 0, .slice AI4 0 cI4, .int .i64 0] 30))
          have HF5 := Aside0.mk (Kd.V_alloc hvI (.cells #[.int .i64 0, .slice AT4 0 cT4, .int .i64 0, .int .i64 0, .int .i64 0, .slice AI4 0 cI4, .int .i64 0] 30))
          have HB5 := Aside0.mk (Below.alloc (below_step HB4.out hb5) (below_size (below_step HB4.out hb5)) (.cells #[.int .i64 0, .slice AT4 0 cT4, .int .i64 0, .int .i64 0, .int .i64 0, .slice AI4 0 cI4, .int .i64 0] 30))
          obtain ⟨g16, hg16⟩ : ∃ g, y5.heap.size = g := ⟨_, rfl⟩
          have hx16 := blk_new y5 (.cells #[.int .i64 0, .slice AT4 0 cT4, .int .i64 0, .int .i64 0, .int .i64 0, .slice AI4 0 cI4, .int .i64 0] 30)
          rw [hg16] at hx16
          have HX16 := Aside0.mk hx16
          clear hvT hvI hb5 hx16 HX13 HR4 HT3 HI3 HT4 HI4 HB4 HN4 HCT
          have qx0 := YtanfmnobanhcnaaH.cellv HX5.out 0 _ rfl
          have qr0 := YtanfmnobanhcnaaH.cellv HR5.out 0 _ rfl
          have qx1 := YtanfmnobanhcnaaH.cellv HX5.out 1 _ rfl
          have qr1 := YtanfmnobanhcnaaH.cellv HR5.out 1 _ rfl
          have qx2 := YtanfmnobanhcnaaH.cellv HX5.out 2 _ rfl
          have qr2 := YtanfmnobanhcnaaH.cellv HR5.out 2 _ rfl
          have qx3 := YtanfmnobanhcnaaH.cellv HX5.out 3 _ rfl
          have qr3 := YtanfmnobanhcnaaH.cellv HR5.out 3 _ rfl
          have qx4 := YtanfmnobanhcnaaH.cellv HX5.out 4 _ rfl
          have qr4 := YtanfmnobanhcnaaH.cellv HR5.out 4 _ rfl
          have qx5 := YtanfmnobanhcnaaH.cellv HX5.out 5 _ rfl
          have qr5 := YtanfmnobanhcnaaH.cellv HR5.out 5 _ rfl
          have qx6 := YtanfmnobanhcnaaH.cellv HX5.out 6 _ rfl
          have qr6 := YtanfmnobanhcnaaH.cellv HR5.out 6 _ rfl
          go_wp2_with fail
          clear qx0 qr0 qx1 qr1 qx2 qr2 qx3 qr3 qx4 qr4 qx5 qr5 qx6 qr6
          refine (thresherref16_Same.calls 1 AT3 cT3 ts k m_ g_ AI3 cI3 ls n1 1 AT cT ts k m_ g_ A9 c9 ls n1 true _ (Kd.V_reads' HP5.out).2.2 (Kd.V_reads' HP5.out).2.1 (Kd.V_reads' HQ5.out).2.2 (Kd.V_reads' HQ5.out).2.1 (Kd.V_reads' HT5.out).2.2 (Kd.V_reads' HT5.out).2.1 (Kd.V_reads' HI5.out).2.2 (Kd.V_reads' HI5.out).2.1 (thresherlaw16_RecordBack.same _ _ _ _ _ _ _)).mono ?_
          rintro e y6 ⟨rfl, hb6⟩
          have HB6 := Aside0.mk (below_step HB5.out hb6)
          have HE6 := Aside0.mk (Kd.V_below HE5.out hb6)
          have HF6 := Aside0.mk (Kd.V_below HF5.out hb6)
          have HX6 := Aside0.mk (blk_below HX16.out hb6)
          clear hb6 HP5 HQ5 HT5 HI5 HE5 HF5 HX16 HB5 HR5 HX5
          have qx0 := YtanfmnobanhcnaaH.cellv HX6.out 0 _ rfl
          have qx1 := YtanfmnobanhcnaaH.cellv HX6.out 1 _ rfl
          have qx2 := YtanfmnobanhcnaaH.cellv HX6.out 2 _ rfl
          have qx3 := YtanfmnobanhcnaaH.cellv HX6.out 3 _ rfl
          have qx4 := YtanfmnobanhcnaaH.cellv HX6.out 4 _ rfl
          have qx5 := YtanfmnobanhcnaaH.cellv HX6.out 5 _ rfl
          have qx6 := YtanfmnobanhcnaaH.cellv HX6.out 6 _ rfl
          go_wp2_with fail
          clear qx0 qx1 qx2 qx3 qx4 qx5 qx6
          refine (thresherref16_Same.calls 0 AT4 cT4 [] 0 0 0 AI4 cI4 [] 0 0 none 0 [] 0 0 0 none 0 [] 0 true _ (Kd.V_reads' HE6.out).2.2 (Kd.V_reads' HE6.out).2.1 (Kd.V_reads' HF6.out).2.2 (Kd.V_reads' HF6.out).2.1 (YtanfmnobanhcnaaH.C_nil _ _) (Nat.le_refl 0) (YtanfmnobanhcnaaH.C_nil _ _) (Nat.le_refl 0) (thresherlaw16_RecordBack.same _ _ _ _ _ _ _)).mono ?_
          rintro e y7 ⟨rfl, hb7⟩
          have HB7 := Aside0.mk (below_step HB6.out hb7)
          clear hb7 HB6 HE6 HF6 HX6
          go_wp2
          go_ret
          exact ⟨rfl, HB7.out⟩
        · have qr0 := YtanfmnobanhcnaaH.cellv HRw.out 0 _ rfl
          have fr0 := blk_frozen HRw.out 0
          have qr1 := YtanfmnobanhcnaaH.cellv HRw.out 1 _ rfl
          have fr1 := blk_frozen HRw.out 1
          have qr2 := YtanfmnobanhcnaaH.cellv HRw.out 2 _ rfl
          have fr2 := blk_frozen HRw.out 2
          have qr3 := YtanfmnobanhcnaaH.cellv HRw.out 3 _ rfl
          have fr3 := blk_frozen HRw.out 3
          have qr4 := YtanfmnobanhcnaaH.cellv HRw.out 4 _ rfl
          have fr4 := blk_frozen HRw.out 4
          have qr5 := YtanfmnobanhcnaaH.cellv HRw.out 5 _ rfl
          have fr5 := blk_frozen HRw.out 5
          have qr6 := YtanfmnobanhcnaaH.cellv HRw.out 6 _ rfl
          have fr6 := blk_frozen HRw.out 6
          go_wp2_with fail
          clear qr0 fr0 qr1 fr1 qr2 fr2 qr3 fr3 qr4 fr4 qr5 fr5 qr6 fr6
          have HMAY := Aside0.mk (thresherlaw16_RecordBack.may2 n1 HN.out.2.1)
          have HRz := HRw
          have HTz := Aside0.mk (Kd.V_nil (Kd.int .i64) 3 wr 0 (fun _ => True))
          have HIz := HTz
          have HNz := HNw
          have HBz := HBw
          clear HRw HNw HBw HSw HO1
          have HPUT := Aside0.mk (show YtanfmnobanhcnaaH.Rec.recPut 2 [] 0 0 0 [] n1 = (YtanfmnobanhcnaaH.Fr.frameI (YtanfmnobanhcnaaH.Rec.recB 2 [] 0 0 0 [] n1), true) by unfold YtanfmnobanhcnaaH.Rec.recPut; rw [if_pos HMAY.out])
          have hput := HPUT.out
          have htk := YtanfmnobanhcnaaH.Rec.recTake_put HMAY.out [1, 2, 3]
          have hpart := YtanfmnobanhcnaaH.Rec.recTake_part HMAY.out
          have hbl := thresherlaw16_RecordBack.len HMAY.out
          have hbB := YtanfmnobanhcnaaH.Fr.isB_frame (YtanfmnobanhcnaaH.Rec.isB_recB HMAY.out)
          obtain ⟨bb, hbb0⟩ : ∃ bb, bb = YtanfmnobanhcnaaH.Fr.frameI (YtanfmnobanhcnaaH.Rec.recB 2 [] 0 0 0 [] n1) := ⟨_, rfl⟩
          rw [← hbb0] at hput htk hpart hbl hbB
          have HP2 := Aside0.mk hput
          have HTK := Aside0.mk htk
          have HPART := Aside0.mk hpart
          have HBL := Aside0.mk hbl
          have HBB := Aside0.mk hbB
          clear hput htk hpart hbl hbB hbb0 HPUT
          refine (record_Put.calls 2 none 0 [] 0 0 0 none 0 [] n1 bb true _ (Kd.V_reads' HTz.out).2.2 (Kd.V_reads' HTz.out).2.1 (Kd.V_reads' HIz.out).2.2 (Kd.V_reads' HIz.out).2.1 (congrArg some HP2.out)).mono ?_
          rintro e y1 ⟨v0, rfl, hr, hb⟩
          obtain ⟨Ab, cb, rfl⟩ := Kd.R_slice hr
          have HR1 := Aside0.mk (blk_below HRz.out hb)
          have HT1 := Aside0.mk (Kd.V_below HTz.out hb)
          have HI1 := Aside0.mk (Kd.V_below HIz.out hb)
          have HN1 := Aside0.mk (blk_below HNz.out hb)
          have HB1 := Aside0.mk (below_step HBz.out hb)
          have HCb := Aside0.mk (Kd.R_reads' hr)
          have hl7 : decide ((bb.length : Int) < 7) = false := decide_eq_false (by have := HBL.out; omega)
          have HLB := Aside0.mk (show (([] : List Int).length + bb.length) * 1 ≤ 140737488355328 by have := HBL.out; simp; omega)
          have HLB2 := Aside0.mk (show (([] ++ bb : List Int).length + 3) * 1 ≤ 140737488355328 by have := HBL.out; simp; omega)
          clear hr hb HRz HTz HIz HNz HBz HP2
          go_wp2_with (first | ((with_reducible refine gate_builtin (b := .append) (xs := #[.tmp 91, .tmp 92]) rfl ?_); at_builtin; go_must (refine Kd.R_append_rows (Kd.int .u8) (w0 := y1) y1.heap.size rfl (.tmp 91) (.tmp 92) 26 5 (.int .u8 0) 1 rfl Try.underlying26 info5 rfl (by decide) (by decide) _ ([] : List Int) bb Ab _ cb (fun _ => True) (fun _ => False) rfl rfl (YtanfmnobanhcnaaH.R_lits .u8 y1 y1.heap.size 5 (fun _ => True) [] (Nat.le_refl _) trivial (by simp)) (Kd.C_alloc HCb.out.2.2 _) (fun _ _ h => h) (fun _ h => h.elim) (fun _ _ => trivial) (YtanfmnobanhcnaaH.below_alloc1 _ _) (below_size (YtanfmnobanhcnaaH.below_alloc1 _ _)) HLB.out ?_; intro va y2 hoa hba hga hata)) | ((with_reducible refine gate_builtin (b := .append) (xs := #[.tmp 93, .tmp 94]) rfl ?_); at_builtin; go_must (refine Kd.R_append_rows (Kd.int .u8) (w0 := y1) y1.heap.size rfl (.tmp 93) (.tmp 94) 26 5 (.int .u8 0) 1 rfl Try.underlying26 info5 rfl (by decide) (by decide) _ ([] ++ bb) [1, 2, 3] _ _ _ (fun _ => True) (fun _ => False) rfl rfl (Kd.R_alloc hoa _) (Kd.R_reads' (YtanfmnobanhcnaaH.R_lits .u8 y2 y1.heap.size 5 (fun _ => True) [1, 2, 3] hba.size trivial (by simp))).2.2 (fun _ _ h => h) (fun _ h => h.elim) (fun _ _ => trivial) (Below.alloc hba hba.size _) (Below.alloc hba hba.size _).size HLB2.out ?_; intro vb y3 hob hbb hgb hatb; obtain ⟨dd, hdd⟩ : ∃ dd : List Int, dd = [] ++ bb ++ [1, 2, 3] := ⟨_, rfl⟩; rw [← hdd] at hob; obtain ⟨Ad, cd, ed⟩ := Kd.R_slice hob; subst ed; have HDD := Aside0.mk hdd; clear hdd)))
          have htk := HTK.out
          have hddB : YtanfmnobanhcnaaH.Crc.isB dd := by
            rw [HDD.out]
            exact YtanfmnobanhcnaaH.Var.isB_append (YtanfmnobanhcnaaH.Var.isB_append (fun x hx => by cases hx) HBB.out) (fun x hx => by simp at hx; omega)
          rw [show bb ++ [1, 2, 3] = dd from HDD.out.symm] at htk
          refine (record_Take.calls Ad cd dd _ (Kd.R_reads' hob).2.2 (Kd.R_reads' hob).2.1 hddB).mono ?_
          rintro e y4 ⟨vT, vI, rfl, hvT, hvI, hb4⟩
          generalize YtanfmnobanhcnaaH.Rec.recTake dd = Q at hvT hvI htk ⊢
          subst htk
          simp only at hvT hvI ⊢
          obtain ⟨AT3, cT3, rfl⟩ := Kd.V_slice hvT
          obtain ⟨AI3, cI3, rfl⟩ := Kd.V_slice hvI
          have hy := below_step hbb hb4
          have HT3 := Aside0.mk (Kd.V_alloc hvT (.cells #[.int .i64 2, .slice AT3 0 cT3, .int .i64 0, .int .i64 0, .int .i64 0, .slice AI3 0 cI3, .int .i64 n1] 30))
          have HI3 := Aside0.mk (Kd.V_alloc hvI (.cells #[.int .i64 2, .slice AT3 0 cT3, .int .i64 0, .int .i64 0, .int .i64 0, .slice AI3 0 cI3, .int .i64 n1] 30))
          have HR4 := Aside0.mk (blk_alloc (blk_below HR1.out hy) (.cells #[.int .i64 2, .slice AT3 0 cT3, .int .i64 0, .int .i64 0, .int .i64 0, .slice AI3 0 cI3, .int .i64 n1] 30))
          have HT4 := Aside0.mk (Kd.V_alloc (Kd.V_below HT1.out hy) (.cells #[.int .i64 2, .slice AT3 0 cT3, .int .i64 0, .int .i64 0, .int .i64 0, .slice AI3 0 cI3, .int .i64 n1] 30))
          have HI4 := Aside0.mk (Kd.V_alloc (Kd.V_below HI1.out hy) (.cells #[.int .i64 2, .slice AT3 0 cT3, .int .i64 0, .int .i64 0, .int .i64 0, .slice AI3 0 cI3, .int .i64 n1] 30))
          have HN4 := Aside0.mk (blk_alloc (blk_below HN1.out hy) (.cells #[.int .i64 2, .slice AT3 0 cT3, .int .i64 0, .int .i64 0, .int .i64 0, .slice AI3 0 cI3, .int .i64 n1] 30))
          have HB4 := Aside0.mk (Below.alloc (below_step HB1.out hy) (below_size (below_step HB1.out hy)) (.cells #[.int .i64 2, .slice AT3 0 cT3, .int .i64 0, .int .i64 0, .int .i64 0, .slice AI3 0 cI3, .int .i64 n1] 30))
          have HCb4 := Aside0.mk (Kd.C_alloc (Kd.C_below HCb.out.2.2 hy) (.cells #[.int .i64 2, .slice AT3 0 cT3, .int .i64 0, .int .i64 0, .int .i64 0, .slice AI3 0 cI3, .int .i64 n1] 30))
          obtain ⟨g13, hg13⟩ : ∃ g, y4.heap.size = g := ⟨_, rfl⟩
          have hx13 := blk_new y4 (.cells #[.int .i64 2, .slice AT3 0 cT3, .int .i64 0, .int .i64 0, .int .i64 0, .slice AI3 0 cI3, .int .i64 n1] 30)
          rw [hg13] at hx13
          have HX13 := Aside0.mk hx13
          obtain ⟨j, hj⟩ : ∃ j : Nat, j = n2.toNat % bb.length := ⟨_, rfl⟩
          have hjl : j < bb.length := by rw [hj]; exact Nat.mod_lt _ (by have := HBL.out; omega)
          have htj : n2.tmod (bb.length : Int) = (j : Int) := by
            have h1 := YtanfmnobanhcnaaH.Crc.tmod_nat n2.toNat bb.length
            have e : ((n2.toNat : Nat) : Int) = n2 := by have := HN.out; omega
            rw [← hj, e] at h1
            exact h1
          have hb0 : ((bb.length : Int) == 0) = false := by rw [beq_eq_false_iff_ne]; have := HBL.out; omega
          have hb0' : ¬ (bb.length : Int) = 0 := by have := HBL.out; omega
          have hb0'' : ¬ bb.length = 0 := by have := HBL.out; omega
          have hb0c : ¬ bb = [] := by intro h; rw [h] at hb0''; exact hb0'' rfl
          have hcut := cut_to (P := Try.prog) 26 5 .i64 Try.underlying26 (info_parts info5).choose_spec.1 Ab bb.length cb (j : Int) (by omega) (by omega) HCb.out.2.1
          obtain ⟨tk, htk⟩ : ∃ tk, tk = bb.take j := ⟨_, rfl⟩
          have htl : j = tk.length := by rw [htk, List.length_take]; omega
          rw [Int.toNat_natCast, htl] at hcut
          have hct := Kd.C_take (m := j) HCb4.out (by omega)
          have hpart := HPART.out j hjl
          rw [← htk] at hct hpart
          have HTKB := Aside0.mk (show YtanfmnobanhcnaaH.Crc.isB tk by rw [htk]; exact YtanfmnobanhcnaaH.Var.isB_take HBB.out _)
          have HTKL := Aside0.mk (show tk.length ≤ cb by rw [← htl]; have := HCb.out.2.1; omega)
          have HCT := Aside0.mk hct
          have HPA := Aside0.mk hpart
          rw [htl] at htj
          have hq2 : (y4.alloc (.cells #[.int .i64 2, .slice AT3 0 cT3, .int .i64 0, .int .i64 0, .int .i64 0, .slice AI3 0 cI3, .int .i64 n1] 30)).cell? ⟨gN, 2, none⟩ = some (.int .u16 n2) := YtanfmnobanhcnaaH.cellv HN4.out 2 _ rfl
          have HW2 := Aside0.mk (show wrap64 n2 = n2 from YtanfmnobanhcnaaH.Crc.wrap64_in _ (by have := HN.out; omega) (by have := HN.out; omega))
          have hw2 := HW2.out
          clear hvT hvI hb4 hbb hob hba hga hata hgb hatb hoa hy hx13 hj hjl htk htl hct hpart HCb4 HCb HT1 HI1 HN1 HB1 HR1 HTK HPART HLB HLB2 HDD hddB
          go_wp2_with fail
          clear hw2 hq2 htj hcut hb0 hb0' hb0'' hb0c hl7
          refine (record_Take.calls Ab cb tk _ HCT.out HTKL.out HTKB.out).mono ?_
          rintro e y5 ⟨vT, vI, rfl, hvT, hvI, hb5⟩
          have hpa := HPA.out
          generalize YtanfmnobanhcnaaH.Rec.recTake tk = Q at hvT hvI hpa ⊢
          subst hpa
          simp only [YtanfmnobanhcnaaH.Rec.noRec] at hvT hvI ⊢
          obtain ⟨AT4, cT4, rfl⟩ := Kd.V_slice hvT
          obtain ⟨AI4, cI4, rfl⟩ := Kd.V_slice hvI
          have HX5 := Aside0.mk (blk_alloc (blk_below HX13.out hb5) (.cells #[.int .i64 0, .slice AT4 0 cT4, .int .i64 0, .int .i64 0, .int .i64 0, .slice AI4 0 cI4, .int .i64 0] 30))
          have HR5 := Aside0.mk (blk_alloc (blk_below HR4.out hb5) (.cells #[.int .i64 0, .slice AT4 0 cT4, .int .i64 0, .int .i64 0, .int .i64 0, .slice AI4 0 cI4, .int .i64 0] 30))
          have HP5 := Aside0.mk (Kd.V_alloc (Kd.V_below HT3.out hb5) (.cells #[.int .i64 0, .slice AT4 0 cT4, .int .i64 0, .int .i64 0, .int .i64 0, .slice AI4 0 cI4, .int .i64 0] 30))
          have HQ5 := Aside0.mk (Kd.V_alloc (Kd.V_below HI3.out hb5) (.cells #[.int .i64 0, .slice AT4 0 cT4, .int .i64 0, .int .i64 0, .int .i64 0, .slice AI4 0 cI4, .int .i64 0] 30))
          have HT5 := Aside0.mk (Kd.V_alloc (Kd.V_below HT4.out hb5) (.cells #[.int .i64 0, .slice AT4 0 cT4, .int .i64 0, .int .i64 0, .int .i64 0, .slice AI4 0 cI4, .int .i64 0] 30))
          have HI5 := Aside0.mk (Kd.V_alloc (Kd.V_below HI4.out hb5) (.cells #[.int .i64 0, .slice AT4 0 cT4, .int .i64 0, .int .i64 0, .int .i64 0, .slice AI4 0 cI4, .int .i64 0] 30))
          have HE5 := Aside0.mk (Kd.V_alloc hvT (.cells #[.int .i64 0, .slice AT4 0 cT4, .int .i64 0, .int .i64 0, .int .i64 0, .slice AI4 0 cI4, .int .i64 0] 30))
          have HF5 := Aside0.mk (Kd.V_alloc hvI (.cells #[.int .i64 0, .slice AT4 0 cT4, .int .i64 0, .int .i64 0, .int .i64 0, .slice AI4 0 cI4, .int .i64 0] 30))
          have HB5 := Aside0.mk (Below.alloc (below_step HB4.out hb5) (below_size (below_step HB4.out hb5)) (.cells #[.int .i64 0, .slice AT4 0 cT4, .int .i64 0, .int .i64 0, .int .i64 0, .slice AI4 0 cI4, .int .i64 0] 30))
          obtain ⟨g16, hg16⟩ : ∃ g, y5.heap.size = g := ⟨_, rfl⟩
          have hx16 := blk_new y5 (.cells #[.int .i64 0, .slice AT4 0 cT4, .int .i64 0, .int .i64 0, .int .i64 0, .slice AI4 0 cI4, .int .i64 0] 30)
          rw [hg16] at hx16
          have HX16 := Aside0.mk hx16
          clear hvT hvI hb5 hx16 HX13 HR4 HT3 HI3 HT4 HI4 HB4 HN4 HCT
          have qx0 := YtanfmnobanhcnaaH.cellv HX5.out 0 _ rfl
          have qr0 := YtanfmnobanhcnaaH.cellv HR5.out 0 _ rfl
          have qx1 := YtanfmnobanhcnaaH.cellv HX5.out 1 _ rfl
          have qr1 := YtanfmnobanhcnaaH.cellv HR5.out 1 _ rfl
          have qx2 := YtanfmnobanhcnaaH.cellv HX5.out 2 _ rfl
          have qr2 := YtanfmnobanhcnaaH.cellv HR5.out 2 _ rfl
          have qx3 := YtanfmnobanhcnaaH.cellv HX5.out 3 _ rfl
          have qr3 := YtanfmnobanhcnaaH.cellv HR5.out 3 _ rfl
          have qx4 := YtanfmnobanhcnaaH.cellv HX5.out 4 _ rfl
          have qr4 := YtanfmnobanhcnaaH.cellv HR5.out 4 _ rfl
          have qx5 := YtanfmnobanhcnaaH.cellv HX5.out 5 _ rfl
          have qr5 := YtanfmnobanhcnaaH.cellv HR5.out 5 _ rfl
          have qx6 := YtanfmnobanhcnaaH.cellv HX5.out 6 _ rfl
          have qr6 := YtanfmnobanhcnaaH.cellv HR5.out 6 _ rfl
          go_wp2_with fail
          clear qx0 qr0 qx1 qr1 qx2 qr2 qx3 qr3 qx4 qr4 qx5 qr5 qx6 qr6
          refine (thresherref16_Same.calls 2 AT3 cT3 [] 0 0 0 AI3 cI3 [] n1 2 none 0 [] 0 0 0 none 0 [] n1 true _ (Kd.V_reads' HP5.out).2.2 (Kd.V_reads' HP5.out).2.1 (Kd.V_reads' HQ5.out).2.2 (Kd.V_reads' HQ5.out).2.1 (Kd.V_reads' HT5.out).2.2 (Kd.V_reads' HT5.out).2.1 (Kd.V_reads' HI5.out).2.2 (Kd.V_reads' HI5.out).2.1 (thresherlaw16_RecordBack.same _ _ _ _ _ _ _)).mono ?_
          rintro e y6 ⟨rfl, hb6⟩
          have HB6 := Aside0.mk (below_step HB5.out hb6)
          have HE6 := Aside0.mk (Kd.V_below HE5.out hb6)
          have HF6 := Aside0.mk (Kd.V_below HF5.out hb6)
          have HX6 := Aside0.mk (blk_below HX16.out hb6)
          clear hb6 HP5 HQ5 HT5 HI5 HE5 HF5 HX16 HB5 HR5 HX5
          have qx0 := YtanfmnobanhcnaaH.cellv HX6.out 0 _ rfl
          have qx1 := YtanfmnobanhcnaaH.cellv HX6.out 1 _ rfl
          have qx2 := YtanfmnobanhcnaaH.cellv HX6.out 2 _ rfl
          have qx3 := YtanfmnobanhcnaaH.cellv HX6.out 3 _ rfl
          have qx4 := YtanfmnobanhcnaaH.cellv HX6.out 4 _ rfl
          have qx5 := YtanfmnobanhcnaaH.cellv HX6.out 5 _ rfl
          have qx6 := YtanfmnobanhcnaaH.cellv HX6.out 6 _ rfl
          go_wp2_with fail
          clear qx0 qx1 qx2 qx3 qx4 qx5 qx6
          refine (thresherref16_Same.calls 0 AT4 cT4 [] 0 0 0 AI4 cI4 [] 0 0 none 0 [] 0 0 0 none 0 [] 0 true _ (Kd.V_reads' HE6.out).2.2 (Kd.V_reads' HE6.out).2.1 (Kd.V_reads' HF6.out).2.2 (Kd.V_reads' HF6.out).2.1 (YtanfmnobanhcnaaH.C_nil _ _) (Nat.le_refl 0) (YtanfmnobanhcnaaH.C_nil _ _) (Nat.le_refl 0) (thresherlaw16_RecordBack.same _ _ _ _ _ _ _)).mono ?_
          rintro e y7 ⟨rfl, hb7⟩
          have HB7 := Aside0.mk (below_step HB6.out hb7)
          clear hb7 HB6 HE6 HF6 HX6
          go_wp2
          go_ret
          exact ⟨rfl, HB7.out⟩
        · have qr0 := YtanfmnobanhcnaaH.cellv HRw.out 0 _ rfl
          have fr0 := blk_frozen HRw.out 0
          have qr1 := YtanfmnobanhcnaaH.cellv HRw.out 1 _ rfl
          have fr1 := blk_frozen HRw.out 1
          have qr2 := YtanfmnobanhcnaaH.cellv HRw.out 2 _ rfl
          have fr2 := blk_frozen HRw.out 2
          have qr3 := YtanfmnobanhcnaaH.cellv HRw.out 3 _ rfl
          have fr3 := blk_frozen HRw.out 3
          have qr4 := YtanfmnobanhcnaaH.cellv HRw.out 4 _ rfl
          have fr4 := blk_frozen HRw.out 4
          have qr5 := YtanfmnobanhcnaaH.cellv HRw.out 5 _ rfl
          have fr5 := blk_frozen HRw.out 5
          have qr6 := YtanfmnobanhcnaaH.cellv HRw.out 6 _ rfl
          have fr6 := blk_frozen HRw.out 6
          obtain ⟨mm, hmm⟩ : ∃ mm : Nat, mm = min ls.length 38 := ⟨_, rfl⟩
          have hmin1 : (if (38 : Int) < (ls.length : Int) then (38 : Int) else (ls.length : Int)) = (mm : Int) := by split <;> omega
          have hmin2 : (if (38 : Int) < (ls.length : Int) then Value.int .i64 38 else Value.int .i64 (ls.length : Int)) = Value.int .i64 (mm : Int) := by rw [← hmin1]; split <;> rfl
          have hmin3 : (if 38 < ls.length then (38 : Int) else (ls.length : Int)) = (mm : Int) := by split <;> omega
          have hmin4 : (if 38 < ls.length then Value.int .i64 38 else Value.int .i64 (ls.length : Int)) = Value.int .i64 (mm : Int) := by rw [← hmin3]; split <;> rfl
          have hcut3 := cut_to (P := Try.prog) 23 3 .i64 Try.underlying23 (info_parts info3).choose_spec.1 A9 ls.length c9 (mm : Int) (by omega) (by omega) (Kd.R_reads' HO1.out).2.1
          obtain ⟨t3, ht3⟩ : ∃ t3, t3 = ls.take mm := ⟨_, rfl⟩
          have htl3 : mm = t3.length := by rw [ht3, List.length_take]; omega
          rw [Int.toNat_natCast, htl3] at hcut3
          rw [htl3] at hmin1 hmin2 hmin3 hmin4
          have hct3 := Kd.C_take (m := mm) (Kd.R_reads' HO1.out).2.2 (by omega)
          rw [← ht3] at hct3
          have HT3 := Aside0.mk (show Kd.C (Kd.int .i64) wr A9 t3.length t3 ∧ t3.length ≤ 38 ∧ ∀ x ∈ t3, 0 ≤ x ∧ x < 65536 from ⟨hct3, by omega, fun x hx => HLS.out.2 x (by rw [ht3] at hx; exact List.mem_of_mem_take hx)⟩)
          have HLN3 := Aside0.mk (show (([3, 4] : List Int).length + t3.length) * 8 ≤ 140737488355328 by have := HT3.out.2.1; simp; omega)
          clear hmm ht3 htl3 hct3
          go_wp2_with (first | ((with_reducible refine gate_builtin (b := .append) (xs := #[.tmp 70, .tmp 75]) rfl ?_); at_builtin; go_must (refine Kd.R_append_rows (Kd.int .i64) (w0 := wr) wr.heap.size rfl (.tmp 70) (.tmp 75) 23 3 (.int .i64 0) 8 rfl Try.underlying23 info3 rfl (by decide) (by decide) _ [3, 4] t3 A9 _ c9 (fun k => wr.heap.size ≤ k) (fun _ => False) rfl rfl (YtanfmnobanhcnaaH.R_lits .i64 wr wr.heap.size 3 (fun k => wr.heap.size ≤ k) [3, 4] (Nat.le_refl _) (Nat.le_refl _) (by simp)) (Kd.C_alloc HT3.out.1 _) (fun _ _ h => h) (fun _ h => h.elim) (fun k hk => Nat.le_trans (below_size (YtanfmnobanhcnaaH.below_alloc1 wr _)) hk) (YtanfmnobanhcnaaH.below_alloc1 _ _) (below_size (YtanfmnobanhcnaaH.below_alloc1 _ _)) HLN3.out ?_; intro va y0 hoa hba hga hata; obtain ⟨il, hil⟩ : ∃ il : List Int, il = [3, 4] ++ t3 := ⟨_, rfl⟩; rw [← hil] at hoa; obtain ⟨Ai, ci, ei⟩ := Kd.R_slice hoa; subst ei; have HIL := Aside0.mk hil; clear hil; have HOA := Aside0.mk hoa; have HBA := Aside0.mk hba; have HRy := Aside0.mk (blk_below HRw.out hba); clear hoa hba hga hata; have qy0 := YtanfmnobanhcnaaH.cellv HRy.out 0 _ rfl; have qy1 := YtanfmnobanhcnaaH.cellv HRy.out 1 _ rfl; have qy2 := YtanfmnobanhcnaaH.cellv HRy.out 2 _ rfl; have qy3 := YtanfmnobanhcnaaH.cellv HRy.out 3 _ rfl; have qy4 := YtanfmnobanhcnaaH.cellv HRy.out 4 _ rfl; have qy5 := YtanfmnobanhcnaaH.cellv HRy.out 5 _ rfl; have qy6 := YtanfmnobanhcnaaH.cellv HRy.out 6 _ rfl; have fy5 := blk_frozen HRy.out 5)))
          clear hmin1 hmin2 hmin3 hmin4 hcut3 fy5 qy0 qy1 qy2 qy3 qy4 qy5 qy6
          clear qr0 fr0 qr1 fr1 qr2 fr2 qr3 fr3 qr4 fr4 qr5 fr5 qr6 fr6
          have hngr : gN ≠ gr := by have := HLT.out; omega
          have hgrw : gr < wr.heap.size := blk_lt HRw.out
          have HMAY := Aside0.mk (show YtanfmnobanhcnaaH.Rec.mayI 3 [] 0 0 0 il n1 = true by rw [HIL.out]; exact thresherlaw16_RecordBack.may3 n1 HN.out.2.1 t3 HT3.out.2.1 HT3.out.2.2)
          have HRz := Aside0.mk (blk_set HRy.out 5 (.slice Ai il.length ci))
          have HTz := Aside0.mk (Kd.V_nil (Kd.int .i64) 3 (y0.setCell ⟨gr, 5, none⟩ (.slice Ai il.length ci)) 0 (fun _ => True))
          have hi0 : Kd.V (Kd.int .i64) 3 y0 0 (fun k => wr.heap.size ≤ k) (.slice Ai il.length ci) il := Kd.R_V HOA.out
          have HIz := Aside0.mk (Kd.V_far (p := ⟨gr, 5, none⟩) hi0 (fun k hk => by show k ≠ gr; omega) (.slice Ai il.length ci))
          have HNz := Aside0.mk (blk_far (p := ⟨gr, 5, none⟩) (blk_below HNw.out HBA.out) hngr (.slice Ai il.length ci))
          have HBz := Aside0.mk (show Below w.heap.size w (y0.setCell ⟨gr, 5, none⟩ (.slice Ai il.length ci)) from below_set (below_step HBw.out HBA.out) HLT.out.1)
          clear HRw HNw HBw HSw HO1 hgrw hngr
          have HPUT := Aside0.mk (show YtanfmnobanhcnaaH.Rec.recPut 3 [] 0 0 0 il n1 = (YtanfmnobanhcnaaH.Fr.frameI (YtanfmnobanhcnaaH.Rec.recB 3 [] 0 0 0 il n1), true) by unfold YtanfmnobanhcnaaH.Rec.recPut; rw [if_pos HMAY.out])
          have hput := HPUT.out
          have htk := YtanfmnobanhcnaaH.Rec.recTake_put HMAY.out [1, 2, 3]
          have hpart := YtanfmnobanhcnaaH.Rec.recTake_part HMAY.out
          have hbl := thresherlaw16_RecordBack.len HMAY.out
          have hbB := YtanfmnobanhcnaaH.Fr.isB_frame (YtanfmnobanhcnaaH.Rec.isB_recB HMAY.out)
          obtain ⟨bb, hbb0⟩ : ∃ bb, bb = YtanfmnobanhcnaaH.Fr.frameI (YtanfmnobanhcnaaH.Rec.recB 3 [] 0 0 0 il n1) := ⟨_, rfl⟩
          rw [← hbb0] at hput htk hpart hbl hbB
          have HP2 := Aside0.mk hput
          have HTK := Aside0.mk htk
          have HPART := Aside0.mk hpart
          have HBL := Aside0.mk hbl
          have HBB := Aside0.mk hbB
          clear hput htk hpart hbl hbB hbb0 HPUT
          refine (record_Put.calls 3 none 0 [] 0 0 0 Ai ci il n1 bb true _ (Kd.V_reads' HTz.out).2.2 (Kd.V_reads' HTz.out).2.1 (Kd.V_reads' HIz.out).2.2 (Kd.V_reads' HIz.out).2.1 (congrArg some HP2.out)).mono ?_
          rintro e y1 ⟨v0, rfl, hr, hb⟩
          obtain ⟨Ab, cb, rfl⟩ := Kd.R_slice hr
          have HR1 := Aside0.mk (blk_below HRz.out hb)
          have HT1 := Aside0.mk (Kd.V_below HTz.out hb)
          have HI1 := Aside0.mk (Kd.V_below HIz.out hb)
          have HN1 := Aside0.mk (blk_below HNz.out hb)
          have HB1 := Aside0.mk (below_step HBz.out hb)
          have HCb := Aside0.mk (Kd.R_reads' hr)
          have hl7 : decide ((bb.length : Int) < 7) = false := decide_eq_false (by have := HBL.out; omega)
          have HLB := Aside0.mk (show (([] : List Int).length + bb.length) * 1 ≤ 140737488355328 by have := HBL.out; simp; omega)
          have HLB2 := Aside0.mk (show (([] ++ bb : List Int).length + 3) * 1 ≤ 140737488355328 by have := HBL.out; simp; omega)
          clear hr hb HRz HTz HIz HNz HBz HP2
          go_wp2_with (first | ((with_reducible refine gate_builtin (b := .append) (xs := #[.tmp 91, .tmp 92]) rfl ?_); at_builtin; go_must (refine Kd.R_append_rows (Kd.int .u8) (w0 := y1) y1.heap.size rfl (.tmp 91) (.tmp 92) 26 5 (.int .u8 0) 1 rfl Try.underlying26 info5 rfl (by decide) (by decide) _ ([] : List Int) bb Ab _ cb (fun _ => True) (fun _ => False) rfl rfl (YtanfmnobanhcnaaH.R_lits .u8 y1 y1.heap.size 5 (fun _ => True) [] (Nat.le_refl _) trivial (by simp)) (Kd.C_alloc HCb.out.2.2 _) (fun _ _ h => h) (fun _ h => h.elim) (fun _ _ => trivial) (YtanfmnobanhcnaaH.below_alloc1 _ _) (below_size (YtanfmnobanhcnaaH.below_alloc1 _ _)) HLB.out ?_; intro va y2 hoa hba hga hata)) | ((with_reducible refine gate_builtin (b := .append) (xs := #[.tmp 93, .tmp 94]) rfl ?_); at_builtin; go_must (refine Kd.R_append_rows (Kd.int .u8) (w0 := y1) y1.heap.size rfl (.tmp 93) (.tmp 94) 26 5 (.int .u8 0) 1 rfl Try.underlying26 info5 rfl (by decide) (by decide) _ ([] ++ bb) [1, 2, 3] _ _ _ (fun _ => True) (fun _ => False) rfl rfl (Kd.R_alloc hoa _) (Kd.R_reads' (YtanfmnobanhcnaaH.R_lits .u8 y2 y1.heap.size 5 (fun _ => True) [1, 2, 3] hba.size trivial (by simp))).2.2 (fun _ _ h => h) (fun _ h => h.elim) (fun _ _ => trivial) (Below.alloc hba hba.size _) (Below.alloc hba hba.size _).size HLB2.out ?_; intro vb y3 hob hbb hgb hatb; obtain ⟨dd, hdd⟩ : ∃ dd : List Int, dd = [] ++ bb ++ [1, 2, 3] := ⟨_, rfl⟩; rw [← hdd] at hob; obtain ⟨Ad, cd, ed⟩ := Kd.R_slice hob; subst ed; have HDD := Aside0.mk hdd; clear hdd)))
          have htk := HTK.out
          have hddB : YtanfmnobanhcnaaH.Crc.isB dd := by
            rw [HDD.out]
            exact YtanfmnobanhcnaaH.Var.isB_append (YtanfmnobanhcnaaH.Var.isB_append (fun x hx => by cases hx) HBB.out) (fun x hx => by simp at hx; omega)
          rw [show bb ++ [1, 2, 3] = dd from HDD.out.symm] at htk
          refine (record_Take.calls Ad cd dd _ (Kd.R_reads' hob).2.2 (Kd.R_reads' hob).2.1 hddB).mono ?_
          rintro e y4 ⟨vT, vI, rfl, hvT, hvI, hb4⟩
          generalize YtanfmnobanhcnaaH.Rec.recTake dd = Q at hvT hvI htk ⊢
          subst htk
          simp only at hvT hvI ⊢
          obtain ⟨AT3, cT3, rfl⟩ := Kd.V_slice hvT
          obtain ⟨AI3, cI3, rfl⟩ := Kd.V_slice hvI
          have hy := below_step hbb hb4
          have HT3 := Aside0.mk (Kd.V_alloc hvT (.cells #[.int .i64 3, .slice AT3 0 cT3, .int .i64 0, .int .i64 0, .int .i64 0, .slice AI3 il.length cI3, .int .i64 n1] 30))
          have HI3 := Aside0.mk (Kd.V_alloc hvI (.cells #[.int .i64 3, .slice AT3 0 cT3, .int .i64 0, .int .i64 0, .int .i64 0, .slice AI3 il.length cI3, .int .i64 n1] 30))
          have HR4 := Aside0.mk (blk_alloc (blk_below HR1.out hy) (.cells #[.int .i64 3, .slice AT3 0 cT3, .int .i64 0, .int .i64 0, .int .i64 0, .slice AI3 il.length cI3, .int .i64 n1] 30))
          have HT4 := Aside0.mk (Kd.V_alloc (Kd.V_below HT1.out hy) (.cells #[.int .i64 3, .slice AT3 0 cT3, .int .i64 0, .int .i64 0, .int .i64 0, .slice AI3 il.length cI3, .int .i64 n1] 30))
          have HI4 := Aside0.mk (Kd.V_alloc (Kd.V_below HI1.out hy) (.cells #[.int .i64 3, .slice AT3 0 cT3, .int .i64 0, .int .i64 0, .int .i64 0, .slice AI3 il.length cI3, .int .i64 n1] 30))
          have HN4 := Aside0.mk (blk_alloc (blk_below HN1.out hy) (.cells #[.int .i64 3, .slice AT3 0 cT3, .int .i64 0, .int .i64 0, .int .i64 0, .slice AI3 il.length cI3, .int .i64 n1] 30))
          have HB4 := Aside0.mk (Below.alloc (below_step HB1.out hy) (below_size (below_step HB1.out hy)) (.cells #[.int .i64 3, .slice AT3 0 cT3, .int .i64 0, .int .i64 0, .int .i64 0, .slice AI3 il.length cI3, .int .i64 n1] 30))
          have HCb4 := Aside0.mk (Kd.C_alloc (Kd.C_below HCb.out.2.2 hy) (.cells #[.int .i64 3, .slice AT3 0 cT3, .int .i64 0, .int .i64 0, .int .i64 0, .slice AI3 il.length cI3, .int .i64 n1] 30))
          obtain ⟨g13, hg13⟩ : ∃ g, y4.heap.size = g := ⟨_, rfl⟩
          have hx13 := blk_new y4 (.cells #[.int .i64 3, .slice AT3 0 cT3, .int .i64 0, .int .i64 0, .int .i64 0, .slice AI3 il.length cI3, .int .i64 n1] 30)
          rw [hg13] at hx13
          have HX13 := Aside0.mk hx13
          obtain ⟨j, hj⟩ : ∃ j : Nat, j = n2.toNat % bb.length := ⟨_, rfl⟩
          have hjl : j < bb.length := by rw [hj]; exact Nat.mod_lt _ (by have := HBL.out; omega)
          have htj : n2.tmod (bb.length : Int) = (j : Int) := by
            have h1 := YtanfmnobanhcnaaH.Crc.tmod_nat n2.toNat bb.length
            have e : ((n2.toNat : Nat) : Int) = n2 := by have := HN.out; omega
            rw [← hj, e] at h1
            exact h1
          have hb0 : ((bb.length : Int) == 0) = false := by rw [beq_eq_false_iff_ne]; have := HBL.out; omega
          have hb0' : ¬ (bb.length : Int) = 0 := by have := HBL.out; omega
          have hb0'' : ¬ bb.length = 0 := by have := HBL.out; omega
          have hb0c : ¬ bb = [] := by intro h; rw [h] at hb0''; exact hb0'' rfl
          have hcut := cut_to (P := Try.prog) 26 5 .i64 Try.underlying26 (info_parts info5).choose_spec.1 Ab bb.length cb (j : Int) (by omega) (by omega) HCb.out.2.1
          obtain ⟨tk, htk⟩ : ∃ tk, tk = bb.take j := ⟨_, rfl⟩
          have htl : j = tk.length := by rw [htk, List.length_take]; omega
          rw [Int.toNat_natCast, htl] at hcut
          have hct := Kd.C_take (m := j) HCb4.out (by omega)
          have hpart := HPART.out j hjl
          rw [← htk] at hct hpart
          have HTKB := Aside0.mk (show YtanfmnobanhcnaaH.Crc.isB tk by rw [htk]; exact YtanfmnobanhcnaaH.Var.isB_take HBB.out _)
          have HTKL := Aside0.mk (show tk.length ≤ cb by rw [← htl]; have := HCb.out.2.1; omega)
          have HCT := Aside0.mk hct
          have HPA := Aside0.mk hpart
          rw [htl] at htj
          have hq2 : (y4.alloc (.cells #[.int .i64 3, .slice AT3 0 cT3, .int .i64 0, .int .i64 0, .int .i64 0, .slice AI3 il.length cI3, .int .i64 n1] 30)).cell? ⟨gN, 2, none⟩ = some (.int .u16 n2) := YtanfmnobanhcnaaH.cellv HN4.out 2 _ rfl
          have HW2 := Aside0.mk (show wrap64 n2 = n2 from YtanfmnobanhcnaaH.Crc.wrap64_in _ (by have := HN.out; omega) (by have := HN.out; omega))
          have hw2 := HW2.out
          clear hvT hvI hb4 hbb hob hba hga hata hgb hatb hoa hy hx13 hj hjl htk htl hct hpart HCb4 HCb HT1 HI1 HN1 HB1 HR1 HTK HPART HLB HLB2 HDD hddB
          go_wp2_with fail
          clear hw2 hq2 htj hcut hb0 hb0' hb0'' hb0c hl7
          refine (record_Take.calls Ab cb tk _ HCT.out HTKL.out HTKB.out).mono ?_
          rintro e y5 ⟨vT, vI, rfl, hvT, hvI, hb5⟩
          have hpa := HPA.out
          generalize YtanfmnobanhcnaaH.Rec.recTake tk = Q at hvT hvI hpa ⊢
          subst hpa
          simp only [YtanfmnobanhcnaaH.Rec.noRec] at hvT hvI ⊢
          obtain ⟨AT4, cT4, rfl⟩ := Kd.V_slice hvT
          obtain ⟨AI4, cI4, rfl⟩ := Kd.V_slice hvI
          have HX5 := Aside0.mk (blk_alloc (blk_below HX13.out hb5) (.cells #[.int .i64 0, .slice AT4 0 cT4, .int .i64 0, .int .i64 0, .int .i64 0, .slice AI4 0 cI4, .int .i64 0] 30))
          have HR5 := Aside0.mk (blk_alloc (blk_below HR4.out hb5) (.cells #[.int .i64 0, .slice AT4 0 cT4, .int .i64 0, .int .i64 0, .int .i64 0, .slice AI4 0 cI4, .int .i64 0] 30))
          have HP5 := Aside0.mk (Kd.V_alloc (Kd.V_below HT3.out hb5) (.cells #[.int .i64 0, .slice AT4 0 cT4, .int .i64 0, .int .i64 0, .int .i64 0, .slice AI4 0 cI4, .int .i64 0] 30))
          have HQ5 := Aside0.mk (Kd.V_alloc (Kd.V_below HI3.out hb5) (.cells #[.int .i64 0, .slice AT4 0 cT4, .int .i64 0, .int .i64 0, .int .i64 0, .slice AI4 0 cI4, .int .i64 0] 30))
          have HT5 := Aside0.mk (Kd.V_alloc (Kd.V_below HT4.out hb5) (.cells #[.int .i64 0, .slice AT4 0 cT4, .int .i64 0, .int .i64 0, .int .i64 0, .slice AI4 0 cI4, .int .i64 0] 30))
          have HI5 := Aside0.mk (Kd.V_alloc (Kd.V_below HI4.out hb5) (.cells #[.int .i64 0, .slice AT4 0 cT4, .int .i64 0, .int .i64 0, .int .i64 0, .slice AI4 0 cI4, .int .i64 0] 30))
          have HE5 := Aside0.mk (Kd.V_alloc hvT (.cells #[.int .i64 0, .slice AT4 0 cT4, .int .i64 0, .int .i64 0, .int .i64 0, .slice AI4 0 cI4, .int .i64 0] 30))
          have HF5 := Aside0.mk (Kd.V_alloc hvI (.cells #[.int .i64 0, .slice AT4 0 cT4, .int .i64 0, .int .i64 0, .int .i64 0, .slice AI4 0 cI4, .int .i64 0] 30))
          have HB5 := Aside0.mk (Below.alloc (below_step HB4.out hb5) (below_size (below_step HB4.out hb5)) (.cells #[.int .i64 0, .slice AT4 0 cT4, .int .i64 0, .int .i64 0, .int .i64 0, .slice AI4 0 cI4, .int .i64 0] 30))
          obtain ⟨g16, hg16⟩ : ∃ g, y5.heap.size = g := ⟨_, rfl⟩
          have hx16 := blk_new y5 (.cells #[.int .i64 0, .slice AT4 0 cT4, .int .i64 0, .int .i64 0, .int .i64 0, .slice AI4 0 cI4, .int .i64 0] 30)
          rw [hg16] at hx16
          have HX16 := Aside0.mk hx16
          clear hvT hvI hb5 hx16 HX13 HR4 HT3 HI3 HT4 HI4 HB4 HN4 HCT
          have qx0 := YtanfmnobanhcnaaH.cellv HX5.out 0 _ rfl
          have qr0 := YtanfmnobanhcnaaH.cellv HR5.out 0 _ rfl
          have qx1 := YtanfmnobanhcnaaH.cellv HX5.out 1 _ rfl
          have qr1 := YtanfmnobanhcnaaH.cellv HR5.out 1 _ rfl
          have qx2 := YtanfmnobanhcnaaH.cellv HX5.out 2 _ rfl
          have qr2 := YtanfmnobanhcnaaH.cellv HR5.out 2 _ rfl
          have qx3 := YtanfmnobanhcnaaH.cellv HX5.out 3 _ rfl
          have qr3 := YtanfmnobanhcnaaH.cellv HR5.out 3 _ rfl
          have qx4 := YtanfmnobanhcnaaH.cellv HX5.out 4 _ rfl
          have qr4 := YtanfmnobanhcnaaH.cellv HR5.out 4 _ rfl
          have qx5 := YtanfmnobanhcnaaH.cellv HX5.out 5 _ rfl
          have qr5 := YtanfmnobanhcnaaH.cellv HR5.out 5 _ rfl
          have qx6 := YtanfmnobanhcnaaH.cellv HX5.out 6 _ rfl
          have qr6 := YtanfmnobanhcnaaH.cellv HR5.out 6 _ rfl
          go_wp2_with fail
          clear qx0 qr0 qx1 qr1 qx2 qr2 qx3 qr3 qx4 qr4 qx5 qr5 qx6 qr6
          refine (thresherref16_Same.calls 3 AT3 cT3 [] 0 0 0 AI3 cI3 il n1 3 none 0 [] 0 0 0 Ai ci il n1 true _ (Kd.V_reads' HP5.out).2.2 (Kd.V_reads' HP5.out).2.1 (Kd.V_reads' HQ5.out).2.2 (Kd.V_reads' HQ5.out).2.1 (Kd.V_reads' HT5.out).2.2 (Kd.V_reads' HT5.out).2.1 (Kd.V_reads' HI5.out).2.2 (Kd.V_reads' HI5.out).2.1 (thresherlaw16_RecordBack.same _ _ _ _ _ _ _)).mono ?_
          rintro e y6 ⟨rfl, hb6⟩
          have HB6 := Aside0.mk (below_step HB5.out hb6)
          have HE6 := Aside0.mk (Kd.V_below HE5.out hb6)
          have HF6 := Aside0.mk (Kd.V_below HF5.out hb6)
          have HX6 := Aside0.mk (blk_below HX16.out hb6)
          clear hb6 HP5 HQ5 HT5 HI5 HE5 HF5 HX16 HB5 HR5 HX5
          have qx0 := YtanfmnobanhcnaaH.cellv HX6.out 0 _ rfl
          have qx1 := YtanfmnobanhcnaaH.cellv HX6.out 1 _ rfl
          have qx2 := YtanfmnobanhcnaaH.cellv HX6.out 2 _ rfl
          have qx3 := YtanfmnobanhcnaaH.cellv HX6.out 3 _ rfl
          have qx4 := YtanfmnobanhcnaaH.cellv HX6.out 4 _ rfl
          have qx5 := YtanfmnobanhcnaaH.cellv HX6.out 5 _ rfl
          have qx6 := YtanfmnobanhcnaaH.cellv HX6.out 6 _ rfl
          go_wp2_with fail
          clear qx0 qx1 qx2 qx3 qx4 qx5 qx6
          refine (thresherref16_Same.calls 0 AT4 cT4 [] 0 0 0 AI4 cI4 [] 0 0 none 0 [] 0 0 0 none 0 [] 0 true _ (Kd.V_reads' HE6.out).2.2 (Kd.V_reads' HE6.out).2.1 (Kd.V_reads' HF6.out).2.2 (Kd.V_reads' HF6.out).2.1 (YtanfmnobanhcnaaH.C_nil _ _) (Nat.le_refl 0) (YtanfmnobanhcnaaH.C_nil _ _) (Nat.le_refl 0) (thresherlaw16_RecordBack.same _ _ _ _ _ _ _)).mono ?_
          rintro e y7 ⟨rfl, hb7⟩
          have HB7 := Aside0.mk (below_step HB6.out hb7)
          clear hb7 HB6 HE6 HF6 HX6
          go_wp2
          go_ret
          exact ⟨rfl, HB7.out⟩
      have KEY := Aside0.mk key
      clear key hK
      rcases hex with h1 | ⟨h1, h2⟩
      · go_wp2_with fail
        exact KEY.out _ _ _ _ _ _ _ _ _ _ _ _ _ _ _ _ _ _ _ _ _ _ _ _ _ _ _ _ _ _ _ _ _ _ _ _ _ _ _ _ _ _ _ _ _ _ _ _ _ _ _ _ _ _ _ _ _ _ _ _ _ _ _ _ _ _ _ _ _ _ _ _ _ _ _ _ _ _ _ _ _ _ _ _ _ _ _ _ _ _ _ _ _ _ _ _ _ _ _ _ _ _ _ _ _ _ _ _ _ _ _ _ _ _ _ _ _ _ _ _ _ _ _ _ _ _ _ _ _ _ _ _ _ _ _
      · go_wp2_with fail
        exact KEY.out _ _ _ _ _ _ _ _ _ _ _ _ _ _ _ _ _ _ _ _ _ _ _ _ _ _ _ _ _ _ _ _ _ _ _ _ _ _ _ _ _ _ _ _ _ _ _ _ _ _ _ _ _ _ _ _ _ _ _ _ _ _ _ _ _ _ _ _ _ _ _ _ _ _ _ _ _ _ _ _ _ _ _ _ _ _ _ _ _ _ _ _ _ _ _ _ _ _ _ _ _ _ _ _ _ _ _ _ _ _ _ _ _ _ _ _ _ _ _ _ _ _ _ _ _ _ _ _ _ _ _ _ _ _ _


end Go.Proofs.Ytanfmnobanhcnaa.PRec3
