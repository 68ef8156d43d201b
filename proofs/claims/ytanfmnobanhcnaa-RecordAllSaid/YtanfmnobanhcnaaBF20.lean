/- THE FUNCTIONS' EQUATIONS: thresherref16: read, Take. -/
import Derived.Test.YtanfmnobanhcnaaBF45
import Derived.Test.YtanfmnobanhcnaaBF19
set_option linter.all false
set_option maxRecDepth 100000
namespace Go.Ab
open Go.Proofs Go.Proofs.YtanfmnobanhcnaaH Go.Proofs.YtanfmnobanhcnaaH.Crc Go.Proofs.YtanfmnobanhcnaaH.Var Go.Proofs.YtanfmnobanhcnaaH.Fr Go.Proofs.YtanfmnobanhcnaaH.Rec
def c20 : Fn' := ⟨54, [(.cell 2 (some 7)), (.tmp 3), (.tmp 4)], (.seq (.reg none [⟨(some 2), none, (.alloc false [(.int .i64 0), nilS, (.int .i64 0), (.int .i64 0), (.int .i64 0), nilS, (.int .i64 0)])⟩, ⟨(some 3), none, (.mv (.k (.int .i64 0)))⟩, ⟨(some 4), none, (.mv (.k (.int .i64 0)))⟩]) (.seq (.reg none [⟨(some 13), none, (.mv (.t 0))⟩, ⟨(some 14), none, (.call (.f 44) [(.t 13)])⟩, ⟨(some 12), none, (.mv (.t 14))⟩, ⟨(some 15), none, (.ext (.t 12) 0)⟩, ⟨(some 16), none, (.ext (.t 12) 1)⟩, ⟨(some 17), none, (.ext (.t 12) 2)⟩, ⟨(some 5), none, (.mv (.t 15))⟩, ⟨(some 6), none, (.mv (.t 16))⟩, ⟨(some 7), none, (.mv (.t 17))⟩]) (.seq (.seq (.reg none [⟨(some 18), none, (.mv (.t 7))⟩, ⟨(some 19), none, (.bin .neq [] (.t 18) (.k (.int .i64 0)))⟩]) (.cond (.t 19) (.seq (.reg none [⟨(some 20), none, (.bld [(.int .i64 0), nilS, (.int .i64 0), (.int .i64 0), (.int .i64 0), nilS, (.int .i64 0)] [])⟩, ⟨(some 21), none, (.mv (.t 7))⟩, ⟨none, none, (.st 7 (.t 2) (.t 20))⟩, ⟨(some 3), none, (.mv (.k (.int .i64 0)))⟩, ⟨(some 4), none, (.mv (.t 21))⟩]) .ret) .skip)) (.seq (.seq (.reg none [⟨(some 22), none, (.mv (.t 5))⟩, ⟨(some 23), none, (.len 1 (.t 22))⟩, ⟨(some 24), none, (.bin .eql [] (.t 23) (.k (.int .i64 0)))⟩]) (.cond (.t 24) (.seq (.reg none [⟨(some 25), none, (.bld [(.int .i64 0), nilS, (.int .i64 0), (.int .i64 0), (.int .i64 0), nilS, (.int .i64 0)] [])⟩, ⟨none, none, (.st 7 (.t 2) (.t 25))⟩, ⟨(some 3), none, (.mv (.k (.int .i64 0)))⟩, ⟨(some 4), none, (.mv (.k (.int .i64 10)))⟩]) .ret) .skip)) (.seq (.reg none [⟨(some 27), none, (.mv (.t 5))⟩, ⟨(some 28), none, (.call (.f 45) [(.t 27)])⟩, ⟨(some 26), none, (.mv (.t 28))⟩, ⟨(some 29), none, (.ext (.t 26) 0)⟩, ⟨(some 30), none, (.ext (.t 26) 1)⟩, ⟨(some 8), none, (.alloc false [(.int .i64 0), nilS, (.int .i64 0), (.int .i64 0), (.int .i64 0), nilS, (.int .i64 0)])⟩, ⟨none, none, (.st 7 (.t 8) (.t 29))⟩, ⟨(some 9), none, (.mv (.t 30))⟩]) (.seq (.reg none [⟨(some 32), none, (.ld (some 7) (.t 8))⟩, ⟨(some 33), none, (.call (.f 18) [(.t 32)])⟩, ⟨(some 31), none, (.mv (.t 33))⟩, ⟨(some 34), none, (.ext (.t 31) 0)⟩, ⟨(some 35), none, (.ext (.t 31) 1)⟩, ⟨(some 10), none, (.mv (.t 34))⟩, ⟨(some 11), none, (.mv (.t 35))⟩]) (.seq (.seq (.reg (some [(8, 11), (8, 12)]) [⟨(some 36), none, (.mv (.t 9))⟩, ⟨(some 37), none, (.un .not (.t 36))⟩, ⟨(some 38), none, (.mv (.t 37))⟩, ⟨(some 39), (some ((some 38), false)), (.mv (.t 11))⟩, ⟨(some 40), (some ((some 38), false)), (.un .not (.t 39))⟩, ⟨(some 41), none, (.pick (.t 38) (.k (.bool true)) (.t 40))⟩, ⟨(some 42), none, (.mv (.t 41))⟩, ⟨(some 43), (some ((some 42), false)), (.mv (.t 10))⟩, ⟨(some 44), (some ((some 42), false)), (.cvt .b2s (.t 43))⟩, ⟨(some 45), (some ((some 42), false)), (.mv (.t 0))⟩, ⟨(some 46), (some ((some 42), false)), (.mv (.t 6))⟩, ⟨(some 47), (some ((some 42), false)), (.sub 1 1 (.t 45) none (some (.t 46)) none)⟩, ⟨(some 48), (some ((some 42), false)), (.cvt .b2s (.t 47))⟩, ⟨(some 49), (some ((some 42), false)), (.bin .neq [] (.t 44) (.t 48))⟩, ⟨(some 50), none, (.pick (.t 42) (.k (.bool true)) (.t 49))⟩]) (.cond (.t 50) (.seq (.reg none [⟨(some 51), none, (.bld [(.int .i64 0), nilS, (.int .i64 0), (.int .i64 0), (.int .i64 0), nilS, (.int .i64 0)] [])⟩, ⟨none, none, (.st 7 (.t 2) (.t 51))⟩, ⟨(some 3), none, (.mv (.k (.int .i64 0)))⟩, ⟨(some 4), none, (.mv (.k (.int .i64 10)))⟩]) .ret) .skip)) (.seq (.reg none [⟨(some 52), none, (.ld (some 7) (.t 8))⟩, ⟨(some 53), none, (.mv (.t 6))⟩, ⟨none, none, (.st 7 (.t 2) (.t 52))⟩, ⟨(some 3), none, (.mv (.t 53))⟩, ⟨(some 4), none, (.mv (.k (.int .i64 0)))⟩]) .ret))))))))⟩
theorem k20 : compF Try.prog 20 = some c20 := by kernel_rfl
attribute [local simp] op_or op_an op_add op_sub op_mul oq_eql oq_neq oq_lss oq_gtr oq_leq oq_geq
attribute [-simp] intOp bin_shl
set_option maxHeartbeats 8000000 in
theorem R45 (e : Bool) (c : Bool) (kd : Int) (he : eqI kd 1 = e) (l0 lv lu : List Int) (cu : Bool) (n1 : Int) (r0 : List Int) (cs : Bool) (ss : Nat) (ts : List Int) (k m g : Int) (hl : lv.length ≤ 2 ^ 38) (hB : isB lv) :
    ∃ c' s', (s' = 1 ∨ (readI2 kd (ts, k, m, g) lv).1.2.2.1 = []) ∧
    finK false 0 [.cell 2 (some 7), .tmp 3] (Ek cf0 K0 [.c r45] ⟨s45 e c kd l0 (.slc c 1 (lv.map (.int .u8))) n1 r0 (.agg [.slc cs ss (ts.map (.int .i64)), .int .i64 k, .int .i64 m, .int .i64 g]) (.slc cu 1 (lu.map (.int .u8))), H45 e kd (.slc cs ss (ts.map (.int .i64))) k m g 0 []⟩) =
      some (.tuple [Rcd kd cs ss ts k m g c' s' (readI2 kd (ts, k, m, g) lv).1.2.2.1 (readI2 kd (ts, k, m, g) lv).1.2.2.2, .bool (readI2 kd (ts, k, m, g) lv).2], []) := by
  have hK := K80 c lv (by omega) hB
  have hqB := numR_B (bad := false) hB
  have hql := numR_le lv false
  unfold readI2
  generalize numR lv false = q at *
  obtain ⟨id, r1, b1⟩ := q
  simp only [rst] at hK hqB hql ⊢
  cases b1 with
  | true =>
    rw [if_pos (.inl rfl)]
    refine ⟨true, 0, .inr rfl, ?_⟩
    simp only [H45, Rcd, reduceIte, Bool.not_true] at hK ⊢
    cases e <;> simp [r45, s45, hK]
  | false =>
    simp only [Bool.false_eq_true, reduceIte, Bool.not_false] at hK
    by_cases h2 : kd = 2
    · have z2 := eqI_t h2
      rw [if_pos (.inr h2)]
      refine ⟨true, 0, .inr rfl, ?_⟩
      simp only [H45, Rcd, reduceIte, Bool.not_false] at hK ⊢
      cases e <;> simp [r45, s45, hK, z2]
    · have z2 := eqI_f h2
      rw [if_neg (by simp [h2])]
      have hK2 := K80 c r1 (by omega) hqB
      have hqB2 := numR_B (bad := false) hqB
      have hql2 := numR_le r1 false
      have hqr2 := numR_range r1 false
      have hz : (numR r1 false).2.2 = true → (numR r1 false).1 = 0 := by
        unfold numR
        split
        · simp
        · split
          · simp
          · simp
      generalize numR r1 false = q at *
      obtain ⟨n, r2, b2⟩ := q
      simp only [rst] at hK2 hqB2 hql2 hqr2 hz ⊢
      cases b2 with
      | true =>
        obtain rfl := hz rfl
        have z3 : ltI 0 0 = false := rfl
        refine ⟨true, 0, .inr rfl, ?_⟩
        simp only [H45, Rcd, reduceIte, Bool.not_true] at hK hK2 ⊢
        cases e
        · simp [r45, s45, hK, hK2, z2]
          rw [LpB_eq]
          simp [b45_0, z3, idsR]
        · simp [r45, s45, hK, hK2, z2]
          rw [LpB_eq]
          simp [b45_0, z3, idsR]
      | false =>
        simp only [Bool.false_eq_true, reduceIte, Bool.not_false] at hK2 ⊢
        obtain ⟨y', i', hL⟩ := L45 e c kd l0 lv lu c cu n1 r0 id r1 r2 n hqr2 cs ss ts k m g n.toNat 0 r2 [] true (.slc c 1 (r2.map (.int .u8))) (by omega) (by simp) (by omega) hqB2 (fun _ => rfl)
        refine ⟨(idsR n n.toNat r2 true).1.isEmpty, if (idsR n n.toNat r2 true).1.isEmpty then 0 else 1, by cases (idsR n n.toNat r2 true).1 <;> simp, ?_⟩
        simp only [List.nil_append] at hL
        generalize idsR n n.toNat r2 true = w at *
        obtain ⟨ids, is⟩ := w
        simp only at hL ⊢
        simp only [Rcd, H45, reduceIte] at hL ⊢
        by_cases hids : ids = []
        · subst hids
          cases e
          · simp only [t45, Bool.false_eq_true, reduceIte] at hL ⊢
            simp at hL
            simp [r45, s45, hK, hK2, z2]
            rw [hL]
            simp
          · simp only [t45, reduceIte] at hL ⊢
            simp at hL
            simp [r45, s45, hK, hK2, z2]
            rw [hL]
            simp
        · have hie : ids.isEmpty = false := by cases ids <;> simp at hids ⊢
          simp only [hids, reduceIte] at hL
          cases e
          · simp only [t45, Bool.false_eq_true, reduceIte] at hL ⊢
            simp at hL
            simp [r45, s45, hK, hK2, z2]
            rw [hL]
            simp [hie, hids, List.take_of_length_le, List.lookup]
          · simp only [t45, reduceIte] at hL ⊢
            simp at hL
            simp [r45, s45, hK, hK2, z2]
            rw [hL]
            simp [hie, hids, List.take_of_length_le, List.lookup]
set_option maxHeartbeats 8000000 in
/-- thresherref16.read. -/
theorem K45 (c : Bool) (kd : Int) (l : List Int) (hk : 0 ≤ kd ∧ kd < 256) (hl : l.length ≤ 2 ^ 36) (hB : isB l) : ∃ cs ss c' s', (ss = 1 ∨ (readI kd l).1.2.1.1 = []) ∧ (s' = 1 ∨ (readI kd l).1.2.2.1 = []) ∧
    K0 45 [.slc c 1 ((kd :: l).map (.int .u8))] [] = some (.tuple [RcV (readI kd l).1 cs ss c' s', .bool (readI kd l).2], []) := by
  have wk : IntKind.i64.wrap kd = kd := by rw [IntKind.wrap_i64]; omega
  have i1 : 1 ≤ (l.length : Int) + 1 := by omega
  have h1e : ∀ s lv, (readI2 kd s lv).1.2.1 = s ∧ (readI2 kd s lv).1.1 = kd := by
    intro s lv
    unfold readI2
    simp only
    split <;> exact ⟨rfl, rfl⟩
  unfold readI
  by_cases hk1 : kd = 1
  · have z1 := eqI_t hk1
    rw [if_pos hk1]
    have hK := K80 c l (by omega) hB
    have hqB := numR_B (bad := false) hB
    have hql := numR_le l false
    have hqr := numR_range l false
    generalize numR l false = q at *
    obtain ⟨n, r, b⟩ := q
    simp only [rst] at hK hqB hql hqr ⊢
    cases b with
    | true =>
      rw [if_pos (.inl rfl)]
      refine ⟨true, 0, true, 0, .inr rfl, .inr rfl, K_call k45 (oraG_none (by decide) (by decide)) (by simp [c45]) ?_⟩
      simp only [reduceIte, Bool.not_true] at hK
      simp [c45, wk, i1, z1, hK, RcV, Rcd]
    | false =>
      simp only [Bool.false_eq_true, reduceIte, Bool.not_false] at hK
      obtain ⟨n, rfl⟩ := Int.eq_ofNat_of_zero_le hqr.1
      by_cases h2 : (r.length : Int) < n
      · have z2 := ltI_t h2
        rw [if_pos (.inr h2)]
        refine ⟨true, 0, true, 0, .inr rfl, .inr rfl, K_call k45 (oraG_none (by decide) (by decide)) (by simp [c45]) ?_⟩
        simp [c45, wk, i1, z1, hK, z2, RcV, Rcd]
      · have z2 := ltI_f h2
        rw [if_neg (by rintro (h | h); cases h; exact h2 h)]
        have e : (Int.toNat (n : Int)) = n := by omega
        rw [e]
        obtain ⟨u, hu⟩ : ∃ u, r.take n = u := ⟨_, rfl⟩
        obtain ⟨v, hv⟩ : ∃ v, r.drop n = v := ⟨_, rfl⟩
        have m1 : List.take n (r.map (D.int .u8)) = u.map (D.int .u8) := by rw [← hu]; simp [List.map_take]
        have m2 : List.drop n (r.map (D.int .u8)) = v.map (D.int .u8) := by rw [← hv]; simp [List.map_drop]
        have hub : isB u := by rw [← hu]; exact isB_take hqB _
        have hvb : isB v := by rw [← hv]; exact isB_drop hqB _
        have hul : u.length ≤ r.length := by rw [← hu]; simp; omega
        have hvl : v.length ≤ r.length := by rw [← hv]; simp
        have hnl : n ≤ r.length := by omega
        rw [hu, hv]
        obtain ⟨cs, ss, hs, hT⟩ := K81 (c && n == r.length) u (by omega) hub
        generalize schT u = t at *
        obtain ⟨⟨ts, k, m, g⟩, er⟩ := t
        simp only [Sd] at hs hT ⊢
        by_cases her : er = 0
        · subst her
          have z3 : neI 0 0 = false := rfl
          rw [if_pos rfl]
          rw [(h1e _ _).1]
          obtain ⟨c', s', hs', hR⟩ := R45 true c kd z1 l v u (c && n == r.length) n r cs ss ts k m g (by omega) hvb
          refine ⟨cs, ss, c', s', hs, hs', K_call k45 (oraG_none (by decide) (by decide)) (by simp [c45]) ?_⟩
          unfold RcV
          rw [(h1e _ _).1, (h1e _ _).2]
          rw [← hR]
          simp only [s45, H45, reduceIte]
          simp [c45, wk, i1, z1, hK, z2, m1, m2, hnl, hT, z3]
        · have z3 := neI_t her
          rw [if_neg her]
          refine ⟨true, 0, true, 0, .inr rfl, .inr rfl, K_call k45 (oraG_none (by decide) (by decide)) (by simp [c45]) ?_⟩
          simp [c45, wk, i1, z1, hK, z2, m1, m2, hnl, hT, z3, RcV, Rcd]
  · have z1 := eqI_f hk1
    rw [if_neg hk1]
    rw [(h1e _ _).1]
    obtain ⟨c', s', hs', hR⟩ := R45 false c kd z1 l l [] true 0 [] true 0 [] 0 0 0 (by omega) hB
    refine ⟨true, 0, c', s', .inr rfl, hs', K_call k45 (oraG_none (by decide) (by decide)) (by simp [c45]) ?_⟩
    unfold RcV
    rw [(h1e _ _).1, (h1e _ _).2]
    rw [← hR]
    simp only [s45, H45, Bool.false_eq_true, reduceIte]
    simp [c45, wk, i1, z1]
theorem readI_kd (kd : Int) (l : List Int) : (readI kd l).1.1 = kd := by
  have h1e : ∀ s lv, (readI2 kd s lv).1.1 = kd := by
    intro s lv
    unfold readI2
    simp only
    split <;> rfl
  unfold readI
  split
  · simp only
    split
    · rfl
    · split
      · exact h1e _ _
      · rfl
  · exact h1e _ _
theorem readI_len (kd : Int) (l : List Int) : (readI kd l).1.2.1.1.length ≤ 64 := by
  have h1e : ∀ s lv, (readI2 kd s lv).1.2.1 = s := by
    intro s lv
    unfold readI2
    simp only
    split <;> rfl
  unfold readI
  split
  · simp only
    split
    · simp
    · split
      · rw [h1e]; exact schT_len _
      · simp
  · rw [h1e]; simp
theorem idsR_len (n : Int) : ∀ (j : Nat) (l : List Int) (is : Bool), (idsR n j l is).1.length ≤ j
  | 0, _, _ => by simp [idsR]
  | j + 1, l, is => by
    simp only [idsR]
    split
    · have := idsR_len n j (numR l false).2.1 (!(numR l false).2.2 && decide (n ≤ 40))
      simp; omega
    · simp
theorem readI_ids (kd : Int) (l : List Int) (hl : l.length ≤ 2 ^ 30) : (readI kd l).1.2.2.1.length ≤ 2 ^ 30 := by
  have h1e : ∀ s lv, (readI2 kd s lv).1.2.2.1.length ≤ 2 ^ 30 := by
    intro s lv
    unfold readI2
    simp only
    split
    · simp
    · have h1 := numR_range (numR lv false).2.1 false
      have h2 := idsR_len (numR (numR lv false).2.1 false).1 (numR (numR lv false).2.1 false).1.toNat (numR (numR lv false).2.1 false).2.1 (!(numR (numR lv false).2.1 false).2.2)
      simp only
      omega
  unfold readI
  split
  · simp only
    split
    · simp
    · split
      · exact h1e _ _
      · simp
  · exact h1e _ _
set_option maxHeartbeats 8000000 in
/-- thresherref16.Take. -/
theorem K20 (c : Bool) (l : List Int) (hl : l.length ≤ 2 ^ 29) (hB : isB l) : ∃ c1 s1 c2 s2, (s1 = 1 ∨ (recTake l).1.2.1.1 = []) ∧ (s2 = 1 ∨ (recTake l).1.2.2.1 = []) ∧
    K0 20 [.slc c 1 (l.map (.int .u8))] [] = some (.tuple [RcV (recTake l).1 c1 s1 c2 s2, .int .i64 (recTake l).2.1, .int .i64 (recTake l).2.2], []) := by
  obtain ⟨d, hK, hd⟩ := K44 c l (by omega) hB
  rcases hd with ⟨he, cd, rfl⟩ | ⟨he, rfl⟩
  rotate_left
  · rw [recTake_err he]
    have z1 := neI_t he
    refine ⟨true, 0, true, 0, .inr rfl, .inr rfl, K_call k20 (oraG_none (by decide) (by decide)) (by simp [c20]) ?_⟩
    simp [c20, hK, z1, RcV, Rcd, noRec]
  · have z1 := neI_f he
    have hub := isB_unframe hB
    have hus := unframe_some l hB (unframeI l).1 (unframeI l).2.1 (by rw [← he])
    cases hdat : (unframeI l).1 with
    | nil =>
      rw [recTake_nil he hdat]
      rw [hdat] at hK
      have z2 : eqI 0 0 = true := rfl
      refine ⟨true, 0, true, 0, .inr rfl, .inr rfl, K_call k20 (oraG_none (by decide) (by decide)) (by simp [c20]) ?_⟩
      simp [c20, hK, z1, z2, RcV, Rcd, noRec]
    | cons x r =>
      have hT := recTake_read hB he hdat
      rw [hdat] at hub hus hK
      have hx := hub x List.mem_cons_self
      have hrB : isB r := fun y hy => hub y (List.mem_cons_of_mem _ hy)
      have z2 : eqI ((r.length : Int) + 1) 0 = false := eqI_f (by omega)
      obtain ⟨hu1, hu2, hu3, hu4, hu5, hu6⟩ := hus
      simp only [List.length_cons] at hu5
      obtain ⟨cs, ss, c', s', e1, e2, hR⟩ := K45 cd x r hx (by omega) hrB
      have hln := readI_len x r
      have hkd := readI_kd x r
      have hid : (readI x r).1.2.2.1.length ≤ 2 ^ 30 := readI_ids x r (by omega)
      obtain ⟨n, hn⟩ : ∃ n : Nat, (unframeI l).2.1 = n := ⟨(unframeI l).2.1.toNat, by omega⟩
      rw [hn] at hK hu1 hu3 hT
      have hne : (Int.toNat (n : Int)) = n := by omega
      rw [hne] at hu1 hT
      have hbad := fun hc => hT.trans (if_neg hc)
      have hok := fun hc => hT.trans (if_pos hc)
      clear hT
      generalize readI x r = q at *
      obtain ⟨⟨kd, ⟨ts, k, m, g⟩, ids, id⟩, ok⟩ := q
      simp only [putOf] at e1 e2 hR hln hkd hid hbad hok
      subst hkd
      have hnl : n ≤ l.length := by omega
      obtain ⟨p, hp⟩ : ∃ p, l.take n = p := ⟨_, rfl⟩
      have m1 : List.take n (l.map (D.int .u8)) = p.map (D.int .u8) := by rw [← hp]; simp [List.map_take]
      have hpB : isB p := by rw [← hp]; exact isB_take hB _
      rw [hp] at hbad hok
      simp only [RcV] at hR
      simp only [List.map_cons] at hK hR
      have fail : (ok = false ∨ mayI kd ts k m g ids id = false ∨ ¬ frameI (recB kd ts k m g ids id) = p) → K0 20 [.slc c 1 (l.map (.int .u8))] [] = some (.tuple [RcV noRec true 0 true 0, .int .i64 0, .int .i64 10], []) := by
        intro hcase
        refine K_call k20 (oraG_none (by decide) (by decide)) (by simp [c20]) ?_
        cases hm : mayI kd ts k m g ids id with
        | false =>
          have hP := K18_f kd cs ss ts k m g c' s' ids id e1 e2 (by omega) hid hm
          simp only [Rcd] at hP hR
          cases ok <;> simp [c20, hK, z1, z2, hR, hP, backK, RcV, Rcd, noRec, evOp, evM, wants, Ins.go, X.ev, iaM, ldM, binD, setD, applyW, Ek_ops_nil, allFree, free, callM, callP]
        | true =>
          have hP := K18_t kd cs ss ts k m g c' s' ids id e1 e2 hm
          have hfB := isB_frame (isB_recB hm)
          simp only [Rcd] at hP hR
          cases ok with
          | false => simp [c20, hK, z1, z2, hR, hP, backK, RcV, Rcd, noRec, evOp, evM, wants, Ins.go, X.ev, iaM, ldM, binD, setD, applyW, Ek_ops_nil, allFree, free, callM, callP]
          | true =>
            have hq := u8_beq (frameI (recB kd ts k m g ids id)) p hfB hpB
            have hf : (frameI (recB kd ts k m g ids id) == p) = false := by
              rcases hcase with h | h | h
              · cases h
              · rw [hm] at h; cases h
              · simpa using h
            rw [hf] at hq
            generalize frameI (recB kd ts k m g ids id) = F at *
            simp [c20, hK, z1, z2, hR, hP, hq, m1, hnl, backK, RcV, Rcd, noRec, evOp, evM, wants, Ins.go, X.ev, iaM, ldM, binD, setD, applyW, Ek_ops_nil, allFree, free, callM, callP]
      by_cases hcase : ok = false ∨ mayI kd ts k m g ids id = false ∨ ¬ frameI (recB kd ts k m g ids id) = p
      · have hc : ¬ (ok = true ∧ (recPut kd ts k m g ids id).2 = true ∧ (recPut kd ts k m g ids id).1 = p) := by
          rintro ⟨a1, a2, a3⟩
          rw [recPut_2] at a2
          unfold recPut at a3
          rw [if_pos a2] at a3
          rcases hcase with h | h | h
          · rw [a1] at h; cases h
          · rw [a2] at h; cases h
          · exact h a3
        rw [hbad hc]
        exact ⟨true, 0, true, 0, .inr rfl, .inr rfl, fail hcase⟩
      · have hb : ok = true := by cases ok with | true => rfl | false => exact absurd (.inl rfl) hcase
        have hm : mayI kd ts k m g ids id = true := by cases hm : mayI kd ts k m g ids id with | true => rfl | false => exact absurd (.inr (.inl hm)) hcase
        have hf : frameI (recB kd ts k m g ids id) = p := Classical.byContradiction fun h => hcase (.inr (.inr h))
        subst hb
        have hfB := isB_frame (isB_recB hm)
        rw [hok ⟨rfl, by rw [recPut_2]; exact hm, by unfold recPut; rw [if_pos hm]; exact hf⟩]
        have hP := K18_t kd cs ss ts k m g c' s' ids id e1 e2 hm
        have hq := u8_beq (frameI (recB kd ts k m g ids id)) p hfB hpB
        rw [hf] at hq hP
        have hpp : (p == p) = true := by simp
        rw [hpp] at hq
        simp only [Rcd] at hP hR
        refine ⟨cs, ss, c', s', e1, e2, K_call k20 (oraG_none (by decide) (by decide)) (by simp [c20]) ?_⟩
        simp [c20, hK, z1, z2, hR, hP, hq, m1, hnl, backK, RcV, Rcd, noRec, evOp, evM, wants, Ins.go, X.ev, iaM, ldM, binD, setD, applyW, Ek_ops_nil, allFree, free, callM, callP]
end Go.Ab
