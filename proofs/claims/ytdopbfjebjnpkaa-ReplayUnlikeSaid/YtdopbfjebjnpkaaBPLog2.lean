/- PLAIN: numbers of a state are unlike, and below the next one. -/
import Derived.Test.YtdopbfjebjnpkaaBF221
set_option linter.all false
namespace Go.Ab
open Go.Proofs Go.Proofs.YtdopbfjebjnpkaaH Go.Proofs.YtdopbfjebjnpkaaH.Crc Go.Proofs.YtdopbfjebjnpkaaH.Var Go.Proofs.YtdopbfjebjnpkaaH.Fr Go.Proofs.YtdopbfjebjnpkaaH.Rec
/-- Numbers that are unlike, and below the next one. -/
def okT (s : StV) : Prop := s.2.1.Nodup ∧ ∀ x ∈ s.2.1, 0 ≤ x ∧ x < s.2.2
theorem unl_of {l : List Int} {n : Int} (h : l.Nodup) (h2 : ∀ x ∈ l, x < n) : unl l n = true := by
  unfold unl
  rw [Bool.and_eq_true, decide_eq_true_eq, List.all_eq_true]
  exact ⟨h, fun x hx => by simpa using h2 x hx⟩
theorem unl_to {l : List Int} {n : Int} (h : unl l n = true) : l.Nodup ∧ ∀ x ∈ l, x < n := by
  unfold unl at h
  rw [Bool.and_eq_true, decide_eq_true_eq, List.all_eq_true] at h
  exact ⟨h.1, fun x hx => by simpa using h.2 x hx⟩
theorem okT_apply {s : StV} (h : okT s) (r : RecV) : okT (applyI s r).1 := by
  unfold applyI
  split
  · exact h
  · rename_i hm
    have hm1 : mayOf r = true := by simpa using hm
    have hmm := mayI_some hm1
    split
    · split
      · rename_i hu
        have hu := unl_to hu
        exact ⟨hu.1, fun x hx => ⟨(hmm.2.2.2 x hx).1, hu.2 x hx⟩⟩
      · exact h
    · split
      · exact h
      · rename_i hlt
        have hnew : r.2.2.2 ∉ s.2.1 := fun hx => by have := h.2 _ hx; omega
        have hall : ∀ x ∈ s.2.1, 0 ≤ x ∧ x < r.2.2.2 + 1 := fun x hx => by have := h.2 x hx; omega
        split
        · split
          · refine ⟨?_, fun x hx => ?_⟩
            · show (s.2.1 ++ [r.2.2.2]).Nodup
              rw [List.nodup_append]
              refine ⟨h.1, by simp, fun a ha b hb => ?_⟩
              rw [List.mem_singleton.1 hb]
              rintro rfl
              exact hnew ha
            · rcases List.mem_append.1 hx with hx | hx
              · exact hall x hx
              · rw [List.mem_singleton.1 hx]
                have := hmm.2.2.1
                show 0 ≤ r.2.2.2 ∧ r.2.2.2 < r.2.2.2 + 1
                omega
          · exact h
        · split
          · rename_i a ha
            have hsub1 : (s.2.1.drop (a + r.2.2.1.length)).Sublist (s.2.1.drop a) := by
              rw [← List.drop_drop]; exact List.drop_sublist _ _
            have h0 := h.1
            rw [← List.take_append_drop a s.2.1, List.nodup_append] at h0
            refine ⟨?_, fun x hx => ?_⟩
            · show (s.2.1.take a ++ r.2.2.2 :: s.2.1.drop (a + r.2.2.1.length)).Nodup
              rw [List.nodup_append]
              refine ⟨h0.1, List.nodup_cons.2 ⟨fun hx => hnew (List.mem_of_mem_drop hx), hsub1.nodup h0.2.1⟩, fun x hx y hy => ?_⟩
              rcases List.mem_cons.1 hy with rfl | hy
              · rintro rfl; exact hnew (List.mem_of_mem_take hx)
              · exact h0.2.2 x hx y (hsub1.mem hy)
            · rcases List.mem_append.1 hx with hx | hx
              · exact hall x (List.mem_of_mem_take hx)
              · rcases List.mem_cons.1 hx with rfl | hx
                · have := hmm.2.2.1
                  show 0 ≤ r.2.2.2 ∧ r.2.2.2 < r.2.2.2 + 1
                  omega
                · exact hall x (List.mem_of_mem_drop hx)
          · exact h
theorem okT_st : ∀ (rs : List RecV) (s : StV), okT s → okT (stR s rs)
  | [], s, h => h
  | r :: t, s, h => okT_st t _ (okT_apply h r)
/-- A step of Made: the schema stays, there is at most one number more, and the next one is at most two more. -/
theorem madeR_step (st : StV) (x : B3) : (applyI st (madeR st x)).1.1 = st.1 ∧ (applyI st (madeR st x)).1.2.1.length ≤ st.2.1.length + 1 ∧ (applyI st (madeR st x)).1.2.2 ≤ max st.2.2 (st.2.2 + 2) := by
  have hk : (madeR st x).1 ≠ 1 := by unfold madeR; split <;> simp
  have hid : (madeR st x).2.2.2 ≤ st.2.2 + 1 := by
    unfold madeR
    split
    · simp only; omega
    · simp only; omega
  have same : (st, false).1.1 = st.1 ∧ (st, false).1.2.1.length ≤ st.2.1.length + 1 ∧ (st, false).1.2.2 ≤ max st.2.2 (st.2.2 + 2) := by
    refine ⟨rfl, ?_, ?_⟩ <;> dsimp only <;> omega
  unfold applyI
  by_cases hm : mayOf (madeR st x) = false
  · rw [if_pos hm]; exact same
  · rw [if_neg hm, if_neg hk]
    split
    · exact same
    · split
      · split
        · exact ⟨rfl, by simp, by dsimp only; omega⟩
        · exact same
      · split
        · refine ⟨rfl, ?_, by dsimp only; omega⟩
          simp
          omega
        · exact same
theorem madeL_bounds : ∀ (l : List B3) (st : StV), (stR st (madeL l st)).1 = st.1 ∧ (stR st (madeL l st)).2.1.length ≤ st.2.1.length + l.length ∧ (stR st (madeL l st)).2.2 ≤ st.2.2 + 2 * l.length
  | [], st => ⟨rfl, by simp [madeL, stR], by simp [madeL, stR]⟩
  | x :: t, st => by
    obtain ⟨h1, h2, h3⟩ := madeR_step st x
    unfold madeL
    split
    · obtain ⟨q1, q2, q3⟩ := madeL_bounds t (applyI st (madeR st x)).1
      simp only [stR, List.length_cons]
      exact ⟨q1.trans h1, by omega, by omega⟩
    · obtain ⟨q1, q2, q3⟩ := madeL_bounds t st
      simp only [List.length_cons]
      exact ⟨q1, by omega, by omega⟩
/-- What a log of any numbers says. -/
theorem madeI_st {s : ScV} (h : schemaOk s.1 s.2.1 s.2.2.1 s.2.2.2 = true) (l : List B3) : (stR noSt (madeI s l)).1 = s ∧ (stR noSt (madeI s l)).2.1.length ≤ l.length ∧ (stR noSt (madeI s l)).2.2 ≤ 2 * l.length ∧ 0 ≤ (stR noSt (madeI s l)).2.2 ∧ okT (stR noSt (madeI s l)) := by
  have e : stR noSt (madeI s l) = stR (s, [], 0) (madeL l (s, [], 0)) := by
    unfold madeI
    simp only [stR]
    rw [applyI_head h]
  have hb := madeL_bounds l (s, [], 0)
  have ho : okT (stR (s, [], 0) (madeL l (s, [], 0))) := okT_st _ _ ⟨List.nodup_nil, fun x hx => by cases hx⟩
  rw [e]
  refine ⟨hb.1, by simpa using hb.2.1, by simpa using hb.2.2, ?_, ho⟩
  have : ∀ (rs : List RecV) (s : StV), 0 ≤ s.2.2 → 0 ≤ (stR s rs).2.2 := by
    intro rs
    induction rs with
    | nil => exact fun s h => h
    | cons r t ih =>
      intro s h
      refine ih _ ?_
      unfold applyI
      split
      · exact h
      · rename_i hm
        have hm1 : mayOf r = true := by simpa using hm
        have hi := (mayI_some hm1).2.2.1
        split
        · split
          · simp only; omega
          · exact h
        · split
          · exact h
          · split
            · split
              · simp only; omega
              · exact h
            · split
              · simp only; omega
              · exact h
  exact this _ _ (Int.le_refl 0)
/-- The head of a state is a log of it. -/
theorem head_fits {y : StV} (hs : schemaOk y.1.1 y.1.2.1 y.1.2.2.1 y.1.2.2.2 = true) (ho : okT y) (hl : y.2.1.length ≤ 40) (hn : 0 ≤ y.2.2 ∧ y.2.2 ≤ 999998) :
    mayOf (1, y.1, y.2.1, y.2.2) = true ∧ applyI noSt (1, y.1, y.2.1, y.2.2) = (y, true) := by
  have hm : mayOf (1, y.1, y.2.1, y.2.2) = true := by
    unfold mayOf mayI
    simp only
    rw [if_pos trivial, hs, Bool.and_true, Bool.not_eq_true', Bool.or_eq_false_iff, Bool.or_eq_false_iff]
    refine ⟨⟨?_, by simp; omega⟩, ?_⟩
    · rw [odd_iff]; omega
    · rw [List.any_eq_false]
      intro x hx
      have := ho.2 x hx
      rw [Bool.not_eq_true, odd_iff]
      omega
  refine ⟨hm, ?_⟩
  unfold applyI
  rw [hm, if_neg (by decide), if_pos rfl]
  simp only
  rw [if_pos (unl_of ho.1 (fun x hx => (ho.2 x hx).2))]
end Go.Ab
/- THE FUNCTIONS' EQUATIONS: thresherlaw17.few. -/
set_option linter.all false
set_option maxRecDepth 100000
namespace Go.Ab
open Go.Proofs Go.Proofs.YtdopbfjebjnpkaaH Go.Proofs.YtdopbfjebjnpkaaH.Crc Go.Proofs.YtdopbfjebjnpkaaH.Var Go.Proofs.YtdopbfjebjnpkaaH.Fr Go.Proofs.YtdopbfjebjnpkaaH.Rec
def c218 : Fn' := ⟨23, [(.cell 2 (some 7))], (.seq (.reg none [⟨(some 1), none, (.box false (.t 0))⟩, ⟨(some 2), none, (.alloc false [(.int .i64 0), nilS, (.int .i64 0), (.int .i64 0), (.int .i64 0), nilS, (.int .i64 0)])⟩]) (.seq (.seq (.reg none [⟨(some 3), none, (.fa 5 1 false (.t 1))⟩, ⟨(some 4), none, (.ld none (.t 3))⟩, ⟨(some 5), none, (.len 1 (.t 4))⟩, ⟨(some 6), none, (.bin .gtr [] (.t 5) (.k (.int .i64 45)))⟩]) (.cond (.t 6) (.reg none [⟨(some 7), none, (.fa 5 1 false (.t 1))⟩, ⟨(some 8), none, (.ld none (.t 7))⟩, ⟨(some 9), none, (.sub 1 1 (.t 8) none (some (.k (.int .i64 45))) none)⟩, ⟨(some 10), none, (.fa 5 1 false (.t 1))⟩, ⟨none, none, (.st 1 (.t 10) (.t 9))⟩]) .skip)) (.seq (.seq (.reg none [⟨(some 11), none, (.fa 1 4 true (.t 1))⟩, ⟨(some 12), none, (.fa 0 1 false (.t 11))⟩, ⟨(some 13), none, (.ld none (.t 12))⟩, ⟨(some 14), none, (.len 1 (.t 13))⟩, ⟨(some 15), none, (.bin .gtr [] (.t 14) (.k (.int .i64 10)))⟩]) (.cond (.t 15) (.reg none [⟨(some 16), none, (.fa 1 4 true (.t 1))⟩, ⟨(some 17), none, (.fa 0 1 false (.t 16))⟩, ⟨(some 18), none, (.ld none (.t 17))⟩, ⟨(some 19), none, (.sub 1 1 (.t 18) none (some (.k (.int .i64 10))) none)⟩, ⟨(some 20), none, (.fa 1 4 true (.t 1))⟩, ⟨(some 21), none, (.fa 0 1 false (.t 20))⟩, ⟨none, none, (.st 1 (.t 21) (.t 19))⟩]) .skip)) (.seq (.reg none [⟨(some 22), none, (.ld (some 7) (.t 1))⟩, ⟨none, none, (.st 7 (.t 2) (.t 22))⟩]) .ret))))⟩
theorem k218 : compF Try.prog 16 = some c218 := by kernel_rfl
attribute [local simp] op_or op_an op_add op_sub op_mul oq_eql oq_neq oq_lss oq_gtr oq_leq oq_geq
attribute [-simp] intOp bin_shl
/-- A record of few numbers. -/
def fewR (r : RecV) : RecV := (r.1, (r.2.1.1.take 10, r.2.1.2), r.2.2.1.take 45, r.2.2.2)
set_option maxHeartbeats 4000000 in
theorem K218 (kd : Int) (c : Bool) (ts : List Int) (k m g : Int) (c' : Bool) (ids : List Int) (id : Int) : ∃ c1 c2, K0 16 [Rcd kd c 1 ts k m g c' 1 ids id] [] = some (Rcd kd c1 1 (ts.take 10) k m g c2 1 (ids.take 45) id, []) := by
  obtain ⟨t, ht⟩ : ∃ t, ts.take 10 = t := ⟨_, rfl⟩
  obtain ⟨i, hi⟩ : ∃ i, ids.take 45 = i := ⟨_, rfl⟩
  have m1 : List.take 10 (ts.map (D.int .i64)) = t.map (D.int .i64) := by rw [← ht]; simp [List.map_take]
  have m2 : List.take 45 (ids.map (D.int .i64)) = i.map (D.int .i64) := by rw [← hi]; simp [List.map_take]
  rw [ht, hi]
  by_cases h1 : 45 < (ids.length : Int)
  · have z1 := ltI_t h1
    have b1 : (45 : Int) ≤ ids.length := by omega
    by_cases h2 : 10 < (ts.length : Int)
    · have z2 := ltI_t h2
      have b2 : (10 : Int) ≤ ts.length := by omega
      refine ⟨(c && 10 == ts.length), (c' && 45 == ids.length), K_call k218 (oraG_none (by decide) (by decide)) (by simp [c218, Rcd]) ?_⟩
      simp [c218, Rcd, z1, z2, b1, b2, m1, m2]
    · have z2 := ltI_f h2
      obtain rfl : ts = t := by rw [← ht, List.take_of_length_le (by omega)]
      refine ⟨c, (c' && 45 == ids.length), K_call k218 (oraG_none (by decide) (by decide)) (by simp [c218, Rcd]) ?_⟩
      simp [c218, Rcd, z1, z2, b1, m1, m2]
  · have z1 := ltI_f h1
    obtain rfl : ids = i := by rw [← hi, List.take_of_length_le (by omega)]
    by_cases h2 : 10 < (ts.length : Int)
    · have z2 := ltI_t h2
      have b2 : (10 : Int) ≤ ts.length := by omega
      refine ⟨(c && 10 == ts.length), c', K_call k218 (oraG_none (by decide) (by decide)) (by simp [c218, Rcd]) ?_⟩
      simp [c218, Rcd, z1, z2, b2, m1, m2]
    · have z2 := ltI_f h2
      obtain rfl : ts = t := by rw [← ht, List.take_of_length_le (by omega)]
      refine ⟨c, c', K_call k218 (oraG_none (by decide) (by decide)) (by simp [c218, Rcd]) ?_⟩
      simp [c218, Rcd, z1, z2, m1, m2]
end Go.Ab
