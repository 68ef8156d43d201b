/- PLAIN: numbers of a state are unlike, and below the next one. -/
import Derived.Test.YtdopbfjebjnpkaaBF221
set_option linter.all false
namespace Go.Ab
open Go.Proofs Go.Proofs.YtdopbfjebjnpkaaH Go.Proofs.YtdopbfjebjnpkaaH.Crc Go.Proofs.YtdopbfjebjnpkaaH.Var Go.Proofs.YtdopbfjebjnpkaaH.Fr Go.Proofs.YtdopbfjebjnpkaaH.Rec
/-- Numbers that are unlike, and below the next one. -/
def okT (s : StV) : Prop := s.2.1.Nodup ∧ ∀ x ∈ s.2.1, 0 ≤ x ∧ x < s.2.2
theorem unl_of {l : List Int} {n : Int} (h : l.Nodup) (h2 : ∀ x ∈ l, x < n) : unl l n = true := by
  unfold unl
  rw [Bool.and_eq_true, decide_eq_true_eq, List.all_eq_true]
  exact ⟨h, fun x hx => by simpa using h2 x hx⟩
theorem unl_to {l : List Int} {n : Int} (h : unl l n = true) : l.Nodup ∧ ∀ x ∈ l, x < n := by
  unfold unl at h
  rw [Bool.and_eq_true, decide_eq_true_eq, List.all_eq_true] at h
  exact ⟨h.1, fun x hx => by simpa using h.2 x hx⟩
theorem okT_apply {s : StV} (h : okT s) (r : RecV) : okT (applyI s r).1 := by
  unfold applyI
  split
  · exact h
  · rename_i hm
    have hm1 : mayOf r = true := by simpa using hm
    have hmm := mayI_some hm1
    split
    · split
      · rename_i hu
        have hu := unl_to hu
        exact ⟨hu.1, fun x hx => ⟨(hmm.2.2.2 x hx).1, hu.2 x hx⟩⟩
      · exact h
    · split
      · exact h
      · rename_i hlt
        have hnew : r.2.2.2 ∉ s.2.1 := fun hx => by have := h.2 _ hx; omega
        have hall : ∀ x ∈ s.2.1, 0 ≤ x ∧ x < r.2.2.2 + 1 := fun x hx => by have := h.2 x hx; omega
        split
        · split
          · refine ⟨?_, fun x hx => ?_⟩
            · show (s.2.1 ++ [r.2.2.2]).Nodup
              rw [List.nodup_append]
              refine ⟨h.1, by simp, fun a ha b hb => ?_⟩
              rw [List.mem_singleton.1 hb]
              rintro rfl
              exact hnew ha
            · rcases List.mem_append.1 hx with hx | hx
              · exact hall x hx
              · rw [List.mem_singleton.1 hx]
                have := hmm.2.2.1
                show 0 ≤ r.2.2.2 ∧ r.2.2.2 < r.2.2.2 + 1
                omega
          · exact h
        · split
          · rename_i a ha
            have hsub1 : (s.2.1.drop (a + r.2.2.1.length)).Sublist (s.2.1.drop a) := by
              rw [← List.drop_drop]; exact List.drop_sublist _ _
            have h0 := h.1
            rw [← List.take_append_drop a s.2.1, List.nodup_append] at h0
            refine ⟨?_, fun x hx => ?_⟩
            · show (s.2.1.take a ++ r.2.2.2 :: s.2.1.drop (a + r.2.2.1.length)).Nodup
              rw [List.nodup_append]
              refine ⟨h0.1, List.nodup_cons.2 ⟨fun hx => hnew (List.mem_of_mem_drop hx), hsub1.nodup h0.2.1⟩, fun x hx y hy => ?_⟩
              rcases List.mem_cons.1 hy with rfl | hy
              · rintro rfl; exact hnew (List.mem_of_mem_take hx)
              · exact h0.2.2 x hx y (hsub1.mem hy)
            · rcases List.mem_append.1 hx with hx | hx
              · exact hall x (List.mem_of_mem_take hx)
              · rcases List.mem_cons.1 hx with rfl | hx
                · have := hmm.2.2.1
                  show 0 ≤ r.2.2.2 ∧ r.2.2.2 < r.2.2.2 + 1
                  omega
                · exact hall x (List.mem_of_mem_drop hx)
          · exact h
theorem okT_st : ∀ (rs : List RecV) (s : StV), okT s → okT (stR s rs)
  | [], s, h => h
  | r :: t, s, h => okT_st t _ (okT_apply h r)
/-- A step of Made: the schema stays, there is at most one number more, and the next one is at most two more. -/
theorem madeR_step (st : StV) (x : B3) : (applyI st (madeR st x)).1.1 = st.1 ∧ (applyI st (madeR st x)).1.2.1.length ≤ st.2.1.length + 1 ∧ (applyI st (madeR st x)).1.2.2 ≤ max st.2.2 (st.2.2 + 2) := by
  have hk : (madeR st x).1 ≠ 1 := by unfold madeR; split <;> simp
  have hid : (madeR st x).2.2.2 ≤ st.2.2 + 1 := by
    unfold madeR
    split
    · simp only; omega
    · simp only; omega
  have same : (st, false).1.1 = st.1 ∧ (st, false).1.2.1.length ≤ st.2.1.length + 1 ∧ (st, false).1.2.2 ≤ max st.2.2 (st.2.2 + 2) := by
    refine ⟨rfl, ?_, ?_⟩ <;> dsimp only <;> omega
  unfold applyI
  by_cases hm : mayOf (madeR st x) = false
  · rw [if_pos hm]; exact same
  · rw [if_neg hm, if_neg hk]
    split
    · exact same
    · split
      · split
        · exact ⟨rfl, by simp, by dsimp only; omega⟩
        · exact same
      · split
        · refine ⟨rfl, ?_, by dsimp only; omega⟩
          simp
          omega
        · exact same
theorem madeL_bounds : ∀ (l : List B3) (st : StV), (stR st (madeL l st)).1 = st.1 ∧ (stR st (madeL l st)).2.1.length ≤ st.2.1.length + l.length ∧ (stR st (madeL l st)).2.2 ≤ st.2.2 + 2 * l.length
  | [], st => ⟨rfl, by simp [madeL, stR], by simp [madeL, stR]⟩
  | x :: t, st => by
    obtain ⟨h1, h2, h3⟩ := madeR_step st x
    unfold madeL
    split
    · obtain ⟨q1, q2, q3⟩ := madeL_bounds t (applyI st (madeR st x)).1
      simp only [stR, List.length_cons]
      exact ⟨q1.trans h1, by omega, by omega⟩
    · obtain ⟨q1, q2, q3⟩ := madeL_bounds t st
      simp only [List.length_cons]
      exact ⟨q1, by omega, by omega⟩
/-- What a log of any numbers says. -/
theorem madeI_st {s : ScV} (h : schemaOk s.1 s.2.1 s.2.2.1 s.2.2.2 = true) (l : List B3) : (stR noSt (madeI s l)).1 = s ∧ (stR noSt (madeI s l)).2.1.length ≤ l.length ∧ (stR noSt (madeI s l)).2.2 ≤ 2 * l.length ∧ 0 ≤ (stR noSt (madeI s l)).2.2 ∧ okT (stR noSt (madeI s l)) := by
  have e : stR noSt (madeI s l) = stR (s, [], 0) (madeL l (s, [], 0)) := by
    unfold madeI
    simp only [stR]
    rw [applyI_head h]
  have hb := madeL_bounds l (s, [], 0)
  have ho : okT (stR (s, [], 0) (madeL l (s, [], 0))) := okT_st _ _ ⟨List.nodup_nil, fun x hx => by cases hx⟩
  rw [e]
  refine ⟨hb.1, by simpa using hb.2.1, by simpa using hb.2.2, ?_, ho⟩
  have : ∀ (rs : List RecV) (s : StV), 0 ≤ s.2.2 → 0 ≤ (stR s rs).2.2 := by
    intro rs
    induction rs with
    | nil => exact fun s h => h
    | cons r t ih =>
      intro s h
      refine ih _ ?_
      unfold applyI
      split
      · exact h
      · rename_i hm
        have hm1 : mayOf r = true := by simpa using hm
        have hi := (mayI_some hm1).2.2.1
        split
        · split
          · simp only; omega
          · exact h
        · split
          · exact h
          · split
            · split
              · simp only; omega
              · exact h
            · split
              · simp only; omega
              · exact h
  exact this _ _ (Int.le_refl 0)
/-- The head of a state is a log of it. -/
theorem head_fits {y : StV} (hs : schemaOk y.1.1 y.1.2.1 y.1.2.2.1 y.1.2.2.2 = true) (ho : okT y) (hl : y.2.1.length ≤ 40) (hn : 0 ≤ y.2.2 ∧ y.2.2 ≤ 999998) :
    mayOf (1, y.1, y.2.1, y.2.2) = true ∧ applyI noSt (1, y.1, y.2.1, y.2.2) = (y, true) := by
  have hm : mayOf (1, y.1, y.2.1, y.2.2) = true := by
    unfold mayOf mayI
    simp only
    rw [if_pos trivial, hs, Bool.and_true, Bool.not_eq_true', Bool.or_eq_false_iff, Bool.or_eq_false_iff]
    refine ⟨⟨?_, by simp; omega⟩, ?_⟩
    · rw [odd_iff]; omega
    · rw [List.any_eq_false]
      intro x hx
      have := ho.2 x hx
      rw [Bool.not_eq_true, odd_iff]
      omega
  refine ⟨hm, ?_⟩
  unfold applyI
  rw [hm, if_neg (by decide), if_pos rfl]
  simp only
  rw [if_pos (unl_of ho.1 (fun x hx => (ho.2 x hx).2))]
end Go.Ab
/- THE FUNCTIONS' EQUATIONS: thresherlaw17.ReplayHeads. (printed by mk230.py) -/
set_option linter.all false
set_option maxRecDepth 100000
namespace Go.Ab
open Go.Proofs Go.Proofs.YtdopbfjebjnpkaaH Go.Proofs.YtdopbfjebjnpkaaH.Crc Go.Proofs.YtdopbfjebjnpkaaH.Var Go.Proofs.YtdopbfjebjnpkaaH.Fr Go.Proofs.YtdopbfjebjnpkaaH.Rec
def r225 : C := (.seq (.reg none [⟨(some 22), none, (.ld (some 12) (.t 2))⟩, ⟨(some 23), none, (.call (.f 10) [(.t 22)])⟩, ⟨(some 24), none, (.mv (.t 1))⟩, ⟨(some 25), none, (.call (.f 9) [(.t 23), (.t 24)])⟩, ⟨(some 26), none, (.call (.f 11) [(.t 25)])⟩, ⟨(some 27), none, (.call (.f 12) [(.t 26)])⟩, ⟨(some 21), none, (.mv (.t 27))⟩, ⟨(some 28), none, (.ext (.t 21) 0)⟩, ⟨(some 29), none, (.ext (.t 21) 1)⟩, ⟨(some 30), none, (.ext (.t 21) 2)⟩, ⟨(some 6), none, (.alloc false [nilS, (.int .i64 0), (.int .i64 0), (.int .i64 0), nilS, (.int .i64 0)])⟩, ⟨none, none, (.st 6 (.t 6) (.t 28))⟩, ⟨(some 7), none, (.mv (.t 29))⟩, ⟨(some 8), none, (.mv (.t 30))⟩]) (.seq (.seq (.reg none [⟨(some 31), none, (.mv (.t 8))⟩, ⟨(some 32), none, (.un .not (.t 31))⟩]) (.cond (.t 32) (.seq (.reg none [⟨(some 4), none, (.mv (.k (.bool false)))⟩]) .ret) .skip)) (.seq (.reg none [⟨(some 33), none, (.ld (some 6) (.t 6))⟩, ⟨(some 34), none, (.call (.f 20) [(.t 33)])⟩, ⟨(some 9), none, (.alloc false [(.int .i64 0), nilS, (.int .i64 0), (.int .i64 0), (.int .i64 0), nilS, (.int .i64 0)])⟩, ⟨none, none, (.st 7 (.t 9) (.t 34))⟩]) (.seq (.reg none [⟨(some 36), none, (.ld (some 7) (.t 9))⟩, ⟨(some 37), none, (.fa 5 1 false (.t 6))⟩, ⟨(some 38), none, (.ld none (.t 37))⟩, ⟨(some 39), none, (.bld [(.int .i64 0), nilS, (.int .i64 0), (.int .i64 0), (.int .i64 0), nilS, (.int .i64 0)] [(0, (1, (.k (.int .i64 2)))), (6, (1, (.t 38)))])⟩, ⟨(some 40), none, (.bsl false 7 2 [(.int .i64 0), nilS, (.int .i64 0), (.int .i64 0), (.int .i64 0), nilS, (.int .i64 0)] [(0, (.t 36)), (1, (.t 39))])⟩, ⟨(some 41), none, (.call (.f 11) [(.t 40)])⟩, ⟨(some 42), none, (.call (.f 12) [(.t 41)])⟩, ⟨(some 35), none, (.mv (.t 42))⟩, ⟨(some 43), none, (.ext (.t 35) 0)⟩, ⟨(some 44), none, (.ext (.t 35) 1)⟩, ⟨(some 45), none, (.ext (.t 35) 2)⟩, ⟨(some 10), none, (.alloc false [nilS, (.int .i64 0), (.int .i64 0), (.int .i64 0), nilS, (.int .i64 0)])⟩, ⟨none, none, (.st 6 (.t 10) (.t 43))⟩, ⟨(some 11), none, (.mv (.t 44))⟩, ⟨(some 12), none, (.mv (.t 45))⟩]) (.seq (.seq (.reg none [⟨(some 46), none, (.fa 4 1 false (.t 6))⟩, ⟨(some 47), none, (.ld none (.t 46))⟩, ⟨(some 48), none, (.len 1 (.t 47))⟩, ⟨(some 49), none, (.bin .geq [] (.t 48) (.k (.int .i64 40)))⟩]) (.cond (.t 49) (.seq (.reg none [⟨(some 50), none, (.ld (some 6) (.t 6))⟩, ⟨(some 51), none, (.ld (some 6) (.t 10))⟩, ⟨(some 52), none, (.call (.f 15) [(.t 50), (.t 51)])⟩, ⟨(some 13), none, (.mv (.t 52))⟩]) (.seq (.reg none [⟨(some 53), none, (.mv (.t 5))⟩, ⟨(some 54), none, (.mv (.t 53))⟩, ⟨(some 55), (some ((some 54), true)), (.mv (.t 12))⟩, ⟨(some 56), none, (.pick (.t 54) (.t 55) (.k (.bool false)))⟩, ⟨(some 57), none, (.mv (.t 56))⟩, ⟨(some 58), (some ((some 57), true)), (.mv (.t 13))⟩, ⟨(some 59), none, (.pick (.t 57) (.t 58) (.k (.bool false)))⟩, ⟨(some 4), none, (.mv (.t 59))⟩]) .ret)) .skip)) (.seq (.seq (.reg (some [(8, 10), (16, 19), (26, 28), (26, 33), (28, 33), (30, 33), (31, 33)]) [⟨(some 60), none, (.mv (.t 12))⟩, ⟨(some 61), none, (.un .not (.t 60))⟩, ⟨(some 62), none, (.mv (.t 61))⟩, ⟨(some 63), (some ((some 62), false)), (.mv (.t 11))⟩, ⟨(some 64), (some ((some 62), false)), (.bin .eql [] (.t 63) (.k (.int .i64 0)))⟩, ⟨(some 65), none, (.pick (.t 62) (.k (.bool true)) (.t 64))⟩, ⟨(some 66), none, (.mv (.t 65))⟩, ⟨(some 67), (some ((some 66), false)), (.fa 5 1 false (.t 10))⟩, ⟨(some 68), (some ((some 66), false)), (.ld none (.t 67))⟩, ⟨(some 69), (some ((some 66), false)), (.fa 5 1 false (.t 6))⟩, ⟨(some 70), (some ((some 66), false)), (.ld none (.t 69))⟩, ⟨(some 71), (some ((some 66), false)), (.bin .add [] (.t 70) (.k (.int .i64 1)))⟩, ⟨(some 72), (some ((some 66), false)), (.bin .neq [] (.t 68) (.t 71))⟩, ⟨(some 73), none, (.pick (.t 66) (.k (.bool true)) (.t 72))⟩, ⟨(some 74), none, (.mv (.t 73))⟩, ⟨(some 75), (some ((some 74), false)), (.fa 4 1 false (.t 10))⟩, ⟨(some 76), (some ((some 74), false)), (.ld none (.t 75))⟩, ⟨(some 77), (some ((some 74), false)), (.len 1 (.t 76))⟩, ⟨(some 78), (some ((some 74), false)), (.fa 4 1 false (.t 6))⟩, ⟨(some 79), (some ((some 74), false)), (.ld none (.t 78))⟩, ⟨(some 80), (some ((some 74), false)), (.len 1 (.t 79))⟩, ⟨(some 81), (some ((some 74), false)), (.bin .add [] (.t 80) (.k (.int .i64 1)))⟩, ⟨(some 82), (some ((some 74), false)), (.bin .neq [] (.t 77) (.t 81))⟩, ⟨(some 83), none, (.pick (.t 74) (.k (.bool true)) (.t 82))⟩, ⟨(some 84), none, (.mv (.t 83))⟩, ⟨(some 85), (some ((some 84), false)), (.fa 4 1 false (.t 10))⟩, ⟨(some 86), (some ((some 84), false)), (.ld none (.t 85))⟩, ⟨(some 87), (some ((some 84), false)), (.fa 4 1 false (.t 6))⟩, ⟨(some 88), (some ((some 84), false)), (.ld none (.t 87))⟩, ⟨(some 89), (some ((some 84), false)), (.len 1 (.t 88))⟩, ⟨(some 90), (some ((some 84), false)), (.ia none 1 false (.t 86) (.t 89))⟩, ⟨(some 91), (some ((some 84), false)), (.ld none (.t 90))⟩, ⟨(some 92), (some ((some 84), false)), (.fa 5 1 false (.t 6))⟩, ⟨(some 93), (some ((some 84), false)), (.ld none (.t 92))⟩, ⟨(some 94), (some ((some 84), false)), (.bin .neq [] (.t 91) (.t 93))⟩, ⟨(some 95), none, (.pick (.t 84) (.k (.bool true)) (.t 94))⟩]) (.cond (.t 95) (.seq (.reg none [⟨(some 4), none, (.mv (.k (.bool false)))⟩]) .ret) .skip)) (.seq (.reg none [⟨(some 96), none, (.fa 4 1 false (.t 10))⟩, ⟨(some 97), none, (.ld none (.t 96))⟩, ⟨(some 98), none, (.fa 4 1 false (.t 6))⟩, ⟨(some 99), none, (.ld none (.t 98))⟩, ⟨(some 100), none, (.len 1 (.t 99))⟩, ⟨(some 101), none, (.sub 1 1 (.t 97) none (some (.t 100)) none)⟩, ⟨(some 102), none, (.fa 4 1 false (.t 10))⟩, ⟨none, none, (.st 1 (.t 102) (.t 101))⟩]) (.seq (.reg none [⟨(some 103), none, (.fa 5 1 false (.t 6))⟩, ⟨(some 104), none, (.ld none (.t 103))⟩, ⟨(some 105), none, (.fa 5 1 false (.t 10))⟩, ⟨none, none, (.st 1 (.t 105) (.t 104))⟩]) (.seq (.reg none [⟨(some 106), none, (.ld (some 6) (.t 6))⟩, ⟨(some 107), none, (.ld (some 6) (.t 10))⟩, ⟨(some 108), none, (.call (.f 15) [(.t 106), (.t 107)])⟩, ⟨(some 14), none, (.mv (.t 108))⟩]) (.seq (.reg none [⟨(some 109), none, (.mv (.t 5))⟩, ⟨(some 110), none, (.mv (.t 109))⟩, ⟨(some 111), (some ((some 110), true)), (.mv (.t 14))⟩, ⟨(some 112), none, (.pick (.t 110) (.t 111) (.k (.bool false)))⟩, ⟨(some 4), none, (.mv (.t 112))⟩]) .ret))))))))))
def c225 : Fn' := ⟨113, [(.tmp 4)], (.seq (.reg none [⟨(some 2), none, (.box false (.t 0))⟩, ⟨(some 4), none, (.mv (.k (.bool false)))⟩]) (.seq (.reg none [⟨(some 15), none, (.call (.f 8) [])⟩, ⟨(some 5), none, (.mv (.t 15))⟩]) (.seq (.seq (.reg none [⟨(some 16), none, (.mv (.t 1))⟩, ⟨(some 17), none, (.len 1 (.t 16))⟩, ⟨(some 18), none, (.bin .gtr [] (.t 17) (.k (.int .i64 30)))⟩]) (.cond (.t 18) (.reg none [⟨(some 19), none, (.mv (.t 1))⟩, ⟨(some 20), none, (.sub 1 3 (.t 19) none (some (.k (.int .i64 30))) none)⟩, ⟨(some 1), none, (.mv (.t 20))⟩]) .skip)) r225)))⟩
theorem k225 : compF Try.prog 7 = some c225 := by kernel_rfl
attribute [local simp] op_or op_an op_add op_sub op_mul oq_eql oq_neq oq_lss oq_gtr oq_leq oq_geq
attribute [-simp] intOp bin_shl
set_option maxHeartbeats 8000000 in
theorem R225 (a0 a1 a2 a3 a4 a5 a6 a7 n0 k0 m0 g0 : Int) (hts : ∀ x ∈ [a0, a1, a2, a3, a4, a5, a6, a7], 0 ≤ x ∧ x < 256) (hn : 0 ≤ n0 ∧ n0 < 256) (hk : 0 ≤ k0 ∧ k0 < 256) (hm : 0 ≤ m0 ∧ m0 < 256) (hg : 0 ≤ g0 ∧ g0 < 256) (v15 v16 v17 v18 v19 v20 : D) (c : Bool) (s : Nat) (l : List B3) (hs : s = 3 ∨ l = []) (hl : l.length ≤ 30) (hB : ∀ x ∈ l, (0 ≤ x.1 ∧ x.1 < 256) ∧ (0 ≤ x.2.1 ∧ x.2.1 < 256) ∧ (0 ≤ x.2.2 ∧ x.2.2 < 256)) :
    finK false 0 [.tmp 4] (Ek cf0 K0 [.c r225] ⟨[.agg [.int .u8 a0, .int .u8 a1, .int .u8 a2, .int .u8 a3, .int .u8 a4, .int .u8 a5, .int .u8 a6, .int .u8 a7, .int .u8 n0, .int .u8 k0, .int .u8 m0, .int .u8 g0], .slc c s (l.map B3.d), .ptr 0 0 0 0, .undef, .bool false, .bool true, .undef, .undef, .undef, .undef, .undef, .undef, .undef, .undef, .undef, v15, v16, v17, v18, v19, v20, .undef, .undef, .undef, .undef, .undef, .undef, .undef, .undef, .undef, .undef, .undef, .undef, .undef, .undef, .undef, .undef, .undef, .undef, .undef, .undef, .undef, .undef, .undef, .undef, .undef, .undef, .undef, .undef, .undef, .undef, .undef, .undef, .undef, .undef, .undef, .undef, .undef, .undef, .undef, .undef, .undef, .undef, .undef, .undef, .undef, .undef, .undef, .undef, .undef, .undef, .undef, .undef, .undef, .undef, .undef, .undef, .undef, .undef, .undef, .undef, .undef, .undef, .undef, .undef, .undef, .undef, .undef, .undef, .undef, .undef, .undef, .undef, .undef, .undef, .undef, .undef, .undef, .undef, .undef, .undef, .undef, .undef, .undef, .undef, .undef, .undef, .undef, .undef, .undef, .undef, .undef, .undef], [.box [.int .u8 a0, .int .u8 a1, .int .u8 a2, .int .u8 a3, .int .u8 a4, .int .u8 a5, .int .u8 a6, .int .u8 a7, .int .u8 n0, .int .u8 k0, .int .u8 m0, .int .u8 g0]]⟩) = some (.bool true, []) := by
  have hM := K217 [a0, a1, a2, a3, a4, a5, a6, a7] n0 k0 m0 g0 hts hn hk hm hg rfl
  have hok := madeS_ok (n := n0) (k := k0) (m := m0) (g := g0) hts rfl hk.1
  generalize madeS [a0, a1, a2, a3, a4, a5, a6, a7] n0 k0 m0 g0 = M at *
  obtain ⟨mts, mk, mm, mg⟩ := M
  simp only [List.map_cons, List.map_nil, List.cons_append, List.nil_append] at hM hok
  obtain ⟨acc, hacc, hR⟩ := K215 false 1 mts mk mm mg c s l (.inl rfl) hs (by omega) hB
  have hfit := madeI_fits (s := (mts, mk, mm, mg)) hok l
  have hml := madeI_len (mts, mk, mm, mg) l
  have hst := madeI_st (s := (mts, mk, mm, mg)) hok l
  rw [← hacc] at hfit hml hst
  rw [List.length_map] at hml
  have hmay : ∀ e ∈ acc, mayOf e.r = true := fun e he => fitsR_may _ _ _ hfit _ (List.mem_map_of_mem he)
  have hA := K216 false 7 acc (.inl rfl) (by omega) (fun e he => by have := mayOf_len (hmay e he); omega)
  have hpl := putsR_len (acc.map RcE.r)
  rw [List.length_map] at hpl
  have hpB := isB_putsR (acc.map RcE.r)
  have hall := allI_all hfit
  have hsch := stR_sch (acc.map RcE.r) noSt (by simp [noSt, noSc])
  have hpos : 0 < (putsR (acc.map RcE.r)).length := by
    rw [hacc]
    unfold madeI
    have hm1 : mayOf (1, (mts, mk, mm, mg), [], 0) = true := applyI_may (x := noSt) (by rw [applyI_head hok])
    rw [putsR_cons hm1, List.length_append]
    have := recOf_len hm1
    omega
  generalize hal : putsR (acc.map RcE.r) = al at *
  obtain ⟨r1, r2, r3, r4, z1, z2, hFull⟩ := K200 false 1 al (.inl rfl) (by omega) hpB
  rw [hall] at hFull z1 z2
  generalize stR noSt (acc.map RcE.r) = y at *
  obtain ⟨hy1, hy2, hy3, hy4, hy5⟩ := hst
  simp only [List.length_nil, Nat.sub_zero] at hFull
  have zal := ltI_t (show (0 : Int) < al.length by omega)
  -- the head, and what is added behind it
  have hsy : schemaOk y.1.1 y.1.2.1 y.1.2.2.1 y.1.2.2.2 = true := by rw [hy1]; exact hok
  obtain ⟨hhm, hha⟩ := head_fits hsy hy5 (by omega) (by omega)
  obtain ⟨q, hH⟩ := K204 y r1 r2 r3 r4 z2 (by omega)
  obtain ⟨E, hE⟩ : ∃ E : List RcE, E = [⟨(1, y.1, y.2.1, y.2.2), r1, r2, q, 1, z1, .inl rfl⟩, ⟨(2, noSc, [], y.2.2), true, 0, true, 0, .inr rfl, .inr rfl⟩] := ⟨_, rfl⟩
  have hEr : E.map RcE.r = [(1, y.1, y.2.1, y.2.2), (2, noSc, [], y.2.2)] := by rw [hE]; rfl
  have hmay2 : mayOf (2, noSc, [], y.2.2) = true := by
    unfold mayOf mayI
    simp only [noSc, List.any_nil, Bool.or_false]
    rw [Bool.and_eq_true, Bool.not_eq_true', Bool.or_eq_false_iff]
    exact ⟨⟨by rw [odd_iff]; omega, by simp⟩, by simp [bare]⟩
  have hadd : applyI y (2, noSc, [], y.2.2) = ((y.1, y.2.1 ++ [y.2.2], y.2.2 + 1), true) := by
    unfold applyI
    rw [hmay2, if_neg (by decide), if_neg (show ¬ (2 : Int) = 1 by decide)]
    simp only
    rw [if_neg (by omega), if_pos trivial, if_pos (by omega)]
  have hfit2 : fitsR noSt true (E.map RcE.r) := by
    rw [hEr]
    exact ⟨by rw [hha], rfl, by rw [hha, hadd], rfl, trivial⟩
  have hst2 : stR noSt (E.map RcE.r) = (y.1, y.2.1 ++ [y.2.2], y.2.2 + 1) := by
    rw [hEr]
    simp only [stR, hha, hadd]
  have hA2 := K216 true 7 E (.inl rfl) (by rw [hE]; simp) (fun e he => by
    have := mayOf_len (fitsR_may _ _ _ hfit2 _ (List.mem_map_of_mem he)); omega)
  have hpl2 := putsR_len (E.map RcE.r)
  have hpB2 := isB_putsR (E.map RcE.r)
  have hall2 := allI_all hfit2
  have hpos2 : 0 < (putsR (E.map RcE.r)).length := by
    rw [hEr, putsR_cons hhm, List.length_append]
    have := recOf_len hhm
    omega
  have hEl : (E.map RcE.r).length = 2 := by rw [hEr]; rfl
  rw [hEl] at hpl2
  generalize putsR (E.map RcE.r) = P2 at *
  obtain ⟨u1, u2, u3, u4, w1, w2, hFull2⟩ := K200 false 1 P2 (.inl rfl) (by omega) hpB2
  rw [hall2, hst2] at hFull2 w1 w2
  obtain rfl := w2.resolve_right (by simp)
  simp only [List.length_nil, Nat.sub_zero] at hFull2
  have zp2 := ltI_t (show (0 : Int) < P2.length by omega)
  have ep2 : eqI (P2.length : Int) 0 = false := eqI_f (by omega)
  have z40 : leI 40 (y.2.1.length : Int) = false := leI_f (by omega)
  have wn : IntKind.i64.wrap (y.2.2 + 1) = y.2.2 + 1 := w64 _ (by omega)
  have wl : IntKind.i64.wrap ((y.2.1.length : Int) + 1) = (y.2.1.length : Int) + 1 := w64 _ (by omega)
  have nn : neI (y.2.2 + 1) (y.2.2 + 1) = false := neI_f rfl
  have nm : neI y.2.2 y.2.2 = false := neI_f rfl
  have nl : neI ((y.2.1.length : Int) + 1) ((y.2.1.length : Int) + 1) = false := neI_f rfl
  obtain ⟨⟨ts, k, m, g⟩, ids, nx⟩ := y
  simp only at *
  have hSame := fun f1 => K214 ((ts, k, m, g), ids, nx) ((ts, k, m, g), ids, nx) r1 r2 r3 r4 u1 u2 f1 1 z1 z2 w1 (.inl rfl) (by simp only; omega) (by simp only; omega)
  simp only [decide_true] at hSame
  obtain ⟨T, hT⟩ : ∃ T, T = ids ++ [nx] := ⟨_, rfl⟩
  have hTl : T.length = ids.length + 1 := by rw [hT]; simp
  have hlt : ids.length < T.length := by omega
  have hle : ids.length ≤ T.length := by omega
  have hlei : (ids.length : Int) ≤ T.length := by omega
  have hb5 : (ids.length : Int) ≤ ids.length + 1 := by omega
  have hTg : T[ids.length]'hlt = nx := by simp only [hT]; simp
  have hTt : List.take ids.length (T.map (D.int .i64)) = ids.map (D.int .i64) := by rw [hT]; simp
  rw [← hT] at hFull2
  simp only [StD, Sd] at hFull hR hA hM hH hFull2 hSame
  simp only [hE, RcE.d, Rcd, noSc, List.map_cons, List.map_nil] at hA2
  simp only [Rcd] at hH
  simp [r225, hM, hR, hA, hFull, zal, hH, hA2, hFull2, zp2, ep2, z40, wn, wl, nn, nm, nl, hTl, hlt, hle, hlei, hb5, hTg, hTt, hSame, evOp, evM, wants, Ins.go, X.ev, iaM, ldM, binD, setD, applyW, Ek_ops_nil, allFree, free, callM, callP, callO, appM]
set_option maxHeartbeats 8000000 in
/-- thresherlaw17.ReplayHeads. -/
theorem K225 (a0 a1 a2 a3 a4 a5 a6 a7 n0 k0 m0 g0 : Int) (hts : ∀ x ∈ [a0, a1, a2, a3, a4, a5, a6, a7], 0 ≤ x ∧ x < 256) (hn : 0 ≤ n0 ∧ n0 < 256) (hk : 0 ≤ k0 ∧ k0 < 256) (hm : 0 ≤ m0 ∧ m0 < 256) (hg : 0 ≤ g0 ∧ g0 < 256) (c : Bool) (l : List B3) (hB : ∀ x ∈ l, (0 ≤ x.1 ∧ x.1 < 256) ∧ (0 ≤ x.2.1 ∧ x.2.1 < 256) ∧ (0 ≤ x.2.2 ∧ x.2.2 < 256)) :
    K0 7 [.agg [.int .u8 a0, .int .u8 a1, .int .u8 a2, .int .u8 a3, .int .u8 a4, .int .u8 a5, .int .u8 a6, .int .u8 a7, .int .u8 n0, .int .u8 k0, .int .u8 m0, .int .u8 g0], .slc c 3 (l.map B3.d)] [] = some (.bool true, []) := by
  refine K_call k225 (oraG_none (by decide) (by decide)) (by simp [c225]) ?_
  obtain ⟨t, ht⟩ : ∃ t, l.take 30 = t := ⟨_, rfl⟩
  have htl : t.length ≤ 30 := by rw [← ht]; simp; omega
  have htB : ∀ x ∈ t, (0 ≤ x.1 ∧ x.1 < 256) ∧ (0 ≤ x.2.1 ∧ x.2.1 < 256) ∧ (0 ≤ x.2.2 ∧ x.2.2 < 256) := fun x hx => hB x (by rw [← ht] at hx; exact List.mem_of_mem_take hx)
  have m1 : List.take 30 (l.map B3.d) = t.map B3.d := by rw [← ht]; simp [List.map_take]
  by_cases h30 : 30 < (l.length : Int)
  · have z := ltI_t h30
    have b1 : (30 : Int) ≤ l.length := by omega
    have b2 : 30 ≤ l.length := by omega
    simp [c225, K219, z, b1, b2, m1]
    exact R225 a0 a1 a2 a3 a4 a5 a6 a7 n0 k0 m0 g0 hts hn hk hm hg _ _ _ _ _ _ _ 3 t (.inl rfl) htl htB
  · have z := ltI_f h30
    obtain rfl : l = t := by rw [← ht, List.take_of_length_le (by omega)]
    simp [c225, K219, z]
    exact R225 a0 a1 a2 a3 a4 a5 a6 a7 n0 k0 m0 g0 hts hn hk hm hg _ _ _ _ _ _ c 3 l (.inl rfl) htl htB
end Go.Ab
