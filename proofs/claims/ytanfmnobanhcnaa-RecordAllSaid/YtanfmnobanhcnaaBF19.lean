/- THE FUNCTIONS' EQUATIONS: record.Take. -/
import Derived.Test.YtanfmnobanhcnaaBF42
import Derived.Test.YtanfmnobanhcnaaBF75
import Derived.Test.YtanfmnobanhcnaaBF16
set_option linter.all false
set_option maxRecDepth 100000
namespace Go.Ab
open Go.Proofs Go.Proofs.YtanfmnobanhcnaaH Go.Proofs.YtanfmnobanhcnaaH.Crc Go.Proofs.YtanfmnobanhcnaaH.Var Go.Proofs.YtanfmnobanhcnaaH.Fr Go.Proofs.YtanfmnobanhcnaaH.Rec
def c19 : Fn' := ⟨62, [(.cell 2 (some 7)), (.tmp 3), (.tmp 4)], (.seq (.reg none [⟨(some 2), none, (.alloc false [(.int .i64 0), nilS, (.int .i64 0), (.int .i64 0), (.int .i64 0), nilS, (.int .i64 0)])⟩, ⟨(some 3), none, (.mv (.k (.int .i64 0)))⟩, ⟨(some 4), none, (.mv (.k (.int .i64 0)))⟩]) (.seq (.reg none [⟨(some 13), none, (.mv (.t 0))⟩, ⟨(some 14), none, (.call (.f 41) [(.t 13)])⟩, ⟨(some 12), none, (.mv (.t 14))⟩, ⟨(some 15), none, (.ext (.t 12) 0)⟩, ⟨(some 16), none, (.ext (.t 12) 1)⟩, ⟨(some 17), none, (.ext (.t 12) 2)⟩, ⟨(some 5), none, (.mv (.t 15))⟩, ⟨(some 6), none, (.mv (.t 16))⟩, ⟨(some 7), none, (.mv (.t 17))⟩]) (.seq (.block 0 (.seq (.reg none [⟨(some 19), none, (.mv (.t 7))⟩, ⟨(some 20), none, (.bin .neq [] (.t 19) (.k (.int .i64 0)))⟩, ⟨(some 18), none, (.mv (.t 20))⟩]) (.cond (.t 18) (.seq (.reg none [⟨(some 21), none, (.bld [(.int .i64 0), nilS, (.int .i64 0), (.int .i64 0), (.int .i64 0), nilS, (.int .i64 0)] [])⟩, ⟨(some 22), none, (.mv (.t 7))⟩, ⟨none, none, (.st 7 (.t 2) (.t 21))⟩, ⟨(some 3), none, (.mv (.k (.int .i64 0)))⟩, ⟨(some 4), none, (.mv (.t 22))⟩]) .ret) (.seq (.reg none [⟨(some 24), none, (.mv (.t 5))⟩, ⟨(some 25), none, (.len 1 (.t 24))⟩, ⟨(some 26), none, (.bin .eql [] (.t 25) (.k (.int .i64 0)))⟩, ⟨(some 23), none, (.mv (.t 26))⟩]) (.cond (.t 23) (.seq (.reg none [⟨(some 27), none, (.bld [(.int .i64 0), nilS, (.int .i64 0), (.int .i64 0), (.int .i64 0), nilS, (.int .i64 0)] [])⟩, ⟨none, none, (.st 7 (.t 2) (.t 27))⟩, ⟨(some 3), none, (.mv (.k (.int .i64 0)))⟩, ⟨(some 4), none, (.mv (.k (.int .i64 10)))⟩]) .ret) .skip))))) (.seq (.reg none [⟨(some 28), none, (.mv (.t 5))⟩, ⟨(some 29), none, (.sub 1 1 (.t 28) (some (.k (.int .i64 1))) none none)⟩, ⟨(some 30), none, (.bld [nilS, (.bool false)] [(0, (1, (.t 29)))])⟩, ⟨(some 31), none, (.box false (.t 30))⟩, ⟨(some 8), none, (.mv (.t 31))⟩]) (.seq (.reg none [⟨(some 32), none, (.mv (.t 8))⟩, ⟨(some 33), none, (.mv (.t 5))⟩, ⟨(some 34), none, (.ia none 1 false (.t 33) (.k (.int .i64 0)))⟩, ⟨(some 35), none, (.ld none (.t 34))⟩, ⟨(some 36), none, (.cvt (.int .i64) (.t 35))⟩, ⟨(some 37), none, (.call (.f 42) [(.t 32), (.t 36)])⟩, ⟨(some 9), none, (.alloc false [(.int .i64 0), nilS, (.int .i64 0), (.int .i64 0), (.int .i64 0), nilS, (.int .i64 0)])⟩, ⟨none, none, (.st 7 (.t 9) (.t 37))⟩]) (.seq (.reg none [⟨(some 39), none, (.ld (some 7) (.t 9))⟩, ⟨(some 40), none, (.call (.f 16) [(.t 39)])⟩, ⟨(some 38), none, (.mv (.t 40))⟩, ⟨(some 41), none, (.ext (.t 38) 0)⟩, ⟨(some 42), none, (.ext (.t 38) 1)⟩, ⟨(some 10), none, (.mv (.t 41))⟩, ⟨(some 11), none, (.mv (.t 42))⟩]) (.seq (.seq (.reg none [⟨(some 43), none, (.mv (.t 8))⟩, ⟨(some 44), none, (.nc (.t 43))⟩, ⟨(some 45), none, (.fa 1 1 false (.t 44))⟩, ⟨(some 46), none, (.ld none (.t 45))⟩, ⟨(some 47), none, (.mv (.t 46))⟩, ⟨(some 48), (some ((some 47), false)), (.mv (.t 11))⟩, ⟨(some 49), (some ((some 47), false)), (.un .not (.t 48))⟩, ⟨(some 50), none, (.pick (.t 47) (.k (.bool true)) (.t 49))⟩, ⟨(some 51), none, (.mv (.t 50))⟩, ⟨(some 52), (some ((some 51), false)), (.mv (.t 10))⟩, ⟨(some 53), (some ((some 51), false)), (.mv (.t 0))⟩, ⟨(some 54), (some ((some 51), false)), (.mv (.t 6))⟩, ⟨(some 55), (some ((some 51), false)), (.sub 1 1 (.t 53) none (some (.t 54)) none)⟩, ⟨(some 56), (some ((some 51), false)), (.call (.f 43) [(.t 52), (.t 55)])⟩, ⟨(some 57), (some ((some 51), false)), (.un .not (.t 56))⟩, ⟨(some 58), none, (.pick (.t 51) (.k (.bool true)) (.t 57))⟩]) (.cond (.t 58) (.seq (.reg none [⟨(some 59), none, (.bld [(.int .i64 0), nilS, (.int .i64 0), (.int .i64 0), (.int .i64 0), nilS, (.int .i64 0)] [])⟩, ⟨none, none, (.st 7 (.t 2) (.t 59))⟩, ⟨(some 3), none, (.mv (.k (.int .i64 0)))⟩, ⟨(some 4), none, (.mv (.k (.int .i64 10)))⟩]) .ret) .skip)) (.seq (.reg none [⟨(some 60), none, (.ld (some 7) (.t 9))⟩, ⟨(some 61), none, (.mv (.t 6))⟩, ⟨none, none, (.st 7 (.t 2) (.t 60))⟩, ⟨(some 3), none, (.mv (.t 61))⟩, ⟨(some 4), none, (.mv (.k (.int .i64 0)))⟩]) .ret))))))))⟩
theorem k19 : compF Try.prog 19 = some c19 := by kernel_rfl
attribute [local simp] op_or op_an op_add op_sub op_mul oq_eql oq_neq oq_lss oq_gtr oq_leq oq_geq
attribute [-simp] intOp bin_shl
theorem schT_len (l : List Int) : (schT l).1.1.length ≤ 64 := by
  unfold schT
  split
  · simp [noSch]
  · split
    · simp [noSch]
    · split
      · split
        · rename_i h
          have := (schemaOk_iff.1 h).1
          simpa using this.2
        · simp [noSch]
      · simp [noSch]
theorem recR_len (kd : Int) (l : List Int) (b : Bool) : (recR kd l b).1.2.1.1.length ≤ 64 ∧ (recR kd l b).1.2.2.1.length ≤ 40 := by
  have h1 : ∀ s, s.1.1.length ≤ 64 → (recR2 kd s).1.2.1.1.length ≤ 64 ∧ (recR2 kd s).1.2.2.1.length ≤ 40 := by
    intro s hs
    unfold recR2
    split
    · exact ⟨hs, by simp⟩
    · simp only
      split
      · exact ⟨hs, by simp⟩
      · refine ⟨hs, ?_⟩
        simp only [idsN_len]
        omega
  refine h1 _ ?_
  split
  · unfold schR
    split
    · simp
    · exact schT_len _
  · simp
theorem recR_kd (kd : Int) (l : List Int) (b : Bool) : (recR kd l b).1.1 = kd := by
  unfold recR recR2
  generalize (if kd = 1 then schR l b else (([], 0, 0, 0), l, b)) = s
  split
  · rfl
  · simp only
    split
    · rfl
    · rfl
/-- A record that is read. -/
def RcV (x : RecV) (c : Bool) (s : Nat) (c' : Bool) (s' : Nat) : D := Rcd x.1 c s x.2.1.1 x.2.1.2.1 x.2.1.2.2.1 x.2.1.2.2.2 c' s' x.2.2.1 x.2.2.2
theorem recTake_err {l : List Int} (h : ¬ (unframeI l).2.2 = 0) : recTake l = (noRec, 0, (unframeI l).2.2) := by unfold recTake; simp only; rw [if_pos h]
theorem recTake_nil {l : List Int} (h : (unframeI l).2.2 = 0) (h2 : (unframeI l).1 = []) : recTake l = (noRec, 0, 10) := by unfold recTake; simp only; rw [if_neg (by rw [h]; decide), if_pos (by rw [h2]; rfl)]
theorem recTake_some {l : List Int} (h : (unframeI l).2.2 = 0) {x : Int} {r : List Int} (h2 : (unframeI l).1 = x :: r) : recTake l =
    if (recR x r false).2.2 = true ∨ (putOf (recR x r false).1).2 = false ∨ (putOf (recR x r false).1).1 ≠ l.take (unframeI l).2.1.toNat then (noRec, 0, 10) else ((recR x r false).1, (unframeI l).2.1, 0) := by
  unfold recTake; simp only; rw [if_neg (by rw [h]; decide), if_neg (by rw [h2]; simp)]
  rw [h2]
  rfl
set_option maxHeartbeats 8000000 in
/-- record.Take. -/
theorem K19 (c : Bool) (l : List Int) (hl : l.length ≤ 2 ^ 37) (hB : isB l) : ∃ c1 s1 c2 s2, (s1 = 1 ∨ (recTake l).1.2.1.1 = []) ∧ (s2 = 1 ∨ (recTake l).1.2.2.1 = []) ∧
    K0 19 [.slc c 1 (l.map (.int .u8))] [] = some (.tuple [RcV (recTake l).1 c1 s1 c2 s2, .int .i64 (recTake l).2.1, .int .i64 (recTake l).2.2], []) := by
  obtain ⟨d, hK, hd⟩ := K41 c l (by omega) hB
  rcases hd with ⟨he, cd, rfl⟩ | ⟨he, rfl⟩
  rotate_left
  · rw [recTake_err he]
    have z1 := neI_t he
    refine ⟨true, 0, true, 0, .inr rfl, .inr rfl, K_call k19 (oraG_none (by decide) (by decide)) (by simp [c19]) ?_⟩
    simp [c19, hK, z1, RcV, Rcd, noRec]
  · have z1 := neI_f he
    have hub := isB_unframe hB
    have hus := unframe_some l hB (unframeI l).1 (unframeI l).2.1 (by rw [← he])
    cases hdat : (unframeI l).1 with
    | nil =>
      rw [recTake_nil he hdat]
      rw [hdat] at hK
      have z2 : eqI 0 0 = true := rfl
      refine ⟨true, 0, true, 0, .inr rfl, .inr rfl, K_call k19 (oraG_none (by decide) (by decide)) (by simp [c19]) ?_⟩
      simp [c19, hK, z1, z2, RcV, Rcd, noRec]
    | cons x r =>
      rw [hdat] at hub hus hK
      have hbad := fun hc => (recTake_some he hdat).trans (if_pos hc)
      have hok := fun hc => (recTake_some he hdat).trans (if_neg hc)
      have hx := hub x List.mem_cons_self
      have hrB : isB r := fun y hy => hub y (List.mem_cons_of_mem _ hy)
      have wx : IntKind.i64.wrap x = x := by rw [IntKind.wrap_i64]; omega
      have z2 : eqI ((r.length : Int) + 1) 0 = false := eqI_f (by omega)
      obtain ⟨hu1, hu2, hu3, hu4, hu5, hu6⟩ := hus
      simp only [List.length_cons] at hu5
      obtain ⟨cs, ss, c', s', e1, e2, hR⟩ := K42 cd x r (by omega) hrB
      have hln := recR_len x r false
      have hkd := recR_kd x r false
      have i1 : 1 ≤ (r.length : Int) + 1 := by omega
      obtain ⟨n, hn⟩ : ∃ n : Nat, (unframeI l).2.1 = n := ⟨(unframeI l).2.1.toNat, by omega⟩
      rw [hn] at hK hu1 hu3 hbad hok
      have hne : (Int.toNat (n : Int)) = n := by omega
      rw [hne] at hu1 hbad hok
      generalize recR x r false = q at *
      obtain ⟨⟨kd, ⟨ts, k, m, g⟩, ids, id⟩, rest, bad⟩ := q
      simp only [putOf] at e1 e2 hR hln hkd hbad hok
      subst hkd
      have hnl : n ≤ l.length := by omega
      obtain ⟨p, hp⟩ : ∃ p, l.take n = p := ⟨_, rfl⟩
      have m1 : List.take n (l.map (D.int .u8)) = p.map (D.int .u8) := by rw [← hp]; simp [List.map_take]
      have hpB : isB p := by rw [← hp]; exact isB_take hB _
      rw [hp] at hbad hok
      simp only [Rdr] at hR
      simp only [List.map_cons] at hK
      have fail : (bad = true ∨ mayI kd ts k m g ids id = false ∨ ¬ frameI (recB kd ts k m g ids id) = p) → K0 19 [.slc c 1 (l.map (.int .u8))] [] = some (.tuple [RcV noRec true 0 true 0, .int .i64 0, .int .i64 10], []) := by
        intro hcase
        refine K_call k19 (oraG_none (by decide) (by decide)) (by simp [c19]) ?_
        cases hm : mayI kd ts k m g ids id with
        | false =>
          have hP := K16_f kd cs ss ts k m g c' s' ids id e1 e2 (by omega) (by omega) hm
          simp only [Rcd] at hP hR
          cases bad <;> simp [c19, hK, z1, z2, wx, i1, hR, hP, backK, RcV, Rcd, noRec]
        | true =>
          have hP := K16_t kd cs ss ts k m g c' s' ids id e1 e2 hm
          have hfB := isB_frame (isB_recB hm)
          simp only [Rcd] at hP hR
          cases bad with
          | true => simp [c19, hK, z1, z2, wx, i1, hR, hP, backK, RcV, Rcd, noRec]
          | false =>
            have hq := fun c d => K43 c d (frameI (recB kd ts k m g ids id)) p hfB hpB
            have hf : (frameI (recB kd ts k m g ids id) == p) = false := by
              rcases hcase with h | h | h
              · cases h
              · rw [hm] at h; cases h
              · simpa using h
            rw [hf] at hq
            generalize frameI (recB kd ts k m g ids id) = F at *
            simp [c19, hK, z1, z2, wx, i1, hR, hP, hq, m1, hnl, backK, RcV, Rcd, noRec]
      by_cases hcase : bad = true ∨ mayI kd ts k m g ids id = false ∨ ¬ frameI (recB kd ts k m g ids id) = p
      · have hc : bad = true ∨ (recPut kd ts k m g ids id).2 = false ∨ (recPut kd ts k m g ids id).1 ≠ p := by
          rcases hcase with h | h | h
          · exact .inl h
          · exact .inr (.inl (by rw [recPut_2]; exact h))
          · by_cases hm : mayI kd ts k m g ids id = true
            · exact .inr (.inr (by unfold recPut; rw [if_pos hm]; exact h))
            · exact .inr (.inl (by rw [recPut_2]; simpa using hm))
        rw [hbad hc]
        exact ⟨true, 0, true, 0, .inr rfl, .inr rfl, fail hcase⟩
      · have hb : bad = false := by cases bad with | false => rfl | true => exact absurd (.inl rfl) hcase
        have hm : mayI kd ts k m g ids id = true := by cases hm : mayI kd ts k m g ids id with | true => rfl | false => exact absurd (.inr (.inl hm)) hcase
        have hf : frameI (recB kd ts k m g ids id) = p := Classical.byContradiction fun h => hcase (.inr (.inr h))
        subst hb
        have hfB := isB_frame (isB_recB hm)
        rw [hok (by unfold recPut; rw [if_pos hm]; simp [hf])]
        have hP := K16_t kd cs ss ts k m g c' s' ids id e1 e2 hm
        have hq := fun c d => K43 c d (frameI (recB kd ts k m g ids id)) p hfB hpB
        rw [hf] at hq hP
        have hpp : (p == p) = true := by simp
        rw [hpp] at hq
        simp only [Rcd] at hP hR
        refine ⟨cs, ss, c', s', e1, e2, K_call k19 (oraG_none (by decide) (by decide)) (by simp [c19]) ?_⟩
        simp [c19, hK, z1, z2, wx, i1, hR, hP, hq, m1, hnl, backK, RcV, Rcd, noRec]
end Go.Ab
