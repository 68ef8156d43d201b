/- THE FUNCTIONS' EQUATIONS: record.Take. -/
import Derived.Test.YtdopbfjebjnpkaaBF77
import Derived.Test.YtdopbfjebjnpkaaBF75
import Derived.Test.YtdopbfjebjnpkaaBF33
set_option linter.all false
set_option maxRecDepth 100000
namespace Go.Ab
open Go.Proofs Go.Proofs.YtdopbfjebjnpkaaH Go.Proofs.YtdopbfjebjnpkaaH.Crc Go.Proofs.YtdopbfjebjnpkaaH.Var Go.Proofs.YtdopbfjebjnpkaaH.Fr Go.Proofs.YtdopbfjebjnpkaaH.Rec
def c19 : Fn' := ⟨62, [(.cell 2 (some 7)), (.tmp 3), (.tmp 4)], (.seq (.reg none [⟨(some 2), none, (.alloc false [(.int .i64 0), nilS, (.int .i64 0), (.int .i64 0), (.int .i64 0), nilS, (.int .i64 0)])⟩, ⟨(some 3), none, (.mv (.k (.int .i64 0)))⟩, ⟨(some 4), none, (.mv (.k (.int .i64 0)))⟩]) (.seq (.reg none [⟨(some 13), none, (.mv (.t 0))⟩, ⟨(some 14), none, (.call (.f 40) [(.t 13)])⟩, ⟨(some 12), none, (.mv (.t 14))⟩, ⟨(some 15), none, (.ext (.t 12) 0)⟩, ⟨(some 16), none, (.ext (.t 12) 1)⟩, ⟨(some 17), none, (.ext (.t 12) 2)⟩, ⟨(some 5), none, (.mv (.t 15))⟩, ⟨(some 6), none, (.mv (.t 16))⟩, ⟨(some 7), none, (.mv (.t 17))⟩]) (.seq (.block 0 (.seq (.reg none [⟨(some 19), none, (.mv (.t 7))⟩, ⟨(some 20), none, (.bin .neq [] (.t 19) (.k (.int .i64 0)))⟩, ⟨(some 18), none, (.mv (.t 20))⟩]) (.cond (.t 18) (.seq (.reg none [⟨(some 21), none, (.bld [(.int .i64 0), nilS, (.int .i64 0), (.int .i64 0), (.int .i64 0), nilS, (.int .i64 0)] [])⟩, ⟨(some 22), none, (.mv (.t 7))⟩, ⟨none, none, (.st 7 (.t 2) (.t 21))⟩, ⟨(some 3), none, (.mv (.k (.int .i64 0)))⟩, ⟨(some 4), none, (.mv (.t 22))⟩]) .ret) (.seq (.reg none [⟨(some 24), none, (.mv (.t 5))⟩, ⟨(some 25), none, (.len 1 (.t 24))⟩, ⟨(some 26), none, (.bin .eql [] (.t 25) (.k (.int .i64 0)))⟩, ⟨(some 23), none, (.mv (.t 26))⟩]) (.cond (.t 23) (.seq (.reg none [⟨(some 27), none, (.bld [(.int .i64 0), nilS, (.int .i64 0), (.int .i64 0), (.int .i64 0), nilS, (.int .i64 0)] [])⟩, ⟨none, none, (.st 7 (.t 2) (.t 27))⟩, ⟨(some 3), none, (.mv (.k (.int .i64 0)))⟩, ⟨(some 4), none, (.mv (.k (.int .i64 10)))⟩]) .ret) .skip))))) (.seq (.reg none [⟨(some 28), none, (.mv (.t 5))⟩, ⟨(some 29), none, (.sub 1 1 (.t 28) (some (.k (.int .i64 1))) none none)⟩, ⟨(some 30), none, (.bld [nilS, (.bool false)] [(0, (1, (.t 29)))])⟩, ⟨(some 31), none, (.box false (.t 30))⟩, ⟨(some 8), none, (.mv (.t 31))⟩]) (.seq (.reg none [⟨(some 32), none, (.mv (.t 8))⟩, ⟨(some 33), none, (.mv (.t 5))⟩, ⟨(some 34), none, (.ia none 1 false (.t 33) (.k (.int .i64 0)))⟩, ⟨(some 35), none, (.ld none (.t 34))⟩, ⟨(some 36), none, (.cvt (.int .i64) (.t 35))⟩, ⟨(some 37), none, (.call (.f 41) [(.t 32), (.t 36)])⟩, ⟨(some 9), none, (.alloc false [(.int .i64 0), nilS, (.int .i64 0), (.int .i64 0), (.int .i64 0), nilS, (.int .i64 0)])⟩, ⟨none, none, (.st 7 (.t 9) (.t 37))⟩]) (.seq (.reg none [⟨(some 39), none, (.ld (some 7) (.t 9))⟩, ⟨(some 40), none, (.call (.f 29) [(.t 39)])⟩, ⟨(some 38), none, (.mv (.t 40))⟩, ⟨(some 41), none, (.ext (.t 38) 0)⟩, ⟨(some 42), none, (.ext (.t 38) 1)⟩, ⟨(some 10), none, (.mv (.t 41))⟩, ⟨(some 11), none, (.mv (.t 42))⟩]) (.seq (.seq (.reg none [⟨(some 43), none, (.mv (.t 8))⟩, ⟨(some 44), none, (.nc (.t 43))⟩, ⟨(some 45), none, (.fa 1 1 false (.t 44))⟩, ⟨(some 46), none, (.ld none (.t 45))⟩, ⟨(some 47), none, (.mv (.t 46))⟩, ⟨(some 48), (some ((some 47), false)), (.mv (.t 11))⟩, ⟨(some 49), (some ((some 47), false)), (.un .not (.t 48))⟩, ⟨(some 50), none, (.pick (.t 47) (.k (.bool true)) (.t 49))⟩, ⟨(some 51), none, (.mv (.t 50))⟩, ⟨(some 52), (some ((some 51), false)), (.mv (.t 10))⟩, ⟨(some 53), (some ((some 51), false)), (.mv (.t 0))⟩, ⟨(some 54), (some ((some 51), false)), (.mv (.t 6))⟩, ⟨(some 55), (some ((some 51), false)), (.sub 1 1 (.t 53) none (some (.t 54)) none)⟩, ⟨(some 56), (some ((some 51), false)), (.call (.f 42) [(.t 52), (.t 55)])⟩, ⟨(some 57), (some ((some 51), false)), (.un .not (.t 56))⟩, ⟨(some 58), none, (.pick (.t 51) (.k (.bool true)) (.t 57))⟩]) (.cond (.t 58) (.seq (.reg none [⟨(some 59), none, (.bld [(.int .i64 0), nilS, (.int .i64 0), (.int .i64 0), (.int .i64 0), nilS, (.int .i64 0)] [])⟩, ⟨none, none, (.st 7 (.t 2) (.t 59))⟩, ⟨(some 3), none, (.mv (.k (.int .i64 0)))⟩, ⟨(some 4), none, (.mv (.k (.int .i64 10)))⟩]) .ret) .skip)) (.seq (.reg none [⟨(some 60), none, (.ld (some 7) (.t 9))⟩, ⟨(some 61), none, (.mv (.t 6))⟩, ⟨none, none, (.st 7 (.t 2) (.t 60))⟩, ⟨(some 3), none, (.mv (.t 61))⟩, ⟨(some 4), none, (.mv (.k (.int .i64 0)))⟩]) .ret))))))))⟩
theorem k19 : compF Try.prog 23 = some c19 := by kernel_rfl
attribute [local simp] op_or op_an op_add op_sub op_mul oq_eql oq_neq oq_lss oq_gtr oq_leq oq_geq
attribute [-simp] intOp bin_shl
theorem schT_len (l : List Int) : (schT l).1.1.length ≤ 64 := by
  unfold schT
  split
  · simp [noSch]
  · split
    · simp [noSch]
    · split
      · split
        · rename_i h
          have := (schemaOk_iff.1 h).1
          simpa using this.2
        · simp [noSch]
      · simp [noSch]
theorem recR_len (kd : Int) (l : List Int) (b : Bool) : (recR kd l b).1.2.1.1.length ≤ 64 ∧ (recR kd l b).1.2.2.1.length ≤ 40 := by
  have h1 : ∀ s, s.1.1.length ≤ 64 → (recR2 kd s).1.2.1.1.length ≤ 64 ∧ (recR2 kd s).1.2.2.1.length ≤ 40 := by
    intro s hs
    unfold recR2
    split
    · exact ⟨hs, by simp⟩
    · simp only
      split
      · exact ⟨hs, by simp⟩
      · refine ⟨hs, ?_⟩
        simp only [idsN_len]
        omega
  refine h1 _ ?_
  split
  · unfold schR
    split
    · simp
    · exact schT_len _
  · simp
theorem recR_kd (kd : Int) (l : List Int) (b : Bool) : (recR kd l b).1.1 = kd := by
  unfold recR recR2
  generalize (if kd = 1 then schR l b else (([], 0, 0, 0), l, b)) = s
  split
  · rfl
  · simp only
    split
    · rfl
    · rfl
/-- A record that is read. -/
def RcV (x : RecV) (c : Bool) (s : Nat) (c' : Bool) (s' : Nat) : D := Rcd x.1 c s x.2.1.1 x.2.1.2.1 x.2.1.2.2.1 x.2.1.2.2.2 c' s' x.2.2.1 x.2.2.2
theorem recTake_err {l : List Int} (h : ¬ (unframeI l).2.2 = 0) : recTake l = (noRec, 0, (unframeI l).2.2) := by unfold recTake; simp only; rw [if_pos h]
theorem recTake_nil {l : List Int} (h : (unframeI l).2.2 = 0) (h2 : (unframeI l).1 = []) : recTake l = (noRec, 0, 10) := by unfold recTake; simp only; rw [if_neg (by rw [h]; decide), if_pos (by rw [h2]; rfl)]
theorem recTake_some {l : List Int} (h : (unframeI l).2.2 = 0) {x : Int} {r : List Int} (h2 : (unframeI l).1 = x :: r) : recTake l =
    if (recR x r false).2.2 = true ∨ (putOf (recR x r false).1).2 = false ∨ (putOf (recR x r false).1).1 ≠ l.take (unframeI l).2.1.toNat then (noRec, 0, 10) else ((recR x r false).1, (unframeI l).2.1, 0) := by
  unfold recTake; simp only; rw [if_neg (by rw [h]; decide), if_neg (by rw [h2]; simp)]
  rw [h2]
  rfl
set_option maxHeartbeats 8000000 in
/-- record.Take. -/
theorem K19 (c : Bool) (l : List Int) (hl : l.length ≤ 2 ^ 37) (hB : isB l) : ∃ c1 s1 c2 s2, (s1 = 1 ∨ (recTake l).1.2.1.1 = []) ∧ (s2 = 1 ∨ (recTake l).1.2.2.1 = []) ∧
    K0 23 [.slc c 1 (l.map (.int .u8))] [] = some (.tuple [RcV (recTake l).1 c1 s1 c2 s2, .int .i64 (recTake l).2.1, .int .i64 (recTake l).2.2], []) := by
  obtain ⟨d, hK, hd⟩ := K41 c l (by omega) hB
  rcases hd with ⟨he, cd, rfl⟩ | ⟨he, rfl⟩
  rotate_left
  · rw [recTake_err he]
    have z1 := neI_t he
    refine ⟨true, 0, true, 0, .inr rfl, .inr rfl, K_call k19 (oraG_none (by decide) (by decide)) (by simp [c19]) ?_⟩
    simp [c19, hK, z1, RcV, Rcd, noRec]
  · have z1 := neI_f he
    have hub := isB_unframe hB
    have hus := unframe_some l hB (unframeI l).1 (unframeI l).2.1 (by rw [← he])
    cases hdat : (unframeI l).1 with
    | nil =>
      rw [recTake_nil he hdat]
      rw [hdat] at hK
      have z2 : eqI 0 0 = true := rfl
      refine ⟨true, 0, true, 0, .inr rfl, .inr rfl, K_call k19 (oraG_none (by decide) (by decide)) (by simp [c19]) ?_⟩
      simp [c19, hK, z1, z2, RcV, Rcd, noRec]
    | cons x r =>
      rw [hdat] at hub hus hK
      have hbad := fun hc => (recTake_some he hdat).trans (if_pos hc)
      have hok := fun hc => (recTake_some he hdat).trans (if_neg hc)
      have hx := hub x List.mem_cons_self
      have hrB : isB r := fun y hy => hub y (List.mem_cons_of_mem _ hy)
      have wx : IntKind.i64.wrap x = x := by rw [IntKind.wrap_i64]; omega
      have z2 : eqI ((r.length : Int) + 1) 0 = false := eqI_f (by omega)
      obtain ⟨hu1, hu2, hu3, hu4, hu5, hu6⟩ := hus
      simp only [List.length_cons] at hu5
      obtain ⟨cs, ss, c', s', e1, e2, hR⟩ := K42 cd x r (by omega) hrB
      have hln := recR_len x r false
      have hkd := recR_kd x r false
      have i1 : 1 ≤ (r.length : Int) + 1 := by omega
      obtain ⟨n, hn⟩ : ∃ n : Nat, (unframeI l).2.1 = n := ⟨(unframeI l).2.1.toNat, by omega⟩
      rw [hn] at hK hu1 hu3 hbad hok
      have hne : (Int.toNat (n : Int)) = n := by omega
      rw [hne] at hu1 hbad hok
      generalize recR x r false = q at *
      obtain ⟨⟨kd, ⟨ts, k, m, g⟩, ids, id⟩, rest, bad⟩ := q
      simp only [putOf] at e1 e2 hR hln hkd hbad hok
      subst hkd
      have hnl : n ≤ l.length := by omega
      obtain ⟨p, hp⟩ : ∃ p, l.take n = p := ⟨_, rfl⟩
      have m1 : List.take n (l.map (D.int .u8)) = p.map (D.int .u8) := by rw [← hp]; simp [List.map_take]
      have hpB : isB p := by rw [← hp]; exact isB_take hB _
      rw [hp] at hbad hok
      simp only [Rdr] at hR
      simp only [List.map_cons] at hK
      have fail : (bad = true ∨ mayI kd ts k m g ids id = false ∨ ¬ frameI (recB kd ts k m g ids id) = p) → K0 23 [.slc c 1 (l.map (.int .u8))] [] = some (.tuple [RcV noRec true 0 true 0, .int .i64 0, .int .i64 10], []) := by
        intro hcase
        refine K_call k19 (oraG_none (by decide) (by decide)) (by simp [c19]) ?_
        cases hm : mayI kd ts k m g ids id with
        | false =>
          have hP := K16_f kd cs ss ts k m g c' s' ids id e1 e2 (by omega) (by omega) hm
          simp only [Rcd] at hP hR
          cases bad <;> simp [c19, hK, z1, z2, wx, i1, hR, hP, backK, RcV, Rcd, noRec]
        | true =>
          have hP := K16_t kd cs ss ts k m g c' s' ids id e1 e2 hm
          have hfB := isB_frame (isB_recB hm)
          simp only [Rcd] at hP hR
          cases bad with
          | true => simp [c19, hK, z1, z2, wx, i1, hR, hP, backK, RcV, Rcd, noRec]
          | false =>
            have hq := fun c d => K43 c d (frameI (recB kd ts k m g ids id)) p hfB hpB
            have hf : (frameI (recB kd ts k m g ids id) == p) = false := by
              rcases hcase with h | h | h
              · cases h
              · rw [hm] at h; cases h
              · simpa using h
            rw [hf] at hq
            generalize frameI (recB kd ts k m g ids id) = F at *
            simp [c19, hK, z1, z2, wx, i1, hR, hP, hq, m1, hnl, backK, RcV, Rcd, noRec]
      by_cases hcase : bad = true ∨ mayI kd ts k m g ids id = false ∨ ¬ frameI (recB kd ts k m g ids id) = p
      · have hc : bad = true ∨ (recPut kd ts k m g ids id).2 = false ∨ (recPut kd ts k m g ids id).1 ≠ p := by
          rcases hcase with h | h | h
          · exact .inl h
          · exact .inr (.inl (by rw [recPut_2]; exact h))
          · by_cases hm : mayI kd ts k m g ids id = true
            · exact .inr (.inr (by unfold recPut; rw [if_pos hm]; exact h))
            · exact .inr (.inl (by rw [recPut_2]; simpa using hm))
        rw [hbad hc]
        exact ⟨true, 0, true, 0, .inr rfl, .inr rfl, fail hcase⟩
      · have hb : bad = false := by cases bad with | false => rfl | true => exact absurd (.inl rfl) hcase
        have hm : mayI kd ts k m g ids id = true := by cases hm : mayI kd ts k m g ids id with | true => rfl | false => exact absurd (.inr (.inl hm)) hcase
        have hf : frameI (recB kd ts k m g ids id) = p := Classical.byContradiction fun h => hcase (.inr (.inr h))
        subst hb
        have hfB := isB_frame (isB_recB hm)
        rw [hok (by unfold recPut; rw [if_pos hm]; simp [hf])]
        have hP := K16_t kd cs ss ts k m g c' s' ids id e1 e2 hm
        have hq := fun c d => K43 c d (frameI (recB kd ts k m g ids id)) p hfB hpB
        rw [hf] at hq hP
        have hpp : (p == p) = true := by simp
        rw [hpp] at hq
        simp only [Rcd] at hP hR
        refine ⟨cs, ss, c', s', e1, e2, K_call k19 (oraG_none (by decide) (by decide)) (by simp [c19]) ?_⟩
        simp [c19, hK, z1, z2, wx, i1, hR, hP, hq, m1, hnl, backK, RcV, Rcd, noRec]
end Go.Ab
/- THE FUNCTIONS' EQUATIONS: replay.All. -/
set_option linter.all false
set_option maxRecDepth 100000
namespace Go.Ab
open Go.Proofs Go.Proofs.YtdopbfjebjnpkaaH Go.Proofs.YtdopbfjebjnpkaaH.Crc Go.Proofs.YtdopbfjebjnpkaaH.Var Go.Proofs.YtdopbfjebjnpkaaH.Fr Go.Proofs.YtdopbfjebjnpkaaH.Rec
def b200_0 : C := (.seq (.seq (.reg none [⟨(some 13), none, (.mv (.t 6))⟩, ⟨(some 14), none, (.mv (.t 0))⟩, ⟨(some 15), none, (.len 1 (.t 14))⟩, ⟨(some 16), none, (.bin .lss [] (.t 13) (.t 15))⟩]) (.cond (.t 16) .skip (.exit 0))) (.block 1 (.seq (.reg none [⟨(some 18), none, (.mv (.t 0))⟩, ⟨(some 19), none, (.mv (.t 6))⟩, ⟨(some 20), none, (.sub 1 1 (.t 18) (some (.t 19)) none none)⟩, ⟨(some 21), none, (.call (.f 23) [(.t 20)])⟩, ⟨(some 17), none, (.mv (.t 21))⟩, ⟨(some 22), none, (.ext (.t 17) 0)⟩, ⟨(some 23), none, (.ext (.t 17) 1)⟩, ⟨(some 24), none, (.ext (.t 17) 2)⟩, ⟨(some 7), none, (.alloc false [(.int .i64 0), nilS, (.int .i64 0), (.int .i64 0), (.int .i64 0), nilS, (.int .i64 0)])⟩, ⟨none, none, (.st 7 (.t 7) (.t 22))⟩, ⟨(some 8), none, (.mv (.t 23))⟩, ⟨(some 9), none, (.mv (.t 24))⟩]) (.seq (.seq (.reg none [⟨(some 25), none, (.mv (.t 6))⟩, ⟨(some 26), none, (.bin .eql [] (.t 25) (.k (.int .i64 0)))⟩, ⟨(some 10), none, (.mv (.t 26))⟩]) (.block 2 (.seq (.seq (.reg none [⟨(some 28), none, (.mv (.t 9))⟩, ⟨(some 29), none, (.bin .neq [] (.t 28) (.k (.int .i64 0)))⟩, ⟨(some 27), none, (.mv (.t 29))⟩]) (.cond (.t 27) .skip (.reg none [⟨(some 30), none, (.mv (.t 10))⟩, ⟨(some 31), none, (.fa 0 1 false (.t 7))⟩, ⟨(some 32), none, (.ld none (.t 31))⟩, ⟨(some 33), none, (.bin .eql [] (.t 32) (.k (.int .i64 1)))⟩, ⟨(some 34), none, (.bin .neq [3] (.t 30) (.t 33))⟩, ⟨(some 27), none, (.mv (.t 34))⟩]))) (.cond (.t 27) (.exit 0) .skip)))) (.seq (.reg none [⟨(some 36), none, (.ld (some 6) (.t 5))⟩, ⟨(some 37), none, (.ld (some 7) (.t 7))⟩, ⟨(some 38), none, (.call (.f 14) [(.t 36), (.t 37)])⟩, ⟨(some 35), none, (.mv (.t 38))⟩, ⟨(some 39), none, (.ext (.t 35) 0)⟩, ⟨(some 40), none, (.ext (.t 35) 1)⟩, ⟨(some 11), none, (.alloc false [nilS, (.int .i64 0), (.int .i64 0), (.int .i64 0), nilS, (.int .i64 0)])⟩, ⟨none, none, (.st 6 (.t 11) (.t 39))⟩, ⟨(some 12), none, (.mv (.t 40))⟩]) (.seq (.seq (.reg none [⟨(some 41), none, (.mv (.t 12))⟩, ⟨(some 42), none, (.un .not (.t 41))⟩]) (.cond (.t 42) (.exit 0) .skip)) (.reg none [⟨(some 43), none, (.ld (some 6) (.t 11))⟩, ⟨(some 44), none, (.mv (.t 6))⟩, ⟨(some 45), none, (.mv (.t 8))⟩, ⟨(some 46), none, (.bin .add [] (.t 44) (.t 45))⟩, ⟨none, none, (.st 6 (.t 5) (.t 43))⟩, ⟨(some 6), none, (.mv (.t 46))⟩])))))))
def c200 : Fn' := ⟨51, [(.cell 2 (some 6)), (.tmp 3), (.tmp 4)], (.seq (.reg none [⟨(some 2), none, (.alloc false [nilS, (.int .i64 0), (.int .i64 0), (.int .i64 0), nilS, (.int .i64 0)])⟩, ⟨(some 3), none, (.mv (.k (.int .i64 0)))⟩, ⟨(some 4), none, (.mv (.k (.bool false)))⟩]) (.seq (.reg none [⟨(some 5), none, (.alloc false [nilS, (.int .i64 0), (.int .i64 0), (.int .i64 0), nilS, (.int .i64 0)])⟩]) (.seq (.reg none [⟨(some 6), none, (.mv (.k (.int .i64 0)))⟩]) (.seq .skip (.seq (.block 0 (.loop b200_0)) (.seq (.reg none [⟨(some 47), none, (.ld (some 6) (.t 5))⟩, ⟨(some 48), none, (.mv (.t 6))⟩, ⟨(some 49), none, (.mv (.t 6))⟩, ⟨(some 50), none, (.bin .gtr [] (.t 49) (.k (.int .i64 0)))⟩, ⟨none, none, (.st 6 (.t 2) (.t 47))⟩, ⟨(some 3), none, (.mv (.t 48))⟩, ⟨(some 4), none, (.mv (.t 50))⟩]) .ret))))))⟩
theorem k200 : compF Try.prog 12 = some c200 := by kernel_rfl
attribute [local simp] op_or op_an op_add op_sub op_mul oq_eql oq_neq oq_lss oq_gtr oq_leq oq_geq
attribute [-simp] intOp bin_shl
theorem mayOf_len {r : RecV} (h : mayOf r = true) : r.2.1.1.length ≤ 64 ∧ r.2.2.1.length ≤ 40 := by
  obtain ⟨kd, ⟨ts, k, m, g⟩, ids, id⟩ := r
  have hm := mayI_some h
  refine ⟨?_, hm.2.1⟩
  rcases hm.1 with ⟨_, h1⟩ | ⟨_, h1, _⟩ | ⟨_, h1, _⟩
  · exact (schemaOk_iff.1 h1).1.2
  · rw [(bare_eq h1).1]; simp
  · rw [(bare_eq h1).1]; simp
theorem rowR_some {l so : List Int} {a : Nat} (h : rowR l so = some a) : a + so.length ≤ l.length ∧ (l.drop a).take so.length = so := by
  unfold rowR at h
  obtain ⟨b, hb, h3⟩ := Option.bind_eq_some_iff.1 h
  split at h3
  · rename_i h4
    obtain rfl := Option.some.inj h3
    unfold rowOk at h4
    simp at h4
    exact h4
  · cases h3
theorem applyI_len {x : StV} {r : RecV} (h : x.2.1.length ≤ 40) : (applyI x r).1.2.1.length ≤ 40 := by
  unfold applyI
  split
  · exact h
  · rename_i hm
    have hm1 : mayOf r = true := by simpa using hm
    have hm := mayOf_len hm1
    split
    · split
      · exact hm.2
      · exact h
    · rename_i hk1
      split
      · exact h
      · split
        · split
          · simp; omega
          · exact h
        · rename_i hk2
          split
          · rename_i a ha
            have h1 := (rowR_some ha).1
            have h2 : 1 < r.2.2.1.length := by
              rcases (mayI_some hm1).1 with ⟨e, _⟩ | ⟨e, _⟩ | ⟨_, _, e⟩
              · exact absurd e hk1
              · exact absurd e hk2
              · exact e
            simp
            omega
          · exact h
theorem bin_neqb (a b : Bool) : binD .neq [3] (.bool a) (.bool b) = some (.bool (a != b)) := rfl
theorem allN_len : ∀ (N : Nat) (l : List Int) (x : StV) (first : Bool), (allN N l x first).2.length ≤ l.length
  | 0, l, x, first => Nat.le_refl _
  | N + 1, l, x, first => by
    unfold allN
    split
    · exact Nat.le_refl _
    · split
      · exact Nat.le_refl _
      · split
        · exact Nat.le_refl _
        · refine Nat.le_trans (allN_len N _ _ _) ?_
          simp
def bz : Obj := .box [nilS, .int .i64 0, .int .i64 0, .int .i64 0, nilS, .int .i64 0]
def StB (x : StV) (c : Bool) (s : Nat) (c' : Bool) (s' : Nat) : Obj := .box [.slc c s (x.1.1.map (.int .i64)), .int .i64 x.1.2.1, .int .i64 x.1.2.2.1, .int .i64 x.1.2.2.2, .slc c' s' (x.2.1.map (.int .i64)), .int .i64 x.2.2]
def t200 (c : Bool) (l : List Int) (i : Nat) : List D := [.slc c 1 (l.map (.int .u8)), .undef, .ptr 0 0 0 0, .int .i64 0, .bool false, .ptr 1 0 0 0, .int .i64 i, .undef, .undef, .undef, .undef, .undef, .undef, .undef, .undef, .undef, .undef, .undef, .undef, .undef, .undef, .undef, .undef, .undef, .undef, .undef, .undef, .undef, .undef, .undef, .undef, .undef, .undef, .undef, .undef, .undef, .undef, .undef, .undef, .undef, .undef, .undef, .undef, .undef, .undef, .undef, .undef, .undef, .undef, .undef, .undef]
def kn200 : List Kn := [.blk 0, .c ((C.reg none [⟨some 47, none, .ld (some 6) (.t 5)⟩, ⟨some 48, none, .mv (.t 6)⟩, ⟨some 49, none, .mv (.t 6)⟩, ⟨some 50, none, .bin .gtr [] (.t 49) (.k (.int .i64 0))⟩, ⟨none, none, .st 6 (.t 2) (.t 47)⟩, ⟨some 3, none, .mv (.t 48)⟩, ⟨some 4, none, .mv (.t 50)⟩]).seq C.ret)]
set_option maxHeartbeats 8000000 in
attribute [local simp] bin_neqb in
theorem L200 (cb : Bool) (b : List Int) (hb : b.length ≤ 2 ^ 36) (hB : isB b) : ∀ (N : Nat) (l pre : List Int) (i : Nat) (x : StV) (c : Bool) (s : Nat) (c' : Bool) (s' : Nat), l.length < N → b = pre ++ l → i = pre.length → (s = 1 ∨ x.1.1 = []) → (s' = 1 ∨ x.2.1 = []) → x.2.1.length ≤ 40 →
    ∃ c1 s1 c2 s2, (s1 = 1 ∨ (allN N l x (decide (i = 0))).1.1.1 = []) ∧ (s2 = 1 ∨ (allN N l x (decide (i = 0))).1.2.1 = []) ∧
      finK false 0 [.cell 2 (some 6), .tmp 3, .tmp 4] (loopK cf0 K0 (LpB cf0 K0 b200_0 (t200 cb b 0) 2 ⟨t200 cb b i, [bz, StB x c s c' s']⟩) kn200) =
        some (.tuple [StD (allN N l x (decide (i = 0))).1 c1 s1 c2 s2, .int .i64 ((b.length - (allN N l x (decide (i = 0))).2.length : Nat) : Int), .bool (ltI 0 ((b.length - (allN N l x (decide (i = 0))).2.length : Nat) : Int))], [])
  | 0, l, pre, i, x, c, s, c', s', hN, _, _, _, _, _ => absurd hN (by omega)
  | N + 1, l, pre, i, x, c, s, c', s', hN, h, hi, hs, hs', hx => by
    have hbl : b.length = i + l.length := by rw [h, hi]; simp
    have hil : i ≤ b.length := by omega
    have hili : (i : Int) ≤ b.length := by omega
    have hsub : b.length - l.length = i := by omega
    have m1 : List.drop i (b.map (D.int .u8)) = l.map (D.int .u8) := by rw [h, hi]; simp
    unfold allN
    by_cases hl : l = []
    · rw [if_pos hl]
      have z := ltI_f (show ¬ ((i : Int) < b.length) by rw [hbl, hl]; simp)
      refine ⟨c, s, c', s', hs, hs', ?_⟩
      dsimp only
      rw [hsub, LpB_eq]
      simp only [t200, bz, StB, StD]
      conv => lhs; arg 4; arg 3; arg 6; simp [b200_0, z]
      simp [kn200]
    · rw [if_neg hl]
      have hl0 : 0 < l.length := List.length_pos_iff.2 hl
      have z := ltI_t (show ((i : Int) < b.length) by omega)
      have hT := fun cc => K19 cc l (by omega) (by rw [h] at hB; exact fun y hy => hB y (List.mem_append_right _ hy))
      have hpos := recTake_pos l
      have hmay := recTake_may l
      generalize recTake l = T at *
      obtain ⟨r, n, e⟩ := T
      dsimp only at *
      obtain ⟨qf, hqf⟩ : ∃ q, eqI (i : Int) 0 = q := ⟨_, rfl⟩
      have hqf2 : decide (i = 0) = qf := by rw [← hqf]; unfold eqI; rw [Bool.eq_iff_iff]; simp
      have hT' : ∃ f1 f2 f3 f4, (f2 = 1 ∨ r.2.1.1 = []) ∧ (f4 = 1 ∨ r.2.2.1 = []) ∧ K0 23 [.slc cb 1 (l.map (.int .u8))] [] = some (.tuple [RcV r f1 f2 f3 f4, .int .i64 n, .int .i64 e], []) := hT cb
      obtain ⟨f1, f2, f3, f4, g1, g2, hT'⟩ := hT'
      rw [hqf2]
      by_cases he : e = 0
      · obtain ⟨hm, _⟩ := hmay he
        have hml := mayOf_len hm
        obtain ⟨hn0, hn1⟩ := hpos he
        subst he
        obtain ⟨n, rfl⟩ := Int.eq_ofNat_of_zero_le (by omega : 0 ≤ n)
        have z3 : neI 0 0 = false := rfl
        obtain ⟨qk, hqk⟩ : ∃ q, eqI r.1 1 = q := ⟨_, rfl⟩
        have hqk2 : decide (r.1 = 1) = qk := by rw [← hqk]; unfold eqI; rw [Bool.eq_iff_iff]; simp
        rw [hqk2]
        by_cases hfk : qf = qk
        · rw [if_neg (by simp [hfk])]
          obtain ⟨c1, s1, c2, s2, u1, u2, hA⟩ := K203 x c s c' s' hs hs' r f1 f2 f3 f4 g1 g2 (by omega) (by omega) (by omega)
          have hlen := applyI_len (r := r) hx
          generalize applyI x r = A at *
          obtain ⟨x2, ok⟩ := A
          dsimp only at *
          obtain ⟨⟨ts, k, m, g⟩, ids, nx⟩ := x
          obtain ⟨kd, ⟨ts', k', m', g'⟩, ids', id⟩ := r
          obtain ⟨⟨ts2, k2, m2, g2'⟩, ids2, nx2⟩ := x2
          have qff : (qf != qk) = false := by simp [hfk]
          simp only [StD, Rcd, RcV] at hA hT' hqk ⊢
          cases ok with
          | false =>
            rw [if_pos rfl]
            refine ⟨c, s, c', s', hs, hs', ?_⟩
            dsimp only
            rw [hsub, LpB_eq]
            simp only [t200, bz, StB]
            conv => lhs; arg 4; arg 3; arg 6; simp [b200_0, z, m1, hil, hili, hT', z3, hqf, hqk, qff, hA]
            simp [kn200]
          | true =>
            rw [if_neg (by decide)]
            have hw : IntKind.i64.wrap ((i : Int) + (n : Int)) = ((i + n : Nat) : Int) := by rw [w64 _ (by omega)]; omega
            have hn' : (Int.toNat (n : Int)) = n := by omega
            have ih := L200 cb b hb hB N (l.drop n) (pre ++ l.take n) (i + n) ((ts2, k2, m2, g2'), ids2, nx2) c1 s1 c2 s2 (by simp; omega) (by rw [h, List.append_assoc, List.take_append_drop]) (by simp [hi]; omega) u1 u2 hlen
            rw [hn']
            have e0 : decide (i + n = 0) = false := by simp; omega
            rw [e0] at ih
            obtain ⟨d1, d2, d3, d4, v1, v2, ih⟩ := ih
            simp only [StD] at ih
            refine ⟨d1, d2, d3, d4, v1, v2, ?_⟩
            refine Eq.trans ?_ ih
            rw [LpB_eq]
            simp only [t200, bz, StB]
            conv => lhs; arg 4; arg 3; arg 6; simp [b200_0, z, m1, hil, hili, hT', z3, hqf, hqk, qff, hA, hw]
            simp
        · rw [if_pos (.inr hfk)]
          have qff : (qf != qk) = true := by simpa using hfk
          obtain ⟨⟨ts, k, m, g⟩, ids, nx⟩ := x
          obtain ⟨kd, ⟨ts', k', m', g'⟩, ids', id⟩ := r
          simp only [StD, Rcd, RcV] at hT' hqk ⊢
          refine ⟨c, s, c', s', hs, hs', ?_⟩
          rw [hsub, LpB_eq]
          simp only [t200, bz, StB]
          conv => lhs; arg 4; arg 3; arg 6; simp [b200_0, z, m1, hil, hili, hT', z3, hqf, hqk, qff]
          simp [kn200]
      · rw [if_pos (.inl he)]
        have z3 : neI e 0 = true := neI_t he
        obtain ⟨⟨ts, k, m, g⟩, ids, nx⟩ := x
        obtain ⟨kd, ⟨ts', k', m', g'⟩, ids', id⟩ := r
        simp only [StD, Rcd, RcV] at hT' ⊢
        refine ⟨c, s, c', s', hs, hs', ?_⟩
        rw [hsub, LpB_eq]
        simp only [t200, bz, StB]
        conv => lhs; arg 4; arg 3; arg 6; simp [b200_0, z, m1, hil, hili, hT', z3, hqf]
        simp [kn200]
set_option maxHeartbeats 2000000 in
/-- replay.All. -/
theorem K200 (c : Bool) (s : Nat) (b : List Int) (hsb : s = 1 ∨ b = []) (hb : b.length ≤ 2 ^ 36) (hB : isB b) : ∃ c1 s1 c2 s2, (s1 = 1 ∨ (allI b).1.1.1 = []) ∧ (s2 = 1 ∨ (allI b).1.2.1 = []) ∧
    K0 12 [.slc c s (b.map (.int .u8))] [] = some (.tuple [StD (allI b).1 c1 s1 c2 s2, .int .i64 ((b.length - (allI b).2.length : Nat) : Int), .bool (ltI 0 ((b.length - (allI b).2.length : Nat) : Int))], []) := by
  by_cases hn : b = []
  · subst hn
    refine ⟨true, 0, true, 0, .inr rfl, .inr rfl, K_call k200 (oraG_none (by decide) (by decide)) (by simp [c200]) ?_⟩
    have z := ltI_f (show ¬ ((0 : Int) < 0) by omega)
    have e : allI [] = (noSt, []) := rfl
    rw [e]
    simp [c200]
    rw [LpB_eq]
    simp [b200_0, z, noSt, noSc, StD]
  · obtain rfl := hsb.resolve_right hn
    obtain ⟨c1, s1, c2, s2, h1, h2, h⟩ := L200 c b hb hB (b.length + 1) b [] 0 noSt true 0 true 0 (by omega) rfl rfl (.inr rfl) (.inr rfl) (by simp [noSt])
    refine ⟨c1, s1, c2, s2, h1, h2, K_call k200 (oraG_none (by decide) (by decide)) (by simp [c200]) ?_⟩
    have e : allN (b.length + 1) b noSt (decide (0 = 0)) = allI b := rfl
    rw [e] at h
    simp only [t200, bz, StB, kn200, noSt, noSc] at h
    simp [c200]
    simp at h
    exact h
end Go.Ab
