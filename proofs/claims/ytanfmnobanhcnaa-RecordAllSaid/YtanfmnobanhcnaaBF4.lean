/- THE FUNCTIONS' EQUATIONS: thresherlaw16: shown, few, RecordAll. -/
import Derived.Test.YtanfmnobanhcnaaBF20
set_option linter.all false
set_option maxRecDepth 100000
namespace Go.Ab
open Go.Proofs Go.Proofs.YtanfmnobanhcnaaH Go.Proofs.YtanfmnobanhcnaaH.Crc Go.Proofs.YtanfmnobanhcnaaH.Var Go.Proofs.YtanfmnobanhcnaaH.Fr Go.Proofs.YtanfmnobanhcnaaH.Rec
def c15 : Fn' := ⟨32, [(.tmp 0)], (.seq (.reg none [⟨(some 0), none, (.mv (.k (.bool false)))⟩]) (.seq (.reg none [⟨(some 4), none, (.bld [(.int .i64 0), nilS, (.int .i64 0), (.int .i64 0), (.int .i64 0), nilS, (.int .i64 0)] [(0, (1, (.k (.int .i64 2)))), (6, (1, (.k (.int .i64 7))))])⟩, ⟨(some 5), none, (.call (.f 16) [(.t 4)])⟩, ⟨(some 3), none, (.mv (.t 5))⟩, ⟨(some 6), none, (.ext (.t 3) 0)⟩, ⟨(some 7), none, (.ext (.t 3) 1)⟩, ⟨(some 1), none, (.mv (.t 6))⟩, ⟨(some 2), none, (.mv (.t 7))⟩]) (.seq (.reg none [⟨(some 8), none, (.mv (.t 2))⟩, ⟨(some 9), none, (.mv (.t 8))⟩, ⟨(some 10), (some ((some 9), true)), (.mv (.t 1))⟩, ⟨(some 11), (some ((some 9), true)), (.len 1 (.t 10))⟩, ⟨(some 12), (some ((some 9), true)), (.bin .eql [] (.t 11) (.k (.int .i64 7)))⟩, ⟨(some 13), none, (.pick (.t 9) (.t 12) (.k (.bool false)))⟩, ⟨(some 14), none, (.mv (.t 13))⟩, ⟨(some 15), (some ((some 14), true)), (.mv (.t 1))⟩, ⟨(some 16), (some ((some 14), true)), (.ia none 1 false (.t 15) (.k (.int .i64 0)))⟩, ⟨(some 17), (some ((some 14), true)), (.ld none (.t 16))⟩, ⟨(some 18), (some ((some 14), true)), (.bin .eql [] (.t 17) (.k (.int .u8 2)))⟩, ⟨(some 19), none, (.pick (.t 14) (.t 18) (.k (.bool false)))⟩, ⟨(some 20), none, (.mv (.t 19))⟩, ⟨(some 21), (some ((some 20), true)), (.mv (.t 1))⟩, ⟨(some 22), (some ((some 20), true)), (.ia none 1 false (.t 21) (.k (.int .i64 5)))⟩, ⟨(some 23), (some ((some 20), true)), (.ld none (.t 22))⟩, ⟨(some 24), (some ((some 20), true)), (.bin .eql [] (.t 23) (.k (.int .u8 2)))⟩, ⟨(some 25), none, (.pick (.t 20) (.t 24) (.k (.bool false)))⟩, ⟨(some 26), none, (.mv (.t 25))⟩, ⟨(some 27), (some ((some 26), true)), (.mv (.t 1))⟩, ⟨(some 28), (some ((some 26), true)), (.ia none 1 false (.t 27) (.k (.int .i64 6)))⟩, ⟨(some 29), (some ((some 26), true)), (.ld none (.t 28))⟩, ⟨(some 30), (some ((some 26), true)), (.bin .eql [] (.t 29) (.k (.int .u8 7)))⟩, ⟨(some 31), none, (.pick (.t 26) (.t 30) (.k (.bool false)))⟩, ⟨(some 0), none, (.mv (.t 31))⟩]) .ret)))⟩
theorem k15 : compF Try.prog 15 = some c15 := by kernel_rfl
def c17 : Fn' := ⟨23, [(.cell 2 (some 7))], (.seq (.reg none [⟨(some 1), none, (.box false (.t 0))⟩, ⟨(some 2), none, (.alloc false [(.int .i64 0), nilS, (.int .i64 0), (.int .i64 0), (.int .i64 0), nilS, (.int .i64 0)])⟩]) (.seq (.seq (.reg none [⟨(some 3), none, (.fa 5 1 false (.t 1))⟩, ⟨(some 4), none, (.ld none (.t 3))⟩, ⟨(some 5), none, (.len 1 (.t 4))⟩, ⟨(some 6), none, (.bin .gtr [] (.t 5) (.k (.int .i64 45)))⟩]) (.cond (.t 6) (.reg none [⟨(some 7), none, (.fa 5 1 false (.t 1))⟩, ⟨(some 8), none, (.ld none (.t 7))⟩, ⟨(some 9), none, (.sub 1 1 (.t 8) none (some (.k (.int .i64 45))) none)⟩, ⟨(some 10), none, (.fa 5 1 false (.t 1))⟩, ⟨none, none, (.st 1 (.t 10) (.t 9))⟩]) .skip)) (.seq (.seq (.reg none [⟨(some 11), none, (.fa 1 4 true (.t 1))⟩, ⟨(some 12), none, (.fa 0 1 false (.t 11))⟩, ⟨(some 13), none, (.ld none (.t 12))⟩, ⟨(some 14), none, (.len 1 (.t 13))⟩, ⟨(some 15), none, (.bin .gtr [] (.t 14) (.k (.int .i64 10)))⟩]) (.cond (.t 15) (.reg none [⟨(some 16), none, (.fa 1 4 true (.t 1))⟩, ⟨(some 17), none, (.fa 0 1 false (.t 16))⟩, ⟨(some 18), none, (.ld none (.t 17))⟩, ⟨(some 19), none, (.sub 1 1 (.t 18) none (some (.k (.int .i64 10))) none)⟩, ⟨(some 20), none, (.fa 1 4 true (.t 1))⟩, ⟨(some 21), none, (.fa 0 1 false (.t 20))⟩, ⟨none, none, (.st 1 (.t 21) (.t 19))⟩]) .skip)) (.seq (.reg none [⟨(some 22), none, (.ld (some 7) (.t 1))⟩, ⟨none, none, (.st 7 (.t 2) (.t 22))⟩]) .ret))))⟩
theorem k17 : compF Try.prog 17 = some c17 := by kernel_rfl
def c4 : Fn' := ⟨76, [(.tmp 4)], (.seq (.reg none [⟨(some 2), none, (.box false (.t 0))⟩, ⟨(some 4), none, (.mv (.k (.bool false)))⟩]) (.seq (.reg none [⟨(some 17), none, (.call (.f 15) [])⟩, ⟨(some 5), none, (.mv (.t 17))⟩]) (.seq (.reg none [⟨(some 18), none, (.ld (some 7) (.t 2))⟩, ⟨(some 19), none, (.call (.f 17) [(.t 18)])⟩, ⟨none, none, (.st 7 (.t 2) (.t 19))⟩]) (.seq (.seq (.reg none [⟨(some 20), none, (.mv (.t 1))⟩, ⟨(some 21), none, (.len 1 (.t 20))⟩, ⟨(some 22), none, (.bin .gtr [] (.t 21) (.k (.int .i64 400)))⟩]) (.cond (.t 22) (.reg none [⟨(some 23), none, (.mv (.t 1))⟩, ⟨(some 24), none, (.sub 1 1 (.t 23) none (some (.k (.int .i64 400))) none)⟩, ⟨(some 1), none, (.mv (.t 24))⟩]) .skip)) (.seq (.reg none [⟨(some 26), none, (.ld (some 7) (.t 2))⟩, ⟨(some 27), none, (.call (.f 16) [(.t 26)])⟩, ⟨(some 25), none, (.mv (.t 27))⟩, ⟨(some 28), none, (.ext (.t 25) 0)⟩, ⟨(some 29), none, (.ext (.t 25) 1)⟩, ⟨(some 6), none, (.mv (.t 28))⟩, ⟨(some 7), none, (.mv (.t 29))⟩]) (.seq (.reg none [⟨(some 31), none, (.ld (some 7) (.t 2))⟩, ⟨(some 32), none, (.call (.f 18) [(.t 31)])⟩, ⟨(some 30), none, (.mv (.t 32))⟩, ⟨(some 33), none, (.ext (.t 30) 0)⟩, ⟨(some 34), none, (.ext (.t 30) 1)⟩, ⟨(some 8), none, (.mv (.t 33))⟩, ⟨(some 9), none, (.mv (.t 34))⟩]) (.seq (.reg none [⟨(some 36), none, (.mv (.t 1))⟩, ⟨(some 37), none, (.call (.f 19) [(.t 36)])⟩, ⟨(some 35), none, (.mv (.t 37))⟩, ⟨(some 38), none, (.ext (.t 35) 0)⟩, ⟨(some 39), none, (.ext (.t 35) 1)⟩, ⟨(some 40), none, (.ext (.t 35) 2)⟩, ⟨(some 10), none, (.alloc false [(.int .i64 0), nilS, (.int .i64 0), (.int .i64 0), (.int .i64 0), nilS, (.int .i64 0)])⟩, ⟨none, none, (.st 7 (.t 10) (.t 38))⟩, ⟨(some 11), none, (.mv (.t 39))⟩, ⟨(some 12), none, (.mv (.t 40))⟩]) (.seq (.reg none [⟨(some 42), none, (.mv (.t 1))⟩, ⟨(some 43), none, (.call (.f 20) [(.t 42)])⟩, ⟨(some 41), none, (.mv (.t 43))⟩, ⟨(some 44), none, (.ext (.t 41) 0)⟩, ⟨(some 45), none, (.ext (.t 41) 1)⟩, ⟨(some 46), none, (.ext (.t 41) 2)⟩, ⟨(some 13), none, (.alloc false [(.int .i64 0), nilS, (.int .i64 0), (.int .i64 0), (.int .i64 0), nilS, (.int .i64 0)])⟩, ⟨none, none, (.st 7 (.t 13) (.t 44))⟩, ⟨(some 14), none, (.mv (.t 45))⟩, ⟨(some 15), none, (.mv (.t 46))⟩]) (.seq (.reg none [⟨(some 47), none, (.ld (some 7) (.t 10))⟩, ⟨(some 48), none, (.ld (some 7) (.t 13))⟩, ⟨(some 49), none, (.call (.f 21) [(.t 47), (.t 48)])⟩, ⟨(some 16), none, (.mv (.t 49))⟩]) (.seq (.reg none [⟨(some 50), none, (.mv (.t 5))⟩, ⟨(some 51), none, (.mv (.t 50))⟩, ⟨(some 52), (some ((some 51), true)), (.mv (.t 6))⟩, ⟨(some 53), (some ((some 51), true)), (.cvt .b2s (.t 52))⟩, ⟨(some 54), (some ((some 51), true)), (.mv (.t 8))⟩, ⟨(some 55), (some ((some 51), true)), (.cvt .b2s (.t 54))⟩, ⟨(some 56), (some ((some 51), true)), (.bin .eql [] (.t 53) (.t 55))⟩, ⟨(some 57), none, (.pick (.t 51) (.t 56) (.k (.bool false)))⟩, ⟨(some 58), none, (.mv (.t 57))⟩, ⟨(some 59), (some ((some 58), true)), (.mv (.t 7))⟩, ⟨(some 60), (some ((some 58), true)), (.mv (.t 9))⟩, ⟨(some 61), (some ((some 58), true)), (.bin .eql [3] (.t 59) (.t 60))⟩, ⟨(some 62), none, (.pick (.t 58) (.t 61) (.k (.bool false)))⟩, ⟨(some 63), none, (.mv (.t 62))⟩, ⟨(some 64), (some ((some 63), true)), (.mv (.t 16))⟩, ⟨(some 65), none, (.pick (.t 63) (.t 64) (.k (.bool false)))⟩, ⟨(some 66), none, (.mv (.t 65))⟩, ⟨(some 67), (some ((some 66), true)), (.mv (.t 11))⟩, ⟨(some 68), (some ((some 66), true)), (.mv (.t 14))⟩, ⟨(some 69), (some ((some 66), true)), (.bin .eql [] (.t 67) (.t 68))⟩, ⟨(some 70), none, (.pick (.t 66) (.t 69) (.k (.bool false)))⟩, ⟨(some 71), none, (.mv (.t 70))⟩, ⟨(some 72), (some ((some 71), true)), (.mv (.t 12))⟩, ⟨(some 73), (some ((some 71), true)), (.mv (.t 15))⟩, ⟨(some 74), (some ((some 71), true)), (.bin .eql [] (.t 72) (.t 73))⟩, ⟨(some 75), none, (.pick (.t 71) (.t 74) (.k (.bool false)))⟩, ⟨(some 4), none, (.mv (.t 75))⟩]) .ret))))))))))⟩
theorem k4 : compF Try.prog 4 = some c4 := by kernel_rfl
attribute [local simp] op_or op_an op_add op_sub op_mul oq_eql oq_neq oq_lss oq_gtr oq_leq oq_geq
attribute [-simp] intOp bin_shl
set_option maxHeartbeats 4000000 in
/-- The head of the laws. -/
theorem K15 : K0 15 [] [] = some (.bool true, []) := by
  have hm : mayI 2 [] 0 0 0 [] 7 = true := by decide
  have hP := K16_2 true 0 true 0 7 hm
  have e7 : recB 2 [] 0 0 0 [] 7 = [2, 7] := by
    have := putI_small (n := 7) (by decide)
    unfold recB
    simp only [show ((7 : Nat) : Int) = 7 from rfl] at this
    simp [this]
  have ef : ∃ a b c d, frameI [2, 7] = [2, a, b, c, d, 2, 7] := by
    have := putI_small (n := 2) (by decide)
    refine ⟨crcI [2, 7] % 256, crcI [2, 7] / 256 % 256, crcI [2, 7] / 65536 % 256, crcI [2, 7] / 16777216 % 256, ?_⟩
    unfold frameI
    rw [sum4_eq]
    simp only [List.length_cons, List.length_nil]
    rw [this]
    rfl
  obtain ⟨a, b, c, d, ef⟩ := ef
  rw [e7, ef] at hP
  simp only [Rcd, List.map_cons, List.map_nil] at hP
  have q1 : eqI 7 7 = true := rfl
  have q2 : eqI 2 2 = true := rfl
  refine K_call k15 (oraG_none (by decide) (by decide)) (by simp [c15]) ?_
  simp [c15, hP, q1, q2]
set_option maxHeartbeats 4000000 in
theorem K17 (kd : Int) (c : Bool) (ts : List Int) (k m g : Int) (c' : Bool) (ids : List Int) (id : Int) : ∃ c1 c2, K0 17 [Rcd kd c 1 ts k m g c' 1 ids id] [] = some (Rcd kd c1 1 (ts.take 10) k m g c2 1 (ids.take 45) id, []) := by
  obtain ⟨t, ht⟩ : ∃ t, ts.take 10 = t := ⟨_, rfl⟩
  obtain ⟨i, hi⟩ : ∃ i, ids.take 45 = i := ⟨_, rfl⟩
  have m1 : List.take 10 (ts.map (D.int .i64)) = t.map (D.int .i64) := by rw [← ht]; simp [List.map_take]
  have m2 : List.take 45 (ids.map (D.int .i64)) = i.map (D.int .i64) := by rw [← hi]; simp [List.map_take]
  rw [ht, hi]
  by_cases h1 : 45 < (ids.length : Int)
  · have z1 := ltI_t h1
    have b1 : (45 : Int) ≤ ids.length := by omega
    by_cases h2 : 10 < (ts.length : Int)
    · have z2 := ltI_t h2
      have b2 : (10 : Int) ≤ ts.length := by omega
      refine ⟨(c && 10 == ts.length), (c' && 45 == ids.length), K_call k17 (oraG_none (by decide) (by decide)) (by simp [c17, Rcd]) ?_⟩
      simp [c17, Rcd, z1, z2, b1, b2, m1, m2]
    · have z2 := ltI_f h2
      obtain rfl : ts = t := by rw [← ht, List.take_of_length_le (by omega)]
      refine ⟨c, (c' && 45 == ids.length), K_call k17 (oraG_none (by decide) (by decide)) (by simp [c17, Rcd]) ?_⟩
      simp [c17, Rcd, z1, z2, b1, m1, m2]
  · have z1 := ltI_f h1
    obtain rfl : ids = i := by rw [← hi, List.take_of_length_le (by omega)]
    by_cases h2 : 10 < (ts.length : Int)
    · have z2 := ltI_t h2
      have b2 : (10 : Int) ≤ ts.length := by omega
      refine ⟨(c && 10 == ts.length), c', K_call k17 (oraG_none (by decide) (by decide)) (by simp [c17, Rcd]) ?_⟩
      simp [c17, Rcd, z1, z2, b2, m1, m2]
    · have z2 := ltI_f h2
      obtain rfl : ts = t := by rw [← ht, List.take_of_length_le (by omega)]
      refine ⟨c, c', K_call k17 (oraG_none (by decide) (by decide)) (by simp [c17, Rcd]) ?_⟩
      simp [c17, Rcd, z1, z2, m1, m2]
theorem recTake_len (l : List Int) : (recTake l).1.2.1.1.length ≤ 2 ^ 47 ∧ (recTake l).1.2.2.1.length ≤ 2 ^ 47 := by
  unfold recTake
  simp only
  split
  · simp [noRec]
  · split
    · simp [noRec]
    · split
      · simp [noRec]
      · have := recR_len ((unframeI l).1.getD 0 0) ((unframeI l).1.drop 1) false
        exact ⟨Nat.le_trans this.1 (by decide), Nat.le_trans this.2 (by decide)⟩
set_option maxHeartbeats 8000000 in
/-- thresherlaw16.RecordAll. -/
theorem K4 (kd : Int) (c : Bool) (ts : List Int) (k m g : Int) (c' : Bool) (ids : List Int) (id : Int) (cb : Bool) (b : List Int) (hB : isB b) :
    K0 4 [Rcd kd c 1 ts k m g c' 1 ids id, .slc cb 1 (b.map (.int .u8))] [] = some (.bool true, []) := by
  obtain ⟨c1, c2, hF⟩ := K17 kd c ts k m g c' ids id
  obtain ⟨t, ht⟩ : ∃ t, ts.take 10 = t := ⟨_, rfl⟩
  obtain ⟨i, hi⟩ : ∃ i, ids.take 45 = i := ⟨_, rfl⟩
  rw [ht, hi] at hF
  have htl : t.length ≤ 10 := by rw [← ht]; simp; omega
  have hil : i.length ≤ 45 := by rw [← hi]; simp; omega
  obtain ⟨a, ha⟩ : ∃ a, b.take 400 = a := ⟨_, rfl⟩
  have haB : isB a := by rw [← ha]; exact isB_take hB _
  have hal : a.length ≤ 400 := by rw [← ha]; simp; omega
  have m1 : List.take 400 (b.map (D.int .u8)) = a.map (D.int .u8) := by rw [← ha]; simp [List.map_take]
  -- what both put
  have hput : ∃ d z l, K0 16 [Rcd kd c1 1 t k m g c2 1 i id] [] = some (.tuple [d, .bool z], []) ∧ K0 18 [Rcd kd c1 1 t k m g c2 1 i id] [] = some (.tuple [d, .bool z], []) ∧
      ((d = nilS ∧ l = []) ∨ d = .slc false 1 (l.map (.int .u8))) := by
    cases hm : mayI kd t k m g i id with
    | false => exact ⟨nilS, false, [], K16_f kd c1 1 t k m g c2 1 i id (.inl rfl) (.inl rfl) (by omega) (by omega) hm, K18_f kd c1 1 t k m g c2 1 i id (.inl rfl) (.inl rfl) (by omega) (by omega) hm, .inl ⟨rfl, rfl⟩⟩
    | true => exact ⟨_, true, _, K16_t kd c1 1 t k m g c2 1 i id (.inl rfl) (.inl rfl) hm, K18_t kd c1 1 t k m g c2 1 i id (.inl rfl) (.inl rfl) hm, .inr rfl⟩
  obtain ⟨d, z, F, hP1, hP2, hd⟩ := hput
  have h3 := recTake_len a
  have h19 := fun cb' => K19 cb' a (by omega) haB
  have h20 := fun cb' => K20 cb' a (by omega) haB
  generalize recTake a = V at *
  obtain ⟨⟨kk, ⟨tt, k1, g1, j1⟩, ii, d1⟩, n, e⟩ := V
  simp only [RcV] at h3 h19 h20
  have main : ∀ cb' : Bool, ∃ p1 p2 p3 p4 r1 r2 r3 r4, K0 19 [.slc cb' 1 (a.map (.int .u8))] [] = some (.tuple [Rcd kk p1 p2 tt k1 g1 j1 p3 p4 ii d1, .int .i64 n, .int .i64 e], []) ∧ K0 20 [.slc cb' 1 (a.map (.int .u8))] [] = some (.tuple [Rcd kk r1 r2 tt k1 g1 j1 r3 r4 ii d1, .int .i64 n, .int .i64 e], []) ∧
      K0 21 [Rcd kk p1 p2 tt k1 g1 j1 p3 p4 ii d1, Rcd kk r1 r2 tt k1 g1 j1 r3 r4 ii d1] [] = some (.bool true, []) := by
    intro cb'
    obtain ⟨p1, p2, p3, p4, q1, q2, hT⟩ := h19 cb'
    obtain ⟨r1, r2, r3, r4, s1, s2, hR⟩ := h20 cb'
    have hS := K21 kk p1 p2 tt k1 g1 j1 p3 p4 ii d1 kk r1 r2 tt k1 g1 j1 r3 r4 ii d1 q1 q2 s1 s2 h3.1 h3.2
    have hb : (decide (tt = tt ∧ k1 = k1 ∧ g1 = g1 ∧ j1 = j1) && (ii == ii) && eqI kk kk && eqI d1 d1) = true := by
      rw [eqI_t rfl, eqI_t rfl]; simp
    rw [hb] at hS
    exact ⟨p1, p2, p3, p4, r1, r2, r3, r4, hT, hR, hS⟩
  have qe : ∀ x, eqI x x = true := fun x => eqI_t rfl
  refine K_call k4 (oraG_none (by decide) (by decide)) (by simp [c4, Rcd]) ?_
  by_cases hbl : 400 < (b.length : Int)
  · have z1 := ltI_t hbl
    have b1 : (400 : Int) ≤ b.length := by omega
    have hbe : (400 == b.length) = false := by simp; omega
    obtain ⟨p1, p2, p3, p4, r1, r2, r3, r4, h19, h20, h21⟩ := main (cb && 400 == b.length)
    simp only [Rcd] at hF hP1 hP2 h19 h20 h21 ⊢
    rcases hd with ⟨rfl, rfl⟩ | rfl
    · simp [c4, K15, hF, z1, b1, m1, hP1, hP2, h19, h20, h21, qe, binD]
    · simp [c4, K15, hF, z1, b1, m1, hP1, hP2, h19, h20, h21, qe, binD]
  · have z1 := ltI_f hbl
    obtain rfl : b = a := by rw [← ha, List.take_of_length_le (by omega)]
    obtain ⟨p1, p2, p3, p4, r1, r2, r3, r4, h19, h20, h21⟩ := main cb
    simp only [Rcd] at hF hP1 hP2 h19 h20 h21 ⊢
    rcases hd with ⟨rfl, rfl⟩ | rfl
    · simp [c4, K15, hF, z1, hP1, hP2, h19, h20, h21, qe, binD]
    · simp [c4, K15, hF, z1, hP1, hP2, h19, h20, h21, qe, binD]
end Go.Ab
