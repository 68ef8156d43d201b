/- THE FUNCTIONS' EQUATIONS: record: reader.number, reader.schema. -/
import Derived.Test.YtanfmnobanhcnaaBF110
import Derived.Test.YtanfmnobanhcnaaBF33
set_option linter.all false
set_option maxRecDepth 100000
namespace Go.Ab
open Go.Proofs Go.Proofs.YtanfmnobanhcnaaH Go.Proofs.YtanfmnobanhcnaaH.Crc Go.Proofs.YtanfmnobanhcnaaH.Var Go.Proofs.YtanfmnobanhcnaaH.Fr Go.Proofs.YtanfmnobanhcnaaH.Rec
def c78 : Fn' := ⟨33, [(.tmp 2)], (.seq (.reg none [⟨(some 2), none, (.mv (.k (.int .i64 0)))⟩]) (.seq (.reg none [⟨(some 6), none, (.mv (.t 0))⟩, ⟨(some 7), none, (.nc (.t 6))⟩, ⟨(some 8), none, (.fa 0 1 false (.t 7))⟩, ⟨(some 9), none, (.ld none (.t 8))⟩, ⟨(some 10), none, (.call (.f 74) [(.t 9)])⟩, ⟨(some 5), none, (.mv (.t 10))⟩, ⟨(some 11), none, (.ext (.t 5) 0)⟩, ⟨(some 12), none, (.ext (.t 5) 1)⟩, ⟨(some 3), none, (.mv (.t 11))⟩, ⟨(some 4), none, (.mv (.t 12))⟩]) (.seq (.seq (.reg none [⟨(some 13), none, (.mv (.t 4))⟩, ⟨(some 14), none, (.bin .eql [] (.t 13) (.k (.int .i64 0)))⟩, ⟨(some 15), none, (.mv (.t 14))⟩, ⟨(some 16), (some ((some 15), false)), (.mv (.t 3))⟩, ⟨(some 17), (some ((some 15), false)), (.bin .gtr [] (.t 16) (.k (.int .u64 999999)))⟩, ⟨(some 18), none, (.pick (.t 15) (.k (.bool true)) (.t 17))⟩]) (.cond (.t 18) (.seq (.reg none [⟨(some 19), none, (.mv (.t 0))⟩, ⟨(some 20), none, (.nc (.t 19))⟩, ⟨(some 21), none, (.fa 1 1 false (.t 20))⟩, ⟨none, none, (.st 1 (.t 21) (.k (.bool true)))⟩]) (.seq (.reg none [⟨(some 2), none, (.mv (.k (.int .i64 0)))⟩]) .ret)) .skip)) (.seq (.reg none [⟨(some 22), none, (.mv (.t 0))⟩, ⟨(some 23), none, (.mv (.t 0))⟩, ⟨(some 24), none, (.nc (.t 23))⟩, ⟨(some 25), none, (.fa 0 1 false (.t 24))⟩, ⟨(some 26), none, (.ld none (.t 25))⟩, ⟨(some 27), none, (.mv (.t 4))⟩, ⟨(some 28), none, (.sub 1 1 (.t 26) (some (.t 27)) none none)⟩, ⟨(some 29), none, (.nc (.t 22))⟩, ⟨(some 30), none, (.fa 0 1 false (.t 29))⟩, ⟨none, none, (.st 1 (.t 30) (.t 28))⟩]) (.seq (.reg none [⟨(some 31), none, (.mv (.t 3))⟩, ⟨(some 32), none, (.cvt (.int .i64) (.t 31))⟩, ⟨(some 2), none, (.mv (.t 32))⟩]) .ret)))))⟩
theorem k78 : compF Try.prog 78 = some c78 := by kernel_rfl
def c77 : Fn' := ⟨50, [(.cell 2 (some 4))], (.seq (.reg none [⟨(some 2), none, (.alloc false [nilS, (.int .i64 0), (.int .i64 0), (.int .i64 0)])⟩]) (.seq (.reg none [⟨(some 6), none, (.mv (.t 0))⟩, ⟨(some 7), none, (.call (.f 78) [(.t 6)])⟩, ⟨(some 3), none, (.mv (.t 7))⟩]) (.seq (.seq (.reg none [⟨(some 8), none, (.mv (.t 0))⟩, ⟨(some 9), none, (.nc (.t 8))⟩, ⟨(some 10), none, (.fa 1 1 false (.t 9))⟩, ⟨(some 11), none, (.ld none (.t 10))⟩, ⟨(some 12), none, (.mv (.t 11))⟩, ⟨(some 13), (some ((some 12), false)), (.mv (.t 3))⟩, ⟨(some 14), (some ((some 12), false)), (.mv (.t 0))⟩, ⟨(some 15), (some ((some 12), false)), (.nc (.t 14))⟩, ⟨(some 16), (some ((some 12), false)), (.fa 0 1 false (.t 15))⟩, ⟨(some 17), (some ((some 12), false)), (.ld none (.t 16))⟩, ⟨(some 18), (some ((some 12), false)), (.len 1 (.t 17))⟩, ⟨(some 19), (some ((some 12), false)), (.bin .gtr [] (.t 13) (.t 18))⟩, ⟨(some 20), none, (.pick (.t 12) (.k (.bool true)) (.t 19))⟩]) (.cond (.t 20) (.seq (.reg none [⟨(some 21), none, (.mv (.t 0))⟩, ⟨(some 22), none, (.nc (.t 21))⟩, ⟨(some 23), none, (.fa 1 1 false (.t 22))⟩, ⟨none, none, (.st 1 (.t 23) (.k (.bool true)))⟩]) (.seq (.reg none [⟨(some 24), none, (.bld [nilS, (.int .i64 0), (.int .i64 0), (.int .i64 0)] [])⟩, ⟨none, none, (.st 4 (.t 2) (.t 24))⟩]) .ret)) .skip)) (.seq (.reg none [⟨(some 26), none, (.mv (.t 0))⟩, ⟨(some 27), none, (.nc (.t 26))⟩, ⟨(some 28), none, (.fa 0 1 false (.t 27))⟩, ⟨(some 29), none, (.ld none (.t 28))⟩, ⟨(some 30), none, (.mv (.t 3))⟩, ⟨(some 31), none, (.sub 1 1 (.t 29) none (some (.t 30)) none)⟩, ⟨(some 32), none, (.call (.f 110) [(.t 31)])⟩, ⟨(some 25), none, (.mv (.t 32))⟩, ⟨(some 33), none, (.ext (.t 25) 0)⟩, ⟨(some 34), none, (.ext (.t 25) 1)⟩, ⟨(some 4), none, (.alloc false [nilS, (.int .i64 0), (.int .i64 0), (.int .i64 0)])⟩, ⟨none, none, (.st 4 (.t 4) (.t 33))⟩, ⟨(some 5), none, (.mv (.t 34))⟩]) (.seq (.reg none [⟨(some 35), none, (.mv (.t 0))⟩, ⟨(some 36), none, (.mv (.t 0))⟩, ⟨(some 37), none, (.mv (.t 0))⟩, ⟨(some 38), none, (.nc (.t 37))⟩, ⟨(some 39), none, (.fa 0 1 false (.t 38))⟩, ⟨(some 40), none, (.ld none (.t 39))⟩, ⟨(some 41), none, (.mv (.t 3))⟩, ⟨(some 42), none, (.sub 1 1 (.t 40) (some (.t 41)) none none)⟩, ⟨(some 43), none, (.mv (.t 5))⟩, ⟨(some 44), none, (.bin .neq [] (.t 43) (.k (.int .i64 0)))⟩, ⟨(some 45), none, (.nc (.t 35))⟩, ⟨(some 46), none, (.fa 0 1 false (.t 45))⟩, ⟨none, none, (.st 1 (.t 46) (.t 42))⟩, ⟨(some 47), none, (.nc (.t 36))⟩, ⟨(some 48), none, (.fa 1 1 false (.t 47))⟩, ⟨none, none, (.st 1 (.t 48) (.t 44))⟩]) (.seq (.reg none [⟨(some 49), none, (.ld (some 4) (.t 4))⟩, ⟨none, none, (.st 4 (.t 2) (.t 49))⟩]) .ret))))))⟩
theorem k77 : compF Try.prog 77 = some c77 := by kernel_rfl
attribute [local simp] op_or op_an op_add op_sub op_mul oq_eql oq_neq oq_lss oq_gtr oq_leq oq_geq
attribute [-simp] intOp bin_shl
/-- A reader. -/
def Rdr (c : Bool) (l : List Int) (bad : Bool) : List Obj := [.box [.slc c 1 (l.map (.int .u8)), .bool bad]]
set_option maxHeartbeats 4000000 in
/-- reader.number. -/
theorem K78 (c : Bool) (l : List Int) (bad : Bool) (hl : l.length ≤ 2 ^ 45) (hB : isB l) : K0 78 [.ptr 0 0 0 0] (Rdr c l bad) = some (.int .i64 (numR l bad).1, Rdr c (numR l bad).2.1 (numR l bad).2.2) := by
  refine K_call k78 (oraG_none (by decide) (by decide)) (by simp [c78, Rdr]) ?_
  have hr := varI_range l
  have hK := fun cl => K74 cl l (by omega) hB
  unfold numR
  obtain ⟨x, hx⟩ : ∃ x : Nat, (varI l).1 = x := ⟨(varI l).1.toNat, by omega⟩
  obtain ⟨n, hn⟩ : ∃ n : Nat, (varI l).2 = n := ⟨(varI l).2.toNat, by omega⟩
  rw [hx, hn] at hK hr ⊢
  by_cases h1 : (n : Int) = 0
  · have z1 := eqI_t h1
    rw [if_pos h1]
    simp [c78, Rdr, hK, z1]
  · have z1 := eqI_f h1
    rw [if_neg h1]
    by_cases h2 : 999999 < (x : Int)
    · have z2 := ltI_t h2
      rw [if_pos h2]
      simp [c78, Rdr, hK, z1, z2]
    · have z2 := ltI_f h2
      rw [if_neg h2]
      have hw : IntKind.i64.wrap (x : Int) = x := w64 _ (by omega)
      have hnl : n ≤ l.length := by omega
      have e : (Int.toNat (n : Int)) = n := by omega
      rw [e]
      obtain ⟨r, hr2⟩ : ∃ r, l.drop n = r := ⟨_, rfl⟩
      have m1 : List.drop n (l.map (D.int .u8)) = r.map (D.int .u8) := by rw [← hr2]; simp [List.map_drop]
      rw [hr2]
      simp [c78, Rdr, hK, z1, z2, hw, hnl, m1]
set_option maxHeartbeats 4000000 in
/-- reader.schema. -/
theorem K77 (c : Bool) (l : List Int) (bad : Bool) (hl : l.length ≤ 2 ^ 38) (hB : isB l) : ∃ c' s', (s' = 1 ∨ (schR l bad).1.1 = []) ∧
    K0 77 [.ptr 0 0 0 0] (Rdr c l bad) = some (Sd c' s' (schR l bad).1.1 (schR l bad).1.2.1 (schR l bad).1.2.2.1 (schR l bad).1.2.2.2, Rdr c (schR l bad).2.1 (schR l bad).2.2) := by
  have hK := K78 c l bad (by omega) hB
  have hq := numR_range l bad
  have hqB := numR_B (bad := bad) hB
  have hql := numR_le l bad
  unfold schR
  generalize numR l bad = q at *
  obtain ⟨n, r, b⟩ := q
  simp only at hK hq hqB hql ⊢
  unfold Rdr at hK
  by_cases hb : b = true
  · subst hb
    refine ⟨true, 0, .inr (by simp), ?_⟩
    refine K_call k77 (oraG_none (by decide) (by decide)) (by simp [c77, Rdr]) ?_
    simp [c77, Rdr, hK, backK, Sd]
  · obtain rfl : b = false := by cases b <;> simp at hb ⊢
    obtain ⟨n, rfl⟩ := Int.eq_ofNat_of_zero_le hq.1
    by_cases h2 : (r.length : Int) < n
    · have z2 := ltI_t h2
      rw [if_pos (.inr h2)]
      refine ⟨true, 0, .inr rfl, ?_⟩
      refine K_call k77 (oraG_none (by decide) (by decide)) (by simp [c77, Rdr]) ?_
      simp [c77, Rdr, hK, backK, Sd, z2]
    · have z2 := ltI_f h2
      rw [if_neg (by rintro (h | h); cases h; exact h2 h)]
      have e : (Int.toNat (n : Int)) = n := by omega
      rw [e]
      obtain ⟨u, hu⟩ : ∃ u, r.take n = u := ⟨_, rfl⟩
      obtain ⟨v, hv⟩ : ∃ v, r.drop n = v := ⟨_, rfl⟩
      have m1 : List.take n (r.map (D.int .u8)) = u.map (D.int .u8) := by rw [← hu]; simp [List.map_take]
      have m2 : List.drop n (r.map (D.int .u8)) = v.map (D.int .u8) := by rw [← hv]; simp [List.map_drop]
      have hub : isB u := by rw [← hu]; exact isB_take hqB _
      have hul : u.length ≤ r.length := by rw [← hu]; simp; omega
      have hnl : n ≤ r.length := by omega
      rw [hu, hv]
      obtain ⟨c', s', hs, hT⟩ := K110 (c && n == r.length) u (by omega) hub
      refine ⟨c', s', hs, ?_⟩
      have hne : ((schT u).2 != 0) = neI (schT u).2 0 := rfl
      rw [hne]
      unfold Sd at hT ⊢
      refine K_call k77 (oraG_none (by decide) (by decide)) (by simp [c77, Rdr]) ?_
      simp [c77, Rdr, hK, backK, z2, m1, m2, hnl, hT]
      trace_state
end Go.Ab
