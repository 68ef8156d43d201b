/- THE FUNCTIONS' EQUATIONS: thresherlaw17.ReplayTorn, of any list. -/
import Derived.Test.YtdopbfjebjnpkaaBF221
set_option linter.all false
set_option maxRecDepth 100000
namespace Go.Ab
open Go.Proofs Go.Proofs.YtdopbfjebjnpkaaH Go.Proofs.YtdopbfjebjnpkaaH.Crc Go.Proofs.YtdopbfjebjnpkaaH.Var Go.Proofs.YtdopbfjebjnpkaaH.Fr Go.Proofs.YtdopbfjebjnpkaaH.Rec
attribute [local simp] op_or op_an op_add op_sub op_mul oq_eql oq_neq oq_lss oq_gtr oq_leq oq_geq
attribute [-simp] intOp bin_shl
set_option maxHeartbeats 8000000 in
/-- thresherlaw17.ReplayTorn. -/
theorem K221 (a0 a1 a2 a3 a4 a5 a6 a7 n0 k0 m0 g0 : Int) (hts : ∀ x ∈ [a0, a1, a2, a3, a4, a5, a6, a7], 0 ≤ x ∧ x < 256) (hn : 0 ≤ n0 ∧ n0 < 256) (hk : 0 ≤ k0 ∧ k0 < 256) (hm : 0 ≤ m0 ∧ m0 < 256) (hg : 0 ≤ g0 ∧ g0 < 256) (c : Bool) (l : List B3) (at_ : Int) (hB : ∀ x ∈ l, (0 ≤ x.1 ∧ x.1 < 256) ∧ (0 ≤ x.2.1 ∧ x.2.1 < 256) ∧ (0 ≤ x.2.2 ∧ x.2.2 < 256)) (hat : 0 ≤ at_ ∧ at_ < 65536) :
    K0 3 [.agg [.int .u8 a0, .int .u8 a1, .int .u8 a2, .int .u8 a3, .int .u8 a4, .int .u8 a5, .int .u8 a6, .int .u8 a7, .int .u8 n0, .int .u8 k0, .int .u8 m0, .int .u8 g0], .slc c 3 (l.map B3.d), .int .u16 at_] [] = some (.bool true, []) := by
  refine K_call k221 (oraG_none (by decide) (by decide)) (by simp [c221]) ?_
  obtain ⟨t, ht⟩ : ∃ t, l.take 30 = t := ⟨_, rfl⟩
  have htl : t.length ≤ 30 := by rw [← ht]; simp; omega
  have htB : ∀ x ∈ t, (0 ≤ x.1 ∧ x.1 < 256) ∧ (0 ≤ x.2.1 ∧ x.2.1 < 256) ∧ (0 ≤ x.2.2 ∧ x.2.2 < 256) := fun x hx => hB x (by rw [← ht] at hx; exact List.mem_of_mem_take hx)
  have m1 : List.take 30 (l.map B3.d) = t.map B3.d := by rw [← ht]; simp [List.map_take]
  by_cases h30 : 30 < (l.length : Int)
  · have z := ltI_t h30
    have b1 : (30 : Int) ≤ l.length := by omega
    have b2 : 30 ≤ l.length := by omega
    simp [c221, K219, z, b1, b2, m1]
    exact R221 a0 a1 a2 a3 a4 a5 a6 a7 n0 k0 m0 g0 hts hn hk hm hg _ _ _ _ _ rfl rfl rfl rfl rfl _ 3 t at_ (.inl rfl) htl htB hat
  · have z := ltI_f h30
    obtain rfl : l = t := by rw [← ht, List.take_of_length_le (by omega)]
    simp [c221, K219, z]
    exact R221 a0 a1 a2 a3 a4 a5 a6 a7 n0 k0 m0 g0 hts hn hk hm hg _ _ _ _ _ rfl rfl rfl rfl rfl c 3 l at_ (.inl rfl) htl htB hat
end Go.Ab
