/-
The statement CrcLinear of the given program: the sum of three rows of bytes of one length, xor of each other, is the sums, xor of each other; of every input, no condition.
-/
import Derived.Test.YtfnlohopfoekfaaPCrcLinearx2
import Derived.Test.YtfnlohopfoekfaaHFrame
set_option linter.unusedVariables false
set_option linter.unusedSimpArgs false
set_option maxHeartbeats 2000000
namespace Go.Proofs.Ytfnlohopfoekfaa.Pure
open Go.RowKit Go.Proofs.Ytfnlohopfoekfaa.PCrcLinear Go.Proofs.YtfnlohopfoekfaaW.PrintWords Go.Proofs.YtfnlohopfoekfaaW.PrintLast Go.Proofs.YtfnlohopfoekfaaW.PrintMore

theorem shown_true : thresherlaw02_shown.f = some true := by
  unfold thresherlaw02_shown.f crc_Sum.f
  rw [if_pos (by decide), Option.bind_some, YtfnlohopfoekfaaH.Crc.crc_shown]
  rfl
theorem sum_is (l : List Int) (h : YtfnlohopfoekfaaH.Crc.isB l) : crc_Sum.f l = some (YtfnlohopfoekfaaH.Crc.crcI l) := by
  unfold crc_Sum.f
  rw [if_pos h]
/-- The xor of three bytes. -/
def x3 (a b c : Int) : Int := Go.bits .xor .u8 (Go.bits .xor .u8 a b) c
theorem x3_nat (a b c : Nat) (ha : a < 256) (hb : b < 256) (hc : c < 256) : x3 a b c = ((a ^^^ b ^^^ c : Nat) : Int) := by
  unfold x3
  rw [u8_xor_nat a b ha hb, u8_xor_nat _ _ (Nat.xor_lt_two_pow (n := 8) ha hb) hc]
/-- The first n of three rows, xor of each other. -/
def xs (l m r : List Int) (n : Nat) : List Int := (List.range n).map fun i => x3 (l.getD i 0) (m.getD i 0) (r.getD i 0)
theorem xs_succ (l m r : List Int) (n : Nat) : xs l m r (n + 1) = xs l m r n ++ [x3 (l.getD n 0) (m.getD n 0) (r.getD n 0)] := by
  unfold xs
  rw [List.range_succ, List.map_append]
  rfl
theorem isB_get {l : List Int} (h : YtfnlohopfoekfaaH.Crc.isB l) (i : Nat) : 0 ≤ l.getD i 0 ∧ l.getD i 0 < 256 := by
  rw [List.getD_eq_getElem?_getD]
  rcases Nat.lt_or_ge i l.length with hi | hi
  · rw [List.getElem?_eq_getElem hi]
    exact h _ (List.getElem_mem hi)
  · rw [List.getElem?_eq_none hi]
    decide
theorem xs_nats (l m r : List Int) (hl : YtfnlohopfoekfaaH.Crc.isB l) (hm : YtfnlohopfoekfaaH.Crc.isB m) (hr : YtfnlohopfoekfaaH.Crc.isB r) (n : Nat) (h1 : n ≤ l.length) (h2 : n ≤ m.length) (h3 : n ≤ r.length) :
    YtfnlohopfoekfaaH.Crc.isB (xs l m r n) ∧ YtfnlohopfoekfaaH.Crc.nats (xs l m r n) = List.zipWith (· ^^^ ·) (List.zipWith (· ^^^ ·) (YtfnlohopfoekfaaH.Crc.nats (l.take n)) (YtfnlohopfoekfaaH.Crc.nats (m.take n))) (YtfnlohopfoekfaaH.Crc.nats (r.take n)) := by
  have key : ∀ i, x3 (l.getD i 0) (m.getD i 0) (r.getD i 0) = (((l.getD i 0).toNat ^^^ (m.getD i 0).toNat ^^^ (r.getD i 0).toNat : Nat) : Int) := by
    intro i
    have a := isB_get hl i
    have b := isB_get hm i
    have c := isB_get hr i
    obtain ⟨x, hx⟩ := Int.eq_ofNat_of_zero_le a.1
    obtain ⟨y, hy⟩ := Int.eq_ofNat_of_zero_le b.1
    obtain ⟨z, hz⟩ := Int.eq_ofNat_of_zero_le c.1
    rw [hx, hy, hz, Int.toNat_natCast, Int.toNat_natCast, Int.toNat_natCast]
    exact x3_nat x y z (by omega) (by omega) (by omega)
  constructor
  · intro x hx
    obtain ⟨i, _, rfl⟩ := List.mem_map.1 hx
    rw [key]
    have a := isB_get hl i
    have b := isB_get hm i
    have c := isB_get hr i
    have : (l.getD i 0).toNat ^^^ (m.getD i 0).toNat ^^^ (r.getD i 0).toNat < 2 ^ 8 := Nat.xor_lt_two_pow (Nat.xor_lt_two_pow (by omega) (by omega)) (by omega)
    omega
  · apply List.ext_getElem
    · simp [xs, YtfnlohopfoekfaaH.Crc.nats]
      omega
    · intro i hi hi'
      have hin : i < n := by simpa [xs, YtfnlohopfoekfaaH.Crc.nats] using hi
      have gl : l.getD i 0 = l[i]'(by omega) := by rw [List.getD_eq_getElem?_getD, List.getElem?_eq_getElem (by omega)]; rfl
      have gm : m.getD i 0 = m[i]'(by omega) := by rw [List.getD_eq_getElem?_getD, List.getElem?_eq_getElem (by omega)]; rfl
      have gr : r.getD i 0 = r[i]'(by omega) := by rw [List.getD_eq_getElem?_getD, List.getElem?_eq_getElem (by omega)]; rfl
      simp only [xs, YtfnlohopfoekfaaH.Crc.nats, List.getElem_map, List.getElem_range, List.getElem_zipWith, List.getElem_take]
      rw [key, Int.toNat_natCast, gl, gm, gr]
theorem loop_is (l m r : List Int) (hl : YtfnlohopfoekfaaH.Crc.isB l) (hm : YtfnlohopfoekfaaH.Crc.isB m) (hr : YtfnlohopfoekfaaH.Crc.isB r) (n : Nat) (h1 : n ≤ l.length) (h2 : n ≤ m.length) (h3 : n ≤ r.length) (h4 : n ≤ 300) (d : Nat) : ∀ i : Nat, i + d = n →
    Ev (fun k => thresherlaw02_CrcLinear.l0 k l m r true (n : Int) (xs l m r i) (i : Int)) true := by
  induction d with
  | zero =>
    intro i hi
    have hin : i = n := by omega
    subst hin
    obtain ⟨hB, hN⟩ := xs_nats l m r hl hm hr i h1 h2 h3
    have hres : YtfnlohopfoekfaaH.Crc.crcI (xs l m r i) = Go.bits .xor .u32 (Go.bits .xor .u32 (YtfnlohopfoekfaaH.Crc.crcI (l.take i)) (YtfnlohopfoekfaaH.Crc.crcI (m.take i))) (YtfnlohopfoekfaaH.Crc.crcI (r.take i)) := by
      have b1 := YtfnlohopfoekfaaH.Crc.crcN_lt _ (YtfnlohopfoekfaaH.Crc.nats_lt (YtfnlohopfoekfaaH.Var.isB_take hl i))
      have b2 := YtfnlohopfoekfaaH.Crc.crcN_lt _ (YtfnlohopfoekfaaH.Crc.nats_lt (YtfnlohopfoekfaaH.Var.isB_take hm i))
      have b3 := YtfnlohopfoekfaaH.Crc.crcN_lt _ (YtfnlohopfoekfaaH.Crc.nats_lt (YtfnlohopfoekfaaH.Var.isB_take hr i))
      unfold YtfnlohopfoekfaaH.Crc.crcI
      rw [hN, YtfnlohopfoekfaaH.Crc.crcN_three _ _ _ (by simp [YtfnlohopfoekfaaH.Crc.nats]; omega) (by simp [YtfnlohopfoekfaaH.Crc.nats]; omega), YtfnlohopfoekfaaH.Crc.u32_xor _ _ b1 b2, YtfnlohopfoekfaaH.Crc.u32_xor _ _ (Nat.xor_lt_two_pow (n := 32) b1 b2) b3]
    refine Ev.step (f := fun _ => some true) (fun k => ?_) (Ev.now _)
    have s0 := sum_is (xs l m r i) hB
    have s1 := sum_is (l.take i) (YtfnlohopfoekfaaH.Var.isB_take hl i)
    have s2 := sum_is (m.take i) (YtfnlohopfoekfaaH.Var.isB_take hm i)
    have s3 := sum_is (r.take i) (YtfnlohopfoekfaaH.Var.isB_take hr i)
    rw [hres] at s0
    generalize YtfnlohopfoekfaaH.Crc.crcI (l.take i) = c1 at s0 s1
    generalize YtfnlohopfoekfaaH.Crc.crcI (m.take i) = c2 at s0 s2
    generalize YtfnlohopfoekfaaH.Crc.crcI (r.take i) = c3 at s0 s3
    simp only [thresherlaw02_CrcLinear.l0]
    rw [if_neg (by omega), if_pos trivial, s0, Option.bind_some, if_pos (by omega), if_pos (by omega), Int.toNat_natCast, s1, Option.bind_some, if_pos (by omega), s2, Option.bind_some, if_pos (by omega), s3, Option.bind_some, beq_self_eq_true]
  | succ d ih =>
    intro i hi
    have hlen : (xs l m r i).length = i := by simp [xs]
    have h := ih (i + 1) (by omega)
    rw [xs_succ] at h
    refine Ev.step (fun k => ?_) h
    simp only [thresherlaw02_CrcLinear.l0]
    rw [if_pos (by omega), if_pos (by omega), if_pos (by omega), if_pos (by omega), if_pos (by omega), if_pos (by omega), YtfnlohopfoekfaaH.Crc.wrap64_in _ (by omega) (by omega)]
    rfl
theorem CrcLinear : thresherlaw02_CrcLinear.Pure := by
  intro l m r hl hl2 hwl hm hm2 hwm hr hr2 hwr
  have h := loop_is l m r (YtfnlohopfoekfaaH.Crc.isB_wf hwl) (YtfnlohopfoekfaaH.Crc.isB_wf hwm) (YtfnlohopfoekfaaH.Crc.isB_wf hwr) (min (min (min l.length m.length) r.length) 300) (by omega) (by omega) (by omega) (by omega) _ 0 (Nat.zero_add _)
  obtain ⟨k, hk⟩ := h.rounds
  refine ⟨k, ?_⟩
  have e : mn (mn (mn (l.length : Int) (m.length : Int)) (r.length : Int)) 300 = ((min (min (min l.length m.length) r.length) 300 : Nat) : Int) := by
    unfold mn
    repeat' split
    all_goals omega
  unfold thresherlaw02_CrcLinear.f
  rw [shown_true, Option.bind_some, e]
  exact hk

end Go.Proofs.Ytfnlohopfoekfaa.Pure
