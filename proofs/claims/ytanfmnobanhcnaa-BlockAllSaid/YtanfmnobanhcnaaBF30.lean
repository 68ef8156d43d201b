/- THE FUNCTIONS' EQUATIONS: thresherref07.Same. -/
import Derived.Test.YtanfmnobanhcnaaBF53
set_option linter.all false
set_option maxRecDepth 100000
namespace Go.Ab
open Go.Proofs Go.Proofs.YtanfmnobanhcnaaH Go.Proofs.YtanfmnobanhcnaaH.Crc Go.Proofs.YtanfmnobanhcnaaH.Var Go.Proofs.YtanfmnobanhcnaaH.Fr
def b30_0 : C := (.seq (.seq (.reg none [⟨(some 11), none, (.mv (.t 5))⟩, ⟨(some 12), none, (.mv (.t 0))⟩, ⟨(some 13), none, (.len 1 (.t 12))⟩, ⟨(some 14), none, (.bin .lss [] (.t 11) (.t 13))⟩]) (.cond (.t 14) .skip (.exit 0))) (.seq (.block 1 (.seq (.reg (some [(2, 6), (3, 6), (2, 7), (3, 7)]) [⟨(some 17), none, (.mv (.t 0))⟩, ⟨(some 18), none, (.mv (.t 5))⟩, ⟨(some 19), none, (.ia none 2 true (.t 17) (.t 18))⟩, ⟨(some 20), none, (.ld (some 2) (.t 19))⟩, ⟨(some 21), none, (.mv (.t 1))⟩, ⟨(some 22), none, (.mv (.t 5))⟩, ⟨(some 23), none, (.ia none 2 true (.t 21) (.t 22))⟩, ⟨(some 24), none, (.ld (some 2) (.t 23))⟩, ⟨(some 25), none, (.bin .neq [0, 1] (.t 20) (.t 24))⟩]) (.cond (.t 25) (.seq (.reg none [⟨(some 4), none, (.mv (.k (.bool false)))⟩]) .ret) .skip))) (.reg none [⟨(some 15), none, (.mv (.t 5))⟩, ⟨(some 16), none, (.bin .add [] (.t 15) (.k (.int .i64 1)))⟩, ⟨(some 5), none, (.mv (.t 16))⟩])))
def c30 : Fn' := ⟨26, [(.tmp 4)], (.seq (.reg none [⟨(some 4), none, (.mv (.k (.bool false)))⟩]) (.seq (.seq (.reg none [⟨(some 6), none, (.mv (.t 0))⟩, ⟨(some 7), none, (.len 1 (.t 6))⟩, ⟨(some 8), none, (.mv (.t 1))⟩, ⟨(some 9), none, (.len 1 (.t 8))⟩, ⟨(some 10), none, (.bin .neq [] (.t 7) (.t 9))⟩]) (.cond (.t 10) (.seq (.reg none [⟨(some 4), none, (.mv (.k (.bool false)))⟩]) .ret) .skip)) (.seq (.seq (.reg none [⟨(some 5), none, (.mv (.k (.int .i64 0)))⟩]) (.block 0 (.loop b30_0))) (.seq (.reg none [⟨(some 4), none, (.mv (.k (.bool true)))⟩]) .ret))))⟩
theorem k30 : compF Try.prog 30 = some c30 := by kernel_rfl
attribute [local simp] op_or op_an op_add op_sub op_mul oq_eql oq_neq oq_lss oq_gtr oq_leq oq_geq
attribute [-simp] intOp bin_shl
def t30 (c d : Bool) (s s' : Nat) (l m : List Va) (i : Nat) : List D := [.slc c s (l.map Va.d), .slc d s' (m.map Va.d), .undef, .undef, .bool false, .int .i64 i, .slc c s (l.map Va.d), .int .i64 l.length, .slc d s' (m.map Va.d), .int .i64 m.length, .bool false, .undef, .undef, .undef, .undef, .undef, .undef, .undef, .undef, .undef, .undef, .undef, .undef, .undef, .undef, .undef]
def kn30 : List Kn := [.blk 0, .c ((C.reg none [⟨some 4, none, .mv (.k (.bool true))⟩]).seq C.ret)]
set_option maxHeartbeats 4000000 in
theorem L30 (c d : Bool) (s s' : Nat) (l m : List Va) (hs : s = 2 ∨ l = []) (hs' : s' = 2 ∨ m = []) (hl : l.length ≤ 2 ^ 47) : ∀ (r q pre : List Va) (i : Nat), l = pre ++ r → m = pre ++ q → i = pre.length → r.length = q.length →
    finK false 0 [Rs.tmp 4] (loopK cf0 K0 (LpB cf0 K0 b30_0 (t30 c d s s' l m 0) 0 ⟨t30 c d s s' l m i, []⟩) kn30) = some (.bool (r == q), [])
  | [], [], pre, i, h, h', hi, _ => by
    have : l = pre := by simpa using h
    subst this
    have z1 : ltI (i : Int) l.length = false := ltI_f (by omega)
    rw [LpB_eq]
    simp only [t30]
    conv => lhs; arg 4; arg 3; arg 6; simp [b30_0, z1]
    simp [kn30]
  | x :: r, y :: q, pre, i, h, h', hi, hrq => by
    have hll : i < l.length := by rw [h, hi]; simp
    have hlm : i < m.length := by rw [h', hi]; simp
    have z1 : ltI (i : Int) l.length = true := ltI_t (by omega)
    have hget : l[i]? = some x := by rw [h, hi]; simp
    have hget2 : m[i]? = some y := by rw [h', hi]; simp
    have hgi : l[i]'hll = x := by rw [List.getElem?_eq_getElem hll] at hget; exact Option.some.inj hget
    have hgm : m[i]'hlm = y := by rw [List.getElem?_eq_getElem hlm] at hget2; exact Option.some.inj hget2
    have hw := w64 (i + 1) (by omega)
    obtain rfl : s = 2 := hs.resolve_right (by intro e; subst e; simp at hll)
    obtain rfl : s' = 2 := hs'.resolve_right (by intro e; subst e; simp at hlm)
    rw [LpB_eq]
    obtain ⟨n, u⟩ := x
    obtain ⟨n', u'⟩ := y
    by_cases hxy : (n, u) = (n', u')
    · have ih := L30 c d 2 2 l m hs hs' hl r q (pre ++ [(n, u)]) (i + 1) (by rw [h]; simp) (by rw [h', hxy]; simp) (by simp [hi]) (by simpa using hrq)
      have e : ((n, u) :: r == (n', u') :: q) = (r == q) := by simp [hxy]
      rw [e]
      obtain ⟨rfl, rfl⟩ : n = n' ∧ u = u' := by simpa using hxy
      simp only [t30] at ih ⊢
      conv => lhs; arg 4; arg 3; arg 6; simp [b30_0, z1, hll, hlm, hgi, hgm, hw, Va.d, evOp, evM, wants, Ins.go, X.ev, iaM, ldM, binD, setD, applyW, Ek_ops_nil, allFree, free]
      simp at ih ⊢
      exact ih
    · have heq : ((n, u) :: r == (n', u') :: q) = false := by simpa using fun h1 h2 => absurd (by rw [h1, h2] : (n, u) = (n', u')) hxy
      rw [heq]
      have hne : (!(n == n' && u == u')) = true := by
        simp only [Bool.not_eq_true', Bool.and_eq_false_iff, beq_eq_false_iff_ne]
        by_cases h1 : n = n'
        · exact .inr fun h2 => hxy (by rw [h1, h2])
        · exact .inl h1
      simp only [t30]
      conv => lhs; arg 4; arg 3; arg 6; simp [b30_0, z1, hll, hlm, hgi, hgm, hw, Va.d, -Bool.not_and, hne, evOp, evM, wants, Ins.go, X.ev, iaM, ldM, binD, setD, applyW, Ek_ops_nil, allFree, free]
      simp [kn30]
  | [], y :: q, pre, i, h, h', hi, hrq => by simp at hrq
  | x :: r, [], pre, i, h, h', hi, hrq => by simp at hrq
set_option maxHeartbeats 2000000 in
/-- thresherref07.Same. -/
theorem K30 (c d : Bool) (s s' : Nat) (l m : List Va) (hs : s = 2 ∨ l = []) (hs' : s' = 2 ∨ m = []) (hl : l.length ≤ 2 ^ 47) : K0 30 [.slc c s (l.map Va.d), .slc d s' (m.map Va.d)] [] = some (.bool (l == m), []) := by
  refine K_call k30 (oraG_none (by decide) (by decide)) (by simp [c30]) ?_
  by_cases he : l.length = m.length
  · have z1 : neI (l.length : Int) m.length = false := by simp [neI, he]
    have h := L30 c d s s' l m hs hs' hl l m [] 0 rfl rfl rfl he
    simp only [t30, kn30] at h
    simp [c30, z1]
    simp at h
    exact h
  · have z1 : neI (l.length : Int) m.length = true := by simp [neI]; omega
    have heq : (l == m) = false := by simp; exact fun e => he (by rw [e])
    rw [heq]
    simp [c30, z1]
end Go.Ab
