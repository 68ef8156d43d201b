/- THE FUNCTIONS' EQUATIONS: thresherref04.One, Rows. -/
import Derived.Test.YtomomeabfnmncaaGreatBF255
import Derived.Test.YtomomeabfnmncaaGreatBF110
import Derived.Test.YtomomeabfnmncaaGreatBPPart
import Derived.Test.YtomomeabfnmncaaGreatBF22
import Derived.Test.YtomomeabfnmncaaGreatBPPar3
set_option linter.all false
set_option maxRecDepth 100000
namespace Go.Ab
open Go.Proofs Go.Proofs.YtomomeabfnmncaaGreatH
def b296_0 : C := (.seq (.seq (.reg none [⟨(some 11), none, (.mv (.t 5))⟩, ⟨(some 12), none, (.mv (.t 0))⟩, ⟨(some 13), none, (.len 1 (.t 12))⟩, ⟨(some 14), none, (.bin .lss [] (.t 11) (.t 13))⟩]) (.cond (.t 14) .skip (.exit 0))) (.seq (.block 1 (.seq (.reg (some [(2, 6), (3, 6), (2, 7), (3, 7)]) [⟨(some 17), none, (.mv (.t 0))⟩, ⟨(some 18), none, (.mv (.t 5))⟩, ⟨(some 19), none, (.ia none 2 true (.t 17) (.t 18))⟩, ⟨(some 20), none, (.ld (some 2) (.t 19))⟩, ⟨(some 21), none, (.mv (.t 1))⟩, ⟨(some 22), none, (.mv (.t 5))⟩, ⟨(some 23), none, (.ia none 2 true (.t 21) (.t 22))⟩, ⟨(some 24), none, (.ld (some 2) (.t 23))⟩, ⟨(some 25), none, (.bin .neq [0, 1] (.t 20) (.t 24))⟩]) (.cond (.t 25) (.seq (.reg none [⟨(some 4), none, (.mv (.k (.bool false)))⟩]) .ret) .skip))) (.reg none [⟨(some 15), none, (.mv (.t 5))⟩, ⟨(some 16), none, (.bin .add [] (.t 15) (.k (.int .i64 1)))⟩, ⟨(some 5), none, (.mv (.t 16))⟩])))
def c296 : Fn' := ⟨26, [(.tmp 4)], (.seq (.reg none [⟨(some 4), none, (.mv (.k (.bool false)))⟩]) (.seq (.seq (.reg none [⟨(some 6), none, (.mv (.t 0))⟩, ⟨(some 7), none, (.len 1 (.t 6))⟩, ⟨(some 8), none, (.mv (.t 1))⟩, ⟨(some 9), none, (.len 1 (.t 8))⟩, ⟨(some 10), none, (.bin .neq [] (.t 7) (.t 9))⟩]) (.cond (.t 10) (.seq (.reg none [⟨(some 4), none, (.mv (.k (.bool false)))⟩]) .ret) .skip)) (.seq (.seq (.reg none [⟨(some 5), none, (.mv (.k (.int .i64 0)))⟩]) (.block 0 (.loop b296_0))) (.seq (.reg none [⟨(some 4), none, (.mv (.k (.bool true)))⟩]) .ret))))⟩
theorem k296 : compF Tryz.prog 49 = some c296 := by kernel_rfl
def b290_0 : C := (.seq (.seq (.reg none [⟨(some 12), none, (.mv (.t 5))⟩, ⟨(some 13), none, (.mv (.t 0))⟩, ⟨(some 14), none, (.len 1 (.t 13))⟩, ⟨(some 15), none, (.bin .lss [] (.t 12) (.t 14))⟩]) (.cond (.t 15) .skip (.exit 0))) (.seq (.block 1 (.seq (.reg (some [(2, 6), (3, 6), (2, 7), (3, 7)]) [⟨(some 18), none, (.mv (.t 0))⟩, ⟨(some 19), none, (.mv (.t 5))⟩, ⟨(some 20), none, (.ia none 1 false (.t 18) (.t 19))⟩, ⟨(some 21), none, (.ld none (.t 20))⟩, ⟨(some 22), none, (.mv (.t 1))⟩, ⟨(some 23), none, (.mv (.t 5))⟩, ⟨(some 24), none, (.ia none 1 false (.t 22) (.t 23))⟩, ⟨(some 25), none, (.ld none (.t 24))⟩, ⟨(some 26), none, (.call (.f 49) [(.t 21), (.t 25)])⟩, ⟨(some 6), none, (.mv (.t 26))⟩]) (.seq (.reg none [⟨(some 27), none, (.mv (.t 6))⟩, ⟨(some 28), none, (.un .not (.t 27))⟩]) (.cond (.t 28) (.seq (.reg none [⟨(some 4), none, (.mv (.k (.bool false)))⟩]) .ret) .skip)))) (.reg none [⟨(some 16), none, (.mv (.t 5))⟩, ⟨(some 17), none, (.bin .add [] (.t 16) (.k (.int .i64 1)))⟩, ⟨(some 5), none, (.mv (.t 17))⟩])))
def r290 : C := (.seq (.reg none [⟨(some 4), none, (.mv (.k (.bool true)))⟩]) .ret)
def c290 : Fn' := ⟨29, [(.tmp 4)], (.seq (.reg none [⟨(some 4), none, (.mv (.k (.bool false)))⟩]) (.seq (.seq (.reg none [⟨(some 7), none, (.mv (.t 0))⟩, ⟨(some 8), none, (.len 1 (.t 7))⟩, ⟨(some 9), none, (.mv (.t 1))⟩, ⟨(some 10), none, (.len 1 (.t 9))⟩, ⟨(some 11), none, (.bin .neq [] (.t 8) (.t 10))⟩]) (.cond (.t 11) (.seq (.reg none [⟨(some 4), none, (.mv (.k (.bool false)))⟩]) .ret) .skip)) (.seq (.seq (.reg none [⟨(some 5), none, (.mv (.k (.int .i64 0)))⟩]) (.block 0 (.loop b290_0))) r290)))⟩
theorem k290 : compF Tryz.prog 18 = some c290 := by kernel_rfl
attribute [local simp] op_or op_an op_add op_sub op_mul oq_eql oq_neq oq_lss oq_gtr oq_leq oq_geq
attribute [-simp] intOp bin_shl
def t296 (c d : Bool) (s s' : Nat) (l m : List Va) (i : Nat) : List D := [.slc c s (l.map Va.d), .slc d s' (m.map Va.d), .undef, .undef, .bool false, .int .i64 i, .slc c s (l.map Va.d), .int .i64 l.length, .slc d s' (m.map Va.d), .int .i64 m.length, .bool false, .undef, .undef, .undef, .undef, .undef, .undef, .undef, .undef, .undef, .undef, .undef, .undef, .undef, .undef, .undef]
def kn296 : List Kn := [.blk 0, .c ((C.reg none [⟨some 4, none, .mv (.k (.bool true))⟩]).seq C.ret)]
set_option maxHeartbeats 4000000 in
theorem L296 (c d : Bool) (s s' : Nat) (l m : List Va) (hs : s = 2 ∨ l = []) (hs' : s' = 2 ∨ m = []) (hl : l.length ≤ 2 ^ 47) : ∀ (r q pre : List Va) (i : Nat), l = pre ++ r → m = pre ++ q → i = pre.length → r.length = q.length →
    finK false 0 [Rs.tmp 4] (loopK cf0 K0 (LpB cf0 K0 b296_0 (t296 c d s s' l m 0) 0 ⟨t296 c d s s' l m i, []⟩) kn296) = some (.bool (r == q), [])
  | [], [], pre, i, h, h', hi, _ => by
    have : l = pre := by simpa using h
    subst this
    have z1 : ltI (i : Int) l.length = false := ltI_f (by omega)
    rw [LpB_eq]
    simp only [t296]
    conv => lhs; arg 4; arg 3; arg 6; simp [b296_0, z1]
    simp [kn296]
  | x :: r, y :: q, pre, i, h, h', hi, hrq => by
    have hll : i < l.length := by rw [h, hi]; simp
    have hlm : i < m.length := by rw [h', hi]; simp
    have z1 : ltI (i : Int) l.length = true := ltI_t (by omega)
    have hget : l[i]? = some x := by rw [h, hi]; simp
    have hget2 : m[i]? = some y := by rw [h', hi]; simp
    have hgi : l[i]'hll = x := by rw [List.getElem?_eq_getElem hll] at hget; exact Option.some.inj hget
    have hgm : m[i]'hlm = y := by rw [List.getElem?_eq_getElem hlm] at hget2; exact Option.some.inj hget2
    have hw := w64 (i + 1) (by omega)
    obtain rfl : s = 2 := hs.resolve_right (by intro e; subst e; simp at hll)
    obtain rfl : s' = 2 := hs'.resolve_right (by intro e; subst e; simp at hlm)
    rw [LpB_eq]
    obtain ⟨n, u⟩ := x
    obtain ⟨n', u'⟩ := y
    by_cases hxy : (n, u) = (n', u')
    · have ih := L296 c d 2 2 l m hs hs' hl r q (pre ++ [(n, u)]) (i + 1) (by rw [h]; simp) (by rw [h', hxy]; simp) (by simp [hi]) (by simpa using hrq)
      have e : ((n, u) :: r == (n', u') :: q) = (r == q) := by simp [hxy]
      rw [e]
      obtain ⟨rfl, rfl⟩ : n = n' ∧ u = u' := by simpa using hxy
      simp only [t296] at ih ⊢
      conv => lhs; arg 4; arg 3; arg 6; simp [b296_0, z1, hll, hlm, hgi, hgm, hw, Va.d, evOp, evM, wants, Ins.go, X.ev, iaM, ldM, binD, setD, applyW, Ek_ops_nil, allFree, free]
      simp at ih ⊢
      exact ih
    · have heq : ((n, u) :: r == (n', u') :: q) = false := by simpa using fun h1 h2 => absurd (by rw [h1, h2] : (n, u) = (n', u')) hxy
      rw [heq]
      have hne : (!(n == n' && u == u')) = true := by
        simp only [Bool.not_eq_true', Bool.and_eq_false_iff, beq_eq_false_iff_ne]
        by_cases h1 : n = n'
        · exact .inr fun h2 => hxy (by rw [h1, h2])
        · exact .inl h1
      simp only [t296]
      conv => lhs; arg 4; arg 3; arg 6; simp [b296_0, z1, hll, hlm, hgi, hgm, hw, Va.d, -Bool.not_and, hne, evOp, evM, wants, Ins.go, X.ev, iaM, ldM, binD, setD, applyW, Ek_ops_nil, allFree, free]
      simp [kn296]
  | [], y :: q, pre, i, h, h', hi, hrq => by simp at hrq
  | x :: r, [], pre, i, h, h', hi, hrq => by simp at hrq
set_option maxHeartbeats 2000000 in
/-- thresherref04.One. -/
theorem K296 (c d : Bool) (s s' : Nat) (l m : List Va) (hs : s = 2 ∨ l = []) (hs' : s' = 2 ∨ m = []) (hl : l.length ≤ 2 ^ 47) : K0 49 [.slc c s (l.map Va.d), .slc d s' (m.map Va.d)] [] = some (.bool (l == m), []) := by
  refine K_call k296 (oraG_none (by decide) (by decide)) (by simp [c296]) ?_
  by_cases he : l.length = m.length
  · have z1 : neI (l.length : Int) m.length = false := by simp [neI, he]
    have h := L296 c d s s' l m hs hs' hl l m [] 0 rfl rfl rfl he
    simp only [t296, kn296] at h
    simp [c296, z1]
    simp at h
    exact h
  · have z1 : neI (l.length : Int) m.length = true := by simp [neI]; omega
    have heq : (l == m) = false := by simp; exact fun e => he (by rw [e])
    rw [heq]
    simp [c296, z1]
/-- The rows of flagged ones. -/
def rsW (L : List Rw) : List (List Va) := L.map Rw.r
def t290 (c d : Bool) (l m : List Rw) (i : Nat) : List D := [.slc c 1 (l.map Rw.d), .slc d 1 (m.map Rw.d), .undef, .undef, .bool false, .int .i64 i, .undef, .slc c 1 (l.map Rw.d), .int .i64 l.length, .slc d 1 (m.map Rw.d), .int .i64 m.length, .bool false, .undef, .undef, .undef, .undef, .undef, .undef, .undef, .undef, .undef, .undef, .undef, .undef, .undef, .undef, .undef, .undef, .undef]
attribute [-simp] D.cells
set_option maxHeartbeats 4000000 in
theorem L290 (c d : Bool) (l m : List Rw) (hl : l.length ≤ 2 ^ 47) (hlr : ∀ x ∈ l, x.r.length ≤ 2 ^ 47) : ∀ (r q pre pre' : List Rw) (i : Nat), l = pre ++ r → m = pre' ++ q → i = pre.length → i = pre'.length → r.length = q.length →
    finK false 0 [Rs.tmp 4] (loopK cf0 K0 (LpB cf0 K0 b290_0 (t290 c d l m 0) 0 ⟨t290 c d l m i, []⟩) [.blk 0, .c r290]) = some (.bool (rsW r == rsW q), [])
  | [], [], pre, pre', i, h, h', hi, hi', _ => by
    have : l = pre := by simpa using h
    subst this
    have z1 : ltI (i : Int) l.length = false := ltI_f (by omega)
    rw [LpB_eq]
    simp only [t290]
    conv => lhs; arg 4; arg 3; arg 6; simp [b290_0, z1]
    simp [r290, rsW]
  | x :: r, y :: q, pre, pre', i, h, h', hi, hi', hrq => by
    have hll : i < l.length := by rw [h, hi]; simp
    have hlm : i < m.length := by rw [h', hi']; simp
    have z1 : ltI (i : Int) l.length = true := ltI_t (by omega)
    have hget : l[i]? = some x := by rw [h, hi]; simp
    have hget2 : m[i]? = some y := by rw [h', hi']; simp
    have hgi : l[i]'hll = x := by rw [List.getElem?_eq_getElem hll] at hget; exact Option.some.inj hget
    have hgm : m[i]'hlm = y := by rw [List.getElem?_eq_getElem hlm] at hget2; exact Option.some.inj hget2
    have hK := K296 x.c y.c x.s y.s x.r y.r x.h y.h (hlr x (by rw [h]; simp))
    have ih := L290 c d l m hl hlr r q (pre ++ [x]) (pre' ++ [y]) (i + 1) (by rw [h]; simp) (by rw [h']; simp) (by simp [hi]) (by simp [hi']) (by simpa using hrq)
    have hw := w64 (i + 1) (by omega)
    rw [LpB_eq]
    by_cases hxy : x.r = y.r
    · have e : (rsW (x :: r) == rsW (y :: q)) = (rsW r == rsW q) := by simp [rsW, hxy]
      rw [show (x.r == y.r) = true by simpa using hxy] at hK
      rw [e]
      generalize (rsW r == rsW q) = R at *
      simp only [t290, Rw.d] at ih hK ⊢
      conv => lhs; arg 4; arg 3; arg 6; simp [evOp, evM, wants, Ins.go, X.ev, iaM, ldM, binD, setD, applyW, Ek_ops_nil, allFree, free, callM, callP, callO, appM, b290_0, z1, hll, hlm, hgi, hgm, hw, Rw.d, hK]
      simp at ih ⊢
      exact ih
    · have e : (rsW (x :: r) == rsW (y :: q)) = false := by simp [rsW, hxy]
      rw [show (x.r == y.r) = false by simpa using hxy] at hK
      rw [e]
      simp only [t290, Rw.d] at hK ⊢
      conv => lhs; arg 4; arg 3; arg 6; simp [evOp, evM, wants, Ins.go, X.ev, iaM, ldM, binD, setD, applyW, Ek_ops_nil, allFree, free, callM, callP, callO, appM, b290_0, z1, hll, hlm, hgi, hgm, hw, Rw.d, hK]
      simp
  | [], y :: q, pre, pre', i, h, h', hi, hi', hrq => by simp at hrq
  | x :: r, [], pre, pre', i, h, h', hi, hi', hrq => by simp at hrq
set_option maxHeartbeats 4000000 in
/-- thresherref04.Rows. -/
theorem K290 (c d : Bool) (s s' : Nat) (l m : List Rw) (hs : s = 1 ∨ l = []) (hs' : s' = 1 ∨ m = []) (hl : l.length ≤ 2 ^ 47) (hlr : ∀ x ∈ l, x.r.length ≤ 2 ^ 47) : K0 18 [.slc c s (l.map Rw.d), .slc d s' (m.map Rw.d)] [] = some (.bool (rsW l == rsW m), []) := by
  refine K_call k290 (oraG_none (by decide) (by decide)) (by simp [c290]) ?_
  by_cases he : l.length = m.length
  · have z1 : neI (l.length : Int) m.length = false := neI_f (by omega)
    by_cases hn : l = []
    · subst hn
      obtain rfl : m = [] := List.eq_nil_of_length_eq_zero (by simpa using he.symm)
      have z2 : ltI 0 0 = false := rfl
      have z3 : neI 0 0 = false := rfl
      simp [c290, z3]
      rw [LpB_eq]
      simp [b290_0, z2, r290, rsW]
    · obtain rfl := hs.resolve_right hn
      obtain rfl := hs'.resolve_right (by intro e; subst e; simp at he; exact hn he)
      have h := L290 c d l m hl hlr l m [] [] 0 rfl rfl rfl rfl he
      generalize (rsW l == rsW m) = R at *
      simp only [t290] at h
      simp [c290, z1]
      simp at h
      exact h
  · have z1 : neI (l.length : Int) m.length = true := neI_t (by omega)
    have heq : (rsW l == rsW m) = false := by
      simp only [beq_eq_false_iff_ne]
      intro e
      have := congrArg List.length e
      simp [rsW] at this
      exact he this
    rw [heq]
    simp [c290, z1]
end Go.Ab
/- THE FUNCTIONS' EQUATIONS: thresherlaw11.shown (of the second machine). -/
set_option linter.all false
set_option maxRecDepth 100000
namespace Go.Ab
open Go.Proofs Go.Proofs.YtomomeabfnmncaaGreatH Go.Proofs.YtomomeabfnmncaaGreatH.Crc Go.Proofs.YtomomeabfnmncaaGreatH.Var Go.Proofs.YtomomeabfnmncaaGreatH.Fr Go.Proofs.YtomomeabfnmncaaGreatH.Rec
def c242 : Fn' := ⟨58, [(.tmp 0)], (.seq (.reg none [⟨(some 0), none, (.mv (.k (.bool false)))⟩]) (.seq (.reg none [⟨(some 8), none, (.bsl false 1 1 [(.int .i64 0)] [(0, (.k (.int .i64 1)))])⟩, ⟨(some 9), none, (.bld [nilS, (.int .i64 0), (.int .i64 0), (.int .i64 0)] [(0, (1, (.t 8))), (1, (1, (.k (.int .i64 1)))), (2, (1, (.k (.int .i64 1)))), (3, (1, (.k (.int .i64 1))))])⟩, ⟨(some 1), none, (.alloc false [nilS, (.int .i64 0), (.int .i64 0), (.int .i64 0)])⟩, ⟨none, none, (.st 4 (.t 1) (.t 9))⟩]) (.seq (.reg none [⟨(some 11), none, (.ld (some 4) (.t 1))⟩, ⟨(some 12), none, (.bld [(.int .i64 0), (.str [])] [(0, (1, (.k (.int .i64 4))))])⟩, ⟨(some 13), none, (.bsl false 2 1 [(.int .i64 0), (.str [])] [(0, (.t 12))])⟩, ⟨(some 14), none, (.bld [(.int .i64 0), (.str [])] [(0, (1, (.k (.int .i64 9))))])⟩, ⟨(some 15), none, (.bsl false 2 1 [(.int .i64 0), (.str [])] [(0, (.t 14))])⟩, ⟨(some 16), none, (.bsl false 1 2 [nilS] [(0, (.t 13)), (1, (.t 15))])⟩, ⟨(some 17), none, (.call (.f 11) [(.t 11), (.t 16)])⟩, ⟨(some 10), none, (.mv (.t 17))⟩, ⟨(some 18), none, (.ext (.t 10) 0)⟩, ⟨(some 19), none, (.ext (.t 10) 1)⟩, ⟨(some 2), none, (.mv (.t 18))⟩, ⟨(some 3), none, (.mv (.t 19))⟩]) (.seq (.reg none [⟨(some 21), none, (.mv (.t 2))⟩, ⟨(some 22), none, (.call (.f 12) [(.t 21)])⟩, ⟨(some 20), none, (.mv (.t 22))⟩, ⟨(some 23), none, (.ext (.t 20) 0)⟩, ⟨(some 24), none, (.ext (.t 20) 1)⟩, ⟨(some 4), none, (.mv (.t 23))⟩, ⟨(some 5), none, (.mv (.t 24))⟩]) (.seq (.seq (.reg none [⟨(some 25), none, (.mv (.t 4))⟩, ⟨(some 26), none, (.bin .eql [5] (.t 25) (.k .nilptr))⟩, ⟨(some 27), none, (.mv (.t 26))⟩, ⟨(some 28), (some ((some 27), false)), (.mv (.t 3))⟩, ⟨(some 29), (some ((some 27), false)), (.bin .neq [] (.t 28) (.k (.int .i64 0)))⟩, ⟨(some 30), none, (.pick (.t 27) (.k (.bool true)) (.t 29))⟩, ⟨(some 31), none, (.mv (.t 30))⟩, ⟨(some 32), (some ((some 31), false)), (.mv (.t 5))⟩, ⟨(some 33), (some ((some 31), false)), (.bin .neq [] (.t 32) (.k (.int .i64 0)))⟩, ⟨(some 34), none, (.pick (.t 31) (.k (.bool true)) (.t 33))⟩]) (.cond (.t 34) (.seq (.reg none [⟨(some 0), none, (.mv (.k (.bool false)))⟩]) .ret) .skip)) (.seq (.reg none [⟨(some 36), none, (.mv (.t 4))⟩, ⟨(some 37), none, (.call (.f 16) [(.t 36), (.k (.int .i64 1))])⟩, ⟨(some 35), none, (.mv (.t 37))⟩, ⟨(some 38), none, (.ext (.t 35) 0)⟩, ⟨(some 39), none, (.ext (.t 35) 1)⟩, ⟨(some 6), none, (.mv (.t 38))⟩, ⟨(some 7), none, (.mv (.t 39))⟩]) (.seq (.reg none [⟨(some 40), none, (.mv (.t 4))⟩, ⟨(some 41), none, (.call (.f 14) [(.t 40)])⟩, ⟨(some 42), none, (.bin .eql [] (.t 41) (.k (.int .i64 2)))⟩, ⟨(some 43), none, (.mv (.t 42))⟩, ⟨(some 44), (some ((some 43), true)), (.mv (.t 7))⟩, ⟨(some 45), none, (.pick (.t 43) (.t 44) (.k (.bool false)))⟩, ⟨(some 46), none, (.mv (.t 45))⟩, ⟨(some 47), (some ((some 46), true)), (.mv (.t 6))⟩, ⟨(some 48), (some ((some 46), true)), (.len 1 (.t 47))⟩, ⟨(some 49), (some ((some 46), true)), (.bin .eql [] (.t 48) (.k (.int .i64 1)))⟩, ⟨(some 50), none, (.pick (.t 46) (.t 49) (.k (.bool false)))⟩, ⟨(some 51), none, (.mv (.t 50))⟩, ⟨(some 52), (some ((some 51), true)), (.mv (.t 6))⟩, ⟨(some 53), (some ((some 51), true)), (.ia none 2 true (.t 52) (.k (.int .i64 0)))⟩, ⟨(some 54), (some ((some 51), true)), (.fa 0 1 false (.t 53))⟩, ⟨(some 55), (some ((some 51), true)), (.ld none (.t 54))⟩, ⟨(some 56), (some ((some 51), true)), (.bin .eql [] (.t 55) (.k (.int .i64 9)))⟩, ⟨(some 57), none, (.pick (.t 51) (.t 56) (.k (.bool false)))⟩, ⟨(some 0), none, (.mv (.t 57))⟩]) .ret)))))))⟩
theorem k242 : compF Tryz.prog 6 = some c242 := by kernel_rfl
attribute [local simp] op_or op_an op_add op_sub op_mul oq_eql oq_neq oq_lss oq_gtr oq_leq oq_geq
attribute [-simp] intOp bin_shl bin_shr D.cells
attribute [local simp] bin_ptrnil bin_nilnil
theorem writeV_len {s : Sc} {R : List Rv} (h : OkR s R) : (writeV s R).length ≤ 2 ^ 38 := by
  have h0 := schemaOk_iff.1 h.ok
  have hsl := splitI_len s.2.2.2.toNat (by omega) R.length R (Nat.le_refl _)
  have hl := h.len
  have hH := headV_len h.ok (G := splitI s.2.2.2.toNat R) (by omega)
  unfold writeV tailV
  have h1 := colsV_len (marksV s.2.1.toNat (splitI s.2.2.2.toNat R)) (s.1.take s.2.1.toNat) 0
  have h2 : (colsV (marksV s.2.1.toNat (splitI s.2.2.2.toNat R)) 0 (s.1.take s.2.1.toNat)).length ≤ 200020 * 64 := Nat.le_trans h1 (Nat.mul_le_mul_left _ (by simp; omega))
  have h3 := blkO_len 2 (placesV s.1 (frameI (putS s.1 s.2.1 s.2.2.1 s.2.2.2)).length (splitI s.2.2.2.toNat R))
  have h4 := Fr.le8_len ((headV s (splitI s.2.2.2.toNat R)).length : Nat)
  simp only [List.length_append]
  omega
def shL : List Rw := [⟨true, 2, [(4, [])], .inl rfl⟩, ⟨true, 2, [(9, [])], .inl rfl⟩]
theorem sh_ok : OkR ([1], 1, 1, 1) (rowsOfW shL) := wErr_iff.1 (by decide +kernel)
set_option maxHeartbeats 4000000 in
theorem K242 : K1 6 [] [] = some (.bool true, []) := by
  refine K_call k242 (ora1_none (by decide)) (by simp [c242]) ?_
  have h64 : in64 (rowsOfW shL) := by
    intro x hx p hp
    simp [rowsOfW, shL] at hx
    rcases hx with rfl | rfl <;> simp at hp <;> subst hp <;> unfold i64R <;> simp
  have hW := K247 true 1 [1] (.inl rfl) 1 1 1 (by simp) true 1 shL (.inl rfl) (by simp [shL])
  rw [wErr_V, wErr_iff.2 sh_ok] at hW
  simp only [if_true] at hW
  have hw := write_V [1] 1 1 1 (by omega) shL
  have hB := isB_write [1] 1 1 1 shL
  have hO := open_write sh_ok h64
  rw [← hw] at hO
  have hlen : (writeB [1] 1 1 1 shL).length ≤ 2 ^ 38 := by
    rw [hw]
    exact writeV_len sh_ok
  obtain ⟨c', hK⟩ := K248 false (writeB [1] 1 1 1 shL) hlen hB
  rw [hO] at hK
  simp only at hK
  have hrr : (rowsOfW shL).map rwF = [⟨false, 2, [(4, [])], .inl rfl⟩, ⟨false, 2, [(9, [])], .inl rfl⟩] := rfl
  rw [hrr] at hK
  have hM := K1_of (K250 c' [1] 1 1 1 [⟨false, 2, [(4, [])], .inl rfl⟩, ⟨false, 2, [(9, [])], .inl rfl⟩] (by intro y hy; simp at hy; rcases hy with rfl | rfl <;> simp) (by omega) 1) (by decide)
  have hG := K1_of (K251 c' [1] 1 1 1 [⟨false, 2, [(4, [])], .inl rfl⟩, ⟨false, 2, [(9, [])], .inl rfl⟩]) (by decide)
  have z1 : thereI 1 (splitI (Int.toNat 1) [(⟨false, 2, [(4, [])], .inl rfl⟩ : Rw), ⟨false, 2, [(9, [])], .inl rfl⟩]).length = true := rfl
  have z2 : (splitI (Int.toNat 1) [(⟨false, 2, [(4, [])], .inl rfl⟩ : Rw), ⟨false, 2, [(9, [])], .inl rfl⟩]).length = 2 := rfl
  have z3 : ((((splitI (Int.toNat 1) [(⟨false, 2, [(4, [])], .inl rfl⟩ : Rw), ⟨false, 2, [(9, [])], .inl rfl⟩])[Int.toNat 1]?).map (markR (Int.toNat 1))).map Rw.r).getD [] = [(9, [])] := rfl
  rw [z1, if_pos rfl, z3] at hM
  rw [z2] at hG
  unfold PtB at hK hM hG
  generalize (splitI (Int.toNat 1) [(⟨false, 2, [(4, [])], .inl rfl⟩ : Rw), ⟨false, 2, [(9, [])], .inl rfl⟩]).map Gr = GG at *
  generalize ((splitI (Int.toNat 1) [(⟨false, 2, [(4, [])], .inl rfl⟩ : Rw), ⟨false, 2, [(9, [])], .inl rfl⟩]).map (markR (Int.toNat 1))).map Rw.d = MM at *
  generalize [(⟨false, 2, [(4, [])], .inl rfl⟩ : Rw), ⟨false, 2, [(9, [])], .inl rfl⟩].map Rw.d = LL at *
  generalize writeB [1] 1 1 1 shL = W at *
  have y0 : neI 0 0 = false := rfl
  have y1 : eqI 2 2 = true := rfl
  have y2 : eqI 1 1 = true := rfl
  have y3 : eqI 9 9 = true := rfl
  simp [Sd, shL, Rw.d, Va.d] at hW
  simp [Va.d] at hK hM hG
  simp [c242, hW, hK, hM, hG, y0, y1, y2, y3, backK]
end Go.Ab
/- THE FUNCTIONS' EQUATIONS: thresherlaw11.PartBack (of the second machine). -/
set_option linter.all false
set_option maxRecDepth 100000
namespace Go.Ab
open Go.Proofs Go.Proofs.YtomomeabfnmncaaGreatH Go.Proofs.YtomomeabfnmncaaGreatH.Crc Go.Proofs.YtomomeabfnmncaaGreatH.Var Go.Proofs.YtomomeabfnmncaaGreatH.Fr Go.Proofs.YtomomeabfnmncaaGreatH.Rec
def b285_0 : C := (.seq (.seq (.reg none [⟨(some 100), none, (.mv (.t 19))⟩, ⟨(some 101), none, (.mv (.t 12))⟩, ⟨(some 102), none, (.call (.f 14) [(.t 101)])⟩, ⟨(some 103), none, (.bin .lss [] (.t 100) (.t 102))⟩]) (.cond (.t 103) .skip (.exit 0))) (.seq (.block 1 (.seq (.reg none [⟨(some 107), none, (.mv (.t 12))⟩, ⟨(some 108), none, (.mv (.t 19))⟩, ⟨(some 109), none, (.call (.f 15) [(.t 107), (.t 108)])⟩, ⟨(some 106), none, (.mv (.t 109))⟩, ⟨(some 110), none, (.ext (.t 106) 0)⟩, ⟨(some 111), none, (.ext (.t 106) 1)⟩, ⟨(some 20), none, (.mv (.t 110))⟩, ⟨(some 21), none, (.mv (.t 111))⟩]) (.seq (.reg none [⟨(some 113), none, (.mv (.t 12))⟩, ⟨(some 114), none, (.mv (.t 19))⟩, ⟨(some 115), none, (.call (.f 16) [(.t 113), (.t 114)])⟩, ⟨(some 112), none, (.mv (.t 115))⟩, ⟨(some 116), none, (.ext (.t 112) 0)⟩, ⟨(some 117), none, (.ext (.t 112) 1)⟩, ⟨(some 22), none, (.mv (.t 116))⟩, ⟨(some 23), none, (.mv (.t 117))⟩]) (.seq (.seq (.reg (some [(26, 28), (26, 29)]) [⟨(some 118), none, (.mv (.t 21))⟩, ⟨(some 119), none, (.un .not (.t 118))⟩, ⟨(some 120), none, (.mv (.t 119))⟩, ⟨(some 121), (some ((some 120), false)), (.mv (.t 23))⟩, ⟨(some 122), (some ((some 120), false)), (.un .not (.t 121))⟩, ⟨(some 123), none, (.pick (.t 120) (.k (.bool true)) (.t 122))⟩, ⟨(some 124), none, (.mv (.t 123))⟩, ⟨(some 125), (some ((some 124), false)), (.mv (.t 20))⟩, ⟨(some 126), (some ((some 124), false)), (.len 1 (.t 125))⟩, ⟨(some 127), (some ((some 124), false)), (.bin .lss [] (.t 126) (.k (.int .i64 1)))⟩, ⟨(some 128), none, (.pick (.t 124) (.k (.bool true)) (.t 127))⟩, ⟨(some 129), none, (.mv (.t 128))⟩, ⟨(some 130), (some ((some 129), false)), (.mv (.t 20))⟩, ⟨(some 131), (some ((some 129), false)), (.len 1 (.t 130))⟩, ⟨(some 132), (some ((some 129), false)), (.fa 3 1 false (.t 8))⟩, ⟨(some 133), (some ((some 129), false)), (.ld none (.t 132))⟩, ⟨(some 134), (some ((some 129), false)), (.bin .gtr [] (.t 131) (.t 133))⟩, ⟨(some 135), none, (.pick (.t 129) (.k (.bool true)) (.t 134))⟩, ⟨(some 136), none, (.mv (.t 135))⟩, ⟨(some 137), (some ((some 136), false)), (.mv (.t 22))⟩, ⟨(some 138), (some ((some 136), false)), (.len 1 (.t 137))⟩, ⟨(some 139), (some ((some 136), false)), (.fa 1 1 false (.t 8))⟩, ⟨(some 140), (some ((some 136), false)), (.ld none (.t 139))⟩, ⟨(some 141), (some ((some 136), false)), (.bin .neq [] (.t 138) (.t 140))⟩, ⟨(some 142), none, (.pick (.t 136) (.k (.bool true)) (.t 141))⟩, ⟨(some 143), none, (.mv (.t 142))⟩, ⟨(some 144), (some ((some 143), false)), (.ld (some 4) (.t 8))⟩, ⟨(some 145), (some ((some 143), false)), (.mv (.t 20))⟩, ⟨(some 146), (some ((some 143), false)), (.ia none 1 false (.t 145) (.k (.int .i64 0)))⟩, ⟨(some 147), (some ((some 143), false)), (.ld none (.t 146))⟩, ⟨(some 148), (some ((some 143), false)), (.mv (.t 22))⟩, ⟨(some 149), (some ((some 143), false)), (.call (.f 17) [(.t 144), (.t 147), (.t 148)])⟩, ⟨(some 150), (some ((some 143), false)), (.bin .neq [] (.t 149) (.k (.int .i64 0)))⟩, ⟨(some 151), none, (.pick (.t 143) (.k (.bool true)) (.t 150))⟩]) (.cond (.t 151) (.seq (.reg none [⟨(some 6), none, (.mv (.k (.bool false)))⟩]) .ret) .skip)) (.reg none [⟨(some 152), none, (.mv (.t 18))⟩, ⟨(some 153), none, (.mv (.t 20))⟩, ⟨(some 154), none, (.app 1 24 (.t 152) (.t 153))⟩, ⟨(some 18), none, (.mv (.t 154))⟩]))))) (.reg none [⟨(some 104), none, (.mv (.t 19))⟩, ⟨(some 105), none, (.bin .add [] (.t 104) (.k (.int .i64 1)))⟩, ⟨(some 19), none, (.mv (.t 105))⟩])))
def r285_12 : C := (.seq (.reg none [⟨(some 155), none, (.mv (.t 18))⟩, ⟨(some 156), none, (.mv (.t 9))⟩, ⟨(some 157), none, (.call (.f 18) [(.t 155), (.t 156)])⟩, ⟨(some 24), none, (.mv (.t 157))⟩]) (.seq (.reg none [⟨(some 158), none, (.mv (.t 12))⟩, ⟨(some 159), none, (.call (.f 19) [(.t 158)])⟩, ⟨(some 160), none, (.mv (.t 9))⟩, ⟨(some 161), none, (.call (.f 18) [(.t 159), (.t 160)])⟩, ⟨(some 25), none, (.mv (.t 161))⟩]) (.seq (.reg none [⟨(some 162), none, (.mv (.t 7))⟩, ⟨(some 163), none, (.mv (.t 162))⟩, ⟨(some 164), (some ((some 163), true)), (.mv (.t 24))⟩, ⟨(some 165), none, (.pick (.t 163) (.t 164) (.k (.bool false)))⟩, ⟨(some 166), none, (.mv (.t 165))⟩, ⟨(some 167), (some ((some 166), true)), (.mv (.t 25))⟩, ⟨(some 168), none, (.pick (.t 166) (.t 167) (.k (.bool false)))⟩, ⟨(some 6), none, (.mv (.t 168))⟩]) .ret)))
def r285_10 : C := (.seq (.reg none [⟨(some 99), none, (.bsl true 1 0 [nilS] [])⟩, ⟨(some 18), none, (.mv (.t 99))⟩]) (.seq (.seq (.reg none [⟨(some 19), none, (.mv (.k (.int .i64 0)))⟩]) (.block 0 (.loop b285_0))) r285_12))
def c285 : Fn' := ⟨169, [(.tmp 6)], (.seq (.reg none [⟨(some 3), none, (.box false (.t 0))⟩, ⟨(some 6), none, (.mv (.k (.bool false)))⟩]) (.seq (.reg none [⟨(some 26), none, (.call (.f 6) [])⟩, ⟨(some 7), none, (.mv (.t 26))⟩]) (.seq (.reg none [⟨(some 27), none, (.ld (some 12) (.t 3))⟩, ⟨(some 28), none, (.call (.f 7) [(.t 27)])⟩, ⟨(some 8), none, (.alloc false [nilS, (.int .i64 0), (.int .i64 0), (.int .i64 0)])⟩, ⟨none, none, (.st 4 (.t 8) (.t 28))⟩]) (.seq (.reg (some [(0, 1), (0, 2), (1, 2), (0, 3), (1, 3), (0, 5), (1, 5), (2, 5), (3, 5), (0, 6), (1, 6), (0, 7)]) [⟨(some 29), none, (.ld (some 4) (.t 8))⟩, ⟨(some 30), none, (.ld (some 4) (.t 8))⟩, ⟨(some 31), none, (.bsl false 2 0 [(.int .i64 0), (.str [])] [])⟩, ⟨(some 32), none, (.bsl false 1 1 [nilS] [(0, (.t 31))])⟩, ⟨(some 33), none, (.mv (.t 1))⟩, ⟨(some 34), none, (.call (.f 10) [(.t 33)])⟩, ⟨(some 35), none, (.app 1 24 (.t 32) (.t 34))⟩, ⟨(some 36), none, (.call (.f 9) [(.t 30), (.t 35), (.k (.int .i64 40))])⟩, ⟨(some 37), none, (.call (.f 8) [(.t 29), (.t 36)])⟩, ⟨(some 9), none, (.mv (.t 37))⟩]) (.seq (.reg none [⟨(some 39), none, (.ld (some 4) (.t 8))⟩, ⟨(some 40), none, (.mv (.t 9))⟩, ⟨(some 41), none, (.call (.f 11) [(.t 39), (.t 40)])⟩, ⟨(some 38), none, (.mv (.t 41))⟩, ⟨(some 42), none, (.ext (.t 38) 0)⟩, ⟨(some 43), none, (.ext (.t 38) 1)⟩, ⟨(some 10), none, (.mv (.t 42))⟩, ⟨(some 11), none, (.mv (.t 43))⟩]) (.seq (.seq (.reg none [⟨(some 44), none, (.mv (.t 11))⟩, ⟨(some 45), none, (.bin .neq [] (.t 44) (.k (.int .i64 0)))⟩, ⟨(some 46), none, (.mv (.t 45))⟩, ⟨(some 47), (some ((some 46), false)), (.mv (.t 10))⟩, ⟨(some 48), (some ((some 46), false)), (.len 1 (.t 47))⟩, ⟨(some 49), (some ((some 46), false)), (.bin .lss [] (.t 48) (.k (.int .i64 20)))⟩, ⟨(some 50), none, (.pick (.t 46) (.k (.bool true)) (.t 49))⟩]) (.cond (.t 50) (.seq (.reg none [⟨(some 6), none, (.mv (.k (.bool false)))⟩]) .ret) .skip)) (.seq (.reg none [⟨(some 52), none, (.mv (.t 10))⟩, ⟨(some 53), none, (.call (.f 12) [(.t 52)])⟩, ⟨(some 51), none, (.mv (.t 53))⟩, ⟨(some 54), none, (.ext (.t 51) 0)⟩, ⟨(some 55), none, (.ext (.t 51) 1)⟩, ⟨(some 12), none, (.mv (.t 54))⟩, ⟨(some 13), none, (.mv (.t 55))⟩]) (.seq (.reg none [⟨(some 57), none, (.mv (.t 10))⟩, ⟨(some 58), none, (.mv (.t 2))⟩, ⟨(some 59), none, (.cvt (.int .i64) (.t 58))⟩, ⟨(some 60), none, (.mv (.t 10))⟩, ⟨(some 61), none, (.len 1 (.t 60))⟩, ⟨(some 62), none, (.bin .rem [] (.t 59) (.t 61))⟩, ⟨(some 63), none, (.sub 1 1 (.t 57) none (some (.t 62)) none)⟩, ⟨(some 64), none, (.call (.f 12) [(.t 63)])⟩, ⟨(some 56), none, (.mv (.t 64))⟩, ⟨(some 65), none, (.ext (.t 56) 0)⟩, ⟨(some 66), none, (.ext (.t 56) 1)⟩, ⟨(some 14), none, (.mv (.t 65))⟩, ⟨(some 15), none, (.mv (.t 66))⟩]) (.seq (.reg none [⟨(some 68), none, (.bsl false 1 0 [(.int .u8 0)] [])⟩, ⟨(some 69), none, (.mv (.t 10))⟩, ⟨(some 70), none, (.app 1 1 (.t 68) (.t 69))⟩, ⟨(some 71), none, (.mv (.t 2))⟩, ⟨(some 72), none, (.cvt (.int .u8) (.t 71))⟩, ⟨(some 73), none, (.bsl false 1 1 [(.int .u8 0)] [(0, (.t 72))])⟩, ⟨(some 74), none, (.app 1 1 (.t 70) (.t 73))⟩, ⟨(some 75), none, (.call (.f 12) [(.t 74)])⟩, ⟨(some 67), none, (.mv (.t 75))⟩, ⟨(some 76), none, (.ext (.t 67) 0)⟩, ⟨(some 77), none, (.ext (.t 67) 1)⟩, ⟨(some 16), none, (.mv (.t 76))⟩, ⟨(some 17), none, (.mv (.t 77))⟩]) (.seq (.seq (.reg none [⟨(some 78), none, (.mv (.t 12))⟩, ⟨(some 79), none, (.bin .eql [5] (.t 78) (.k .nilptr))⟩, ⟨(some 80), none, (.mv (.t 79))⟩, ⟨(some 81), (some ((some 80), false)), (.mv (.t 13))⟩, ⟨(some 82), (some ((some 80), false)), (.bin .neq [] (.t 81) (.k (.int .i64 0)))⟩, ⟨(some 83), none, (.pick (.t 80) (.k (.bool true)) (.t 82))⟩, ⟨(some 84), none, (.mv (.t 83))⟩, ⟨(some 85), (some ((some 84), false)), (.mv (.t 15))⟩, ⟨(some 86), (some ((some 84), false)), (.bin .neq [] (.t 85) (.k (.int .i64 43)))⟩, ⟨(some 87), none, (.pick (.t 84) (.k (.bool true)) (.t 86))⟩, ⟨(some 88), none, (.mv (.t 87))⟩, ⟨(some 89), (some ((some 88), false)), (.mv (.t 17))⟩, ⟨(some 90), (some ((some 88), false)), (.bin .neq [] (.t 89) (.k (.int .i64 43)))⟩, ⟨(some 91), none, (.pick (.t 88) (.k (.bool true)) (.t 90))⟩, ⟨(some 92), none, (.mv (.t 91))⟩, ⟨(some 93), (some ((some 92), false)), (.mv (.t 12))⟩, ⟨(some 94), (some ((some 92), false)), (.call (.f 13) [(.t 93)])⟩, ⟨(some 95), (some ((some 92), false)), (.mv (.t 9))⟩, ⟨(some 96), (some ((some 92), false)), (.len 1 (.t 95))⟩, ⟨(some 97), (some ((some 92), false)), (.bin .neq [] (.t 94) (.t 96))⟩, ⟨(some 98), none, (.pick (.t 92) (.k (.bool true)) (.t 97))⟩]) (.cond (.t 98) (.seq (.reg none [⟨(some 6), none, (.mv (.k (.bool false)))⟩]) .ret) .skip)) r285_10))))))))))⟩
theorem k285 : compF Tryz.prog 3 = some c285 := by kernel_rfl
attribute [local simp] op_or op_an op_add op_sub op_mul oq_eql oq_neq oq_lss oq_gtr oq_leq oq_geq
attribute [-simp] intOp bin_shl bin_shr D.cells
attribute [local simp] bin_ptrnil bin_nilnil rsf_self rsf_undef rsf_int rsf_sl rsf_slc rsf_bool rsf_ptr rsf_nilptr rsf_agg
theorem cmpZ_self (a : Int) : cmpZ a a = 0 := by unfold cmpZ; rw [ltI_f (show ¬ a < a by omega)]; rfl
theorem cmpB_self : ∀ a : List UInt8, Lib.compareBytes a a = 0
  | [] => rfl
  | x :: a => by simp [Lib.compareBytes, UInt8.lt_irrefl, cmpB_self a]
theorem vcmp_self (t : Int) (p : Va) : vcmp t p p = 0 := by
  unfold vcmp
  split
  · rfl
  · split
    · exact cmpB_self _
    · split <;> exact cmpZ_self _
theorem cmpL_key : ∀ (ts : List Int) (k : Nat) (r : Rv), cmpL (ts.take k) r (r.take k) = 0
  | [], k, r => by rw [List.take_nil, cmpL_nil]
  | t :: ts, 0, r => by rw [List.take_zero, cmpL_nil]
  | t :: ts, k + 1, [] => rfl
  | t :: ts, k + 1, p :: r => by
    rw [List.take_succ_cons, List.take_succ_cons]
    simp only [cmpL]
    rw [vcmp_self, if_pos rfl, cmpL_key ts k r]
/-- The objects in the loop. -/
def H285 (O0 : List D) (X : List Obj) (cc : Bool) (c' : Bool) (ts : List Int) (k m g : Int) (LP : List Rw) (bs : List D) (bz : Nat) (acc : List Rw) : List Obj :=
  .box O0 :: .box [.slc cc 1 (ts.map (.int .i64)), .int .i64 k, .int .i64 m, .int .i64 g] :: (X ++ [PtB c' ts k m g LP, .row 1 bs bz, rowR1 acc])
def t285 (v0 v1 v2 v3 v4 v5 v10 v11 v13 v14 v15 v16 v17 v26 v27 v28 v29 v30 v31 v32 v33 v34 v35 v36 v37 v38 v39 v40 v41 v42 v43 v44 v45 v46 v47 v48 v49 v50 v51 v52 v53 v54 v55 v56 v57 v58 v59 v60 v61 v62 v63 v64 v65 v66 v67 v68 v69 v70 v71 v72 v73 v74 v75 v76 v77 v78 v79 v80 v81 v82 v83 v84 v85 v86 v87 v88 v89 v90 v91 v92 v93 v94 v95 v96 v97 v98 : D) (d9 : D) (p a i : Nat) : List D := [v0, v1, v2, v3, v4, v5, .bool false, .bool true, .ptr 1 0 0 0, d9, v10, v11, .ptr (p + 2) 0 0 0, v13, v14, v15, v16, v17, .sl (p + 4) 0 a a, .int .i64 i, .undef, .undef, .undef, .undef, .undef, .undef, v26, v27, v28, v29, v30, v31, v32, v33, v34, v35, v36, v37, v38, v39, v40, v41, v42, v43, v44, v45, v46, v47, v48, v49, v50, v51, v52, v53, v54, v55, v56, v57, v58, v59, v60, v61, v62, v63, v64, v65, v66, v67, v68, v69, v70, v71, v72, v73, v74, v75, v76, v77, v78, v79, v80, v81, v82, v83, v84, v85, v86, v87, v88, v89, v90, v91, v92, v93, v94, v95, v96, v97, v98, .sl (p + 4) 0 0 0, .undef, .undef, .undef, .undef, .undef, .undef, .undef, .undef, .undef, .undef, .undef, .undef, .undef, .undef, .undef, .undef, .undef, .undef, .undef, .undef, .undef, .undef, .undef, .undef, .undef, .undef, .undef, .undef, .undef, .undef, .undef, .undef, .undef, .undef, .undef, .undef, .undef, .undef, .undef, .undef, .undef, .undef, .undef, .undef, .undef, .undef, .undef, .undef, .undef, .undef, .undef, .undef, .undef, .undef, .undef, .undef, .undef, .undef, .undef, .undef, .undef, .undef, .undef, .undef, .undef, .undef, .undef, .undef, .undef]
set_option maxHeartbeats 32000000 in
attribute [local simp high] cells_rws in
theorem L285 (v0 v1 v2 v3 v4 v5 v10 v11 v13 v14 v15 v16 v17 v26 v27 v28 v29 v30 v31 v32 v33 v34 v35 v36 v37 v38 v39 v40 v41 v42 v43 v44 v45 v46 v47 v48 v49 v50 v51 v52 v53 v54 v55 v56 v57 v58 v59 v60 v61 v62 v63 v64 v65 v66 v67 v68 v69 v70 v71 v72 v73 v74 v75 v76 v77 v78 v79 v80 v81 v82 v83 v84 v85 v86 v87 v88 v89 v90 v91 v92 v93 v94 v95 v96 v97 v98 : D) (d9 : D) (O0 : List D) (X : List Obj) (hX : X = [] ∨ ∃ s es fz, X = [.row s es fz]) (cc c' : Bool) (ts : List Int) (hts : ts ≠ []) (htl : ts.length ≤ 64) (k : Nat) (m : Int) (g : Nat) (hk : 1 ≤ k ∧ k ≤ ts.length) (hg : 1 ≤ g ∧ g ≤ 64) (LP : List Rw) (hLl : LP.length ≤ 2000) (hLr : ∀ y ∈ LP, y.r.length = ts.length ∧ inR y.r) (bs : List D) (bz : Nat) :
    ∀ (t pre : List (List Rw)) (acc : List Rw) (a i : Nat), splitI g LP = pre ++ t → i = pre.length → a = acc.length → acc.length ≤ 64 * i →
    finK false 0 [.tmp 6] (loopK cf1 K1 (LpB cf1 K1 b285_0 (t285 v0 v1 v2 v3 v4 v5 v10 v11 v13 v14 v15 v16 v17 v26 v27 v28 v29 v30 v31 v32 v33 v34 v35 v36 v37 v38 v39 v40 v41 v42 v43 v44 v45 v46 v47 v48 v49 v50 v51 v52 v53 v54 v55 v56 v57 v58 v59 v60 v61 v62 v63 v64 v65 v66 v67 v68 v69 v70 v71 v72 v73 v74 v75 v76 v77 v78 v79 v80 v81 v82 v83 v84 v85 v86 v87 v88 v89 v90 v91 v92 v93 v94 v95 v96 v97 v98 d9 X.length 0 0) (X.length + 5) ⟨t285 v0 v1 v2 v3 v4 v5 v10 v11 v13 v14 v15 v16 v17 v26 v27 v28 v29 v30 v31 v32 v33 v34 v35 v36 v37 v38 v39 v40 v41 v42 v43 v44 v45 v46 v47 v48 v49 v50 v51 v52 v53 v54 v55 v56 v57 v58 v59 v60 v61 v62 v63 v64 v65 v66 v67 v68 v69 v70 v71 v72 v73 v74 v75 v76 v77 v78 v79 v80 v81 v82 v83 v84 v85 v86 v87 v88 v89 v90 v91 v92 v93 v94 v95 v96 v97 v98 d9 X.length a i, H285 O0 X cc c' ts k m g LP bs bz acc⟩) [.blk 0, .c r285_12]) =
      finK false 0 [.tmp 6] (Ek cf1 K1 [.c r285_12] ⟨t285 v0 v1 v2 v3 v4 v5 v10 v11 v13 v14 v15 v16 v17 v26 v27 v28 v29 v30 v31 v32 v33 v34 v35 v36 v37 v38 v39 v40 v41 v42 v43 v44 v45 v46 v47 v48 v49 v50 v51 v52 v53 v54 v55 v56 v57 v58 v59 v60 v61 v62 v63 v64 v65 v66 v67 v68 v69 v70 v71 v72 v73 v74 v75 v76 v77 v78 v79 v80 v81 v82 v83 v84 v85 v86 v87 v88 v89 v90 v91 v92 v93 v94 v95 v96 v97 v98 d9 X.length (acc ++ t.flatten.map clR).length (splitI g LP).length, H285 O0 X cc c' ts k m g LP bs bz (acc ++ t.flatten.map clR)⟩)
  | [], pre, acc, a, i, h, hi, ha, hb => by
    have h : splitI g LP = pre := by simpa using h
    have hil : i = (splitI g LP).length := by rw [h, hi]
    have z1 : ltI (i : Int) (splitI g LP).length = false := ltI_f (by omega)
    have hG := K1_of (K251 c' ts k m g LP) (by decide)
    unfold PtB at hG
    simp only [Int.toNat_natCast] at hG
    rw [List.flatten_nil, List.map_nil, List.append_nil]
    rw [LpB_eq]
    simp only [t285, H285, PtB, Int.toNat_natCast]
    generalize splitI g LP = G at *
    generalize G.map (markR k) = Ms at *
    rcases hX with rfl | ⟨s, es, fz, rfl⟩
    · conv => lhs; arg 4; arg 3; arg 6; simp [b285_0, hG, z1, backK]
      rw [roundK_exit, reset_full (by simp)]
      simp [ha, hil]
    · conv => lhs; arg 4; arg 3; arg 6; simp [b285_0, hG, z1, backK]
      rw [roundK_exit, reset_full (by simp)]
      simp [ha, hil]
  | x :: t, pre, acc, a, i, h, hi, ha, hb => by
    have hll : i < (splitI g LP).length := by rw [h, hi]; simp
    have hget : (splitI g LP)[i]? = some x := by rw [h, hi]; simp
    have hGl := splitI_len g hg.1 LP.length LP (Nat.le_refl _)
    obtain ⟨hx1, hx2, hx3⟩ := splitV_mem g hg.1 LP.length LP (Nat.le_refl _) x (List.mem_of_getElem? hget)
    have z1 : ltI (i : Int) (splitI g LP).length = true := ltI_t (by omega)
    have hT : thereI (i : Int) (splitI g LP).length = true := by unfold thereI; rw [z1, leI_t (by omega)]; rfl
    have hrr : ∀ y ∈ LP, y.r.length ≤ 2 ^ 40 := fun y hy => by have := (hLr y hy).1; omega
    have hG := K1_of (K251 c' ts k m g LP) (by decide)
    have hGr := K1_of (K289 c' ts k m g LP (by omega) hrr (by omega) i) (by decide)
    have hMk := K1_of (K250 c' ts k m g LP hrr (by omega) i) (by decide)
    simp only [Int.toNat_natCast] at hG hGr hMk
    rw [hT, if_pos rfl, hget] at hGr hMk
    obtain ⟨y, ys, rfl⟩ : ∃ y ys, x = y :: ys := by cases x with
      | nil => exact absurd rfl hx1
      | cons y ys => exact ⟨y, ys, rfl⟩
    have hy := hx3 y List.mem_cons_self
    obtain ⟨hyl, hyi⟩ := hLr y hy
    have hMr : (markR k (y :: ys)).r = y.r.take k := rfl
    simp only [Option.map_some, Option.getD_some, hMr] at hGr hMk
    have hkl : (y.r.take k).length = k := by rw [List.length_take]; omega
    have hke : (y.r.take k).isEmpty = false := by cases hq : y.r.take k with
      | nil => rw [hq] at hkl; simp at hkl; omega
      | cons a l => rfl
    rw [hke] at hMk
    have hC := K1_of (K252 cc 1 ts (.inl rfl) k m g (clR y) ⟨false, 2, y.r.take k, .inl rfl⟩ hyi (fun p hp => hyi p (List.mem_of_mem_take hp)) (by omega)) (by decide)
    rw [show cmpK ts (k : Int) (clR y).r (y.r.take k) = 0 from cmpL_key ts k y.r] at hC
    have ih := L285 v0 v1 v2 v3 v4 v5 v10 v11 v13 v14 v15 v16 v17 v26 v27 v28 v29 v30 v31 v32 v33 v34 v35 v36 v37 v38 v39 v40 v41 v42 v43 v44 v45 v46 v47 v48 v49 v50 v51 v52 v53 v54 v55 v56 v57 v58 v59 v60 v61 v62 v63 v64 v65 v66 v67 v68 v69 v70 v71 v72 v73 v74 v75 v76 v77 v78 v79 v80 v81 v82 v83 v84 v85 v86 v87 v88 v89 v90 v91 v92 v93 v94 v95 v96 v97 v98 d9 O0 X hX cc c' ts hts htl k m g hk hg LP hLl hLr bs bz t (pre ++ [y :: ys]) (acc ++ (y :: ys).map clR) (acc ++ (y :: ys).map clR).length (i + 1) (by rw [h]; simp) (by simp [hi]) rfl (by simp at hx2 ⊢; omega)
    rw [show acc ++ (((y :: ys) :: t).flatten).map clR = acc ++ (y :: ys).map clR ++ t.flatten.map clR by simp]
    refine Eq.trans ?_ ih
    obtain ⟨YC, hYC⟩ : ∃ YC, ys.map clR = YC := ⟨_, rfl⟩
    have e9 : (y :: ys).map clR = clR y :: YC := by rw [← hYC]; rfl
    have hYl : YC.length + 1 = (y :: ys).length := by rw [← hYC]; simp
    have z2 : ltI ((YC.length : Int) + 1) 1 = false := ltI_f (by omega)
    have z3 : ltI (g : Int) ((YC.length : Int) + 1) = false := ltI_f (by omega)
    have z4 : neI (k : Int) k = false := neI_f rfl
    have z5 : neI 0 0 = false := rfl
    have b1 : (acc.length + (YC.length + 1)) * 24 ≤ 70368744177664 := by omega
    rw [e9] at hGr ⊢
    have hcd : (clR y).d = .slc y.r.isEmpty 2 (y.r.map Va.d) := rfl
    clear ih hrr hLr hyi hT hget hx3 hx2 h e9 hYl hYC hx1 hMr hke
    generalize clR y = cy at *
    have hcc := eq_true (show ∀ a : Rw, a ∈ YC → a.d.cells.length = 1 from fun a _ => rfl)
    have hc1 : cy.d.cells.length = 1 := rfl
    generalize y.r.isEmpty = yq at *
    generalize hykk : y.r.take k = yk at *
    generalize y.r = yr at *
    have hw := w64 (i + 1) (by omega)
    unfold Sd at hC
    rw [hcd] at hC
    rw [show (Rw.d ⟨false, 2, yk, .inl rfl⟩) = .slc false 2 (yk.map Va.d) from rfl] at hC
    rw [LpB_eq]
    simp only [t285, H285, PtB, rowR1, Int.toNat_natCast, List.map_cons, hcd] at hG hGr hMk ⊢
    generalize splitI g LP = G at *
    generalize G.map (markR k) = Ms at *
    rcases hX with rfl | ⟨s, es, fz, rfl⟩
    · conv => lhs; arg 4; arg 3; arg 6; simp [evOp, evM, wants, Ins.go, X.ev, iaM, ldM, binD, setD, applyW, Ek_ops_nil, allFree, free, callM, callP, callO, appM, b285_0, hG, hGr, hMk, z1, z2, z3, z4, z5, hC, hkl, hw, ha, b1, hcc, backK]
      rw [roundK_nrm, reset_full (by simp)]
      simp [hcd, ha]
    · conv => lhs; arg 4; arg 3; arg 6; simp [evOp, evM, wants, Ins.go, X.ev, iaM, ldM, binD, setD, applyW, Ek_ops_nil, allFree, free, callM, callP, callO, appM, b285_0, hG, hGr, hMk, z1, z2, z3, z4, z5, hC, hkl, hw, ha, b1, hcc, backK]
      rw [roundK_nrm, reset_full (by simp)]
      simp [hcd, ha]
theorem rsW_cl (L : List Rw) : rsW (L.map clR) = rsW L := by unfold rsW; rw [List.map_map]; rfl
set_option maxHeartbeats 16000000 in
attribute [local simp high] cells_rws in
theorem R285 (v0 v1 v2 v3 v4 v5 v10 v11 v13 v14 v15 v16 v17 v26 v27 v28 v29 v30 v31 v32 v33 v34 v35 v36 v37 v38 v39 v40 v41 v42 v43 v44 v45 v46 v47 v48 v49 v50 v51 v52 v53 v54 v55 v56 v57 v58 v59 v60 v61 v62 v63 v64 v65 v66 v67 v68 v69 v70 v71 v72 v73 v74 v75 v76 v77 v78 v79 v80 v81 v82 v83 v84 v85 v86 v87 v88 v89 v90 v91 v92 v93 v94 v95 v96 v97 v98 : D) (RW : List Rw) (O0 : List D) (X : List Obj) (hX : X = [] ∨ ∃ s es fz, X = [.row s es fz]) (cc c' : Bool) (ts : List Int) (k : Nat) (m : Int) (g : Nat) (LP : List Rw) (hn : LP ≠ []) (hLl : LP.length ≤ 2000) (hLr : ∀ y ∈ LP, y.r.length ≤ 2 ^ 40) (hRW : rsW LP = rsW RW) (hRl : RW.length = LP.length) (bs : List D) (bz : Nat) (n : Nat) (i : Nat) (hnn : n = LP.length) :
    finK false 0 [.tmp 6] (Ek cf1 K1 [.c r285_12] ⟨t285 v0 v1 v2 v3 v4 v5 v10 v11 v13 v14 v15 v16 v17 v26 v27 v28 v29 v30 v31 v32 v33 v34 v35 v36 v37 v38 v39 v40 v41 v42 v43 v44 v45 v46 v47 v48 v49 v50 v51 v52 v53 v54 v55 v56 v57 v58 v59 v60 v61 v62 v63 v64 v65 v66 v67 v68 v69 v70 v71 v72 v73 v74 v75 v76 v77 v78 v79 v80 v81 v82 v83 v84 v85 v86 v87 v88 v89 v90 v91 v92 v93 v94 v95 v96 v97 v98 (.slc false 1 (RW.map Rw.d)) X.length n i, H285 O0 X cc c' ts k m g LP bs bz (LP.map clR)⟩) = some (.bool true, []) := by
  have hA := K1_of (K291 c' ts k m g LP (by omega) hLr) (by decide)
  have hcl : ∀ x ∈ LP.map clR, x.r.length ≤ 2 ^ 47 := fun x hx => by
    obtain ⟨y, hy, rfl⟩ := List.mem_map.1 hx
    have := hLr y hy
    show y.r.length ≤ _
    omega
  have hR := fun c s hs => K1_of (K290 c false s 1 (LP.map clR) RW hs (.inl rfl) (by simp; omega) hcl) (by decide)
  rw [rsW_cl, hRW, show (rsW RW == rsW RW) = true by simp] at hR
  have he : LP.isEmpty = false := by cases LP with
    | nil => exact absurd rfl hn
    | cons a l => rfl
  rw [he, if_neg hn] at hA
  have hR := hR false 1 (.inl rfl)
  have hCl : (LP.map clR).length = LP.length := by simp
  subst hnn
  simp only [t285, H285, PtB, rowR1, Int.toNat_natCast] at hA ⊢
  generalize splitI g LP = G at *
  generalize G.map (markR k) = Ms at *
  generalize LP.map clR = CC at *
  have tk : List.take LP.length (CC.map Rw.d) = CC.map Rw.d := List.take_of_length_le (by simp; omega)
  rcases hX with rfl | ⟨s, es, fz, rfl⟩
  · simp [r285_12, hA, hR, hCl, tk, backK]
  · simp [r285_12, hA, hR, hCl, tk, backK]
end Go.Ab
/- THE FUNCTIONS' EQUATIONS: thresherlaw11.PartBack, the whole. -/
set_option linter.all false
set_option maxRecDepth 100000
namespace Go.Ab
open Go.Proofs Go.Proofs.YtomomeabfnmncaaGreatH Go.Proofs.YtomomeabfnmncaaGreatH.Crc Go.Proofs.YtomomeabfnmncaaGreatH.Var Go.Proofs.YtomomeabfnmncaaGreatH.Fr Go.Proofs.YtomomeabfnmncaaGreatH.Rec
attribute [local simp] op_or op_an op_add op_sub op_mul oq_eql oq_neq oq_lss oq_gtr oq_leq oq_geq
attribute [-simp] intOp bin_shl bin_shr D.cells
attribute [local simp] bin_ptrnil bin_nilnil
def t285b (v0 v1 v2 v3 v4 v5 v10 v11 v13 v14 v15 v16 v17 v26 v27 v28 v29 v30 v31 v32 v33 v34 v35 v36 v37 v38 v39 v40 v41 v42 v43 v44 v45 v46 v47 v48 v49 v50 v51 v52 v53 v54 v55 v56 v57 v58 v59 v60 v61 v62 v63 v64 v65 v66 v67 v68 v69 v70 v71 v72 v73 v74 v75 v76 v77 v78 v79 v80 v81 v82 v83 v84 v85 v86 v87 v88 v89 v90 v91 v92 v93 v94 v95 v96 v97 v98 : D) (d9 : D) (p : Nat) : List D := [v0, v1, v2, v3, v4, v5, .bool false, .bool true, .ptr 1 0 0 0, d9, v10, v11, .ptr (p + 2) 0 0 0, v13, v14, v15, v16, v17, .undef, .undef, .undef, .undef, .undef, .undef, .undef, .undef, v26, v27, v28, v29, v30, v31, v32, v33, v34, v35, v36, v37, v38, v39, v40, v41, v42, v43, v44, v45, v46, v47, v48, v49, v50, v51, v52, v53, v54, v55, v56, v57, v58, v59, v60, v61, v62, v63, v64, v65, v66, v67, v68, v69, v70, v71, v72, v73, v74, v75, v76, v77, v78, v79, v80, v81, v82, v83, v84, v85, v86, v87, v88, v89, v90, v91, v92, v93, v94, v95, v96, v97, v98, .undef, .undef, .undef, .undef, .undef, .undef, .undef, .undef, .undef, .undef, .undef, .undef, .undef, .undef, .undef, .undef, .undef, .undef, .undef, .undef, .undef, .undef, .undef, .undef, .undef, .undef, .undef, .undef, .undef, .undef, .undef, .undef, .undef, .undef, .undef, .undef, .undef, .undef, .undef, .undef, .undef, .undef, .undef, .undef, .undef, .undef, .undef, .undef, .undef, .undef, .undef, .undef, .undef, .undef, .undef, .undef, .undef, .undef, .undef, .undef, .undef, .undef, .undef, .undef, .undef, .undef, .undef, .undef, .undef, .undef]
set_option maxHeartbeats 16000000 in
theorem Q285 (v0 v1 v2 v3 v4 v5 v10 v11 v13 v14 v15 v16 v17 v26 v27 v28 v29 v30 v31 v32 v33 v34 v35 v36 v37 v38 v39 v40 v41 v42 v43 v44 v45 v46 v47 v48 v49 v50 v51 v52 v53 v54 v55 v56 v57 v58 v59 v60 v61 v62 v63 v64 v65 v66 v67 v68 v69 v70 v71 v72 v73 v74 v75 v76 v77 v78 v79 v80 v81 v82 v83 v84 v85 v86 v87 v88 v89 v90 v91 v92 v93 v94 v95 v96 v97 v98 : D) (RW : List Rw) (O0 : List D) (X : List Obj) (hX : X = [] ∨ ∃ s es fz, X = [.row s es fz]) (cc c' : Bool) (ts : List Int) (hts : ts ≠ []) (htl : ts.length ≤ 64) (k : Nat) (m : Int) (g : Nat) (hk : 1 ≤ k ∧ k ≤ ts.length) (hg : 1 ≤ g ∧ g ≤ 64) (LP : List Rw) (hn : LP ≠ []) (hLl : LP.length ≤ 2000) (hLr : ∀ y ∈ LP, y.r.length = ts.length ∧ inR y.r) (hRW : rsW LP = rsW RW) (hRl : RW.length = LP.length) (bs : List D) (bz : Nat) :
    finK false 0 [.tmp 6] (Ek cf1 K1 [.c r285_10] ⟨t285b v0 v1 v2 v3 v4 v5 v10 v11 v13 v14 v15 v16 v17 v26 v27 v28 v29 v30 v31 v32 v33 v34 v35 v36 v37 v38 v39 v40 v41 v42 v43 v44 v45 v46 v47 v48 v49 v50 v51 v52 v53 v54 v55 v56 v57 v58 v59 v60 v61 v62 v63 v64 v65 v66 v67 v68 v69 v70 v71 v72 v73 v74 v75 v76 v77 v78 v79 v80 v81 v82 v83 v84 v85 v86 v87 v88 v89 v90 v91 v92 v93 v94 v95 v96 v97 v98 (.slc false 1 (RW.map Rw.d)) X.length, .box O0 :: .box [.slc cc 1 (ts.map (.int .i64)), .int .i64 k, .int .i64 m, .int .i64 g] :: (X ++ [PtB c' ts k m g LP, .row 1 bs bz])⟩) = some (.bool true, []) := by
  have hL := L285 v0 v1 v2 v3 v4 v5 v10 v11 v13 v14 v15 v16 v17 v26 v27 v28 v29 v30 v31 v32 v33 v34 v35 v36 v37 v38 v39 v40 v41 v42 v43 v44 v45 v46 v47 v48 v49 v50 v51 v52 v53 v54 v55 v56 v57 v58 v59 v60 v61 v62 v63 v64 v65 v66 v67 v68 v69 v70 v71 v72 v73 v74 v75 v76 v77 v78 v79 v80 v81 v82 v83 v84 v85 v86 v87 v88 v89 v90 v91 v92 v93 v94 v95 v96 v97 v98 (.slc false 1 (RW.map Rw.d)) O0 X hX cc c' ts hts htl k m g hk hg LP hLl hLr bs bz (splitI g LP) [] [] 0 0 rfl rfl rfl (Nat.le_refl _)
  rw [splitI_flat g hg.1 LP.length LP (Nat.le_refl _), List.nil_append] at hL
  have hR := R285 v0 v1 v2 v3 v4 v5 v10 v11 v13 v14 v15 v16 v17 v26 v27 v28 v29 v30 v31 v32 v33 v34 v35 v36 v37 v38 v39 v40 v41 v42 v43 v44 v45 v46 v47 v48 v49 v50 v51 v52 v53 v54 v55 v56 v57 v58 v59 v60 v61 v62 v63 v64 v65 v66 v67 v68 v69 v70 v71 v72 v73 v74 v75 v76 v77 v78 v79 v80 v81 v82 v83 v84 v85 v86 v87 v88 v89 v90 v91 v92 v93 v94 v95 v96 v97 v98 RW O0 X hX cc c' ts k m g LP hn hLl (fun y hy => by have := (hLr y hy).1; omega) hRW hRl bs bz (LP.map clR).length (splitI g LP).length (by simp)
  rw [hR] at hL
  refine Eq.trans ?_ hL
  simp only [t285b, t285, H285, PtB, rowR1, Int.toNat_natCast, List.map_nil]
  generalize splitI g LP = G at *
  generalize G.map (markR k) = Ms at *
  rcases hX with rfl | ⟨s, es, fz, rfl⟩
  · simp [r285_10]
  · simp [r285_10]
theorem writeV_len' {s : Sc} {R : List Rv} (h : OkR s R) : (writeV s R).length ≤ 2 ^ 37 := by
  have h0 := schemaOk_iff.1 h.ok
  have hsl := splitI_len s.2.2.2.toNat (by omega) R.length R (Nat.le_refl _)
  have hl := h.len
  have hH := headV_len h.ok (G := splitI s.2.2.2.toNat R) (by omega)
  unfold writeV tailV
  have h1 := colsV_len (marksV s.2.1.toNat (splitI s.2.2.2.toNat R)) (s.1.take s.2.1.toNat) 0
  have h2 : (colsV (marksV s.2.1.toNat (splitI s.2.2.2.toNat R)) 0 (s.1.take s.2.1.toNat)).length ≤ 200020 * 64 := Nat.le_trans h1 (Nat.mul_le_mul_left _ (by simp; omega))
  have h3 := blkO_len 2 (placesV s.1 (frameI (putS s.1 s.2.1 s.2.2.1 s.2.2.2)).length (splitI s.2.2.2.toNat R))
  have h4 := Fr.le8_len ((headV s (splitI s.2.2.2.toNat R)).length : Nat)
  simp only [List.length_append]
  omega
set_option maxHeartbeats 16000000 in
/-- thresherlaw11.PartBack. -/
theorem K285 (ts8 : List Int) (n0 k0 m0 g0 : Int) (ht : ts8.length = 8) (hts : ∀ x ∈ ts8, 0 ≤ x ∧ x < 256) (hn0 : 0 ≤ n0 ∧ n0 < 256) (hk0 : 0 ≤ k0 ∧ k0 < 256) (hm0 : 0 ≤ m0 ∧ m0 < 256) (hg0 : 0 ≤ g0 ∧ g0 < 256)
    (c : Bool) (s' : Nat) (L : List Rw) (hs' : s' = 1 ∨ L = []) (hL : L.length ≤ 2 ^ 47) (hLr : ∀ x ∈ L, x.r.length ≤ 2 ^ 47) (hL64 : in64W L) (a0 : Int) (ha0 : 0 ≤ a0 ∧ a0 < 65536) :
    K1 3 [.agg (ts8.map (.int .u8) ++ [.int .u8 n0, .int .u8 k0, .int .u8 m0, .int .u8 g0]), .slc c s' (L.map Rw.d), .int .u16 a0] [] = some (.bool true, []) := by
  obtain ⟨hok, hS8, hg8⟩ := made_ok ts8 n0 k0 m0 g0 ht hts hn0 hk0 hm0 hg0
  have hM := K1_of (K243 ts8 n0 k0 m0 g0 hts hn0 hk0 hm0 hg0 ht) (by decide)
  have hR64 := rows_in (s := madeS ts8 n0 k0 m0 g0) hL64
  have hRok := rows_ok hok L
  have hRl := rows_len (madeS ts8 n0 k0 m0 g0) L
  have hfl := fits_len (madeS ts8 n0 k0 m0 g0) L
  have hfi := fits_inR (s := madeS ts8 n0 k0 m0 g0) hL64
  have hRin : ∀ y ∈ rowsW (madeS ts8 n0 k0 m0 g0) L, inR y.r := fun y hy => hfi y (sortW_mem _ _ _ y hy)
  have hW0 := wErr_V (madeS ts8 n0 k0 m0 g0).1 (madeS ts8 n0 k0 m0 g0).2.1 (madeS ts8 n0 k0 m0 g0).2.2.1 (madeS ts8 n0 k0 m0 g0).2.2.2 (rowsW (madeS ts8 n0 k0 m0 g0) L)
  have h0 := schemaOk_iff.1 hok
  have hw := write_V (madeS ts8 n0 k0 m0 g0).1 (madeS ts8 n0 k0 m0 g0).2.1 (madeS ts8 n0 k0 m0 g0).2.2.1 (madeS ts8 n0 k0 m0 g0).2.2.2 h0.2.2.2.2.1 (rowsW (madeS ts8 n0 k0 m0 g0) L)
  have hF := K1_of (K246 c s' L hs' (by omega) (fun x hx => by have := hLr x hx; omega)) (by decide)
  have hpr : ∀ x ∈ preW L, x.r.length ≤ 2 ^ 60 := by
    intro x hx
    rcases List.mem_cons.1 hx with rfl | hx
    · simp
    · obtain ⟨y, hy, rfl⟩ := List.mem_map.1 hx
      show (fewRow y.r).length ≤ _
      unfold fewRow
      simp; omega
  have hpl : (preW L).length ≤ 2 ^ 60 := by unfold preW fewL; simp; omega
  generalize madeS ts8 n0 k0 m0 g0 = s at *
  obtain ⟨ts, k, m, g⟩ := s
  simp only at hS8 hg8 hW0 hw hM h0
  obtain ⟨kn, rfl⟩ : ∃ kn : Nat, k = kn := ⟨k.toNat, by omega⟩
  obtain ⟨gn, rfl⟩ : ∃ gn : Nat, g = gn := ⟨g.toNat, by omega⟩
  have hE : wErr ts kn m gn (rowsW (ts, kn, m, gn) L) = 0 := by rw [hW0]; exact wErr_iff.2 hRok
  have htn : ts ≠ [] := by intro e; have := h0.1; rw [e] at this; simp at this
  have hFi := fun cf => K1_of (K245 false 1 ts (.inl rfl) kn m gn (by omega) cf 1 (preW L) (.inl rfl) hpl hpr 40 (by omega)) (by decide)
  have hfd : ((preW L).take 40).map (fitW ts) = fitsW (ts, kn, m, gn) L := rfl
  rw [hfd] at hFi
  have hSo := K1_of (K244 false 1 ts (.inl rfl) kn m gn (by omega) false 1 (fitsW (ts, kn, m, gn) L) (.inl rfl) (by omega) hfi (by intro e; rw [e] at hfl; simp at hfl)) (by decide)
  have hsd : sortW ts kn (fitsW (ts, kn, m, gn) L) = rowsW (ts, kn, m, gn) L := rfl
  rw [hsd] at hSo
  have hWr := K247 false 1 ts (.inl rfl) kn m gn (by omega) false 1 (rowsW (ts, kn, m, gn) L) (.inl rfl) (by omega)
  rw [hE] at hWr
  simp only [if_true] at hWr
  have hlong := part_long hRok hR64
  have hwl := writeV_len' hRok
  have hBw := isB_write ts kn m gn (rowsW (ts, kn, m, gn) L)
  have hO1 := open_write hRok hR64
  have hcut := fun q hq => part_cut hRok hR64 q hq
  have hmore := fun y => part_more hRok hR64 y
  have hmay := hRok.may
  have hlen : ∀ x ∈ rowsOfW (rowsW (ts, kn, m, gn) L), x.length = ts.length := fun x hx => mayR_len ts x (hmay x hx)
  rw [← hw] at hlong hwl hO1 hcut hmore
  have hLPr : ∀ y ∈ (rowsOfW (rowsW (ts, kn, m, gn) L)).map rwF, y.r.length = ts.length ∧ inR y.r := by
    intro y hy
    obtain ⟨x, hx, rfl⟩ := List.mem_map.1 hy
    obtain ⟨z, hz, rfl⟩ := List.mem_map.1 hx
    exact ⟨hlen _ hx, hRin z hz⟩
  have hLPw : rsW ((rowsOfW (rowsW (ts, kn, m, gn) L)).map rwF) = rsW (rowsW (ts, kn, m, gn) L) := rowsOfW_F _
  have hLPl : ((rowsOfW (rowsW (ts, kn, m, gn) L)).map rwF).length = (rowsW (ts, kn, m, gn) L).length := by simp
  obtain ⟨LP, hLP⟩ : ∃ LP, (rowsOfW (rowsW (ts, kn, m, gn) L)).map rwF = LP := ⟨_, rfl⟩
  obtain ⟨c1, hK1⟩ := K248 false (writeB ts kn m gn (rowsW (ts, kn, m, gn) L)) (by omega) hBw
  rw [hO1] at hK1
  simp only at hK1
  rw [hLP] at hK1 hLPr hLPw hLPl
  clear hw hW0 hRok hR64 hok hfi hpr hpl hL64 hLr hsd hfd hE hO1 hmay hlen hRin hLP
  have hP : preW L = ⟨true, 2, [], .inl rfl⟩ :: fewL L := rfl
  rw [hP] at hFi
  generalize writeB ts kn m gn (rowsW (ts, kn, m, gn) L) = W at *
  generalize rowsW (ts, kn, m, gn) L = RW at *
  generalize fitsW (ts, kn, m, gn) L = FW at *
  obtain ⟨FE, hFE⟩ : ∃ FE, fewL L = FE := ⟨_, rfl⟩
  have hFEl : FE.length ≤ 40 := by rw [← hFE]; unfold fewL; simp; omega
  rw [hFE] at hF hFi
  clear hFE hP
  have hRne : RW ≠ [] := by intro e; rw [e] at hRl; simp at hRl
  have hLPn : LP ≠ [] := by intro e; rw [e] at hLPl; simp at hLPl; omega
  -- where it is cut, and what is put behind
  obtain ⟨A, rfl⟩ : ∃ A : Nat, a0 = A := ⟨a0.toNat, by omega⟩
  obtain ⟨N, hN⟩ : ∃ N, W.length = N := ⟨_, rfl⟩
  obtain ⟨Q, hQ⟩ : ∃ Q, Q = A % N := ⟨_, rfl⟩
  have hQl : Q < N := by rw [hQ]; exact Nat.mod_lt _ (by omega)
  obtain ⟨W2, hW2⟩ : ∃ W2, W.take Q = W2 := ⟨_, rfl⟩
  have hc := hcut Q (by omega)
  rw [hW2] at hc
  have hW2l : W2.length = Q := by rw [← hW2, List.length_take]; omega
  have hK2 := fun c => K248 c W2 (by omega) (by rw [← hW2]; exact isB_take hBw Q)
  simp only [hc] at hK2
  have hK2 : ∀ c, K1 12 [.slc c 1 (W2.map (.int .u8))] [] = some (.tuple [.nilptr, .int .i64 43], []) := fun c => by
    obtain ⟨_, h⟩ := hK2 c
    exact h
  obtain ⟨y, hy⟩ : ∃ y, IntKind.u8.wrap (A : Int) = y := ⟨_, rfl⟩
  have hyb : 0 ≤ y ∧ y < 256 := by rw [← hy, IntKind.wrap_u8]; omega
  have hm := hmore y
  have hK3 := K248 false (W ++ [y]) (by simp; omega) (isB_append hBw (fun z hz => by simp at hz; rw [hz]; exact hyb))
  simp only [hm] at hK3
  obtain ⟨_, hK3⟩ := hK3
  rw [List.map_append, List.map_cons, List.map_nil] at hK3
  have m1 : List.take Q (W.map (D.int .u8)) = W2.map (D.int .u8) := by rw [← hW2, List.map_take]
  have q1 : IntKind.i64.wrap (A : Int) = A := w64 _ (by omega)
  have q2 : intOp .rem .i64 (A : Int) (N : Int) = some (.int .i64 (Q : Nat)) := by
    rw [rem_pos (by omega) (by omega), hQ]
    congr 2
  have z0 : neI 0 0 = false := rfl
  have z1 : ltI (N : Int) 20 = false := ltI_f (by omega)
  have z2 : neI 43 43 = false := rfl
  have z3 : neI (LP.length : Int) RW.length = false := neI_f (by omega)
  have bQ : Q ≤ N := by omega
  have bQ' : (Q : Int) ≤ N := by omega
  have bN : N ≤ 70368744177664 := by omega
  have bN1 : N ≤ 70368744177663 := by omega
  have tk2 : List.take (N + 1) (W.map (D.int .u8) ++ [.int .u8 y]) = W.map (D.int .u8) ++ [.int .u8 y] := List.take_of_length_le (by simp; omega)
  have hWne : W ≠ [] := by intro e; rw [e] at hN; simp at hN; omega
  have hnR := K1_of (K288 c1 ts kn m gn LP) (by decide)
  have hnat : ((40 : Nat) : Int) = 40 := rfl
  rw [hnat] at hFi
  have hR := fun v0 v1 v2 v3 v4 v5 v10 v11 v13 v14 v15 v16 v17 v26 v27 v28 v29 v30 v31 v32 v33 v34 v35 v36 v37 v38 v39 v40 v41 v42 v43 v44 v45 v46 v47 v48 v49 v50 v51 v52 v53 v54 v55 v56 v57 v58 v59 v60 v61 v62 v63 v64 v65 v66 v67 v68 v69 v70 v71 v72 v73 v74 v75 v76 v77 v78 v79 v80 v81 v82 v83 v84 v85 v86 v87 v88 v89 v90 v91 v92 v93 v94 v95 v96 v97 v98 O0 X hX bs bz => Q285 v0 v1 v2 v3 v4 v5 v10 v11 v13 v14 v15 v16 v17 v26 v27 v28 v29 v30 v31 v32 v33 v34 v35 v36 v37 v38 v39 v40 v41 v42 v43 v44 v45 v46 v47 v48 v49 v50 v51 v52 v53 v54 v55 v56 v57 v58 v59 v60 v61 v62 v63 v64 v65 v66 v67 v68 v69 v70 v71 v72 v73 v74 v75 v76 v77 v78 v79 v80 v81 v82 v83 v84 v85 v86 v87 v88 v89 v90 v91 v92 v93 v94 v95 v96 v97 v98 RW O0 X hX false c1 ts htn (by omega) kn m gn (by omega) (by omega) LP hLPn (by omega) hLPr hLPw hLPl.symm bs bz
  clear hc hcut hmore hm hQ hBw hyb
  match ts8, ht with
  | [e0, e1, e2, e3, e4, e5, e6, e7], _ =>
    refine K_call k285 (ora1_none (by decide)) (by simp [c285]) ?_
    unfold Sd at hFi hSo hWr
    simp only [List.map_cons, List.map_nil, List.cons_append, List.nil_append, Rw.d] at hM hFi
    simp only [PtB, Int.toNat_natCast] at hK1 hnR hR
    generalize splitI gn LP = G at *
    generalize G.map (markR kn) = Ms at *
    by_cases hFEn : FE = []
    · subst hFEn
      simp only [List.map_nil] at hF hFi
      simp [evOp, evM, wants, Ins.go, X.ev, iaM, ldM, binD, setD, applyW, Ek_ops_nil, allFree, free, callM, callP, callO, appM, D.isNilptr, c285, K242, hM, hF, hFi, hSo, hWr, hK1, hK2, hK3, hnR, z0, z1, z2, z3, hN, q1, q2, bQ, bQ', bN, bN1, tk2, hRne, hWne, m1, hy, backK]
      exact hR _ _ _ _ _ _ _ _ _ _ _ _ _ _ _ _ _ _ _ _ _ _ _ _ _ _ _ _ _ _ _ _ _ _ _ _ _ _ _ _ _ _ _ _ _ _ _ _ _ _ _ _ _ _ _ _ _ _ _ _ _ _ _ _ _ _ _ _ _ _ _ _ _ _ _ _ _ _ _ _ _ _ _ _ _ _ _ [] (.inl rfl) _ _
    · have hFE2 : ¬ List.map Rw.d FE = [] := by simpa using hFEn
      have hcl := eq_true (show ∀ a : Rw, a ∈ FE → a.d.cells.length = 1 from fun a _ => rfl)
      have tk : List.take (FE.length + 1) (D.slc true 2 [] :: List.map Rw.d FE) = D.slc true 2 [] :: List.map Rw.d FE := List.take_of_length_le (by simp)
      have bF' : (FE.length + 1) * 24 ≤ 70368744177664 := by omega
      simp [evOp, evM, wants, Ins.go, X.ev, iaM, ldM, binD, setD, applyW, Ek_ops_nil, allFree, free, callM, callP, callO, appM, D.isNilptr, c285, K242, hM, hF, hFi, hSo, hWr, hK1, hK2, hK3, hnR, z0, z1, z2, z3, hN, q1, q2, bQ, bQ', bN, bN1, tk2, hRne, hWne, m1, hy, backK, hFEn, bF', hcl, tk, Nat.add_comm 1]
      exact hR _ _ _ _ _ _ _ _ _ _ _ _ _ _ _ _ _ _ _ _ _ _ _ _ _ _ _ _ _ _ _ _ _ _ _ _ _ _ _ _ _ _ _ _ _ _ _ _ _ _ _ _ _ _ _ _ _ _ _ _ _ _ _ _ _ _ _ _ _ _ _ _ _ _ _ _ _ _ _ _ _ _ _ _ _ _ _ [_] (.inr ⟨_, _, _, rfl⟩) _ _
end Go.Ab
