/- THE FUNCTIONS' EQUATIONS: thresherref04.Same, thresherref15.Same. -/
import Derived.Test.YtanfmnobanhcnaaBF73
set_option linter.all false
set_option maxRecDepth 100000
namespace Go.Ab
open Go.Proofs Go.Proofs.YtanfmnobanhcnaaH Go.Proofs.YtanfmnobanhcnaaH.Crc Go.Proofs.YtanfmnobanhcnaaH.Var Go.Proofs.YtanfmnobanhcnaaH.Fr Go.Proofs.YtanfmnobanhcnaaH.Rec
attribute [local simp] op_or op_an op_add op_eql op_neq op_lss op_gtr op_leq op_geq op_sub op_mul
attribute [-simp] intOp bin_shl
abbrev Sl (c : Bool) (l : List Int) : D := .slc c 1 (l.map (.int .i64))
def t47 (c d : Bool) (l m : List Int) (i : Nat) : List D := [Sl c l, Sl d m, .undef, .undef, .bool false, .int .i64 i, Sl c l, .int .i64 l.length, Sl d m, .int .i64 m.length, .bool false, .undef, .undef, .undef, .undef, .undef, .undef, .undef, .undef, .undef, .undef, .undef, .undef, .undef, .undef, .undef]
def kn47 : List Kn := [.blk 0, .c ((C.reg none [⟨some 4, none, .mv (.k (.bool true))⟩]).seq C.ret)]
set_option maxHeartbeats 4000000 in
theorem L47 (c d : Bool) (l m : List Int) (hl : l.length ≤ 2 ^ 47) : ∀ (r q pre : List Int) (i : Nat), l = pre ++ r → m = pre ++ q → i = pre.length → r.length = q.length →
    finK false 0 [Rs.tmp 4] (loopK cf0 K0 (LpB cf0 K0 b47_0 (t47 c d l m 0) 0 ⟨t47 c d l m i, []⟩) kn47) = some (.bool (r == q), [])
  | [], [], pre, i, h, h', hi, _ => by
    have : l = pre := by simpa using h
    subst this
    rw [LpB_eq]
    simp only [t47]
    conv => lhs; arg 4; arg 3; arg 6; simp [b47_0, hi]
    simp [kn47]
  | x :: r, y :: q, pre, i, h, h', hi, hrq => by
    have hll : i < l.length := by rw [h, hi]; simp
    have hlm : i < m.length := by rw [h', hi]; simp
    have hget : l[i]? = some x := by rw [h, hi]; simp
    have hget2 : m[i]? = some y := by rw [h', hi]; simp
    have hgi : l[i]'hll = x := by rw [List.getElem?_eq_getElem hll] at hget; exact Option.some.inj hget
    have hgm : m[i]'hlm = y := by rw [List.getElem?_eq_getElem hlm] at hget2; exact Option.some.inj hget2
    have hw := w64 (i + 1) (by omega)
    rw [LpB_eq]
    by_cases hxy : x = y
    · have hne : (x != y) = false := by simpa using hxy
      have ih := L47 c d l m hl r q (pre ++ [x]) (i + 1) (by rw [h]; simp) (by rw [h', hxy]; simp) (by simp [hi]) (by simpa using hrq)
      have e : (x :: r == y :: q) = (r == q) := by simp [hxy]
      rw [e]
      simp only [t47] at ih ⊢
      conv => lhs; arg 4; arg 3; arg 6; simp [b47_0, hll, hlm, hgi, hgm, hw, hne, evOp, evM, wants, Ins.go, X.ev, iaM, ldM, binD, intOp, setD, applyW, Ek_ops_nil, allFree, free]
      simp at ih ⊢
      exact ih
    · have hne : (x != y) = true := by simpa using hxy
      have heq : (x :: r == y :: q) = false := by simp [hxy]
      rw [heq]
      simp only [t47]
      conv => lhs; arg 4; arg 3; arg 6; simp [b47_0, hll, hlm, hgi, hgm, hw, hne, evOp, evM, wants, Ins.go, X.ev, iaM, ldM, binD, intOp, setD, applyW, Ek_ops_nil, allFree, free]
      simp [kn47]
  | [], y :: q, pre, i, h, h', hi, hrq => by simp at hrq
  | x :: r, [], pre, i, h, h', hi, hrq => by simp at hrq
set_option maxHeartbeats 2000000 in
/-- thresherref15.Same. -/
theorem K47 (c d : Bool) (s s' : Nat) (l m : List Int) (hs : s = 1 ∨ l = []) (hs' : s' = 1 ∨ m = []) (hl : l.length ≤ 2 ^ 47) : K0 47 [.slc c s (l.map (.int .i64)), .slc d s' (m.map (.int .i64))] [] = some (.bool (l == m), []) := by
  refine K_call k47 (oraG_none (by decide) (by decide)) (by simp [c47]) ?_
  by_cases he : l.length = m.length
  · have hne : ((l.length : Int) != m.length) = false := by simp [he]
    by_cases hn : l = []
    · subst hn
      have hm : m = [] := List.eq_nil_of_length_eq_zero (by simpa using he.symm)
      subst hm
      simp [c47]
      rw [LpB_eq]
      simp [b47_0]
    · have hm : ¬ m = [] := by intro e; rw [e] at he; exact hn (List.eq_nil_of_length_eq_zero (by simpa using he))
      obtain rfl := hs.resolve_right hn
      obtain rfl := hs'.resolve_right hm
      have h := L47 c d l m hl l m [] 0 rfl rfl rfl he
      simp only [t47, kn47] at h
      simp [c47, hne]
      simp at h
      exact h
  · have hne : ((l.length : Int) != m.length) = true := by simp; omega
    have hlm : (l == m) = false := by simp; intro e; exact he (by rw [e])
    simp [c47, hne, hlm]
def t46 (x y : D) (k m g : Int) (n i : Nat) : List D := [.agg [x, .int .i64 k, .int .i64 m, .int .i64 g], .agg [y, .int .i64 k, .int .i64 m, .int .i64 g], .ptr 0 0 0 0, .ptr 1 0 0 0, .bool false, .int .i64 i, .ptr 0 0 0 0, x, .int .i64 n, .ptr 1 0 0 0, y, .int .i64 n, .bool false, .bool false, .ptr 0 0 1 0, .int .i64 k, .ptr 1 0 1 0, .int .i64 k, .bool false, .bool false, .bool false, .ptr 0 0 2 0, .int .i64 m, .ptr 1 0 2 0, .int .i64 m, .bool false, .bool false, .bool false, .ptr 0 0 3 0, .int .i64 g, .ptr 1 0 3 0, .int .i64 g, .bool false, .bool false, .undef, .undef, .undef, .undef, .undef, .undef, .undef, .undef, .undef, .undef, .undef, .undef, .undef, .undef, .undef, .undef, .undef, .undef]
def H46 (x y : D) (k m g : Int) : List Obj := [.box [x, .int .i64 k, .int .i64 m, .int .i64 g], .box [y, .int .i64 k, .int .i64 m, .int .i64 g]]
def kn46 : List Kn := [.blk 0, .c ((C.reg none [⟨some 4, none, .mv (.k (.bool true))⟩]).seq C.ret)]
set_option maxHeartbeats 4000000 in
theorem L46 (c d : Bool) (l m : List Int) (a b g : Int) (hl : l.length ≤ 2 ^ 47) : ∀ (r q pre : List Int) (i : Nat), l = pre ++ r → m = pre ++ q → i = pre.length → r.length = q.length →
    finK false 0 [Rs.tmp 4] (loopK cf0 K0 (LpB cf0 K0 b46_0 (t46 (Sl c l) (Sl d m) a b g l.length 0) 2 ⟨t46 (Sl c l) (Sl d m) a b g l.length i, H46 (Sl c l) (Sl d m) a b g⟩) kn46) = some (.bool (r == q), [])
  | [], [], pre, i, h, h', hi, _ => by
    have : l = pre := by simpa using h
    subst this
    rw [LpB_eq]
    simp only [t46, H46]
    conv => lhs; arg 4; arg 3; arg 6; simp [b46_0, hi]
    simp [kn46]
  | x :: r, y :: q, pre, i, h, h', hi, hrq => by
    have hll : i < l.length := by rw [h, hi]; simp
    have hlm : i < m.length := by rw [h', hi]; simp
    have hget : l[i]? = some x := by rw [h, hi]; simp
    have hget2 : m[i]? = some y := by rw [h', hi]; simp
    have hgi : l[i]'hll = x := by rw [List.getElem?_eq_getElem hll] at hget; exact Option.some.inj hget
    have hgm : m[i]'hlm = y := by rw [List.getElem?_eq_getElem hlm] at hget2; exact Option.some.inj hget2
    have hw := w64 (i + 1) (by omega)
    rw [LpB_eq]
    by_cases hxy : x = y
    · have hne : (x != y) = false := by simpa using hxy
      have ih := L46 c d l m a b g hl r q (pre ++ [x]) (i + 1) (by rw [h]; simp) (by rw [h', hxy]; simp) (by simp [hi]) (by simpa using hrq)
      have e : (x :: r == y :: q) = (r == q) := by simp [hxy]
      rw [e]
      simp only [t46, H46] at ih ⊢
      conv => lhs; arg 4; arg 3; arg 6; simp [b46_0, hll, hlm, hgi, hgm, hw, hne, evOp, evM, wants, Ins.go, X.ev, iaM, ldM, binD, intOp, setD, applyW, Ek_ops_nil, allFree, free]
      simp at ih ⊢
      exact ih
    · have hne : (x != y) = true := by simpa using hxy
      have heq : (x :: r == y :: q) = false := by simp [hxy]
      rw [heq]
      simp only [t46, H46]
      conv => lhs; arg 4; arg 3; arg 6; simp [b46_0, hll, hlm, hgi, hgm, hw, hne, evOp, evM, wants, Ins.go, X.ev, iaM, ldM, binD, intOp, setD, applyW, Ek_ops_nil, allFree, free]
      simp [kn46]
  | [], y :: q, pre, i, h, h', hi, hrq => by simp at hrq
  | x :: r, [], pre, i, h, h', hi, hrq => by simp at hrq
set_option maxHeartbeats 4000000 in
/-- thresherref04.Same. -/
theorem K46 (c d : Bool) (s s' : Nat) (l m : List Int) (a b g a' b' g' : Int) (hs : s = 1 ∨ l = []) (hs' : s' = 1 ∨ m = []) (hl : l.length ≤ 2 ^ 47) :
    K0 46 [Sd c s l a b g, Sd d s' m a' b' g'] [] = some (.bool (decide (l = m ∧ a = a' ∧ b = b' ∧ g = g')), []) := by
  refine K_call k46 (oraG_none (by decide) (by decide)) (by simp [c46, Sd]) ?_
  unfold Sd
  by_cases he : l.length = m.length
  · have hne : ((l.length : Int) != m.length) = false := by simp [he]
    by_cases h1 : a = a'
    · subst h1
      by_cases h2 : b = b'
      · subst h2
        by_cases h3 : g = g'
        · subst h3
          have e : decide (l = m ∧ a = a ∧ b = b ∧ g = g) = (l == m) := by rw [Bool.eq_iff_iff]; simp
          rw [e]
          by_cases hn : l = []
          · subst hn
            have hm : m = [] := List.eq_nil_of_length_eq_zero (by simpa using he.symm)
            subst hm
            simp [c46]
            rw [LpB_eq]
            simp [b46_0]
          · have hm : ¬ m = [] := by intro e; rw [e] at he; exact hn (List.eq_nil_of_length_eq_zero (by simpa using he))
            obtain rfl := hs.resolve_right hn
            obtain rfl := hs'.resolve_right hm
            have h := L46 c d l m a b g hl l m [] 0 rfl rfl rfl he
            simp only [t46, kn46, H46] at h
            simp [c46, hne, he]
            simp [he] at h
            exact h
        · have h3' : (g != g') = true := by simpa using h3
          simp [c46, hne, h3', h3]
      · have h2' : (b != b') = true := by simpa using h2
        simp [c46, hne, h2', h2]
    · have h1' : (a != a') = true := by simpa using h1
      simp [c46, hne, h1', h1]
  · have hne : ((l.length : Int) != m.length) = true := by simp; omega
    have hlm : ¬ l = m := fun e => he (by rw [e])
    simp [c46, hne, hlm]
end Go.Ab
