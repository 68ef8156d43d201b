/- THE FUNCTIONS' EQUATIONS: slices.ContainsFunc of numbers, schema.Check. -/
import Derived.Test.YtanfmnobanhcnaaBF74
set_option linter.all false
set_option maxRecDepth 100000
namespace Go.Ab
open Go.Proofs Go.Proofs.YtanfmnobanhcnaaH Go.Proofs.YtanfmnobanhcnaaH.Crc Go.Proofs.YtanfmnobanhcnaaH.Var Go.Proofs.YtanfmnobanhcnaaH.Fr Go.Proofs.YtanfmnobanhcnaaH.Rec
def c107 : Fn' := ⟨15, [(.tmp 6)], (.seq (.reg none [⟨(some 6), none, (.mv (.k (.bool false)))⟩]) (.seq (.reg none [⟨(some 7), none, (.mv (.t 0))⟩, ⟨(some 8), none, (.mv (.t 1))⟩, ⟨(some 9), none, (.bin .geq [] (.t 7) (.t 8))⟩, ⟨(some 10), none, (.mv (.t 9))⟩, ⟨(some 11), (some ((some 10), true)), (.mv (.t 0))⟩, ⟨(some 12), (some ((some 10), true)), (.mv (.t 2))⟩, ⟨(some 13), (some ((some 10), true)), (.bin .leq [] (.t 11) (.t 12))⟩, ⟨(some 14), none, (.pick (.t 10) (.t 13) (.k (.bool false)))⟩, ⟨(some 6), none, (.mv (.t 14))⟩]) .ret))⟩
theorem k107 : compF Try.prog 107 = some c107 := by kernel_rfl
def c106 : Fn' := ⟨6, [(.tmp 2)], (.seq (.reg none [⟨(some 2), none, (.mv (.k (.bool false)))⟩]) (.seq (.reg none [⟨(some 3), none, (.mv (.t 0))⟩, ⟨(some 4), none, (.call (.f 107) [(.t 3), (.k (.int .i64 1)), (.k (.int .i64 3))])⟩, ⟨(some 5), none, (.un .not (.t 4))⟩, ⟨(some 2), none, (.mv (.t 5))⟩]) .ret))⟩
theorem k106 : compF Try.prog 106 = some c106 := by kernel_rfl
def b105_0 : C := (.seq (.reg none [⟨(some 9), none, (.bin .lss [] (.t 8) (.t 7))⟩]) (.seq (.cond (.t 9) .skip (.exit 0)) (.seq (.block 1 (.seq (.reg none [⟨(some 10), none, (.mv (.t 8))⟩, ⟨(some 5), none, (.mv (.t 10))⟩]) (.seq (.reg none [⟨(some 11), none, (.mv (.t 1))⟩, ⟨(some 12), none, (.mv (.t 0))⟩, ⟨(some 13), none, (.mv (.t 5))⟩, ⟨(some 14), none, (.ia none 1 false (.t 12) (.t 13))⟩, ⟨(some 15), none, (.ld none (.t 14))⟩, ⟨(some 16), none, (.call (.t 11) [(.t 15)])⟩]) (.cond (.t 16) (.seq (.reg none [⟨(some 17), none, (.mv (.t 5))⟩, ⟨(some 4), none, (.mv (.t 17))⟩]) .ret) .skip)))) (.reg none [⟨(some 18), none, (.bin .add [] (.t 8) (.k (.int .i64 1)))⟩, ⟨(some 8), none, (.mv (.t 18))⟩]))))
def c105 : Fn' := ⟨19, [(.tmp 4)], (.seq (.reg none [⟨(some 4), none, (.mv (.k (.int .i64 0)))⟩]) (.seq (.seq (.reg none [⟨(some 6), none, (.mv (.t 0))⟩, ⟨(some 7), none, (.len 1 (.t 6))⟩, ⟨(some 8), none, (.mv (.k (.int .i64 0)))⟩]) (.block 0 (.loop b105_0))) (.seq (.reg none [⟨(some 4), none, (.mv (.k (.int .i64 (-1))))⟩]) .ret)))⟩
theorem k105 : compF Try.prog 105 = some c105 := by kernel_rfl
def c70 : Fn' := ⟨9, [(.tmp 4)], (.seq (.reg none [⟨(some 4), none, (.mv (.k (.bool false)))⟩]) (.seq (.reg none [⟨(some 5), none, (.mv (.t 0))⟩, ⟨(some 6), none, (.mv (.t 1))⟩, ⟨(some 7), none, (.call (.f 105) [(.t 5), (.t 6)])⟩, ⟨(some 8), none, (.bin .geq [] (.t 7) (.k (.int .i64 0)))⟩, ⟨(some 4), none, (.mv (.t 8))⟩]) .ret))⟩
theorem k70 : compF Try.prog 70 = some c70 := by kernel_rfl
def c71 : Fn' := ⟨36, [(.tmp 2)], (.seq (.reg none [⟨(some 1), none, (.box false (.t 0))⟩, ⟨(some 2), none, (.mv (.k (.int .i64 0)))⟩]) (.seq (.reg none [⟨(some 5), none, (.fa 0 1 false (.t 1))⟩, ⟨(some 6), none, (.ld none (.t 5))⟩, ⟨(some 7), none, (.len 1 (.t 6))⟩, ⟨(some 3), none, (.mv (.t 7))⟩]) (.seq (.reg none [⟨(some 4), none, (.mv (.f 106))⟩]) (.seq (.seq (.reg none [⟨(some 8), none, (.mv (.t 3))⟩, ⟨(some 9), none, (.call (.f 107) [(.t 8), (.k (.int .i64 1)), (.k (.int .i64 64))])⟩, ⟨(some 10), none, (.un .not (.t 9))⟩, ⟨(some 11), none, (.mv (.t 10))⟩, ⟨(some 12), (some ((some 11), false)), (.fa 0 1 false (.t 1))⟩, ⟨(some 13), (some ((some 11), false)), (.ld none (.t 12))⟩, ⟨(some 14), (some ((some 11), false)), (.mv (.t 4))⟩, ⟨(some 15), (some ((some 11), false)), (.call (.f 70) [(.t 13), (.t 14)])⟩, ⟨(some 16), none, (.pick (.t 11) (.k (.bool true)) (.t 15))⟩, ⟨(some 17), none, (.mv (.t 16))⟩, ⟨(some 18), (some ((some 17), false)), (.fa 1 1 false (.t 1))⟩, ⟨(some 19), (some ((some 17), false)), (.ld none (.t 18))⟩, ⟨(some 20), (some ((some 17), false)), (.mv (.t 3))⟩, ⟨(some 21), (some ((some 17), false)), (.call (.f 107) [(.t 19), (.k (.int .i64 1)), (.t 20)])⟩, ⟨(some 22), (some ((some 17), false)), (.un .not (.t 21))⟩, ⟨(some 23), none, (.pick (.t 17) (.k (.bool true)) (.t 22))⟩, ⟨(some 24), none, (.mv (.t 23))⟩, ⟨(some 25), (some ((some 24), false)), (.fa 2 1 false (.t 1))⟩, ⟨(some 26), (some ((some 24), false)), (.ld none (.t 25))⟩, ⟨(some 27), (some ((some 24), false)), (.call (.f 107) [(.t 26), (.k (.int .i64 1)), (.k (.int .i64 3))])⟩, ⟨(some 28), (some ((some 24), false)), (.un .not (.t 27))⟩, ⟨(some 29), none, (.pick (.t 24) (.k (.bool true)) (.t 28))⟩, ⟨(some 30), none, (.mv (.t 29))⟩, ⟨(some 31), (some ((some 30), false)), (.fa 3 1 false (.t 1))⟩, ⟨(some 32), (some ((some 30), false)), (.ld none (.t 31))⟩, ⟨(some 33), (some ((some 30), false)), (.call (.f 107) [(.t 32), (.k (.int .i64 1)), (.k (.int .i64 64))])⟩, ⟨(some 34), (some ((some 30), false)), (.un .not (.t 33))⟩, ⟨(some 35), none, (.pick (.t 30) (.k (.bool true)) (.t 34))⟩]) (.cond (.t 35) (.seq (.reg none [⟨(some 2), none, (.mv (.k (.int .i64 20)))⟩]) .ret) .skip)) (.seq (.reg none [⟨(some 2), none, (.mv (.k (.int .i64 0)))⟩]) .ret)))))⟩
theorem k71 : compF Try.prog 71 = some c71 := by kernel_rfl
attribute [local simp] op_or op_an op_add op_eql op_neq op_lss op_gtr op_leq op_geq op_sub op_mul
attribute [-simp] intOp bin_shl
set_option maxHeartbeats 2000000 in
theorem K107 (n a b : Int) : K0 107 [.int .i64 n, .int .i64 a, .int .i64 b] [] = some (.bool (within n a b), []) := by
  refine K_call k107 (oraG_none (by decide) (by decide)) (by simp [c107]) ?_
  by_cases h : a ≤ n
  · simp [c107, h, within]
  · simp [c107, h, within]
set_option maxHeartbeats 2000000 in
theorem K106 (n : Int) : K0 106 [.int .i64 n] [] = some (.bool (!within n 1 3), []) := by
  refine K_call k106 (oraG_none (by decide) (by decide)) (by simp [c106]) ?_
  simp [c106, K107]
def t105 (c : Bool) (s : Nat) (l : List Int) (f i : Nat) : List D := [.slc c s (l.map (.int .i64)), .func f [] [], .undef, .undef, .int .i64 0, .undef, .slc c s (l.map (.int .i64)), .int .i64 l.length, .int .i64 i, .undef, .undef, .undef, .undef, .undef, .undef, .undef, .undef, .undef, .undef]
def kn105 : List Kn := [.blk 0, .c ((C.reg none [⟨some 4, none, .mv (.k (.int .i64 (-1)))⟩]).seq C.ret)]
set_option maxHeartbeats 4000000 in
theorem L105 (c : Bool) (l : List Int) (f : Nat) (p : Int → Bool) (hf : ∀ x, K0 f [.int .i64 x] [] = some (.bool (p x), [])) (hl : l.length ≤ 2 ^ 47) : ∀ (t pre : List Int) (i : Nat), l = pre ++ t → i = pre.length →
    finK false 0 [Rs.tmp 4] (loopK cf0 K0 (LpB cf0 K0 b105_0 (t105 c 1 l f 0) 0 ⟨t105 c 1 l f i, []⟩) kn105) = some (.int .i64 (if t.any p then ((i + t.findIdx p : Nat) : Int) else -1), [])
  | [], pre, i, h, hi => by
    have : l = pre := by simpa using h
    subst this
    rw [LpB_eq]
    simp [b105_0, t105, hi, kn105]
  | x :: t, pre, i, h, hi => by
    have hll : i < l.length := by rw [h, hi]; simp
    have hlt : (i : Int) < l.length := by omega
    have hget : l[i]? = some x := by rw [h, hi]; simp
    have hw := w64 (i + 1) (by omega)
    have hfx := hf x
    rw [LpB_eq]
    cases hp : p x with
    | true =>
      rw [hp] at hfx
      have e : (if (x :: t).any p = true then ((i + (x :: t).findIdx p : Nat) : Int) else -1) = i := by simp [hp, List.findIdx_cons]
      rw [e]
      simp only [t105]
      conv => lhs; arg 4; arg 3; arg 6; simp [b105_0, hlt, hget, hfx]
      simp [kn105]
    | false =>
      rw [hp] at hfx
      have e : (if (x :: t).any p = true then ((i + (x :: t).findIdx p : Nat) : Int) else -1) = if t.any p = true then ((i + 1 + t.findIdx p : Nat) : Int) else -1 := by simp [hp, List.findIdx_cons, Nat.add_assoc, Nat.add_comm 1]
      rw [e]
      have ih := L105 c l f p hf hl t (pre ++ [x]) (i + 1) (by rw [h]; simp) (by simp [hi])
      simp only [t105] at ih ⊢
      conv => lhs; arg 4; arg 3; arg 6; simp [b105_0, hlt, hget, hfx, hw]
      simp at ih ⊢
      exact ih
set_option maxHeartbeats 2000000 in
theorem K105 (c : Bool) (s : Nat) (l : List Int) (hs : s = 1 ∨ l = []) (f : Nat) (p : Int → Bool) (hf : ∀ x, K0 f [.int .i64 x] [] = some (.bool (p x), [])) (hl : l.length ≤ 2 ^ 47) :
    K0 105 [.slc c s (l.map (.int .i64)), .func f [] []] [] = some (.int .i64 (if l.any p then ((l.findIdx p : Nat) : Int) else -1), []) := by
  refine K_call k105 (oraG_none (by decide) (by decide)) (by simp [c105]) ?_
  rcases hs with rfl | rfl
  · have h := L105 c l f p hf hl l [] 0 rfl rfl
    simp only [t105, kn105, Nat.zero_add] at h
    simp [c105]
    simp at h
    exact h
  · simp [c105]
    rw [LpB_eq]
    simp [b105_0]
set_option maxHeartbeats 2000000 in
/-- slices.ContainsFunc, of numbers. -/
theorem K70 (c : Bool) (s : Nat) (l : List Int) (hs : s = 1 ∨ l = []) (f : Nat) (p : Int → Bool) (hf : ∀ x, K0 f [.int .i64 x] [] = some (.bool (p x), [])) (hl : l.length ≤ 2 ^ 47) :
    K0 70 [.slc c s (l.map (.int .i64)), .func f [] []] [] = some (.bool (l.any p), []) := by
  refine K_call k70 (oraG_none (by decide) (by decide)) (by simp [c70]) ?_
  have h := K105 c s l hs f p hf hl
  cases ha : l.any p with
  | true =>
    rw [ha] at h
    simp only [if_true] at h
    simp [c70, h]
  | false =>
    rw [ha] at h
    simp only [Bool.false_eq_true, if_false] at h
    simp [c70, h]
/-- A schema. -/
def Sd (c : Bool) (s : Nat) (ts : List Int) (k m g : Int) : D := .agg [.slc c s (ts.map (.int .i64)), .int .i64 k, .int .i64 m, .int .i64 g]
set_option maxHeartbeats 4000000 in
/-- schema.Check. -/
theorem K71 (c : Bool) (s : Nat) (ts : List Int) (hs : s = 1 ∨ ts = []) (k m g : Int) (hl : ts.length ≤ 2 ^ 47) : K0 71 [Sd c s ts k m g] [] = some (.int .i64 (checkI ts k m g), []) := by
  refine K_call k71 (oraG_none (by decide) (by decide)) (by simp [c71, Sd]) ?_
  have h1 := K107 (ts.length : Int) 1 64
  have h2 := K70 c s ts hs 106 (fun t => !within t 1 3) K106 hl
  have h3 := K107 k 1 (ts.length : Int)
  have h4 := K107 m 1 3
  have h5 := K107 g 1 64
  have e : checkI ts k m g = if (within ts.length 1 64 && !(ts.any fun t => !within t 1 3) && within k 1 ts.length && within m 1 3 && within g 1 64) = true then 0 else 20 := by
    have : (!(ts.any fun t => !within t 1 3)) = ts.all (fun t => within t 1 3) := by
      rw [List.not_any_eq_all_not]
      simp
    rw [this]
    rfl
  rw [e]
  generalize within (ts.length : Int) 1 64 = b1 at *
  generalize (ts.any fun t => !within t 1 3) = b2 at *
  generalize within k 1 (ts.length : Int) = b3 at *
  generalize within m 1 3 = b4 at *
  generalize within g 1 64 = b5 at *
  unfold Sd
  cases b1
  · simp [c71, h1]
  obtain rfl | rfl : b2 = true ∨ b2 = false := by cases b2 <;> simp
  · simp [c71, h1, h2]
  cases b3
  · simp [c71, h1, h2, h3]
  cases b4
  · simp [c71, h1, h2, h3, h4]
  cases b5
  · simp [c71, h1, h2, h3, h4, h5]
  · simp [c71, h1, h2, h3, h4, h5]
end Go.Ab
