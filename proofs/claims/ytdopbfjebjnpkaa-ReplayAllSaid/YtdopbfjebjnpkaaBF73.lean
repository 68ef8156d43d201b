/- THE FUNCTIONS' EQUATIONS: thresherref04: Check, Put, Same; thresherref15: Same. -/
import Derived.Test.YtdopbfjebjnpkaaBF72
import Derived.Test.YtdopbfjebjnpkaaBF75
import Derived.Test.YtdopbfjebjnpkaaBF74
set_option linter.all false
set_option maxRecDepth 100000
namespace Go.Ab
open Go.Proofs Go.Proofs.YtdopbfjebjnpkaaH Go.Proofs.YtdopbfjebjnpkaaH.Crc Go.Proofs.YtdopbfjebjnpkaaH.Var Go.Proofs.YtdopbfjebjnpkaaH.Fr Go.Proofs.YtdopbfjebjnpkaaH.Rec
def b73_0 : C := (.seq (.seq (.reg none [⟨(some 45), none, (.mv (.t 4))⟩, ⟨(some 46), none, (.mv (.t 3))⟩, ⟨(some 47), none, (.bin .lss [] (.t 45) (.t 46))⟩]) (.cond (.t 47) .skip (.exit 0))) (.seq (.block 1 (.seq (.reg none [⟨(some 50), none, (.fa 0 1 false (.t 1))⟩, ⟨(some 51), none, (.ld none (.t 50))⟩, ⟨(some 52), none, (.mv (.t 4))⟩, ⟨(some 53), none, (.ia none 1 false (.t 51) (.t 52))⟩, ⟨(some 54), none, (.ld none (.t 53))⟩, ⟨(some 55), none, (.bin .lss [] (.t 54) (.k (.int .i64 1)))⟩, ⟨(some 56), none, (.mv (.t 55))⟩, ⟨(some 57), (some ((some 56), false)), (.fa 0 1 false (.t 1))⟩, ⟨(some 58), (some ((some 56), false)), (.ld none (.t 57))⟩, ⟨(some 59), (some ((some 56), false)), (.mv (.t 4))⟩, ⟨(some 60), (some ((some 56), false)), (.ia none 1 false (.t 58) (.t 59))⟩, ⟨(some 61), (some ((some 56), false)), (.ld none (.t 60))⟩, ⟨(some 62), (some ((some 56), false)), (.bin .gtr [] (.t 61) (.k (.int .i64 3)))⟩, ⟨(some 63), none, (.pick (.t 56) (.k (.bool true)) (.t 62))⟩]) (.cond (.t 63) (.seq (.reg none [⟨(some 2), none, (.mv (.k (.int .i64 20)))⟩]) .ret) .skip))) (.reg none [⟨(some 48), none, (.mv (.t 4))⟩, ⟨(some 49), none, (.bin .add [] (.t 48) (.k (.int .i64 1)))⟩, ⟨(some 4), none, (.mv (.t 49))⟩])))
def c73 : Fn' := ⟨64, [(.tmp 2)], (.seq (.reg none [⟨(some 1), none, (.box false (.t 0))⟩, ⟨(some 2), none, (.mv (.k (.int .i64 0)))⟩]) (.seq (.reg none [⟨(some 5), none, (.fa 0 1 false (.t 1))⟩, ⟨(some 6), none, (.ld none (.t 5))⟩, ⟨(some 7), none, (.len 1 (.t 6))⟩, ⟨(some 3), none, (.mv (.t 7))⟩]) (.seq (.seq (.reg none [⟨(some 8), none, (.mv (.t 3))⟩, ⟨(some 9), none, (.bin .lss [] (.t 8) (.k (.int .i64 1)))⟩, ⟨(some 10), none, (.mv (.t 9))⟩, ⟨(some 11), (some ((some 10), false)), (.mv (.t 3))⟩, ⟨(some 12), (some ((some 10), false)), (.bin .gtr [] (.t 11) (.k (.int .i64 64)))⟩, ⟨(some 13), none, (.pick (.t 10) (.k (.bool true)) (.t 12))⟩, ⟨(some 14), none, (.mv (.t 13))⟩, ⟨(some 15), (some ((some 14), false)), (.fa 1 1 false (.t 1))⟩, ⟨(some 16), (some ((some 14), false)), (.ld none (.t 15))⟩, ⟨(some 17), (some ((some 14), false)), (.bin .lss [] (.t 16) (.k (.int .i64 1)))⟩, ⟨(some 18), none, (.pick (.t 14) (.k (.bool true)) (.t 17))⟩, ⟨(some 19), none, (.mv (.t 18))⟩, ⟨(some 20), (some ((some 19), false)), (.fa 1 1 false (.t 1))⟩, ⟨(some 21), (some ((some 19), false)), (.ld none (.t 20))⟩, ⟨(some 22), (some ((some 19), false)), (.mv (.t 3))⟩, ⟨(some 23), (some ((some 19), false)), (.bin .gtr [] (.t 21) (.t 22))⟩, ⟨(some 24), none, (.pick (.t 19) (.k (.bool true)) (.t 23))⟩, ⟨(some 25), none, (.mv (.t 24))⟩, ⟨(some 26), (some ((some 25), false)), (.fa 2 1 false (.t 1))⟩, ⟨(some 27), (some ((some 25), false)), (.ld none (.t 26))⟩, ⟨(some 28), (some ((some 25), false)), (.bin .lss [] (.t 27) (.k (.int .i64 1)))⟩, ⟨(some 29), none, (.pick (.t 25) (.k (.bool true)) (.t 28))⟩, ⟨(some 30), none, (.mv (.t 29))⟩, ⟨(some 31), (some ((some 30), false)), (.fa 2 1 false (.t 1))⟩, ⟨(some 32), (some ((some 30), false)), (.ld none (.t 31))⟩, ⟨(some 33), (some ((some 30), false)), (.bin .gtr [] (.t 32) (.k (.int .i64 3)))⟩, ⟨(some 34), none, (.pick (.t 30) (.k (.bool true)) (.t 33))⟩, ⟨(some 35), none, (.mv (.t 34))⟩, ⟨(some 36), (some ((some 35), false)), (.fa 3 1 false (.t 1))⟩, ⟨(some 37), (some ((some 35), false)), (.ld none (.t 36))⟩, ⟨(some 38), (some ((some 35), false)), (.bin .lss [] (.t 37) (.k (.int .i64 1)))⟩, ⟨(some 39), none, (.pick (.t 35) (.k (.bool true)) (.t 38))⟩, ⟨(some 40), none, (.mv (.t 39))⟩, ⟨(some 41), (some ((some 40), false)), (.fa 3 1 false (.t 1))⟩, ⟨(some 42), (some ((some 40), false)), (.ld none (.t 41))⟩, ⟨(some 43), (some ((some 40), false)), (.bin .gtr [] (.t 42) (.k (.int .i64 64)))⟩, ⟨(some 44), none, (.pick (.t 40) (.k (.bool true)) (.t 43))⟩]) (.cond (.t 44) (.seq (.reg none [⟨(some 2), none, (.mv (.k (.int .i64 20)))⟩]) .ret) .skip)) (.seq (.seq (.reg none [⟨(some 4), none, (.mv (.k (.int .i64 0)))⟩]) (.block 0 (.loop b73_0))) (.seq (.reg none [⟨(some 2), none, (.mv (.k (.int .i64 0)))⟩]) .ret)))))⟩
theorem k73 : compF Try.prog 43 = some c73 := by kernel_rfl
def b38_0 : C := (.seq (.seq (.reg none [⟨(some 10), none, (.mv (.t 4))⟩, ⟨(some 11), none, (.fa 0 1 false (.t 1))⟩, ⟨(some 12), none, (.ld none (.t 11))⟩, ⟨(some 13), none, (.len 1 (.t 12))⟩, ⟨(some 14), none, (.bin .lss [] (.t 10) (.t 13))⟩]) (.cond (.t 14) .skip (.exit 0))) (.seq (.block 1 (.reg none [⟨(some 17), none, (.mv (.t 3))⟩, ⟨(some 18), none, (.fa 0 1 false (.t 1))⟩, ⟨(some 19), none, (.ld none (.t 18))⟩, ⟨(some 20), none, (.mv (.t 4))⟩, ⟨(some 21), none, (.ia none 1 false (.t 19) (.t 20))⟩, ⟨(some 22), none, (.ld none (.t 21))⟩, ⟨(some 23), none, (.cvt (.int .u64) (.t 22))⟩, ⟨(some 24), none, (.call (.f 26) [(.t 23)])⟩, ⟨(some 25), none, (.app 1 1 (.t 17) (.t 24))⟩, ⟨(some 3), none, (.mv (.t 25))⟩])) (.reg none [⟨(some 15), none, (.mv (.t 4))⟩, ⟨(some 16), none, (.bin .add [] (.t 15) (.k (.int .i64 1)))⟩, ⟨(some 4), none, (.mv (.t 16))⟩])))
def c38 : Fn' := ⟨44, [(.tmp 2)], (.seq (.reg none [⟨(some 1), none, (.box false (.t 0))⟩, ⟨(some 2), none, .nilrow⟩]) (.seq (.reg none [⟨(some 5), none, (.fa 0 1 false (.t 1))⟩, ⟨(some 6), none, (.ld none (.t 5))⟩, ⟨(some 7), none, (.len 1 (.t 6))⟩, ⟨(some 8), none, (.cvt (.int .u64) (.t 7))⟩, ⟨(some 9), none, (.call (.f 26) [(.t 8)])⟩, ⟨(some 3), none, (.mv (.t 9))⟩]) (.seq (.seq (.reg none [⟨(some 4), none, (.mv (.k (.int .i64 0)))⟩]) (.block 0 (.loop b38_0))) (.seq (.reg none [⟨(some 26), none, (.mv (.t 3))⟩, ⟨(some 27), none, (.fa 1 1 false (.t 1))⟩, ⟨(some 28), none, (.ld none (.t 27))⟩, ⟨(some 29), none, (.cvt (.int .u64) (.t 28))⟩, ⟨(some 30), none, (.call (.f 26) [(.t 29)])⟩, ⟨(some 31), none, (.app 1 1 (.t 26) (.t 30))⟩, ⟨(some 3), none, (.mv (.t 31))⟩]) (.seq (.reg none [⟨(some 32), none, (.mv (.t 3))⟩, ⟨(some 33), none, (.fa 2 1 false (.t 1))⟩, ⟨(some 34), none, (.ld none (.t 33))⟩, ⟨(some 35), none, (.cvt (.int .u64) (.t 34))⟩, ⟨(some 36), none, (.call (.f 26) [(.t 35)])⟩, ⟨(some 37), none, (.app 1 1 (.t 32) (.t 36))⟩, ⟨(some 3), none, (.mv (.t 37))⟩]) (.seq (.reg none [⟨(some 38), none, (.mv (.t 3))⟩, ⟨(some 39), none, (.fa 3 1 false (.t 1))⟩, ⟨(some 40), none, (.ld none (.t 39))⟩, ⟨(some 41), none, (.cvt (.int .u64) (.t 40))⟩, ⟨(some 42), none, (.call (.f 26) [(.t 41)])⟩, ⟨(some 43), none, (.app 1 1 (.t 38) (.t 42))⟩, ⟨(some 2), none, (.mv (.t 43))⟩]) .ret))))))⟩
theorem k38 : compF Try.prog 25 = some c38 := by kernel_rfl
def b46_0 : C := (.seq (.seq (.reg none [⟨(some 34), none, (.mv (.t 5))⟩, ⟨(some 35), none, (.fa 0 1 false (.t 2))⟩, ⟨(some 36), none, (.ld none (.t 35))⟩, ⟨(some 37), none, (.len 1 (.t 36))⟩, ⟨(some 38), none, (.bin .lss [] (.t 34) (.t 37))⟩]) (.cond (.t 38) .skip (.exit 0))) (.seq (.block 1 (.seq (.reg (some [(1, 6), (3, 6), (4, 6), (1, 8), (3, 8), (4, 8), (1, 9), (3, 9), (4, 9)]) [⟨(some 41), none, (.fa 0 1 false (.t 2))⟩, ⟨(some 42), none, (.ld none (.t 41))⟩, ⟨(some 43), none, (.mv (.t 5))⟩, ⟨(some 44), none, (.ia none 1 false (.t 42) (.t 43))⟩, ⟨(some 45), none, (.ld none (.t 44))⟩, ⟨(some 46), none, (.fa 0 1 false (.t 3))⟩, ⟨(some 47), none, (.ld none (.t 46))⟩, ⟨(some 48), none, (.mv (.t 5))⟩, ⟨(some 49), none, (.ia none 1 false (.t 47) (.t 48))⟩, ⟨(some 50), none, (.ld none (.t 49))⟩, ⟨(some 51), none, (.bin .neq [] (.t 45) (.t 50))⟩]) (.cond (.t 51) (.seq (.reg none [⟨(some 4), none, (.mv (.k (.bool false)))⟩]) .ret) .skip))) (.reg none [⟨(some 39), none, (.mv (.t 5))⟩, ⟨(some 40), none, (.bin .add [] (.t 39) (.k (.int .i64 1)))⟩, ⟨(some 5), none, (.mv (.t 40))⟩])))
def c46 : Fn' := ⟨52, [(.tmp 4)], (.seq (.reg none [⟨(some 2), none, (.box false (.t 0))⟩, ⟨(some 3), none, (.box false (.t 1))⟩, ⟨(some 4), none, (.mv (.k (.bool false)))⟩]) (.seq (.seq (.reg none [⟨(some 6), none, (.fa 0 1 false (.t 2))⟩, ⟨(some 7), none, (.ld none (.t 6))⟩, ⟨(some 8), none, (.len 1 (.t 7))⟩, ⟨(some 9), none, (.fa 0 1 false (.t 3))⟩, ⟨(some 10), none, (.ld none (.t 9))⟩, ⟨(some 11), none, (.len 1 (.t 10))⟩, ⟨(some 12), none, (.bin .neq [] (.t 8) (.t 11))⟩, ⟨(some 13), none, (.mv (.t 12))⟩, ⟨(some 14), (some ((some 13), false)), (.fa 1 1 false (.t 2))⟩, ⟨(some 15), (some ((some 13), false)), (.ld none (.t 14))⟩, ⟨(some 16), (some ((some 13), false)), (.fa 1 1 false (.t 3))⟩, ⟨(some 17), (some ((some 13), false)), (.ld none (.t 16))⟩, ⟨(some 18), (some ((some 13), false)), (.bin .neq [] (.t 15) (.t 17))⟩, ⟨(some 19), none, (.pick (.t 13) (.k (.bool true)) (.t 18))⟩, ⟨(some 20), none, (.mv (.t 19))⟩, ⟨(some 21), (some ((some 20), false)), (.fa 2 1 false (.t 2))⟩, ⟨(some 22), (some ((some 20), false)), (.ld none (.t 21))⟩, ⟨(some 23), (some ((some 20), false)), (.fa 2 1 false (.t 3))⟩, ⟨(some 24), (some ((some 20), false)), (.ld none (.t 23))⟩, ⟨(some 25), (some ((some 20), false)), (.bin .neq [] (.t 22) (.t 24))⟩, ⟨(some 26), none, (.pick (.t 20) (.k (.bool true)) (.t 25))⟩, ⟨(some 27), none, (.mv (.t 26))⟩, ⟨(some 28), (some ((some 27), false)), (.fa 3 1 false (.t 2))⟩, ⟨(some 29), (some ((some 27), false)), (.ld none (.t 28))⟩, ⟨(some 30), (some ((some 27), false)), (.fa 3 1 false (.t 3))⟩, ⟨(some 31), (some ((some 27), false)), (.ld none (.t 30))⟩, ⟨(some 32), (some ((some 27), false)), (.bin .neq [] (.t 29) (.t 31))⟩, ⟨(some 33), none, (.pick (.t 27) (.k (.bool true)) (.t 32))⟩]) (.cond (.t 33) (.seq (.reg none [⟨(some 4), none, (.mv (.k (.bool false)))⟩]) .ret) .skip)) (.seq (.seq (.reg none [⟨(some 5), none, (.mv (.k (.int .i64 0)))⟩]) (.block 0 (.loop b46_0))) (.seq (.reg none [⟨(some 4), none, (.mv (.k (.bool true)))⟩]) .ret))))⟩
theorem k46 : compF Try.prog 35 = some c46 := by kernel_rfl
def b47_0 : C := (.seq (.seq (.reg none [⟨(some 11), none, (.mv (.t 5))⟩, ⟨(some 12), none, (.mv (.t 0))⟩, ⟨(some 13), none, (.len 1 (.t 12))⟩, ⟨(some 14), none, (.bin .lss [] (.t 11) (.t 13))⟩]) (.cond (.t 14) .skip (.exit 0))) (.seq (.block 1 (.seq (.reg (some [(2, 6), (3, 6), (2, 7), (3, 7)]) [⟨(some 17), none, (.mv (.t 0))⟩, ⟨(some 18), none, (.mv (.t 5))⟩, ⟨(some 19), none, (.ia none 1 false (.t 17) (.t 18))⟩, ⟨(some 20), none, (.ld none (.t 19))⟩, ⟨(some 21), none, (.mv (.t 1))⟩, ⟨(some 22), none, (.mv (.t 5))⟩, ⟨(some 23), none, (.ia none 1 false (.t 21) (.t 22))⟩, ⟨(some 24), none, (.ld none (.t 23))⟩, ⟨(some 25), none, (.bin .neq [] (.t 20) (.t 24))⟩]) (.cond (.t 25) (.seq (.reg none [⟨(some 4), none, (.mv (.k (.bool false)))⟩]) .ret) .skip))) (.reg none [⟨(some 15), none, (.mv (.t 5))⟩, ⟨(some 16), none, (.bin .add [] (.t 15) (.k (.int .i64 1)))⟩, ⟨(some 5), none, (.mv (.t 16))⟩])))
def c47 : Fn' := ⟨26, [(.tmp 4)], (.seq (.reg none [⟨(some 4), none, (.mv (.k (.bool false)))⟩]) (.seq (.seq (.reg none [⟨(some 6), none, (.mv (.t 0))⟩, ⟨(some 7), none, (.len 1 (.t 6))⟩, ⟨(some 8), none, (.mv (.t 1))⟩, ⟨(some 9), none, (.len 1 (.t 8))⟩, ⟨(some 10), none, (.bin .neq [] (.t 7) (.t 9))⟩]) (.cond (.t 10) (.seq (.reg none [⟨(some 4), none, (.mv (.k (.bool false)))⟩]) .ret) .skip)) (.seq (.seq (.reg none [⟨(some 5), none, (.mv (.k (.int .i64 0)))⟩]) (.block 0 (.loop b47_0))) (.seq (.reg none [⟨(some 4), none, (.mv (.k (.bool true)))⟩]) .ret))))⟩
theorem k47 : compF Try.prog 36 = some c47 := by kernel_rfl
attribute [local simp] op_or op_an op_add op_eql op_neq op_lss op_gtr op_leq op_geq op_sub op_mul
attribute [-simp] intOp bin_shl
def t73 (x : D) (n k m g : Int) (i : Nat) : List D := [.agg [x, .int .i64 k, .int .i64 m, .int .i64 g], .ptr 0 0 0 0, .int .i64 0, .int .i64 n, .int .i64 i, .ptr 0 0 0 0, x, .int .i64 n, .int .i64 n, .bool false, .bool false, .int .i64 n, .bool false, .bool false, .bool false, .ptr 0 0 1 0, .int .i64 k, .bool false, .bool false, .bool false, .ptr 0 0 1 0, .int .i64 k, .int .i64 n, .bool false, .bool false, .bool false, .ptr 0 0 2 0, .int .i64 m, .bool false, .bool false, .bool false, .ptr 0 0 2 0, .int .i64 m, .bool false, .bool false, .bool false, .ptr 0 0 3 0, .int .i64 g, .bool false, .bool false, .bool false, .ptr 0 0 3 0, .int .i64 g, .bool false, .bool false, .undef, .undef, .undef, .undef, .undef, .undef, .undef, .undef, .undef, .undef, .undef, .undef, .undef, .undef, .undef, .undef, .undef, .undef, .undef]
def kn73 : List Kn := [.blk 0, .c ((C.reg none [⟨some 2, none, .mv (.k (.int .i64 0))⟩]).seq C.ret)]
set_option maxHeartbeats 4000000 in
theorem L73 (c : Bool) (l : List Int) (k m g : Int) (hl : l.length ≤ 2 ^ 47) : ∀ (t pre : List Int) (i : Nat), l = pre ++ t → i = pre.length →
    finK false 0 [Rs.tmp 2] (loopK cf0 K0 (LpB cf0 K0 b73_0 (t73 (.slc c 1 (l.map (.int .i64))) l.length k m g 0) 1 ⟨t73 (.slc c 1 (l.map (.int .i64))) l.length k m g i, [.box [.slc c 1 (l.map (.int .i64)), .int .i64 k, .int .i64 m, .int .i64 g]]⟩) kn73)
      = some (.int .i64 (if t.all (fun t => within t 1 3) = true then 0 else 20), [])
  | [], pre, i, h, hi => by
    have : l = pre := by simpa using h
    subst this
    rw [LpB_eq]
    simp only [t73]
    conv => lhs; arg 4; arg 3; arg 6; simp [b73_0, hi]
    simp [kn73]
  | x :: t, pre, i, h, hi => by
    have hll : i < l.length := by rw [h, hi]; simp
    have hlt : (i : Int) < l.length := by omega
    have hget : l[i]? = some x := by rw [h, hi]; simp
    have hgi : l[i]'hll = x := by rw [List.getElem?_eq_getElem hll] at hget; exact Option.some.inj hget
    have hw := w64 (i + 1) (by omega)
    rw [LpB_eq]
    by_cases h1 : x < 1
    · have e : ((x :: t).all fun t => within t 1 3) = false := by simp [within]; intro h; omega
      rw [e]
      simp only [t73]
      conv => lhs; arg 4; arg 3; arg 6; simp [b73_0, hll, hgi, h1]
      simp [kn73]
    · by_cases h3 : 3 < x
      · have e : ((x :: t).all fun t => within t 1 3) = false := by simp [within]; intro _ h; omega
        rw [e]
        simp only [t73]
        conv => lhs; arg 4; arg 3; arg 6; simp [b73_0, hll, hgi, h1, h3]
        simp [kn73]
      · have e : ((x :: t).all fun t => within t 1 3) = t.all (fun t => within t 1 3) := by
          have : within x 1 3 = true := by simp [within]; omega
          simp [this]
        rw [e]
        have ih := L73 c l k m g hl t (pre ++ [x]) (i + 1) (by rw [h]; simp) (by simp [hi])
        simp only [t73] at ih ⊢
        conv => lhs; arg 4; arg 3; arg 6; simp [b73_0, hll, hgi, h1, h3, hw]
        simp at ih ⊢
        exact ih
set_option maxHeartbeats 4000000 in
/-- thresherref04.Check. -/
theorem K73 (c : Bool) (s : Nat) (ts : List Int) (hs : s = 1 ∨ ts = []) (k m g : Int) (hl : ts.length ≤ 2 ^ 47) : K0 43 [Sd c s ts k m g] [] = some (.int .i64 (checkI ts k m g), []) := by
  refine K_call k73 (oraG_none (by decide) (by decide)) (by simp [c73, Sd]) ?_
  have bad : ∀ h : ¬ ((1 ≤ ts.length ∧ ts.length ≤ 64) ∧ (1 ≤ k ∧ k ≤ ts.length) ∧ (1 ≤ m ∧ m ≤ 3) ∧ 1 ≤ g ∧ g ≤ 64), checkI ts k m g = 20 := fun h => if_neg (by rw [schemaOk_iff]; exact fun ⟨a, b, c, d, e⟩ => h ⟨a, c, d, e⟩)
  by_cases h1 : (ts.length : Int) < 1
  · have h1' : ts.length < 1 := by omega
    rw [bad (by omega)]; unfold Sd; simp [c73, h1, h1']
  have hn : ¬ ts = [] := by intro e; rw [e] at h1; simp at h1
  by_cases h2 : (64 : Int) < ts.length
  · have h2' : 64 < ts.length := by omega
    rw [bad (by omega)]; unfold Sd; simp [c73, h1, hn, h2, h2']
  have h2' : ¬ 64 < ts.length := by omega
  by_cases h3 : k < 1
  · rw [bad (by omega)]; unfold Sd; simp [c73, h1, hn, h2, h2', h3]
  by_cases h4 : (ts.length : Int) < k
  · rw [bad (by omega)]; unfold Sd; simp [c73, h1, hn, h2, h2', h3, h4]
  by_cases h5 : m < 1
  · rw [bad (by omega)]; unfold Sd; simp [c73, h1, hn, h2, h2', h3, h4, h5]
  by_cases h6 : 3 < m
  · rw [bad (by omega)]; unfold Sd; simp [c73, h1, hn, h2, h2', h3, h4, h5, h6]
  by_cases h7 : g < 1
  · rw [bad (by omega)]; unfold Sd; simp [c73, h1, hn, h2, h2', h3, h4, h5, h6, h7]
  by_cases h8 : 64 < g
  · rw [bad (by omega)]; unfold Sd; simp [c73, h1, hn, h2, h2', h3, h4, h5, h6, h7, h8]
  have e : checkI ts k m g = if ts.all (fun t => within t 1 3) = true then 0 else 20 := by
    unfold checkI schemaOk
    have w1 : within (ts.length : Int) 1 64 = true := by simp [within]; omega
    have w2 : within k 1 (ts.length : Int) = true := by simp [within]; omega
    have w3 : within m 1 3 = true := by simp [within]; omega
    have w4 : within g 1 64 = true := by simp [within]; omega
    rw [w1, w2, w3, w4]
    simp
  obtain rfl : s = 1 := hs.resolve_right hn
  have h := L73 c ts k m g hl ts [] 0 rfl rfl
  rw [e]
  simp only [t73, kn73] at h
  unfold Sd
  simp [c73, h1, hn, h2, h2', h3, h4, h5, h6, h7, h8]
  simp at h
  exact h
def t38 (x : D) (n k m g : Int) (p a i : Nat) : List D := [.agg [x, .int .i64 k, .int .i64 m, .int .i64 g], .ptr 0 0 0 0, .sl 1 0 0 0, .sl 2 0 a a, .int .i64 i, .ptr 0 0 0 0, x, .int .i64 n, .int .u64 n, .sl 2 0 p p, .undef, .undef, .undef, .undef, .undef, .undef, .undef, .undef, .undef, .undef, .undef, .undef, .undef, .undef, .undef, .undef, .undef, .undef, .undef, .undef, .undef, .undef, .undef, .undef, .undef, .undef, .undef, .undef, .undef, .undef, .undef, .undef, .undef, .undef]
def H38 (x : D) (k m g : Int) (l : List Int) : List Obj := [.box [x, .int .i64 k, .int .i64 m, .int .i64 g], .row 0 [] 0, .row 1 (l.map (.int .u8)) 0]
set_option maxHeartbeats 4000000 in
theorem L38 (c : Bool) (l : List Int) (n k m g : Int) (p : Nat) (hl : l.length ≤ 2 ^ 47) : ∀ (t pre acc : List Int) (a i : Nat), l = pre ++ t → i = pre.length → a = acc.length → acc.length + 10 * t.length ≤ 2 ^ 40 → (∀ x ∈ t, 0 ≤ x ∧ x ≤ 9223372036854775807) →
    LpB cf0 K0 b38_0 (t38 (.slc c 1 (l.map (.int .i64))) n k m g p p 0) 3 ⟨t38 (.slc c 1 (l.map (.int .i64))) n k m g p a i, H38 (.slc c 1 (l.map (.int .i64))) k m g acc⟩ =
    some (.exit 0, ⟨t38 (.slc c 1 (l.map (.int .i64))) n k m g p (acc ++ putAllI t).length l.length, H38 (.slc c 1 (l.map (.int .i64))) k m g (acc ++ putAllI t)⟩)
  | [], pre, acc, a, i, h, hi, ha, hb, hx => by
    have : l = pre := by simpa using h
    subst this
    rw [LpB_eq]
    simp only [t38, H38]
    conv => lhs; arg 6; simp [b38_0, hi]
    simp [hi, ha, putAllI]
  | x :: t, pre, acc, a, i, h, hi, ha, hb, hx => by
    have hx0 := hx x List.mem_cons_self
    have hll : i < l.length := by rw [h, hi]; simp
    have hget : l[i]? = some x := by rw [h, hi]; simp
    have hgi : l[i]'hll = x := by rw [List.getElem?_eq_getElem hll] at hget; exact Option.some.inj hget
    have hw := w64 (i + 1) (by omega)
    have hwx : IntKind.u64.wrap x = x := by rw [IntKind.wrap_u64]; omega
    have hK := K39 x (by omega) (by omega)
    obtain ⟨q, hq⟩ : ∃ q, putI x = q := ⟨_, rfl⟩
    have hql : q.length ≤ 10 := by rw [← hq]; exact putI_len10 _ (by omega)
    have hqn : ¬ q = [] := by
      intro e
      have := putI_pos x
      rw [hq, e] at this
      cases this
    rw [hq] at hK
    have ih := L38 c l n k m g p hl t (pre ++ [x]) (acc ++ q) (acc ++ q).length (i + 1) (by rw [h]; simp) (by simp [hi]) rfl (by simp at hb ⊢; omega) (fun y hy => hx y (List.mem_cons_of_mem _ hy))
    rw [allP_pos, hq, ← List.append_assoc]
    simp only [List.length_cons] at hb
    have b1 : acc.length + q.length ≤ 70368744177664 := by omega
    rw [LpB_eq]
    simp only [t38, H38] at ih ⊢
    conv => lhs; arg 6; simp [b38_0, hll, hgi, hw, hwx, hK, hqn, ha, b1, List.take_of_length_le]
    simp at ih ⊢
    exact ih
set_option maxHeartbeats 4000000 in
/-- thresherref04.Put. -/
theorem K38 (c : Bool) (s : Nat) (ts : List Int) (hs : s = 1 ∨ ts = []) (k m g : Int) (hl : ts.length ≤ 2 ^ 30) (hpos : ∀ x ∈ ts ++ [k, m, g], 0 ≤ x ∧ x ≤ 9223372036854775807) :
    K0 25 [Sd c s ts k m g] [] = some (.slc false 1 ((putS ts k m g).map (.int .u8)), []) := by
  refine K_call k38 (oraG_none (by decide) (by decide)) (by simp [c38, Sd]) ?_
  have hk := hpos k (by simp)
  have hm := hpos m (by simp)
  have hg := hpos g (by simp)
  have wn : IntKind.u64.wrap (ts.length : Int) = ts.length := by rw [IntKind.wrap_u64]; omega
  have wk : IntKind.u64.wrap k = k := by rw [IntKind.wrap_u64]; omega
  have wm : IntKind.u64.wrap m = m := by rw [IntKind.wrap_u64]; omega
  have wg : IntKind.u64.wrap g = g := by rw [IntKind.wrap_u64]; omega
  have Kn := K39 (ts.length : Int) (by omega) (by omega)
  have Kk := K39 k (by omega) (by omega)
  have Km := K39 m (by omega) (by omega)
  have Kg := K39 g (by omega) (by omega)
  have ne : ∀ x, ¬ putI x = [] := by
    intro x e
    have := putI_pos x
    rw [e] at this
    cases this
  have e : putS ts k m g = putI ts.length ++ putAllI ts ++ (putI k ++ (putI m ++ putI g)) := by simp [putS, putAllI, List.flatMap_append]
  have ln := putI_len10 (ts.length : Int) (by omega)
  have lk := putI_len10 k (by omega)
  have lm := putI_len10 m (by omega)
  have lg := putI_len10 g (by omega)
  have la := putAllI_len ts (fun x hx => by have := hpos x (by simp [hx]); omega)
  have nk := ne k
  have nm := ne m
  have ng := ne g
  rw [e]
  have hloop : ∀ s, (s = 1 ∨ ts = []) → LpB cf0 K0 b38_0 (t38 (.slc c s (ts.map (.int .i64))) ts.length k m g (putI ts.length).length (putI ts.length).length 0) 3 ⟨t38 (.slc c s (ts.map (.int .i64))) ts.length k m g (putI ts.length).length (putI ts.length).length 0, H38 (.slc c s (ts.map (.int .i64))) k m g (putI ts.length)⟩ =
    some (.exit 0, ⟨t38 (.slc c s (ts.map (.int .i64))) ts.length k m g (putI ts.length).length (putI ts.length ++ putAllI ts).length ts.length, H38 (.slc c s (ts.map (.int .i64))) k m g (putI ts.length ++ putAllI ts)⟩) := by
    intro s hs
    rcases hs with rfl | rfl
    · exact L38 c ts ts.length k m g _ (by omega) ts [] (putI ts.length) _ 0 rfl rfl rfl (by omega) (fun x hx => hpos x (by simp [hx]))
    · rw [LpB_eq]
      simp only [t38, H38]
      conv => lhs; arg 6; simp [b38_0]
      simp [putAllI]
  have h := hloop s hs
  obtain ⟨q, hq⟩ : ∃ q, putI ts.length ++ putAllI ts = q := ⟨_, rfl⟩
  have hql : q.length ≤ 2 ^ 36 := by rw [← hq]; simp; omega
  rw [hq] at h ⊢
  generalize putI (ts.length : Int) = pn at *
  generalize putI k = pk at *
  generalize putI m = pm at *
  generalize putI g = pg at *
  have b1 : q.length + pk.length ≤ 70368744177664 := by omega
  have b2 : q.length + (pk.length + pm.length) ≤ 70368744177664 := by omega
  have b3 : q.length + (pk.length + (pm.length + pg.length)) ≤ 70368744177664 := by omega
  simp only [t38, H38] at h
  unfold Sd
  simp [c38, wn, Kn]
  simp at h
  rw [h]
  simp [wk, wm, wg, Kk, Km, Kg, nk, nm, ng, b1, b2, b3, Nat.add_assoc, List.take_of_length_le]
end Go.Ab
/- THE FUNCTIONS' EQUATIONS: thresherref04.Same, thresherref15.Same. -/
set_option linter.all false
set_option maxRecDepth 100000
namespace Go.Ab
open Go.Proofs Go.Proofs.YtdopbfjebjnpkaaH Go.Proofs.YtdopbfjebjnpkaaH.Crc Go.Proofs.YtdopbfjebjnpkaaH.Var Go.Proofs.YtdopbfjebjnpkaaH.Fr Go.Proofs.YtdopbfjebjnpkaaH.Rec
attribute [local simp] op_or op_an op_add op_eql op_neq op_lss op_gtr op_leq op_geq op_sub op_mul
attribute [-simp] intOp bin_shl
abbrev Sl (c : Bool) (l : List Int) : D := .slc c 1 (l.map (.int .i64))
def t47 (c d : Bool) (l m : List Int) (i : Nat) : List D := [Sl c l, Sl d m, .undef, .undef, .bool false, .int .i64 i, Sl c l, .int .i64 l.length, Sl d m, .int .i64 m.length, .bool false, .undef, .undef, .undef, .undef, .undef, .undef, .undef, .undef, .undef, .undef, .undef, .undef, .undef, .undef, .undef]
def kn47 : List Kn := [.blk 0, .c ((C.reg none [⟨some 4, none, .mv (.k (.bool true))⟩]).seq C.ret)]
set_option maxHeartbeats 4000000 in
theorem L47 (c d : Bool) (l m : List Int) (hl : l.length ≤ 2 ^ 47) : ∀ (r q pre : List Int) (i : Nat), l = pre ++ r → m = pre ++ q → i = pre.length → r.length = q.length →
    finK false 0 [Rs.tmp 4] (loopK cf0 K0 (LpB cf0 K0 b47_0 (t47 c d l m 0) 0 ⟨t47 c d l m i, []⟩) kn47) = some (.bool (r == q), [])
  | [], [], pre, i, h, h', hi, _ => by
    have : l = pre := by simpa using h
    subst this
    rw [LpB_eq]
    simp only [t47]
    conv => lhs; arg 4; arg 3; arg 6; simp [b47_0, hi]
    simp [kn47]
  | x :: r, y :: q, pre, i, h, h', hi, hrq => by
    have hll : i < l.length := by rw [h, hi]; simp
    have hlm : i < m.length := by rw [h', hi]; simp
    have hget : l[i]? = some x := by rw [h, hi]; simp
    have hget2 : m[i]? = some y := by rw [h', hi]; simp
    have hgi : l[i]'hll = x := by rw [List.getElem?_eq_getElem hll] at hget; exact Option.some.inj hget
    have hgm : m[i]'hlm = y := by rw [List.getElem?_eq_getElem hlm] at hget2; exact Option.some.inj hget2
    have hw := w64 (i + 1) (by omega)
    rw [LpB_eq]
    by_cases hxy : x = y
    · have hne : (x != y) = false := by simpa using hxy
      have ih := L47 c d l m hl r q (pre ++ [x]) (i + 1) (by rw [h]; simp) (by rw [h', hxy]; simp) (by simp [hi]) (by simpa using hrq)
      have e : (x :: r == y :: q) = (r == q) := by simp [hxy]
      rw [e]
      simp only [t47] at ih ⊢
      conv => lhs; arg 4; arg 3; arg 6; simp [b47_0, hll, hlm, hgi, hgm, hw, hne, evOp, evM, wants, Ins.go, X.ev, iaM, ldM, binD, intOp, setD, applyW, Ek_ops_nil, allFree, free]
      simp at ih ⊢
      exact ih
    · have hne : (x != y) = true := by simpa using hxy
      have heq : (x :: r == y :: q) = false := by simp [hxy]
      rw [heq]
      simp only [t47]
      conv => lhs; arg 4; arg 3; arg 6; simp [b47_0, hll, hlm, hgi, hgm, hw, hne, evOp, evM, wants, Ins.go, X.ev, iaM, ldM, binD, intOp, setD, applyW, Ek_ops_nil, allFree, free]
      simp [kn47]
  | [], y :: q, pre, i, h, h', hi, hrq => by simp at hrq
  | x :: r, [], pre, i, h, h', hi, hrq => by simp at hrq
set_option maxHeartbeats 2000000 in
/-- thresherref15.Same. -/
theorem K47 (c d : Bool) (s s' : Nat) (l m : List Int) (hs : s = 1 ∨ l = []) (hs' : s' = 1 ∨ m = []) (hl : l.length ≤ 2 ^ 47) : K0 36 [.slc c s (l.map (.int .i64)), .slc d s' (m.map (.int .i64))] [] = some (.bool (l == m), []) := by
  refine K_call k47 (oraG_none (by decide) (by decide)) (by simp [c47]) ?_
  by_cases he : l.length = m.length
  · have hne : ((l.length : Int) != m.length) = false := by simp [he]
    by_cases hn : l = []
    · subst hn
      have hm : m = [] := List.eq_nil_of_length_eq_zero (by simpa using he.symm)
      subst hm
      simp [c47]
      rw [LpB_eq]
      simp [b47_0]
    · have hm : ¬ m = [] := by intro e; rw [e] at he; exact hn (List.eq_nil_of_length_eq_zero (by simpa using he))
      obtain rfl := hs.resolve_right hn
      obtain rfl := hs'.resolve_right hm
      have h := L47 c d l m hl l m [] 0 rfl rfl rfl he
      simp only [t47, kn47] at h
      simp [c47, hne]
      simp at h
      exact h
  · have hne : ((l.length : Int) != m.length) = true := by simp; omega
    have hlm : (l == m) = false := by simp; intro e; exact he (by rw [e])
    simp [c47, hne, hlm]
def t46 (x y : D) (k m g : Int) (n i : Nat) : List D := [.agg [x, .int .i64 k, .int .i64 m, .int .i64 g], .agg [y, .int .i64 k, .int .i64 m, .int .i64 g], .ptr 0 0 0 0, .ptr 1 0 0 0, .bool false, .int .i64 i, .ptr 0 0 0 0, x, .int .i64 n, .ptr 1 0 0 0, y, .int .i64 n, .bool false, .bool false, .ptr 0 0 1 0, .int .i64 k, .ptr 1 0 1 0, .int .i64 k, .bool false, .bool false, .bool false, .ptr 0 0 2 0, .int .i64 m, .ptr 1 0 2 0, .int .i64 m, .bool false, .bool false, .bool false, .ptr 0 0 3 0, .int .i64 g, .ptr 1 0 3 0, .int .i64 g, .bool false, .bool false, .undef, .undef, .undef, .undef, .undef, .undef, .undef, .undef, .undef, .undef, .undef, .undef, .undef, .undef, .undef, .undef, .undef, .undef]
def H46 (x y : D) (k m g : Int) : List Obj := [.box [x, .int .i64 k, .int .i64 m, .int .i64 g], .box [y, .int .i64 k, .int .i64 m, .int .i64 g]]
def kn46 : List Kn := [.blk 0, .c ((C.reg none [⟨some 4, none, .mv (.k (.bool true))⟩]).seq C.ret)]
set_option maxHeartbeats 4000000 in
theorem L46 (c d : Bool) (l m : List Int) (a b g : Int) (hl : l.length ≤ 2 ^ 47) : ∀ (r q pre : List Int) (i : Nat), l = pre ++ r → m = pre ++ q → i = pre.length → r.length = q.length →
    finK false 0 [Rs.tmp 4] (loopK cf0 K0 (LpB cf0 K0 b46_0 (t46 (Sl c l) (Sl d m) a b g l.length 0) 2 ⟨t46 (Sl c l) (Sl d m) a b g l.length i, H46 (Sl c l) (Sl d m) a b g⟩) kn46) = some (.bool (r == q), [])
  | [], [], pre, i, h, h', hi, _ => by
    have : l = pre := by simpa using h
    subst this
    rw [LpB_eq]
    simp only [t46, H46]
    conv => lhs; arg 4; arg 3; arg 6; simp [b46_0, hi]
    simp [kn46]
  | x :: r, y :: q, pre, i, h, h', hi, hrq => by
    have hll : i < l.length := by rw [h, hi]; simp
    have hlm : i < m.length := by rw [h', hi]; simp
    have hget : l[i]? = some x := by rw [h, hi]; simp
    have hget2 : m[i]? = some y := by rw [h', hi]; simp
    have hgi : l[i]'hll = x := by rw [List.getElem?_eq_getElem hll] at hget; exact Option.some.inj hget
    have hgm : m[i]'hlm = y := by rw [List.getElem?_eq_getElem hlm] at hget2; exact Option.some.inj hget2
    have hw := w64 (i + 1) (by omega)
    rw [LpB_eq]
    by_cases hxy : x = y
    · have hne : (x != y) = false := by simpa using hxy
      have ih := L46 c d l m a b g hl r q (pre ++ [x]) (i + 1) (by rw [h]; simp) (by rw [h', hxy]; simp) (by simp [hi]) (by simpa using hrq)
      have e : (x :: r == y :: q) = (r == q) := by simp [hxy]
      rw [e]
      simp only [t46, H46] at ih ⊢
      conv => lhs; arg 4; arg 3; arg 6; simp [b46_0, hll, hlm, hgi, hgm, hw, hne, evOp, evM, wants, Ins.go, X.ev, iaM, ldM, binD, intOp, setD, applyW, Ek_ops_nil, allFree, free]
      simp at ih ⊢
      exact ih
    · have hne : (x != y) = true := by simpa using hxy
      have heq : (x :: r == y :: q) = false := by simp [hxy]
      rw [heq]
      simp only [t46, H46]
      conv => lhs; arg 4; arg 3; arg 6; simp [b46_0, hll, hlm, hgi, hgm, hw, hne, evOp, evM, wants, Ins.go, X.ev, iaM, ldM, binD, intOp, setD, applyW, Ek_ops_nil, allFree, free]
      simp [kn46]
  | [], y :: q, pre, i, h, h', hi, hrq => by simp at hrq
  | x :: r, [], pre, i, h, h', hi, hrq => by simp at hrq
set_option maxHeartbeats 4000000 in
/-- thresherref04.Same. -/
theorem K46 (c d : Bool) (s s' : Nat) (l m : List Int) (a b g a' b' g' : Int) (hs : s = 1 ∨ l = []) (hs' : s' = 1 ∨ m = []) (hl : l.length ≤ 2 ^ 47) :
    K0 35 [Sd c s l a b g, Sd d s' m a' b' g'] [] = some (.bool (decide (l = m ∧ a = a' ∧ b = b' ∧ g = g')), []) := by
  refine K_call k46 (oraG_none (by decide) (by decide)) (by simp [c46, Sd]) ?_
  unfold Sd
  by_cases he : l.length = m.length
  · have hne : ((l.length : Int) != m.length) = false := by simp [he]
    by_cases h1 : a = a'
    · subst h1
      by_cases h2 : b = b'
      · subst h2
        by_cases h3 : g = g'
        · subst h3
          have e : decide (l = m ∧ a = a ∧ b = b ∧ g = g) = (l == m) := by rw [Bool.eq_iff_iff]; simp
          rw [e]
          by_cases hn : l = []
          · subst hn
            have hm : m = [] := List.eq_nil_of_length_eq_zero (by simpa using he.symm)
            subst hm
            simp [c46]
            rw [LpB_eq]
            simp [b46_0]
          · have hm : ¬ m = [] := by intro e; rw [e] at he; exact hn (List.eq_nil_of_length_eq_zero (by simpa using he))
            obtain rfl := hs.resolve_right hn
            obtain rfl := hs'.resolve_right hm
            have h := L46 c d l m a b g hl l m [] 0 rfl rfl rfl he
            simp only [t46, kn46, H46] at h
            simp [c46, hne, he]
            simp [he] at h
            exact h
        · have h3' : (g != g') = true := by simpa using h3
          simp [c46, hne, h3', h3]
      · have h2' : (b != b') = true := by simpa using h2
        simp [c46, hne, h2', h2]
    · have h1' : (a != a') = true := by simpa using h1
      simp [c46, hne, h1', h1]
  · have hne : ((l.length : Int) != m.length) = true := by simp; omega
    have hlm : ¬ l = m := fun e => he (by rw [e])
    simp [c46, hne, hlm]
end Go.Ab
/- COMPARISONS that simp leaves as they are; slices against nil. -/
set_option linter.all false
set_option maxRecDepth 100000
namespace Go.Ab
open Go.Proofs
/-- Comparisons that simp leaves as they are. -/
def eqI (a b : Int) : Bool := a == b
def neI (a b : Int) : Bool := a != b
def ltI (a b : Int) : Bool := decide (a < b)
def leI (a b : Int) : Bool := decide (a ≤ b)
theorem oq_eql (k : IntKind) (a b : Int) : intOp .eql k a b = some (.bool (eqI a b)) := rfl
theorem oq_neq (k : IntKind) (a b : Int) : intOp .neq k a b = some (.bool (neI a b)) := rfl
theorem oq_lss (k : IntKind) (a b : Int) : intOp .lss k a b = some (.bool (ltI a b)) := rfl
theorem oq_gtr (k : IntKind) (a b : Int) : intOp .gtr k a b = some (.bool (ltI b a)) := rfl
theorem oq_leq (k : IntKind) (a b : Int) : intOp .leq k a b = some (.bool (leI a b)) := rfl
theorem oq_geq (k : IntKind) (a b : Int) : intOp .geq k a b = some (.bool (leI b a)) := rfl
theorem eqI_t {a b : Int} (h : a = b) : eqI a b = true := by simpa [eqI] using h
theorem eqI_f {a b : Int} (h : ¬ a = b) : eqI a b = false := by simpa [eqI] using h
theorem neI_t {a b : Int} (h : ¬ a = b) : neI a b = true := by simpa [neI] using h
theorem neI_f {a b : Int} (h : a = b) : neI a b = false := by simpa [neI] using h
theorem ltI_t {a b : Int} (h : a < b) : ltI a b = true := by simpa [ltI] using h
theorem ltI_f {a b : Int} (h : ¬ a < b) : ltI a b = false := by simpa [ltI] using h
theorem leI_t {a b : Int} (h : a ≤ b) : leI a b = true := by simpa [leI] using h
theorem leI_f {a b : Int} (h : ¬ a ≤ b) : leI a b = false := by simpa [leI] using h
theorem nil_or (c : Bool) (s : Nat) (l : List Int) : (c = true ∧ s = 0 ∧ l = []) ∨ D.isNil (.slc c s (l.map (.int .i64))) = false := by
  cases c with
  | false => exact .inr rfl
  | true =>
    cases s with
    | succ n => exact .inr rfl
    | zero => cases l with
      | nil => exact .inl ⟨rfl, rfl, rfl⟩
      | cons x l => exact .inr rfl
theorem isNil_nil : D.isNil (.slc true 0 []) = true := rfl
theorem isNil_int (k : IntKind) (n : Int) : D.isNil (.int k n) = false := rfl
theorem isNil_cons (c : Bool) (s : Nat) (x : D) (l : List D) : D.isNil (.slc c s (x :: l)) = false := by cases c <;> cases s <;> rfl
attribute [simp] isNil_nil isNil_int isNil_cons
end Go.Ab
