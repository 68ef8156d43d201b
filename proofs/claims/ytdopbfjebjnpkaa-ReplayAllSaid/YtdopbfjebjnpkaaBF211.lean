/- THE FUNCTIONS' EQUATIONS: thresherref17.head, Apply. -/
import Derived.Test.YtdopbfjebjnpkaaBF33
import Derived.Test.YtdopbfjebjnpkaaBF79
set_option linter.all false
set_option maxRecDepth 100000
namespace Go.Ab
open Go.Proofs Go.Proofs.YtdopbfjebjnpkaaH Go.Proofs.YtdopbfjebjnpkaaH.Crc Go.Proofs.YtdopbfjebjnpkaaH.Var Go.Proofs.YtdopbfjebjnpkaaH.Fr Go.Proofs.YtdopbfjebjnpkaaH.Rec
def b209_0 : C := (.seq (.seq (.reg none [⟨(some 4), none, (.mv (.t 3))⟩, ⟨(some 5), none, (.fa 5 1 false (.t 1))⟩, ⟨(some 6), none, (.ld none (.t 5))⟩, ⟨(some 7), none, (.len 1 (.t 6))⟩, ⟨(some 8), none, (.bin .lss [] (.t 4) (.t 7))⟩]) (.cond (.t 8) .skip (.exit 0))) (.seq (.block 1 (.seq (.reg (some [(1, 6), (3, 6), (4, 6), (10, 12), (10, 14), (10, 15)]) [⟨(some 11), none, (.fa 5 1 false (.t 1))⟩, ⟨(some 12), none, (.ld none (.t 11))⟩, ⟨(some 13), none, (.mv (.t 3))⟩, ⟨(some 14), none, (.ia none 1 false (.t 12) (.t 13))⟩, ⟨(some 15), none, (.ld none (.t 14))⟩, ⟨(some 16), none, (.fa 6 1 false (.t 1))⟩, ⟨(some 17), none, (.ld none (.t 16))⟩, ⟨(some 18), none, (.bin .geq [] (.t 15) (.t 17))⟩, ⟨(some 19), none, (.mv (.t 18))⟩, ⟨(some 20), (some ((some 19), false)), (.fa 5 1 false (.t 1))⟩, ⟨(some 21), (some ((some 19), false)), (.ld none (.t 20))⟩, ⟨(some 22), (some ((some 19), false)), (.fa 5 1 false (.t 1))⟩, ⟨(some 23), (some ((some 19), false)), (.ld none (.t 22))⟩, ⟨(some 24), (some ((some 19), false)), (.mv (.t 3))⟩, ⟨(some 25), (some ((some 19), false)), (.ia none 1 false (.t 23) (.t 24))⟩, ⟨(some 26), (some ((some 19), false)), (.ld none (.t 25))⟩, ⟨(some 27), (some ((some 19), false)), (.call (.f 38) [(.t 21), (.t 26)])⟩, ⟨(some 28), (some ((some 19), false)), (.mv (.t 3))⟩, ⟨(some 29), (some ((some 19), false)), (.bin .neq [] (.t 27) (.t 28))⟩, ⟨(some 30), none, (.pick (.t 19) (.k (.bool true)) (.t 29))⟩]) (.cond (.t 30) (.seq (.reg none [⟨(some 2), none, (.mv (.k (.bool false)))⟩]) .ret) .skip))) (.reg none [⟨(some 9), none, (.mv (.t 3))⟩, ⟨(some 10), none, (.bin .add [] (.t 9) (.k (.int .i64 1)))⟩, ⟨(some 3), none, (.mv (.t 10))⟩])))
def c209 : Fn' := ⟨31, [(.tmp 2)], (.seq (.reg none [⟨(some 1), none, (.box false (.t 0))⟩, ⟨(some 2), none, (.mv (.k (.bool false)))⟩]) (.seq (.seq (.reg none [⟨(some 3), none, (.mv (.k (.int .i64 0)))⟩]) (.block 0 (.loop b209_0))) (.seq (.reg none [⟨(some 2), none, (.mv (.k (.bool true)))⟩]) .ret)))⟩
theorem k209 : compF Try.prog 37 = some c209 := by kernel_rfl
def b211_0 : C := (.seq (.seq (.reg none [⟨(some 88), none, (.mv (.t 11))⟩, ⟨(some 89), none, (.mv (.t 10))⟩, ⟨(some 90), none, (.bin .lss [] (.t 88) (.t 89))⟩]) (.cond (.t 90) .skip (.exit 0))) (.seq (.block 1 (.seq (.reg (some [(1, 8), (5, 8), (6, 8), (1, 10), (5, 10), (6, 10), (1, 11), (5, 11), (6, 11)]) [⟨(some 93), none, (.fa 4 1 false (.t 2))⟩, ⟨(some 94), none, (.ld none (.t 93))⟩, ⟨(some 95), none, (.mv (.t 9))⟩, ⟨(some 96), none, (.mv (.t 11))⟩, ⟨(some 97), none, (.bin .add [] (.t 95) (.t 96))⟩, ⟨(some 98), none, (.ia none 1 false (.t 94) (.t 97))⟩, ⟨(some 99), none, (.ld none (.t 98))⟩, ⟨(some 100), none, (.fa 5 1 false (.t 3))⟩, ⟨(some 101), none, (.ld none (.t 100))⟩, ⟨(some 102), none, (.mv (.t 11))⟩, ⟨(some 103), none, (.ia none 1 false (.t 101) (.t 102))⟩, ⟨(some 104), none, (.ld none (.t 103))⟩, ⟨(some 105), none, (.bin .neq [] (.t 99) (.t 104))⟩]) (.cond (.t 105) (.seq (.reg none [⟨(some 106), none, (.ld (some 6) (.t 2))⟩, ⟨none, none, (.st 6 (.t 4) (.t 106))⟩, ⟨(some 5), none, (.mv (.k (.bool false)))⟩]) .ret) .skip))) (.reg none [⟨(some 91), none, (.mv (.t 11))⟩, ⟨(some 92), none, (.bin .add [] (.t 91) (.k (.int .i64 1)))⟩, ⟨(some 11), none, (.mv (.t 92))⟩])))
def c211 : Fn' := ⟨131, [(.cell 4 (some 6)), (.tmp 5)], (.seq (.reg none [⟨(some 2), none, (.box false (.t 0))⟩, ⟨(some 3), none, (.box false (.t 1))⟩, ⟨(some 4), none, (.alloc false [nilS, (.int .i64 0), (.int .i64 0), (.int .i64 0), nilS, (.int .i64 0)])⟩, ⟨(some 5), none, (.mv (.k (.bool false)))⟩]) (.seq (.reg none [⟨(some 14), none, (.ld (some 7) (.t 3))⟩, ⟨(some 15), none, (.call (.f 13) [(.t 14)])⟩, ⟨(some 13), none, (.mv (.t 15))⟩, ⟨(some 16), none, (.ext (.t 13) 0)⟩, ⟨(some 17), none, (.ext (.t 13) 1)⟩, ⟨(some 6), none, (.mv (.t 16))⟩, ⟨(some 7), none, (.mv (.t 17))⟩]) (.seq (.seq (.reg none [⟨(some 18), none, (.mv (.t 7))⟩, ⟨(some 19), none, (.un .not (.t 18))⟩]) (.cond (.t 19) (.seq (.reg none [⟨(some 20), none, (.ld (some 6) (.t 2))⟩, ⟨none, none, (.st 6 (.t 4) (.t 20))⟩, ⟨(some 5), none, (.mv (.k (.bool false)))⟩]) .ret) .skip)) (.seq (.seq (.reg none [⟨(some 21), none, (.fa 0 1 false (.t 3))⟩, ⟨(some 22), none, (.ld none (.t 21))⟩, ⟨(some 23), none, (.bin .eql [] (.t 22) (.k (.int .i64 1)))⟩]) (.cond (.t 23) (.seq (.reg none [⟨(some 24), none, (.ld (some 7) (.t 3))⟩, ⟨(some 25), none, (.call (.f 37) [(.t 24)])⟩, ⟨(some 8), none, (.mv (.t 25))⟩]) (.seq (.seq (.reg none [⟨(some 26), none, (.mv (.t 8))⟩, ⟨(some 27), none, (.un .not (.t 26))⟩]) (.cond (.t 27) (.seq (.reg none [⟨(some 28), none, (.ld (some 6) (.t 2))⟩, ⟨none, none, (.st 6 (.t 4) (.t 28))⟩, ⟨(some 5), none, (.mv (.k (.bool false)))⟩]) .ret) .skip)) (.seq (.reg (some [(1, 2), (1, 4), (2, 4), (1, 5), (1, 7), (2, 7), (4, 7), (5, 7)]) [⟨(some 29), none, (.fa 1 4 true (.t 3))⟩, ⟨(some 30), none, (.ld (some 4) (.t 29))⟩, ⟨(some 31), none, (.bsl false 1 0 [(.int .i64 0)] [])⟩, ⟨(some 32), none, (.fa 5 1 false (.t 3))⟩, ⟨(some 33), none, (.ld none (.t 32))⟩, ⟨(some 34), none, (.app 1 8 (.t 31) (.t 33))⟩, ⟨(some 35), none, (.fa 6 1 false (.t 3))⟩, ⟨(some 36), none, (.ld none (.t 35))⟩, ⟨(some 37), none, (.bld [nilS, (.int .i64 0), (.int .i64 0), (.int .i64 0), nilS, (.int .i64 0)] [(0, (4, (.t 30))), (4, (1, (.t 34))), (5, (1, (.t 36)))])⟩, ⟨none, none, (.st 6 (.t 4) (.t 37))⟩, ⟨(some 5), none, (.mv (.k (.bool true)))⟩]) .ret))) .skip)) (.seq (.seq (.reg none [⟨(some 38), none, (.fa 6 1 false (.t 3))⟩, ⟨(some 39), none, (.ld none (.t 38))⟩, ⟨(some 40), none, (.fa 5 1 false (.t 2))⟩, ⟨(some 41), none, (.ld none (.t 40))⟩, ⟨(some 42), none, (.bin .lss [] (.t 39) (.t 41))⟩]) (.cond (.t 42) (.seq (.reg none [⟨(some 43), none, (.ld (some 6) (.t 2))⟩, ⟨none, none, (.st 6 (.t 4) (.t 43))⟩, ⟨(some 5), none, (.mv (.k (.bool false)))⟩]) .ret) .skip)) (.seq (.seq (.reg none [⟨(some 44), none, (.fa 0 1 false (.t 3))⟩, ⟨(some 45), none, (.ld none (.t 44))⟩, ⟨(some 46), none, (.bin .eql [] (.t 45) (.k (.int .i64 2)))⟩]) (.cond (.t 46) (.seq (.seq (.reg none [⟨(some 47), none, (.fa 4 1 false (.t 2))⟩, ⟨(some 48), none, (.ld none (.t 47))⟩, ⟨(some 49), none, (.len 1 (.t 48))⟩, ⟨(some 50), none, (.bin .geq [] (.t 49) (.k (.int .i64 40)))⟩]) (.cond (.t 50) (.seq (.reg none [⟨(some 51), none, (.ld (some 6) (.t 2))⟩, ⟨none, none, (.st 6 (.t 4) (.t 51))⟩, ⟨(some 5), none, (.mv (.k (.bool false)))⟩]) .ret) .skip)) (.seq (.reg (some [(1, 2), (1, 4), (2, 4), (1, 5), (1, 7), (2, 7), (4, 7), (5, 7), (1, 8), (2, 8), (4, 8), (5, 8), (1, 9), (1, 11), (2, 11), (4, 11), (5, 11), (7, 11), (8, 11), (9, 11)]) [⟨(some 52), none, (.fa 0 4 true (.t 2))⟩, ⟨(some 53), none, (.ld (some 4) (.t 52))⟩, ⟨(some 54), none, (.bsl false 1 0 [(.int .i64 0)] [])⟩, ⟨(some 55), none, (.fa 4 1 false (.t 2))⟩, ⟨(some 56), none, (.ld none (.t 55))⟩, ⟨(some 57), none, (.app 1 8 (.t 54) (.t 56))⟩, ⟨(some 58), none, (.fa 6 1 false (.t 3))⟩, ⟨(some 59), none, (.ld none (.t 58))⟩, ⟨(some 60), none, (.bsl false 1 1 [(.int .i64 0)] [(0, (.t 59))])⟩, ⟨(some 61), none, (.app 1 8 (.t 57) (.t 60))⟩, ⟨(some 62), none, (.fa 6 1 false (.t 3))⟩, ⟨(some 63), none, (.ld none (.t 62))⟩, ⟨(some 64), none, (.bin .add [] (.t 63) (.k (.int .i64 1)))⟩, ⟨(some 65), none, (.bld [nilS, (.int .i64 0), (.int .i64 0), (.int .i64 0), nilS, (.int .i64 0)] [(0, (4, (.t 53))), (4, (1, (.t 61))), (5, (1, (.t 64)))])⟩, ⟨none, none, (.st 6 (.t 4) (.t 65))⟩, ⟨(some 5), none, (.mv (.k (.bool true)))⟩]) .ret)) .skip)) (.seq (.reg (some [(1, 3), (1, 4), (1, 5)]) [⟨(some 66), none, (.fa 4 1 false (.t 2))⟩, ⟨(some 67), none, (.ld none (.t 66))⟩, ⟨(some 68), none, (.fa 5 1 false (.t 3))⟩, ⟨(some 69), none, (.ld none (.t 68))⟩, ⟨(some 70), none, (.ia none 1 false (.t 69) (.k (.int .i64 0)))⟩, ⟨(some 71), none, (.ld none (.t 70))⟩, ⟨(some 72), none, (.call (.f 38) [(.t 67), (.t 71)])⟩, ⟨(some 9), none, (.mv (.t 72))⟩]) (.seq (.reg none [⟨(some 73), none, (.fa 5 1 false (.t 3))⟩, ⟨(some 74), none, (.ld none (.t 73))⟩, ⟨(some 75), none, (.len 1 (.t 74))⟩, ⟨(some 10), none, (.mv (.t 75))⟩]) (.seq (.seq (.reg none [⟨(some 76), none, (.mv (.t 9))⟩, ⟨(some 77), none, (.bin .lss [] (.t 76) (.k (.int .i64 0)))⟩, ⟨(some 78), none, (.mv (.t 77))⟩, ⟨(some 79), (some ((some 78), false)), (.mv (.t 9))⟩, ⟨(some 80), (some ((some 78), false)), (.mv (.t 10))⟩, ⟨(some 81), (some ((some 78), false)), (.bin .add [] (.t 79) (.t 80))⟩, ⟨(some 82), (some ((some 78), false)), (.fa 4 1 false (.t 2))⟩, ⟨(some 83), (some ((some 78), false)), (.ld none (.t 82))⟩, ⟨(some 84), (some ((some 78), false)), (.len 1 (.t 83))⟩, ⟨(some 85), (some ((some 78), false)), (.bin .gtr [] (.t 81) (.t 84))⟩, ⟨(some 86), none, (.pick (.t 78) (.k (.bool true)) (.t 85))⟩]) (.cond (.t 86) (.seq (.reg none [⟨(some 87), none, (.ld (some 6) (.t 2))⟩, ⟨none, none, (.st 6 (.t 4) (.t 87))⟩, ⟨(some 5), none, (.mv (.k (.bool false)))⟩]) .ret) .skip)) (.seq (.seq (.reg none [⟨(some 11), none, (.mv (.k (.int .i64 0)))⟩]) (.block 0 (.loop b211_0))) (.seq (.reg (some [(0, 2), (0, 4), (0, 7), (2, 7), (4, 7), (5, 7), (0, 8), (2, 8), (4, 8), (5, 8)]) [⟨(some 107), none, (.bsl false 1 0 [(.int .i64 0)] [])⟩, ⟨(some 108), none, (.fa 4 1 false (.t 2))⟩, ⟨(some 109), none, (.ld none (.t 108))⟩, ⟨(some 110), none, (.mv (.t 9))⟩, ⟨(some 111), none, (.sub 1 1 (.t 109) none (some (.t 110)) none)⟩, ⟨(some 112), none, (.app 1 8 (.t 107) (.t 111))⟩, ⟨(some 113), none, (.fa 6 1 false (.t 3))⟩, ⟨(some 114), none, (.ld none (.t 113))⟩, ⟨(some 115), none, (.bsl false 1 1 [(.int .i64 0)] [(0, (.t 114))])⟩, ⟨(some 116), none, (.app 1 8 (.t 112) (.t 115))⟩, ⟨(some 12), none, (.mv (.t 116))⟩]) (.seq (.reg (some [(1, 4), (1, 8), (1, 9), (1, 11), (4, 11), (8, 11), (9, 11)]) [⟨(some 117), none, (.fa 0 4 true (.t 2))⟩, ⟨(some 118), none, (.ld (some 4) (.t 117))⟩, ⟨(some 119), none, (.mv (.t 12))⟩, ⟨(some 120), none, (.fa 4 1 false (.t 2))⟩, ⟨(some 121), none, (.ld none (.t 120))⟩, ⟨(some 122), none, (.mv (.t 9))⟩, ⟨(some 123), none, (.mv (.t 10))⟩, ⟨(some 124), none, (.bin .add [] (.t 122) (.t 123))⟩, ⟨(some 125), none, (.sub 1 1 (.t 121) (some (.t 124)) none none)⟩, ⟨(some 126), none, (.app 1 8 (.t 119) (.t 125))⟩, ⟨(some 127), none, (.fa 6 1 false (.t 3))⟩, ⟨(some 128), none, (.ld none (.t 127))⟩, ⟨(some 129), none, (.bin .add [] (.t 128) (.k (.int .i64 1)))⟩, ⟨(some 130), none, (.bld [nilS, (.int .i64 0), (.int .i64 0), (.int .i64 0), nilS, (.int .i64 0)] [(0, (4, (.t 118))), (4, (1, (.t 126))), (5, (1, (.t 129)))])⟩, ⟨none, none, (.st 6 (.t 4) (.t 130))⟩, ⟨(some 5), none, (.mv (.k (.bool true)))⟩]) .ret))))))))))))⟩
theorem k211 : compF Try.prog 17 = some c211 := by kernel_rfl
attribute [local simp] op_or op_an op_add op_sub op_mul oq_eql oq_neq oq_lss oq_gtr oq_leq oq_geq
attribute [-simp] intOp bin_shl
theorem unl_iff (l : List Int) (n : Int) : unl l n = true ↔ ∀ (i : Nat) (y : Int), l[i]? = some y → y < n ∧ idxR l y = some i := by
  unfold unl
  rw [Bool.and_eq_true, decide_eq_true_eq, List.all_eq_true]
  constructor
  · rintro ⟨h1, h2⟩ i y hy
    exact ⟨by simpa using h2 y (List.mem_of_getElem? hy), idxR_nodup l y i h1 hy⟩
  · intro h
    refine ⟨?_, fun x hx => ?_⟩
    · refine List.pairwise_iff_getElem.2 (fun i j hi hj hij he => ?_)
      have h1 := (h i _ (List.getElem?_eq_getElem hi)).2
      have h2 := (h j _ (List.getElem?_eq_getElem hj)).2
      rw [he, h2] at h1
      have := Option.some.inj h1
      omega
    · obtain ⟨i, hi⟩ := List.mem_iff_getElem?.1 hx
      simpa using (h i x hi).1
def t209 (kd : Int) (x : D) (k m g : Int) (y : D) (id : Int) (i : Nat) : List D := [.agg [.int .i64 kd, x, .int .i64 k, .int .i64 m, .int .i64 g, y, .int .i64 id], .ptr 0 0 0 0, .bool false, .int .i64 i, .undef, .undef, .undef, .undef, .undef, .undef, .undef, .undef, .undef, .undef, .undef, .undef, .undef, .undef, .undef, .undef, .undef, .undef, .undef, .undef, .undef, .undef, .undef, .undef, .undef, .undef, .undef]
def H209 (kd : Int) (x : D) (k m g : Int) (y : D) (id : Int) : List Obj := [.box [.int .i64 kd, x, .int .i64 k, .int .i64 m, .int .i64 g, y, .int .i64 id]]
def kn209 : List Kn := [.blk 0, .c ((C.reg none [⟨some 2, none, .mv (.k (.bool true))⟩]).seq C.ret)]
set_option maxHeartbeats 8000000 in
theorem L209 (kd : Int) (c0 : Bool) (s0 : Nat) (ts : List Int) (k m g : Int) (c : Bool) (l : List Int) (id : Int) (hl : l.length ≤ 2 ^ 40) : ∀ (r pre : List Int) (i : Nat), l = pre ++ r → i = pre.length → (∀ (j : Nat) (y : Int), j < i → l[j]? = some y → y < id ∧ idxR l y = some j) →
    finK false 0 [Rs.tmp 2] (loopK cf0 K0 (LpB cf0 K0 b209_0 (t209 kd (.slc c0 s0 (ts.map (.int .i64))) k m g (Sl c l) id 0) 1 ⟨t209 kd (.slc c0 s0 (ts.map (.int .i64))) k m g (Sl c l) id i, H209 kd (.slc c0 s0 (ts.map (.int .i64))) k m g (Sl c l) id⟩) kn209) = some (.bool (unl l id), [])
  | [], pre, i, h, hi, hj => by
    have hu : unl l id = true := (unl_iff l id).2 (fun j y hy => hj j y (by rw [hi]; have := (List.getElem?_eq_some_iff.1 hy).1; rw [h] at this; simpa using this) hy)
    have : l = pre := by simpa using h
    subst this
    have z := ltI_f (show ¬ ((l.length : Int) < l.length) by omega)
    rw [LpB_eq, hu]
    simp only [t209, H209]
    conv => lhs; arg 4; arg 3; arg 6; simp [b209_0, hi, z]
    simp [kn209]
  | y :: r, pre, i, h, hi, hj => by
    have hll : i < l.length := by rw [h, hi]; simp
    have hget : l[i]? = some y := by rw [h, hi]; simp
    have hgi : l[i]'hll = y := by rw [List.getElem?_eq_getElem hll] at hget; exact Option.some.inj hget
    have hw := w64 (i + 1) (by omega)
    have z := ltI_t (show ((i : Int) < l.length) by omega)
    have hP := K210 c 1 l y (.inl rfl) (by omega)
    by_cases hlt : y < id
    · have z2 : leI id y = false := leI_f (by omega)
      by_cases hx : idxR l y = some i
      · have ih := L209 kd c0 s0 ts k m g c l id hl r (pre ++ [y]) (i + 1) (by rw [h]; simp) (by simp [hi]) (fun j v h1 h2 => by
          by_cases hji : j = i
          · subst hji
            rw [hget] at h2
            obtain rfl := Option.some.inj h2
            exact ⟨hlt, hx⟩
          · exact hj j v (by omega) h2)
        rw [hx] at hP
        simp only [optI] at hP
        have z3 := neI_f (show (i : Int) = i from rfl)
        rw [LpB_eq]
        simp only [t209, H209] at ih ⊢
        conv => lhs; arg 4; arg 3; arg 6; simp [b209_0, hll, hgi, hw, z, z2, z3, hP, evOp, evM, wants, Ins.go, X.ev, iaM, ldM, binD, setD, applyW, Ek_ops_nil, allFree, free, callM, callP, callO]
        simp at ih ⊢
        exact ih
      · have hu : unl l id = false := by
          rw [Bool.eq_false_iff]
          intro e
          exact hx ((unl_iff l id).1 e i y hget).2
        have z3 : neI (optI (idxR l y)) (i : Int) = true := neI_t (by
          cases hq : idxR l y with
          | none => simp only [optI]; omega
          | some n => simp only [optI]; intro e; exact hx (by rw [hq]; congr 1; omega))
        rw [LpB_eq, hu]
        simp only [t209, H209]
        conv => lhs; arg 4; arg 3; arg 6; simp [b209_0, hll, hgi, hw, z, z2, z3, hP, evOp, evM, wants, Ins.go, X.ev, iaM, ldM, binD, setD, applyW, Ek_ops_nil, allFree, free, callM, callP, callO]
        simp [kn209]
    · have z2 : leI id y = true := leI_t (by omega)
      have hu : unl l id = false := by
        rw [Bool.eq_false_iff]
        intro e
        exact hlt ((unl_iff l id).1 e i y hget).1
      rw [LpB_eq, hu]
      simp only [t209, H209]
      conv => lhs; arg 4; arg 3; arg 6; simp [b209_0, hll, hgi, hw, z, z2, evOp, evM, wants, Ins.go, X.ev, iaM, ldM, binD, setD, applyW, Ek_ops_nil, allFree, free, callM, callP, callO]
      simp [kn209]
set_option maxHeartbeats 4000000 in
/-- thresherref17.head. -/
theorem K209 (kd : Int) (c : Bool) (s : Nat) (ts : List Int) (k m g : Int) (c' : Bool) (s' : Nat) (ids : List Int) (id : Int) (hs' : s' = 1 ∨ ids = []) (hl : ids.length ≤ 2 ^ 40) :
    K0 37 [Rcd kd c s ts k m g c' s' ids id] [] = some (.bool (unl ids id), []) := by
  refine K_call k209 (oraG_none (by decide) (by decide)) (by simp [c209, Rcd]) ?_
  by_cases hn : ids = []
  · subst hn
    have z := ltI_f (show ¬ ((0 : Int) < 0) by omega)
    simp [c209, Rcd]
    rw [LpB_eq]
    simp [b209_0, z, unl_nil]
  · obtain rfl := hs'.resolve_right hn
    have h := L209 kd c s ts k m g c' ids id hl ids [] 0 rfl rfl (fun j y h => absurd h (by omega))
    simp only [t209, H209, kn209] at h
    simp [c209, Rcd]
    simp at h
    exact h
set_option maxHeartbeats 8000000 in
def t211 (ts : List Int) (c : Bool) (s : Nat) (k m g : Int) (c' : Bool) (ids : List Int) (nx kd : Int) (d : Bool) (u : Nat) (ts' : List Int) (k' m' g' : Int) (d' : Bool) (y : Int) (so : List Int) (id : Int) (P : List Int) (a B : Nat) (i : Nat) : List D :=
  [.agg [.slc c s (ts.map (.int .i64)), .int .i64 k, .int .i64 m, .int .i64 g, .slc c' 1 (ids.map (.int .i64)), .int .i64 nx], .agg [.int .i64 kd, .slc d u (ts'.map (.int .i64)), .int .i64 k', .int .i64 m', .int .i64 g', .slc d' 1 (so.map (.int .i64)), .int .i64 id], .ptr 0 0 0 0, .ptr 1 0 0 0, .ptr 2 0 0 0, .bool false, .slc false 1 (P.map (.int .u8)), .bool true, .undef, .int .i64 a, .int .i64 so.length, .int .i64 i, .undef, .tuple [.slc false 1 (P.map (.int .u8)), .bool true], .agg [.int .i64 kd, .slc d u (ts'.map (.int .i64)), .int .i64 k', .int .i64 m', .int .i64 g', .slc d' 1 (so.map (.int .i64)), .int .i64 id], .tuple [.slc false 1 (P.map (.int .u8)), .bool true], .slc false 1 (P.map (.int .u8)), .bool true, .bool true, .bool false, .undef, .ptr 1 0 0 0, .int .i64 kd, .bool false, .undef, .undef, .undef, .undef, .undef, .undef, .undef, .undef, .undef, .undef, .undef, .undef, .undef, .undef, .ptr 1 0 6 0, .int .i64 id, .ptr 0 0 5 0, .int .i64 nx, .bool false, .undef, .ptr 1 0 0 0, .int .i64 kd, .bool false, .undef, .undef, .undef, .undef, .undef, .undef, .undef, .undef, .undef, .undef, .undef, .undef, .undef, .undef, .undef, .undef, .undef, .undef, .undef, .ptr 0 0 4 0, .slc c' 1 (ids.map (.int .i64)), .ptr 1 0 5 0, .slc d' 1 (so.map (.int .i64)), (D.int .i64 y).fptr, .int .i64 y, .int .i64 a, .ptr 1 0 5 0, .slc d' 1 (so.map (.int .i64)), .int .i64 so.length, .int .i64 a, .bool false, .bool false, .int .i64 a, .int .i64 so.length, .int .i64 B, .ptr 0 0 4 0, .slc c' 1 (ids.map (.int .i64)), .int .i64 ids.length, .bool false, .bool false, .undef, .undef, .undef, .undef, .undef, .undef, .undef, .undef, .undef, .undef, .undef, .undef, .undef, .undef, .undef, .undef, .undef, .undef, .undef, .undef, .undef, .undef, .undef, .undef, .undef, .undef, .undef, .undef, .undef, .undef, .undef, .undef, .undef, .undef, .undef, .undef, .undef, .undef, .undef, .undef, .undef, .undef, .undef, .undef]
def H211 (ts : List Int) (c : Bool) (s : Nat) (k m g : Int) (c' : Bool) (ids : List Int) (nx kd : Int) (d : Bool) (u : Nat) (ts' : List Int) (k' m' g' : Int) (d' : Bool) (so : List Int) (id : Int) : List Obj :=
  [.box [.slc c s (ts.map (.int .i64)), .int .i64 k, .int .i64 m, .int .i64 g, .slc c' 1 (ids.map (.int .i64)), .int .i64 nx], .box [.int .i64 kd, .slc d u (ts'.map (.int .i64)), .int .i64 k', .int .i64 m', .int .i64 g', .slc d' 1 (so.map (.int .i64)), .int .i64 id], .box [nilS, .int .i64 0, .int .i64 0, .int .i64 0, nilS, .int .i64 0]]
set_option maxHeartbeats 8000000 in
theorem L211 (ts : List Int) (c : Bool) (s : Nat) (k m g : Int) (c' : Bool) (ids : List Int) (nx kd : Int) (d : Bool) (u : Nat) (ts' : List Int) (k' m' g' : Int) (d' : Bool) (y0 : Int) (so : List Int) (id : Int) (P : List Int) (a B : Nat)
    (hl : ids.length ≤ 2 ^ 20) (ha : a + so.length ≤ ids.length) : ∀ (r q pre : List Int) (i : Nat), (ids.drop a).take so.length = pre ++ r → so = pre ++ q → i = pre.length → r.length = q.length →
    (r = q → LpB cf0 K0 b211_0 (t211 ts c s k m g c' ids nx kd d u ts' k' m' g' d' y0 so id P a B 0) 3 ⟨t211 ts c s k m g c' ids nx kd d u ts' k' m' g' d' y0 so id P a B i, H211 ts c s k m g c' ids nx kd d u ts' k' m' g' d' so id⟩ =
      some (.exit 0, ⟨t211 ts c s k m g c' ids nx kd d u ts' k' m' g' d' y0 so id P a B so.length, H211 ts c s k m g c' ids nx kd d u ts' k' m' g' d' so id⟩)) ∧
    (r ≠ q → ∀ kn, finK false 0 [.cell 4 (some 6), .tmp 5] (loopK cf0 K0 (LpB cf0 K0 b211_0 (t211 ts c s k m g c' ids nx kd d u ts' k' m' g' d' y0 so id P a B 0) 3 ⟨t211 ts c s k m g c' ids nx kd d u ts' k' m' g' d' y0 so id P a B i, H211 ts c s k m g c' ids nx kd d u ts' k' m' g' d' so id⟩) kn) =
      some (.tuple [.agg [.slc c s (ts.map (.int .i64)), .int .i64 k, .int .i64 m, .int .i64 g, .slc c' 1 (ids.map (.int .i64)), .int .i64 nx], .bool false], []))
  | [], [], pre, i, h, h', hi, _ => by
    have : so = pre := by simpa using h'
    subst this
    have z := ltI_f (show ¬ ((so.length : Int) < so.length) by omega)
    refine ⟨fun _ => ?_, fun e => absurd rfl e⟩
    rw [LpB_eq]
    simp only [t211, H211]
    conv => lhs; arg 6; simp [b211_0, hi, z]
    simp [hi]
  | x :: r, y :: q, pre, i, h, h', hi, hrq => by
    have hil : i < so.length := by rw [h', hi]; simp
    have z := ltI_t (show ((i : Int) < so.length) by omega)
    have hget2 : so[i]? = some y := by rw [h', hi]; simp
    have hget : ids[a + i]? = some x := by
      have e : ((ids.drop a).take so.length)[i]? = some x := by rw [h, hi]; simp
      rw [List.getElem?_take_of_lt hil, List.getElem?_drop] at e
      exact e
    obtain ⟨A, hA⟩ : ∃ A, A = a + i := ⟨_, rfl⟩
    rw [← hA] at hget
    have hll : A < ids.length := by omega
    have hgi : ids[A]'hll = x := by rw [List.getElem?_eq_getElem hll] at hget; exact Option.some.inj hget
    have hgs : so[i]'hil = y := by rw [List.getElem?_eq_getElem hil] at hget2; exact Option.some.inj hget2
    have wA : IntKind.i64.wrap ((a : Int) + (i : Int)) = A := by rw [w64 _ (by omega)]; omega
    have hw := w64 (i + 1) (by omega)
    by_cases hxy : x = y
    · have hne := neI_f hxy
      have ih := L211 ts c s k m g c' ids nx kd d u ts' k' m' g' d' y0 so id P a B hl ha r q (pre ++ [x]) (i + 1) (by rw [h]; simp) (by rw [h', hxy]; simp) (by simp [hi]) (by simpa using hrq)
      refine ⟨fun e => ?_, fun e kn => ?_⟩
      · have ih := ih.1 (List.cons.inj e).2
        rw [LpB_eq]
        simp only [t211, H211] at ih ⊢
        conv => lhs; arg 6; simp [b211_0, hil, hll, hgi, hgs, wA, hw, hne, z, evOp, evM, wants, Ins.go, X.ev, iaM, ldM, binD, setD, applyW, Ek_ops_nil, allFree, free]
        simp at ih ⊢
        exact ih
      · have ih := ih.2 (fun e2 => e (by rw [hxy, e2])) kn
        rw [LpB_eq]
        simp only [t211, H211] at ih ⊢
        conv => lhs; arg 4; arg 3; arg 6; simp [b211_0, hil, hll, hgi, hgs, wA, hw, hne, z, evOp, evM, wants, Ins.go, X.ev, iaM, ldM, binD, setD, applyW, Ek_ops_nil, allFree, free]
        simp at ih ⊢
        exact ih
    · have hne := neI_t hxy
      refine ⟨fun e => absurd (List.cons.inj e).1 hxy, fun e kn => ?_⟩
      rw [LpB_eq]
      simp only [t211, H211]
      conv => lhs; arg 4; arg 3; arg 6; simp [b211_0, hil, hll, hgi, hgs, wA, hw, hne, z, evOp, evM, wants, Ins.go, X.ev, iaM, ldM, binD, setD, applyW, Ek_ops_nil, allFree, free]
      simp [Ks_ret]
  | [], y :: q, pre, i, h, h', hi, hrq => by simp at hrq
  | x :: r, [], pre, i, h, h', hi, hrq => by simp at hrq
set_option maxHeartbeats 8000000 in
/-- thresherref17.Apply. -/
theorem K211 (x : StV) (c : Bool) (s : Nat) (c' : Bool) (s' : Nat) (hs : s = 1 ∨ x.1.1 = []) (hs' : s' = 1 ∨ x.2.1 = []) (r : RecV) (d : Bool) (u : Nat) (d' : Bool) (u' : Nat) (hu : u = 1 ∨ r.2.1.1 = []) (hu' : u' = 1 ∨ r.2.2.1 = [])
    (hx : x.2.1.length ≤ 2 ^ 20) (hl : r.2.1.1.length ≤ 2 ^ 30) (hl' : r.2.2.1.length ≤ 2 ^ 20) :
    ∃ c1 s1 c2 s2, (s1 = 1 ∨ (applyI x r).1.1.1 = []) ∧ (s2 = 1 ∨ (applyI x r).1.2.1 = []) ∧
      K0 17 [StD x c s c' s', Rcd r.1 d u r.2.1.1 r.2.1.2.1 r.2.1.2.2.1 r.2.1.2.2.2 d' u' r.2.2.1 r.2.2.2] [] = some (.tuple [StD (applyI x r).1 c1 s1 c2 s2, .bool (applyI x r).2], []) := by
  obtain ⟨⟨ts, k, m, g⟩, ids, nx⟩ := x
  obtain ⟨kd, ⟨ts', k', m', g'⟩, ids', id⟩ := r
  simp only at hs hs' hu hu' hx hl hl' ⊢
  unfold applyI mayOf
  simp only
  cases hm : mayI kd ts' k' m' g' ids' id with
  | false =>
    have hP := K18_f kd d u ts' k' m' g' d' u' ids' id hu hu' hl (by omega) hm
    rw [if_pos rfl]
    refine ⟨c, s, c', s', hs, hs', K_call k211 (oraG_none (by decide) (by decide)) (by simp [c211, StD, Rcd]) ?_⟩
    unfold Rcd at hP
    simp [c211, StD, Rcd, hP]
  | true =>
    have hP := K18_t kd d u ts' k' m' g' d' u' ids' id hu hu' hm
    have hmm := mayI_some hm
    have wn : IntKind.i64.wrap (id + 1) = id + 1 := w64 _ (by omega)
    unfold Rcd at hP
    generalize frameI (recB kd ts' k' m' g' ids' id) = P at hP
    rw [if_neg (by decide)]
    rcases hmm.1 with ⟨rfl, h1⟩ | ⟨rfl, h1, h2⟩ | ⟨rfl, h1, h2⟩
    · have q1 : eqI 1 1 = true := rfl
      have hU := K209 1 d u ts' k' m' g' d' u' ids' id hu' (by omega)
      unfold Rcd at hU
      rw [if_pos rfl]
      cases hul : unl ids' id with
      | true =>
        rw [hul] at hU
        rw [if_pos rfl]
        have bb : ids'.length * 8 ≤ 70368744177664 := by omega
        by_cases hn : ids' = []
        · subst hn
          simp only [List.map_nil] at hP hU
          refine ⟨d, u, true, 1, hu, .inl rfl, K_call k211 (oraG_none (by decide) (by decide)) (by simp [c211, StD, Rcd]) ?_⟩
          simp [c211, StD, Rcd, hP, wn, q1, hU, evOp, evM, wants, Ins.go, X.ev, iaM, ldM, binD, setD, applyW, Ek_ops_nil, allFree, free, callM, callP, callO, appM]
        · obtain rfl := hu'.resolve_right hn
          refine ⟨d, u, false, 1, hu, .inl rfl, K_call k211 (oraG_none (by decide) (by decide)) (by simp [c211, StD, Rcd]) ?_⟩
          simp [c211, StD, Rcd, hP, wn, q1, hU, bb, hn, evOp, evM, wants, Ins.go, X.ev, iaM, ldM, binD, setD, applyW, Ek_ops_nil, allFree, free, callM, callP, callO, appM]
      | false =>
        rw [hul] at hU
        rw [if_neg (by decide)]
        refine ⟨c, s, c', s', hs, hs', K_call k211 (oraG_none (by decide) (by decide)) (by simp [c211, StD, Rcd]) ?_⟩
        simp [c211, StD, Rcd, hP, wn, q1, hU]
    · have q1 : eqI 2 1 = false := rfl
      have q2 : eqI 2 2 = true := rfl
      rw [if_neg (by decide)]
      by_cases hlt : id < nx
      · have z := ltI_t hlt
        rw [if_pos hlt]
        refine ⟨c, s, c', s', hs, hs', K_call k211 (oraG_none (by decide) (by decide)) (by simp [c211, StD, Rcd]) ?_⟩
        simp [c211, StD, Rcd, hP, wn, q1, q2, z]
      · have z := ltI_f hlt
        rw [if_neg hlt, if_pos rfl]
        by_cases h40 : ids.length < 40
        · have z2 : leI 40 (ids.length : Int) = false := leI_f (by omega)
          have bb : (ids.length + 1) * 8 ≤ 70368744177664 := by omega
          have bb2 : ids.length * 8 ≤ 70368744177664 := by omega
          rw [if_pos h40]
          refine ⟨c, s, false, 1, hs, .inl rfl, K_call k211 (oraG_none (by decide) (by decide)) (by simp [c211, StD, Rcd]) ?_⟩
          by_cases hn : ids = []
          · subst hn
            have z2' : leI 40 0 = false := rfl
            simp [c211, StD, Rcd, hP, wn, q1, q2, z, z2', bb, List.take_of_length_le, evOp, evM, wants, Ins.go, X.ev, iaM, ldM, binD, setD, applyW, Ek_ops_nil, allFree, free, callM, callP, callO, appM]
          · obtain rfl := hs'.resolve_right hn
            simp [c211, StD, Rcd, hP, wn, q1, q2, z, z2, bb, bb2, hn, List.take_of_length_le, evOp, evM, wants, Ins.go, X.ev, iaM, ldM, binD, setD, applyW, Ek_ops_nil, allFree, free, callM, callP, callO, appM]
        · have z2 : leI 40 (ids.length : Int) = true := leI_t (by omega)
          rw [if_neg h40]
          refine ⟨c, s, c', s', hs, hs', K_call k211 (oraG_none (by decide) (by decide)) (by simp [c211, StD, Rcd]) ?_⟩
          simp [c211, StD, Rcd, hP, wn, q1, q2, z, z2]
    · have q1 : eqI 3 1 = false := rfl
      have q2 : eqI 3 2 = false := rfl
      obtain rfl := hu'.resolve_right (by intro e; rw [e] at h2; simp at h2)
      rw [if_neg (by decide)]
      by_cases hlt : id < nx
      · have z := ltI_t hlt
        rw [if_pos hlt]
        refine ⟨c, s, c', s', hs, hs', K_call k211 (oraG_none (by decide) (by decide)) (by simp [c211, StD, Rcd]) ?_⟩
        simp [c211, StD, Rcd, hP, wn, q1, q2, z]
      · have z := ltI_f hlt
        rw [if_neg hlt, if_neg (by decide)]
        obtain ⟨y, t, rfl⟩ : ∃ y t, ids' = y :: t := by
          cases ids' with
          | nil => simp at h2
          | cons y t => exact ⟨y, t, rfl⟩
        have hI := K210 c' s' ids y hs' (by omega)
        unfold rowR
        simp only [List.headD_cons]
        simp only [List.map_cons] at hP
        cases hr : idxR ids y with
        | none =>
          rw [hr] at hI
          have z2 : ltI (-1) 0 = true := by decide
          simp only [optI] at hI
          refine ⟨c, s, c', s', hs, hs', K_call k211 (oraG_none (by decide) (by decide)) (by simp [c211, StD, Rcd]) ?_⟩
          simp [c211, StD, Rcd, hP, wn, q1, q2, z, z2, hI, evOp, evM, wants, Ins.go, X.ev, iaM, ldM, binD, setD, applyW, Ek_ops_nil, allFree, free, callM, callP, callO, appM]
        | some a =>
          rw [hr] at hI
          simp only [optI] at hI
          have hra := idxR_lt hr
          obtain rfl := hs'.resolve_right (by intro e; rw [e] at hra; simp at hra)
          have z2 : ltI (a : Int) 0 = false := ltI_f (by omega)
          obtain ⟨B, hB⟩ : ∃ B, B = a + (t.length + 1) := ⟨_, rfl⟩
          have hBl : B ≤ 2 ^ 22 := by simp at hl'; omega
          have wB : IntKind.i64.wrap ((a : Int) + ((t.length : Int) + 1)) = B := by rw [w64 _ (by omega)]; omega
          obtain ⟨w, hw⟩ : ∃ w, (ids.drop a).take (t.length + 1) = w := ⟨_, rfl⟩
          have hok : rowOk ids (y :: t) a = (decide (B ≤ ids.length) && (w == y :: t)) := by rw [← hw, hB]; rfl
          simp only [Option.bind_some]
          rw [hok]
          by_cases hBi : B ≤ ids.length
          · have z4 : ltI (ids.length : Int) (B : Int) = false := ltI_f (by omega)
            have hwl : w.length = (y :: t).length := by rw [← hw]; simp; omega
            have L := L211 ts c s k m g c' ids nx 3 d u ts' k' m' g' d' y (y :: t) id P a B hx (by simp; omega) w (y :: t) [] 0 (by simp [← hw]) rfl rfl hwl
            simp only [t211, H211] at L
            by_cases he : w = y :: t
            · have hL := L.1 he
              have e1 : (decide (B ≤ ids.length) && (w == y :: t)) = true := by simp [hBi, he]
              rw [e1, if_pos rfl]
              have b1 : a ≤ ids.length := by omega
              have b2 : (a : Int) ≤ ids.length := by omega
              have b4 : (B : Int) ≤ ids.length := by omega
              obtain ⟨p, hp⟩ : ∃ p, ids.take a = p := ⟨_, rfl⟩
              obtain ⟨q, hq⟩ : ∃ q, ids.drop B = q := ⟨_, rfl⟩
              have m1 : List.take a (ids.map (D.int .i64)) = p.map (D.int .i64) := by rw [← hp]; simp [List.map_take]
              have m2 : List.drop B (ids.map (D.int .i64)) = q.map (D.int .i64) := by rw [← hq]; simp [List.map_drop]
              have hpl : p.length ≤ 2 ^ 20 := by rw [← hp]; simp; omega
              have hql : q.length ≤ 2 ^ 20 := by rw [← hq]; simp; omega
              have bb1 : p.length * 8 ≤ 70368744177664 := by omega
              have bb2 : (p.length + 1) * 8 ≤ 70368744177664 := by omega
              have bb3 : (p.length + 1 + q.length) * 8 ≤ 70368744177664 := by omega
              have bb4 : (1 + q.length) * 8 ≤ 70368744177664 := by omega
              have bb5 : (p.length + (1 + q.length)) * 8 ≤ 70368744177664 := by omega
              have ee : p.length + (q.length + 1) = p.length + (1 + q.length) := by omega
              have ee2 : q.length + 1 = 1 + q.length := by omega
              dsimp only
              rw [show a + (y :: t).length = B by rw [hB]; rfl, hp, hq]
              refine ⟨c, s, false, 1, hs, .inl rfl, K_call k211 (oraG_none (by decide) (by decide)) (by simp [c211, StD, Rcd]) ?_⟩
              simp [c211, StD, Rcd, hP, wn, q1, q2, z, z2, z4, hI, wB, evOp, evM, wants, Ins.go, X.ev, iaM, ldM, binD, setD, applyW, Ek_ops_nil, allFree, free, callM, callP, callO, appM]
              simp at hL
              rw [hL]
              by_cases hpn : p = []
              · subst hpn
                by_cases hqn : q = []
                · subst hqn
                  simp [b1, b2, b4, hBi, m1, m2, wB, wn, evOp, evM, wants, Ins.go, X.ev, iaM, ldM, binD, setD, applyW, Ek_ops_nil, allFree, free, callM, callP, callO, appM, List.take_of_length_le]
                · simp [b1, b2, b4, hBi, m1, m2, wB, wn, hqn, bb3, bb4, ee2, Nat.add_assoc, evOp, evM, wants, Ins.go, X.ev, iaM, ldM, binD, setD, applyW, Ek_ops_nil, allFree, free, callM, callP, callO, appM, List.take_of_length_le]
              · by_cases hqn : q = []
                · subst hqn
                  simp [b1, b2, b4, hBi, m1, m2, wB, wn, hpn, bb1, bb2, evOp, evM, wants, Ins.go, X.ev, iaM, ldM, binD, setD, applyW, Ek_ops_nil, allFree, free, callM, callP, callO, appM, List.take_of_length_le]
                · simp [b1, b2, b4, hBi, m1, m2, wB, wn, hpn, hqn, bb1, bb2, bb3, bb5, ee, ee2, Nat.add_assoc, evOp, evM, wants, Ins.go, X.ev, iaM, ldM, binD, setD, applyW, Ek_ops_nil, allFree, free, callM, callP, callO, appM, List.take_of_length_le]
            · have hL := L.2 he
              have e1 : (decide (B ≤ ids.length) && (w == y :: t)) = false := by simp [hBi, he]
              rw [e1, if_neg (by decide)]
              dsimp only
              refine ⟨c, s, c', 1, hs, .inl rfl, K_call k211 (oraG_none (by decide) (by decide)) (by simp [c211, StD, Rcd]) ?_⟩
              simp [c211, StD, Rcd, hP, wn, q1, q2, z, z2, z4, hI, wB, evOp, evM, wants, Ins.go, X.ev, iaM, ldM, binD, setD, applyW, Ek_ops_nil, allFree, free, callM, callP, callO, appM]
              simp at hL
              exact hL _
          · have z4 : ltI (ids.length : Int) (B : Int) = true := ltI_t (by omega)
            have e1 : (decide (B ≤ ids.length) && (w == y :: t)) = false := by simp [hBi]
            rw [e1, if_neg (by decide)]
            dsimp only
            refine ⟨c, s, c', 1, hs, .inl rfl, K_call k211 (oraG_none (by decide) (by decide)) (by simp [c211, StD, Rcd]) ?_⟩
            simp [c211, StD, Rcd, hP, wn, q1, q2, z, z2, z4, hI, wB, evOp, evM, wants, Ins.go, X.ev, iaM, ldM, binD, setD, applyW, Ek_ops_nil, allFree, free, callM, callP, callO, appM]
end Go.Ab
/- THE FUNCTIONS' EQUATIONS: replay.Head, thresherref17.Head, thresherref17.Same, thresherlaw17.bytes. -/
set_option linter.all false
set_option maxRecDepth 100000
namespace Go.Ab
open Go.Proofs Go.Proofs.YtdopbfjebjnpkaaH Go.Proofs.YtdopbfjebjnpkaaH.Crc Go.Proofs.YtdopbfjebjnpkaaH.Var Go.Proofs.YtdopbfjebjnpkaaH.Fr Go.Proofs.YtdopbfjebjnpkaaH.Rec
def c204 : Fn' := ⟨11, [(.cell 2 (some 7))], (.seq (.reg none [⟨(some 1), none, (.box false (.t 0))⟩, ⟨(some 2), none, (.alloc false [(.int .i64 0), nilS, (.int .i64 0), (.int .i64 0), (.int .i64 0), nilS, (.int .i64 0)])⟩]) (.seq (.reg (some [(1, 3), (1, 4), (1, 6), (3, 6), (4, 6)]) [⟨(some 3), none, (.fa 0 4 true (.t 1))⟩, ⟨(some 4), none, (.ld (some 4) (.t 3))⟩, ⟨(some 5), none, (.fa 4 1 false (.t 1))⟩, ⟨(some 6), none, (.ld none (.t 5))⟩, ⟨(some 7), none, (.call (.f 31) [(.t 6)])⟩, ⟨(some 8), none, (.fa 5 1 false (.t 1))⟩, ⟨(some 9), none, (.ld none (.t 8))⟩, ⟨(some 10), none, (.bld [(.int .i64 0), nilS, (.int .i64 0), (.int .i64 0), (.int .i64 0), nilS, (.int .i64 0)] [(0, (1, (.k (.int .i64 1)))), (1, (4, (.t 4))), (5, (1, (.t 7))), (6, (1, (.t 9)))])⟩, ⟨none, none, (.st 7 (.t 2) (.t 10))⟩]) .ret))⟩
theorem k204 : compF Try.prog 20 = some c204 := by kernel_rfl
def c213 : Fn' := ⟨12, [(.cell 2 (some 7))], (.seq (.reg none [⟨(some 1), none, (.box false (.t 0))⟩, ⟨(some 2), none, (.alloc false [(.int .i64 0), nilS, (.int .i64 0), (.int .i64 0), (.int .i64 0), nilS, (.int .i64 0)])⟩]) (.seq (.reg (some [(1, 2), (1, 4), (2, 4), (1, 5), (1, 7), (2, 7), (4, 7), (5, 7)]) [⟨(some 3), none, (.fa 0 4 true (.t 1))⟩, ⟨(some 4), none, (.ld (some 4) (.t 3))⟩, ⟨(some 5), none, (.bsl false 1 0 [(.int .i64 0)] [])⟩, ⟨(some 6), none, (.fa 4 1 false (.t 1))⟩, ⟨(some 7), none, (.ld none (.t 6))⟩, ⟨(some 8), none, (.app 1 8 (.t 5) (.t 7))⟩, ⟨(some 9), none, (.fa 5 1 false (.t 1))⟩, ⟨(some 10), none, (.ld none (.t 9))⟩, ⟨(some 11), none, (.bld [(.int .i64 0), nilS, (.int .i64 0), (.int .i64 0), (.int .i64 0), nilS, (.int .i64 0)] [(0, (1, (.k (.int .i64 1)))), (1, (4, (.t 4))), (5, (1, (.t 8))), (6, (1, (.t 10)))])⟩, ⟨none, none, (.st 7 (.t 2) (.t 11))⟩]) .ret))⟩
theorem k213 : compF Try.prog 21 = some c213 := by kernel_rfl
def c214 : Fn' := ⟨28, [(.tmp 4)], (.seq (.reg none [⟨(some 2), none, (.box false (.t 0))⟩, ⟨(some 3), none, (.box false (.t 1))⟩, ⟨(some 4), none, (.mv (.k (.bool false)))⟩]) (.seq (.reg none [⟨(some 7), none, (.fa 0 4 true (.t 2))⟩, ⟨(some 8), none, (.ld (some 4) (.t 7))⟩, ⟨(some 9), none, (.fa 0 4 true (.t 3))⟩, ⟨(some 10), none, (.ld (some 4) (.t 9))⟩, ⟨(some 11), none, (.call (.f 35) [(.t 8), (.t 10)])⟩, ⟨(some 5), none, (.mv (.t 11))⟩]) (.seq (.reg none [⟨(some 12), none, (.fa 4 1 false (.t 2))⟩, ⟨(some 13), none, (.ld none (.t 12))⟩, ⟨(some 14), none, (.fa 4 1 false (.t 3))⟩, ⟨(some 15), none, (.ld none (.t 14))⟩, ⟨(some 16), none, (.call (.f 36) [(.t 13), (.t 15)])⟩, ⟨(some 6), none, (.mv (.t 16))⟩]) (.seq (.reg none [⟨(some 17), none, (.mv (.t 5))⟩, ⟨(some 18), none, (.mv (.t 17))⟩, ⟨(some 19), (some ((some 18), true)), (.mv (.t 6))⟩, ⟨(some 20), none, (.pick (.t 18) (.t 19) (.k (.bool false)))⟩, ⟨(some 21), none, (.mv (.t 20))⟩, ⟨(some 22), (some ((some 21), true)), (.fa 5 1 false (.t 2))⟩, ⟨(some 23), (some ((some 21), true)), (.ld none (.t 22))⟩, ⟨(some 24), (some ((some 21), true)), (.fa 5 1 false (.t 3))⟩, ⟨(some 25), (some ((some 21), true)), (.ld none (.t 24))⟩, ⟨(some 26), (some ((some 21), true)), (.bin .eql [] (.t 23) (.t 25))⟩, ⟨(some 27), none, (.pick (.t 21) (.t 26) (.k (.bool false)))⟩, ⟨(some 4), none, (.mv (.t 27))⟩]) .ret))))⟩
theorem k214 : compF Try.prog 15 = some c214 := by kernel_rfl
def b216_0 : C := (.seq (.seq (.reg none [⟨(some 8), none, (.mv (.t 4))⟩, ⟨(some 9), none, (.mv (.t 0))⟩, ⟨(some 10), none, (.len 1 (.t 9))⟩, ⟨(some 11), none, (.bin .lss [] (.t 8) (.t 10))⟩]) (.cond (.t 11) .skip (.exit 0))) (.seq (.block 1 (.seq (.reg none [⟨(some 15), none, (.mv (.t 0))⟩, ⟨(some 16), none, (.mv (.t 4))⟩, ⟨(some 17), none, (.ia none 7 true (.t 15) (.t 16))⟩, ⟨(some 18), none, (.ld (some 7) (.t 17))⟩, ⟨(some 19), none, (.call (.f 13) [(.t 18)])⟩, ⟨(some 14), none, (.mv (.t 19))⟩, ⟨(some 20), none, (.ext (.t 14) 0)⟩, ⟨(some 21), none, (.ext (.t 14) 1)⟩, ⟨(some 5), none, (.mv (.t 20))⟩, ⟨(some 6), none, (.mv (.t 21))⟩]) (.reg none [⟨(some 22), none, (.mv (.t 3))⟩, ⟨(some 23), none, (.mv (.t 5))⟩, ⟨(some 24), none, (.app 1 1 (.t 22) (.t 23))⟩, ⟨(some 3), none, (.mv (.t 24))⟩]))) (.reg none [⟨(some 12), none, (.mv (.t 4))⟩, ⟨(some 13), none, (.bin .add [] (.t 12) (.k (.int .i64 1)))⟩, ⟨(some 4), none, (.mv (.t 13))⟩])))
def c216 : Fn' := ⟨26, [(.tmp 2)], (.seq (.reg none [⟨(some 2), none, (.mv (.k nilS))⟩]) (.seq (.reg none [⟨(some 7), none, (.bsl true 1 0 [(.int .u8 0)] [])⟩, ⟨(some 3), none, (.mv (.t 7))⟩]) (.seq (.seq (.reg none [⟨(some 4), none, (.mv (.k (.int .i64 0)))⟩]) (.block 0 (.loop b216_0))) (.seq (.reg none [⟨(some 25), none, (.mv (.t 3))⟩, ⟨(some 2), none, (.mv (.t 25))⟩]) .ret))))⟩
theorem k216 : compF Try.prog 11 = some c216 := by kernel_rfl
attribute [local simp] op_or op_an op_add op_sub op_mul oq_eql oq_neq oq_lss oq_gtr oq_leq oq_geq
attribute [-simp] intOp bin_shl
set_option maxHeartbeats 4000000 in
/-- replay.Head. -/
theorem K204 (x : StV) (c : Bool) (s : Nat) (c' : Bool) (s' : Nat) (hs' : s' = 1 ∨ x.2.1 = []) (hl : x.2.1.length ≤ 2 ^ 30) : ∃ c2, K0 20 [StD x c s c' s'] [] = some (Rcd 1 c s x.1.1 x.1.2.1 x.1.2.2.1 x.1.2.2.2 c2 1 x.2.1 x.2.2, []) := by
  obtain ⟨⟨ts, k, m, g⟩, ids, nx⟩ := x
  simp only at hs' hl ⊢
  obtain ⟨c2, hC⟩ := K205 c' s' ids hs' (by omega)
  refine ⟨c2, K_call k204 (oraG_none (by decide) (by decide)) (by simp [c204, StD]) ?_⟩
  simp [c204, StD, Rcd, hC, evOp, evM, wants, Ins.go, X.ev, iaM, ldM, binD, setD, applyW, Ek_ops_nil, allFree, free, callM, callP, callO, appM]
set_option maxHeartbeats 4000000 in
/-- thresherref17.Head. -/
theorem K213 (x : StV) (c : Bool) (s : Nat) (c' : Bool) (s' : Nat) (hs' : s' = 1 ∨ x.2.1 = []) (hl : x.2.1.length ≤ 2 ^ 30) : ∃ c2, K0 21 [StD x c s c' s'] [] = some (Rcd 1 c s x.1.1 x.1.2.1 x.1.2.2.1 x.1.2.2.2 c2 1 x.2.1 x.2.2, []) := by
  obtain ⟨⟨ts, k, m, g⟩, ids, nx⟩ := x
  simp only at hs' hl ⊢
  have bb : ids.length * 8 ≤ 70368744177664 := by omega
  by_cases hn : ids = []
  · subst hn
    refine ⟨true, K_call k213 (oraG_none (by decide) (by decide)) (by simp [c213, StD]) ?_⟩
    simp [c213, StD, Rcd, evOp, evM, wants, Ins.go, X.ev, iaM, ldM, binD, setD, applyW, Ek_ops_nil, allFree, free, callM, callP, callO, appM]
  · obtain rfl := hs'.resolve_right hn
    refine ⟨false, K_call k213 (oraG_none (by decide) (by decide)) (by simp [c213, StD]) ?_⟩
    simp [c213, StD, Rcd, hn, bb, List.take_of_length_le, evOp, evM, wants, Ins.go, X.ev, iaM, ldM, binD, setD, applyW, Ek_ops_nil, allFree, free, callM, callP, callO, appM]
set_option maxHeartbeats 4000000 in
/-- thresherref17.Same. -/
theorem K214 (x y : StV) (c : Bool) (s : Nat) (c' : Bool) (s' : Nat) (d : Bool) (u : Nat) (d' : Bool) (u' : Nat) (hs : s = 1 ∨ x.1.1 = []) (hs' : s' = 1 ∨ x.2.1 = []) (hu : u = 1 ∨ y.1.1 = []) (hu' : u' = 1 ∨ y.2.1 = [])
    (hl : x.1.1.length ≤ 2 ^ 47) (hl' : x.2.1.length ≤ 2 ^ 47) : K0 15 [StD x c s c' s', StD y d u d' u'] [] = some (.bool (decide (x = y)), []) := by
  obtain ⟨⟨ts, k, m, g⟩, ids, nx⟩ := x
  obtain ⟨⟨ts', k', m', g'⟩, ids', nx'⟩ := y
  simp only at hs hs' hu hu' hl hl' ⊢
  have h1 := K46 c d s u ts ts' k m g k' m' g' hs hu hl
  have h2 := K47 c' d' s' u' ids ids' hs' hu' hl'
  unfold Sd at h1
  have e : decide ((((ts, k, m, g), ids, nx) : StV) = ((ts', k', m', g'), ids', nx')) = (decide (ts = ts' ∧ k = k' ∧ m = m' ∧ g = g') && (ids == ids') && eqI nx nx') := by
    unfold eqI
    rw [Bool.eq_iff_iff]
    simp only [decide_eq_true_eq, Bool.and_eq_true, beq_iff_eq, Prod.mk.injEq]
    constructor
    · rintro ⟨h, h3, h4⟩; exact ⟨⟨h, h3⟩, h4⟩
    · rintro ⟨⟨h, h3⟩, h4⟩; exact ⟨h, h3, h4⟩
  rw [e]
  generalize decide (ts = ts' ∧ k = k' ∧ m = m' ∧ g = g') = p at *
  generalize (ids == ids') = q at *
  refine K_call k214 (oraG_none (by decide) (by decide)) (by simp [c214, StD]) ?_
  cases p <;> cases q <;> simp [c214, StD, h1, h2]
/-- A record, as an element of a row. -/
structure RcE where
  r : RecV
  c : Bool
  s : Nat
  c' : Bool
  s' : Nat
  h : (s = 1 ∨ r.2.1.1 = []) ∧ (s' = 1 ∨ r.2.2.1 = [])
def RcE.d (e : RcE) : D := Rcd e.r.1 e.c e.s e.r.2.1.1 e.r.2.1.2.1 e.r.2.1.2.2.1 e.r.2.1.2.2.2 e.c' e.s' e.r.2.2.1 e.r.2.2.2
theorem RcE.cells (e : RcE) : e.d.cells.length = 7 := rfl
/-- What records are put as, one behind the other. -/
def putsR : List RecV → List Int
  | [] => []
  | r :: t => (if mayOf r = true then recOf r else []) ++ putsR t
theorem isB_putsR : ∀ l : List RecV, isB (putsR l)
  | [] => fun x hx => by cases hx
  | r :: t => by
    unfold putsR
    refine isB_append ?_ (isB_putsR t)
    split
    · rename_i h
      exact isB_frame (isB_recB h)
    · intro x hx; cases hx
theorem recOf_len {r : RecV} (h : mayOf r = true) : 5 ≤ (recOf r).length ∧ (recOf r).length ≤ 1130 := by
  have h1 := recB_len h
  have h2 := putI_len10 ((recB r.1 r.2.1.1 r.2.1.2.1 r.2.1.2.2.1 r.2.1.2.2.2 r.2.2.1 r.2.2.2).length : Int) (by omega)
  have h3 := putI_pos ((recB r.1 r.2.1.1 r.2.1.2.1 r.2.1.2.2.1 r.2.1.2.2.2 r.2.2.1 r.2.2.2).length : Int)
  unfold recOf
  rw [frameI_len]
  omega
theorem putsR_app (a b : List RecV) : putsR (a ++ b) = putsR a ++ putsR b := by
  induction a with
  | nil => rfl
  | cons r t ih => simp [putsR, ih, List.append_assoc]
theorem putsR_len : ∀ l : List RecV, (putsR l).length ≤ 1130 * l.length
  | [] => Nat.zero_le _
  | r :: t => by
    have ih := putsR_len t
    unfold putsR
    rw [List.length_append, List.length_cons]
    split
    · rename_i h
      have := recOf_len h
      omega
    · simp; omega
def t216 (c : Bool) (L : List RcE) (a i : Nat) : List D := [.slc c 7 (L.map RcE.d), .undef, nilS, .sl 0 0 a a, .int .i64 i, .undef, .undef, .sl 0 0 0 0, .undef, .undef, .undef, .undef, .undef, .undef, .undef, .undef, .undef, .undef, .undef, .undef, .undef, .undef, .undef, .undef, .undef, .undef]
set_option maxHeartbeats 4000000 in
theorem L216 (c : Bool) (L : List RcE) (hl : L.length ≤ 2 ^ 20) (hlt : ∀ e ∈ L, e.r.2.1.1.length ≤ 2 ^ 30 ∧ e.r.2.2.1.length ≤ 2 ^ 30) : ∀ (t pre : List RcE) (acc : List Int) (a i : Nat), L = pre ++ t → i = pre.length → a = acc.length → acc = putsR (pre.map RcE.r) →
    LpB cf0 K0 b216_0 (t216 c L 0 0) 1 ⟨t216 c L a i, [.row 1 (acc.map (.int .u8)) 0]⟩ = some (.exit 0, ⟨t216 c L (putsR (L.map RcE.r)).length L.length, [.row 1 ((putsR (L.map RcE.r)).map (.int .u8)) 0]⟩)
  | [], pre, acc, a, i, h, hi, ha, hacc => by
    have : L = pre := by simpa using h
    subst this
    have z := ltI_f (show ¬ ((L.length : Int) < L.length) by omega)
    rw [LpB_eq]
    simp only [t216]
    conv => lhs; arg 6; simp [b216_0, hi, z]
    simp [ha, hacc, hi]
  | e :: r, pre, acc, a, i, h, hi, ha, hacc => by
    have hll : i < L.length := by rw [h, hi]; simp
    have hget : L[i]? = some e := by rw [h, hi]; simp
    have hgi : L[i]'hll = e := by rw [List.getElem?_eq_getElem hll] at hget; exact Option.some.inj hget
    have hw := w64 (i + 1) (by omega)
    have z := ltI_t (show ((i : Int) < L.length) by omega)
    have hem := hlt e (by rw [h]; simp)
    have hpl := putsR_len (pre.map RcE.r)
    rw [← hacc, List.length_map] at hpl
    have hacc2 : acc ++ (if mayOf e.r = true then recOf e.r else []) = putsR ((pre ++ [e]).map RcE.r) := by
      rw [List.map_append, putsR_app, ← hacc]; simp [putsR]
    obtain ⟨⟨kd, ⟨ts, k, m, g⟩, ids, id⟩, c1, s1, c2, s2, hh1, hh2⟩ := e
    simp only at hem hacc2 hh1 hh2
    cases hm : mayOf (kd, (ts, k, m, g), ids, id) with
    | false =>
      rw [hm, if_neg (by decide), List.append_nil] at hacc2
      have hP := K18_f kd c1 s1 ts k m g c2 s2 ids id hh1 hh2 hem.1 hem.2 hm
      have ih := L216 c L hl hlt r (pre ++ [⟨(kd, (ts, k, m, g), ids, id), c1, s1, c2, s2, hh1, hh2⟩]) acc a (i + 1) (by rw [h]; simp) (by simp [hi]) ha hacc2
      unfold Rcd at hP
      rw [LpB_eq]
      simp only [t216] at ih ⊢
      have bb : acc.length ≤ 70368744177664 := by omega
      conv => lhs; arg 6; simp [b216_0, hll, hgi, hw, z, RcE.d, Rcd, hP, ha, bb]
      simp [ha] at ih ⊢
      exact ih
    | true =>
      have hrl := recOf_len hm
      have hP := K18_t kd c1 s1 ts k m g c2 s2 ids id hh1 hh2 hm
      have hPe : frameI (recB kd ts k m g ids id) = recOf (kd, (ts, k, m, g), ids, id) := rfl
      rw [hPe] at hP
      rw [hm, if_pos rfl] at hacc2
      generalize recOf (kd, (ts, k, m, g), ids, id) = P at *
      have hPn : ¬ P = [] := by intro e; rw [e] at hrl; simp at hrl
      have bb : acc.length + P.length ≤ 70368744177664 := by omega
      have ih := L216 c L hl hlt r (pre ++ [⟨(kd, (ts, k, m, g), ids, id), c1, s1, c2, s2, hh1, hh2⟩]) (acc ++ P) (acc ++ P).length (i + 1) (by rw [h]; simp) (by simp [hi]) rfl hacc2
      unfold Rcd at hP
      rw [LpB_eq]
      simp only [t216] at ih ⊢
      conv => lhs; arg 6; simp [b216_0, hll, hgi, hw, z, RcE.d, Rcd, hP, hPn, ha, bb]
      simp at ih ⊢
      exact ih
set_option maxHeartbeats 2000000 in
/-- thresherlaw17.bytes. -/
theorem K216 (c : Bool) (s : Nat) (L : List RcE) (hs : s = 7 ∨ L = []) (hl : L.length ≤ 2 ^ 20) (hlt : ∀ e ∈ L, e.r.2.1.1.length ≤ 2 ^ 30 ∧ e.r.2.2.1.length ≤ 2 ^ 30) :
    K0 11 [.slc c s (L.map RcE.d)] [] = some (.slc false 1 ((putsR (L.map RcE.r)).map (.int .u8)), []) := by
  refine K_call k216 (oraG_none (by decide) (by decide)) (by simp [c216]) ?_
  by_cases hn : L = []
  · subst hn
    have z := ltI_f (show ¬ ((0 : Int) < 0) by omega)
    simp [c216]
    rw [LpB_eq]
    simp [b216_0, z, putsR]
  · obtain rfl := hs.resolve_right hn
    have h := L216 c L hl hlt L [] [] 0 0 rfl rfl rfl rfl
    simp only [t216] at h
    simp [c216]
    simp at h
    rw [h]
    simp
end Go.Ab
