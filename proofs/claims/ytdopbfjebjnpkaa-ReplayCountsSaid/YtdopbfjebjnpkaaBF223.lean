/- THE FUNCTIONS' EQUATIONS: thresherlaw17.ReplayCounts. (printed by mk223.py) -/
import Derived.Test.YtdopbfjebjnpkaaBF221
set_option linter.all false
set_option maxRecDepth 100000
namespace Go.Ab
open Go.Proofs Go.Proofs.YtdopbfjebjnpkaaH Go.Proofs.YtdopbfjebjnpkaaH.Crc Go.Proofs.YtdopbfjebjnpkaaH.Var Go.Proofs.YtdopbfjebjnpkaaH.Fr Go.Proofs.YtdopbfjebjnpkaaH.Rec
def b223_0 : C := (.seq (.seq (.reg none [⟨(some 62), none, (.mv (.t 14))⟩, ⟨(some 63), none, (.fa 4 1 false (.t 10))⟩, ⟨(some 64), none, (.ld none (.t 63))⟩, ⟨(some 65), none, (.len 1 (.t 64))⟩, ⟨(some 66), none, (.bin .lss [] (.t 62) (.t 65))⟩]) (.cond (.t 66) .skip (.exit 2))) (.seq (.block 3 (.reg none [⟨(some 69), none, (.mv (.t 13))⟩, ⟨(some 70), none, (.mv (.t 69))⟩, ⟨(some 71), (some ((some 70), false)), (.fa 4 1 false (.t 10))⟩, ⟨(some 72), (some ((some 70), false)), (.ld none (.t 71))⟩, ⟨(some 73), (some ((some 70), false)), (.mv (.t 14))⟩, ⟨(some 74), (some ((some 70), false)), (.ia none 1 false (.t 72) (.t 73))⟩, ⟨(some 75), (some ((some 70), false)), (.ld none (.t 74))⟩, ⟨(some 76), (some ((some 70), false)), (.mv (.t 8))⟩, ⟨(some 77), (some ((some 70), false)), (.bin .eql [] (.t 75) (.t 76))⟩, ⟨(some 78), none, (.pick (.t 70) (.k (.bool true)) (.t 77))⟩, ⟨(some 13), none, (.mv (.t 78))⟩])) (.reg none [⟨(some 67), none, (.mv (.t 14))⟩, ⟨(some 68), none, (.bin .add [] (.t 67) (.k (.int .i64 1)))⟩, ⟨(some 14), none, (.mv (.t 68))⟩])))
def b223_1 : C := (.seq (.seq (.reg none [⟨(some 25), none, (.mv (.t 9))⟩, ⟨(some 26), none, (.mv (.t 6))⟩, ⟨(some 27), none, (.len 1 (.t 26))⟩, ⟨(some 28), none, (.bin .lss [] (.t 25) (.t 27))⟩]) (.cond (.t 28) .skip (.exit 0))) (.seq (.block 1 (.seq (.seq (.reg none [⟨(some 31), none, (.mv (.t 6))⟩, ⟨(some 32), none, (.mv (.t 9))⟩, ⟨(some 33), none, (.ia none 7 true (.t 31) (.t 32))⟩, ⟨(some 34), none, (.fa 0 1 false (.t 33))⟩, ⟨(some 35), none, (.ld none (.t 34))⟩, ⟨(some 36), none, (.bin .eql [] (.t 35) (.k (.int .i64 2)))⟩]) (.cond (.t 36) (.reg none [⟨(some 37), none, (.mv (.t 7))⟩, ⟨(some 38), none, (.bin .add [] (.t 37) (.k (.int .i64 1)))⟩, ⟨(some 7), none, (.mv (.t 38))⟩]) (.reg none [⟨(some 39), none, (.mv (.t 7))⟩, ⟨(some 40), none, (.mv (.t 6))⟩, ⟨(some 41), none, (.mv (.t 9))⟩, ⟨(some 42), none, (.ia none 7 true (.t 40) (.t 41))⟩, ⟨(some 43), none, (.fa 5 1 false (.t 42))⟩, ⟨(some 44), none, (.ld none (.t 43))⟩, ⟨(some 45), none, (.len 1 (.t 44))⟩, ⟨(some 46), none, (.bin .sub [] (.t 39) (.t 45))⟩, ⟨(some 47), none, (.bin .add [] (.t 46) (.k (.int .i64 1)))⟩, ⟨(some 7), none, (.mv (.t 47))⟩]))) (.reg none [⟨(some 48), none, (.mv (.t 6))⟩, ⟨(some 49), none, (.mv (.t 9))⟩, ⟨(some 50), none, (.ia none 7 true (.t 48) (.t 49))⟩, ⟨(some 51), none, (.fa 6 1 false (.t 50))⟩, ⟨(some 52), none, (.ld none (.t 51))⟩, ⟨(some 8), none, (.mv (.t 52))⟩]))) (.reg none [⟨(some 29), none, (.mv (.t 9))⟩, ⟨(some 30), none, (.bin .add [] (.t 29) (.k (.int .i64 1)))⟩, ⟨(some 9), none, (.mv (.t 30))⟩])))
def r223 : C := (.seq (.reg none [⟨(some 21), none, (.ld (some 12) (.t 2))⟩, ⟨(some 22), none, (.call (.f 10) [(.t 21)])⟩, ⟨(some 23), none, (.mv (.t 1))⟩, ⟨(some 24), none, (.call (.f 9) [(.t 22), (.t 23)])⟩, ⟨(some 6), none, (.mv (.t 24))⟩]) (.seq (.reg none [⟨(some 7), none, (.mv (.k (.int .i64 0)))⟩]) (.seq (.reg none [⟨(some 8), none, (.mv (.k (.int .i64 (-1))))⟩]) (.seq (.seq (.reg none [⟨(some 9), none, (.mv (.k (.int .i64 1)))⟩]) (.block 0 (.loop b223_1))) (.seq (.reg none [⟨(some 54), none, (.mv (.t 6))⟩, ⟨(some 55), none, (.call (.f 11) [(.t 54)])⟩, ⟨(some 56), none, (.call (.f 12) [(.t 55)])⟩, ⟨(some 53), none, (.mv (.t 56))⟩, ⟨(some 57), none, (.ext (.t 53) 0)⟩, ⟨(some 58), none, (.ext (.t 53) 1)⟩, ⟨(some 59), none, (.ext (.t 53) 2)⟩, ⟨(some 10), none, (.alloc false [nilS, (.int .i64 0), (.int .i64 0), (.int .i64 0), nilS, (.int .i64 0)])⟩, ⟨none, none, (.st 6 (.t 10) (.t 57))⟩, ⟨(some 11), none, (.mv (.t 58))⟩, ⟨(some 12), none, (.mv (.t 59))⟩]) (.seq (.reg none [⟨(some 60), none, (.mv (.t 8))⟩, ⟨(some 61), none, (.bin .lss [] (.t 60) (.k (.int .i64 0)))⟩, ⟨(some 13), none, (.mv (.t 61))⟩]) (.seq (.seq (.reg none [⟨(some 14), none, (.mv (.k (.int .i64 0)))⟩]) (.block 2 (.loop b223_0))) (.seq (.reg none [⟨(some 79), none, (.mv (.t 5))⟩, ⟨(some 80), none, (.mv (.t 79))⟩, ⟨(some 81), (some ((some 80), true)), (.mv (.t 12))⟩, ⟨(some 82), none, (.pick (.t 80) (.t 81) (.k (.bool false)))⟩, ⟨(some 83), none, (.mv (.t 82))⟩, ⟨(some 84), (some ((some 83), true)), (.mv (.t 11))⟩, ⟨(some 85), (some ((some 83), true)), (.mv (.t 6))⟩, ⟨(some 86), (some ((some 83), true)), (.call (.f 11) [(.t 85)])⟩, ⟨(some 87), (some ((some 83), true)), (.len 1 (.t 86))⟩, ⟨(some 88), (some ((some 83), true)), (.bin .eql [] (.t 84) (.t 87))⟩, ⟨(some 89), none, (.pick (.t 83) (.t 88) (.k (.bool false)))⟩, ⟨(some 90), none, (.mv (.t 89))⟩, ⟨(some 91), (some ((some 90), true)), (.fa 4 1 false (.t 10))⟩, ⟨(some 92), (some ((some 90), true)), (.ld none (.t 91))⟩, ⟨(some 93), (some ((some 90), true)), (.len 1 (.t 92))⟩, ⟨(some 94), (some ((some 90), true)), (.mv (.t 7))⟩, ⟨(some 95), (some ((some 90), true)), (.bin .eql [] (.t 93) (.t 94))⟩, ⟨(some 96), none, (.pick (.t 90) (.t 95) (.k (.bool false)))⟩, ⟨(some 97), none, (.mv (.t 96))⟩, ⟨(some 98), (some ((some 97), true)), (.mv (.t 13))⟩, ⟨(some 99), none, (.pick (.t 97) (.t 98) (.k (.bool false)))⟩, ⟨(some 100), none, (.mv (.t 99))⟩, ⟨(some 101), (some ((some 100), true)), (.fa 5 1 false (.t 10))⟩, ⟨(some 102), (some ((some 100), true)), (.ld none (.t 101))⟩, ⟨(some 103), (some ((some 100), true)), (.mv (.t 8))⟩, ⟨(some 104), (some ((some 100), true)), (.bin .add [] (.t 103) (.k (.int .i64 1)))⟩, ⟨(some 105), (some ((some 100), true)), (.bin .eql [] (.t 102) (.t 104))⟩, ⟨(some 106), none, (.pick (.t 100) (.t 105) (.k (.bool false)))⟩, ⟨(some 4), none, (.mv (.t 106))⟩]) .ret))))))))
def c223 : Fn' := ⟨107, [(.tmp 4)], (.seq (.reg none [⟨(some 2), none, (.box false (.t 0))⟩, ⟨(some 4), none, (.mv (.k (.bool false)))⟩]) (.seq (.reg none [⟨(some 15), none, (.call (.f 8) [])⟩, ⟨(some 5), none, (.mv (.t 15))⟩]) (.seq (.seq (.reg none [⟨(some 16), none, (.mv (.t 1))⟩, ⟨(some 17), none, (.len 1 (.t 16))⟩, ⟨(some 18), none, (.bin .gtr [] (.t 17) (.k (.int .i64 30)))⟩]) (.cond (.t 18) (.reg none [⟨(some 19), none, (.mv (.t 1))⟩, ⟨(some 20), none, (.sub 1 3 (.t 19) none (some (.k (.int .i64 30))) none)⟩, ⟨(some 1), none, (.mv (.t 20))⟩]) .skip)) r223)))⟩
theorem k223 : compF Try.prog 5 = some c223 := by kernel_rfl
attribute [local simp] op_or op_an op_add op_sub op_mul oq_eql oq_neq oq_lss oq_gtr oq_leq oq_geq
attribute [-simp] intOp bin_shl
attribute [local simp] reset_self
theorem step_fit {x : StV} {r : RecV} (h : (applyI x r).2 = true) (hk : r.1 ≠ 1) : (applyI x r).1.2.2 = r.2.2.2 + 1 ∧ r.2.2.2 ∈ (applyI x r).1.2.1 ∧
    ((r.1 = 2 ∧ (applyI x r).1.2.1.length = x.2.1.length + 1) ∨ (r.1 = 3 ∧ (applyI x r).1.2.1.length + r.2.2.1.length = x.2.1.length + 1)) := by
  have hm := applyI_may h
  have hmm := (mayI_some hm).1
  unfold applyI at h ⊢
  rw [if_neg (by rw [hm]; decide), if_neg hk] at h ⊢
  split at h
  · cases h
  · rename_i h1
    rw [if_neg h1]
    split at h
    · rename_i h2
      split at h
      · rename_i h3
        rw [if_pos h2, if_pos h3]
        exact ⟨rfl, by simp, .inl ⟨h2, by simp⟩⟩
      · cases h
    · rename_i h2
      rw [if_neg h2]
      split at h
      · rename_i a ha
        have hra := (rowR_some ha).1
        refine ⟨rfl, by simp, .inr ⟨?_, ?_⟩⟩
        · rcases hmm with ⟨e, _⟩ | ⟨e, _⟩ | ⟨e, _⟩
          · exact absurd e hk
          · exact absurd e h2
          · exact e
        · simp
          omega
      · cases h
def t223a (a0 a1 a2 a3 a4 a5 a6 a7 n0 k0 m0 g0 : Int) (v16 v17 v18 v19 v20 : D) (c : Bool) (s : Nat) (l : List B3) (mts : List Int) (mk mm mg : Int) (acc : List RcE) (nn ll : Int) (i : Nat) : List D := [.agg [.int .u8 a0, .int .u8 a1, .int .u8 a2, .int .u8 a3, .int .u8 a4, .int .u8 a5, .int .u8 a6, .int .u8 a7, .int .u8 n0, .int .u8 k0, .int .u8 m0, .int .u8 g0], .slc c s (List.map B3.d l), .ptr 0 0 0 0, .undef, .bool false, .bool true, .slc false 7 (List.map RcE.d acc), .int .i64 nn, .int .i64 ll, .int .i64 i, .undef, .undef, .undef, .undef, .undef, .bool true, v16, v17, v18, v19, v20, .agg [.int .u8 a0, .int .u8 a1, .int .u8 a2, .int .u8 a3, .int .u8 a4, .int .u8 a5, .int .u8 a6, .int .u8 a7, .int .u8 n0, .int .u8 k0, .int .u8 m0, .int .u8 g0], .agg [.slc false 1 (mts.map (.int .i64)), .int .i64 mk, .int .i64 mm, .int .i64 mg], .slc c s (List.map B3.d l), .slc false 7 (List.map RcE.d acc), .undef, .undef, .undef, .undef, .undef, .undef, .undef, .undef, .undef, .undef, .undef, .undef, .undef, .undef, .undef, .undef, .undef, .undef, .undef, .undef, .undef, .undef, .undef, .undef, .undef, .undef, .undef, .undef, .undef, .undef, .undef, .undef, .undef, .undef, .undef, .undef, .undef, .undef, .undef, .undef, .undef, .undef, .undef, .undef, .undef, .undef, .undef, .undef, .undef, .undef, .undef, .undef, .undef, .undef, .undef, .undef, .undef, .undef, .undef, .undef, .undef, .undef, .undef, .undef, .undef, .undef, .undef, .undef, .undef, .undef, .undef, .undef, .undef, .undef, .undef, .undef, .undef, .undef, .undef, .undef, .undef, .undef]
set_option maxHeartbeats 8000000 in
theorem L223a (a0 a1 a2 a3 a4 a5 a6 a7 n0 k0 m0 g0 : Int) (v16 v17 v18 v19 v20 : D) (c : Bool) (s : Nat) (l : List B3) (mts : List Int) (mk mm mg : Int) (acc : List RcE) (u16 : v16.keys = []) (u17 : v17.keys = []) (u18 : v18.keys = []) (u19 : v19.keys = []) (u20 : v20.keys = []) (hal : acc.length ≤ 2 ^ 20) : ∀ (r pre : List RcE) (i : Nat) (x : StV) (nn ll : Int), acc = pre ++ r → i = pre.length → fitsR x false (r.map RcE.r) → nn = x.2.1.length → x.2.2 = ll + 1 → (ll < 0 ∨ ll ∈ x.2.1) → x.2.1.length ≤ 40 →
    ∃ ll', (stR x (r.map RcE.r)).2.2 = ll' + 1 ∧ (ll' < 0 ∨ ll' ∈ (stR x (r.map RcE.r)).2.1) ∧
      LpB cf0 K0 b223_1 (t223a a0 a1 a2 a3 a4 a5 a6 a7 n0 k0 m0 g0 v16 v17 v18 v19 v20 c s l mts mk mm mg acc 0 (-1) 1) 1 ⟨t223a a0 a1 a2 a3 a4 a5 a6 a7 n0 k0 m0 g0 v16 v17 v18 v19 v20 c s l mts mk mm mg acc nn ll i, [.box [.int .u8 a0, .int .u8 a1, .int .u8 a2, .int .u8 a3, .int .u8 a4, .int .u8 a5, .int .u8 a6, .int .u8 a7, .int .u8 n0, .int .u8 k0, .int .u8 m0, .int .u8 g0]]⟩ =
        some (.exit 0, ⟨t223a a0 a1 a2 a3 a4 a5 a6 a7 n0 k0 m0 g0 v16 v17 v18 v19 v20 c s l mts mk mm mg acc (stR x (r.map RcE.r)).2.1.length ll' acc.length, [.box [.int .u8 a0, .int .u8 a1, .int .u8 a2, .int .u8 a3, .int .u8 a4, .int .u8 a5, .int .u8 a6, .int .u8 a7, .int .u8 n0, .int .u8 k0, .int .u8 m0, .int .u8 g0]]⟩)
  | [], pre, i, x, nn, ll, h, hi, hf, h1, h2, h3, h4 => by
    have : acc = pre := by simpa using h
    subst this
    have z := ltI_f (show ¬ ((acc.length : Int) < acc.length) by omega)
    refine ⟨ll, h2, h3, ?_⟩
    rw [LpB_eq]
    simp only [t223a]
    conv => lhs; arg 6; simp [b223_1, hi, z, u16, u17, u18, u19, u20]
    simp [hi, stR, h1]
  | e :: r, pre, i, x, nn, ll, h, hi, hf, h1, h2, h3, h4 => by
    have hll : i < acc.length := by rw [h, hi]; simp
    have hget : acc[i]? = some e := by rw [h, hi]; simp
    have hgi : acc[i]'hll = e := by rw [List.getElem?_eq_getElem hll] at hget; exact Option.some.inj hget
    have hw := w64 (i + 1) (by omega)
    have z := ltI_t (show ((i : Int) < acc.length) by omega)
    obtain ⟨er, ec, es, ec', es', eh⟩ := e
    obtain ⟨g1, g2⟩ := eh
    obtain ⟨f1, f2, f3⟩ := hf
    simp only at f1 f2 f3
    have hk1 : er.1 ≠ 1 := by intro e; rw [e] at f2; cases f2
    obtain ⟨j1, j2, j3⟩ := step_fit f1 hk1
    have hlen := applyI_len (r := er) h4
    have hem := applyI_may f1
    have hml := mayOf_len hem
    rcases j3 with ⟨k2, j3⟩ | ⟨k3, j3⟩
    · obtain ⟨ll', q1, q2, ih⟩ := L223a a0 a1 a2 a3 a4 a5 a6 a7 n0 k0 m0 g0 v16 v17 v18 v19 v20 c s l mts mk mm mg acc u16 u17 u18 u19 u20 hal r (pre ++ [⟨er, ec, es, ec', es', g1, g2⟩]) (i + 1) (applyI x er).1 (nn + 1) er.2.2.2 (by rw [h]; simp) (by simp [hi]) f3 (by omega) j1 (.inr j2) hlen
      refine ⟨ll', q1, q2, ?_⟩
      simp only [List.map_cons, stR]
      refine Eq.trans ?_ ih
      have qk : eqI er.1 2 = true := eqI_t k2
      have wn : IntKind.i64.wrap (nn + 1) = nn + 1 := w64 _ (by omega)
      rw [LpB_eq]
      simp only [t223a]
      conv => lhs; arg 6; simp [b223_1, hll, hgi, hw, z, RcE.d, Rcd, qk, wn, evOp, evM, wants, Ins.go, X.ev, iaM, ldM, binD, setD, applyW, Ek_ops_nil, allFree, free, callM, callP, callO, appM]
      simp [u16, u17, u18, u19, u20]
    · obtain ⟨ll', q1, q2, ih⟩ := L223a a0 a1 a2 a3 a4 a5 a6 a7 n0 k0 m0 g0 v16 v17 v18 v19 v20 c s l mts mk mm mg acc u16 u17 u18 u19 u20 hal r (pre ++ [⟨er, ec, es, ec', es', g1, g2⟩]) (i + 1) (applyI x er).1 (nn - er.2.2.1.length + 1) er.2.2.2 (by rw [h]; simp) (by simp [hi]) f3 (by omega) j1 (.inr j2) hlen
      refine ⟨ll', q1, q2, ?_⟩
      simp only [List.map_cons, stR]
      refine Eq.trans ?_ ih
      have qk : eqI er.1 2 = false := eqI_f (by omega)
      have wn1 : IntKind.i64.wrap (nn - (er.2.2.1.length : Int)) = nn - er.2.2.1.length := by rw [IntKind.wrap_i64]; omega
      have wn : IntKind.i64.wrap (nn - (er.2.2.1.length : Int) + 1) = nn - er.2.2.1.length + 1 := by rw [IntKind.wrap_i64]; omega
      rw [LpB_eq]
      simp only [t223a]
      conv => lhs; arg 6; simp [b223_1, hll, hgi, hw, z, RcE.d, Rcd, qk, wn1, wn, evOp, evM, wants, Ins.go, X.ev, iaM, ldM, binD, setD, applyW, Ek_ops_nil, allFree, free, callM, callP, callO, appM]
      simp [u16, u17, u18, u19, u20]
def t223b (a0 a1 a2 a3 a4 a5 a6 a7 n0 k0 m0 g0 : Int) (v16 v17 v18 v19 v20 : D) (c : Bool) (s : Nat) (l : List B3) (mts : List Int) (mk mm mg : Int) (acc : List RcE) (nn ll : Int) (j : Nat) (al : List Int) (n : Nat) (okB : Bool) (y : StV) (c1 : Bool) (s1 : Nat) (c2 : Bool) (b0 : Bool) (b : Bool) (i : Nat) : List D := [.agg [.int .u8 a0, .int .u8 a1, .int .u8 a2, .int .u8 a3, .int .u8 a4, .int .u8 a5, .int .u8 a6, .int .u8 a7, .int .u8 n0, .int .u8 k0, .int .u8 m0, .int .u8 g0], .slc c s (List.map B3.d l), .ptr 0 0 0 0, .undef, .bool false, .bool true, .slc false 7 (List.map RcE.d acc), .int .i64 nn, .int .i64 ll, .int .i64 j, .ptr 1 0 0 0, .int .i64 n, .bool okB, .bool b, .int .i64 i, .bool true, v16, v17, v18, v19, v20, .agg [.int .u8 a0, .int .u8 a1, .int .u8 a2, .int .u8 a3, .int .u8 a4, .int .u8 a5, .int .u8 a6, .int .u8 a7, .int .u8 n0, .int .u8 k0, .int .u8 m0, .int .u8 g0], .agg [.slc false 1 (mts.map (.int .i64)), .int .i64 mk, .int .i64 mm, .int .i64 mg], .slc c s (List.map B3.d l), .slc false 7 (List.map RcE.d acc), .undef, .undef, .undef, .undef, .undef, .undef, .undef, .undef, .undef, .undef, .undef, .undef, .undef, .undef, .undef, .undef, .undef, .undef, .undef, .undef, .undef, .undef, .undef, .undef, .undef, .undef, .undef, .undef, .tuple [.agg [.slc c1 s1 (y.1.1.map (.int .i64)), .int .i64 y.1.2.1, .int .i64 y.1.2.2.1, .int .i64 y.1.2.2.2, .slc c2 1 (y.2.1.map (.int .i64)), .int .i64 y.2.2], .int .i64 n, .bool okB], .slc false 7 (List.map RcE.d acc), .slc false 1 (al.map (.int .u8)), .tuple [.agg [.slc c1 s1 (y.1.1.map (.int .i64)), .int .i64 y.1.2.1, .int .i64 y.1.2.2.1, .int .i64 y.1.2.2.2, .slc c2 1 (y.2.1.map (.int .i64)), .int .i64 y.2.2], .int .i64 n, .bool okB], .agg [.slc c1 s1 (y.1.1.map (.int .i64)), .int .i64 y.1.2.1, .int .i64 y.1.2.2.1, .int .i64 y.1.2.2.2, .slc c2 1 (y.2.1.map (.int .i64)), .int .i64 y.2.2], .int .i64 n, .bool okB, .int .i64 ll, .bool b0, .undef, .undef, .undef, .undef, .undef, .undef, .undef, .undef, .undef, .undef, .undef, .undef, .undef, .undef, .undef, .undef, .undef, .undef, .undef, .undef, .undef, .undef, .undef, .undef, .undef, .undef, .undef, .undef, .undef, .undef, .undef, .undef, .undef, .undef, .undef, .undef, .undef, .undef, .undef, .undef, .undef, .undef, .undef, .undef, .undef]
set_option maxHeartbeats 8000000 in
theorem L223b (a0 a1 a2 a3 a4 a5 a6 a7 n0 k0 m0 g0 : Int) (v16 v17 v18 v19 v20 : D) (c : Bool) (s : Nat) (l : List B3) (mts : List Int) (mk mm mg : Int) (acc : List RcE) (u16 : v16.keys = []) (u17 : v17.keys = []) (u18 : v18.keys = []) (u19 : v19.keys = []) (u20 : v20.keys = []) (nn ll : Int) (j : Nat) (al : List Int) (n : Nat) (okB : Bool) (y : StV) (c1 : Bool) (s1 : Nat) (c2 : Bool) (b0 : Bool) (hyl : y.2.1.length ≤ 40) : ∀ (r pre : List Int) (i : Nat) (b : Bool), y.2.1 = pre ++ r → i = pre.length →
    LpB cf0 K0 b223_0 (t223b a0 a1 a2 a3 a4 a5 a6 a7 n0 k0 m0 g0 v16 v17 v18 v19 v20 c s l mts mk mm mg acc nn ll j al n okB y c1 s1 c2 b0 b0 0) 2 ⟨t223b a0 a1 a2 a3 a4 a5 a6 a7 n0 k0 m0 g0 v16 v17 v18 v19 v20 c s l mts mk mm mg acc nn ll j al n okB y c1 s1 c2 b0 b i, [.box [.int .u8 a0, .int .u8 a1, .int .u8 a2, .int .u8 a3, .int .u8 a4, .int .u8 a5, .int .u8 a6, .int .u8 a7, .int .u8 n0, .int .u8 k0, .int .u8 m0, .int .u8 g0], StB y c1 s1 c2 1]⟩ =
      some (.exit 2, ⟨t223b a0 a1 a2 a3 a4 a5 a6 a7 n0 k0 m0 g0 v16 v17 v18 v19 v20 c s l mts mk mm mg acc nn ll j al n okB y c1 s1 c2 b0 (b || r.any (fun v => eqI v ll)) y.2.1.length, [.box [.int .u8 a0, .int .u8 a1, .int .u8 a2, .int .u8 a3, .int .u8 a4, .int .u8 a5, .int .u8 a6, .int .u8 a7, .int .u8 n0, .int .u8 k0, .int .u8 m0, .int .u8 g0], StB y c1 s1 c2 1]⟩)
  | [], pre, i, b, h, hi => by
    have hp : y.2.1 = pre := by simpa using h
    have z := ltI_f (show ¬ ((y.2.1.length : Int) < y.2.1.length) by omega)
    rw [← hp] at hi
    rw [LpB_eq]
    simp only [t223b, StB]
    conv => lhs; arg 6; simp [b223_0, hi, z, u16, u17, u18, u19, u20]
    simp [hi]
  | v :: r, pre, i, b, h, hi => by
    have hll : i < y.2.1.length := by rw [h, hi]; simp
    have hget : y.2.1[i]? = some v := by rw [h, hi]; simp
    have hgi : y.2.1[i]'hll = v := by rw [List.getElem?_eq_getElem hll] at hget; exact Option.some.inj hget
    have hw := w64 (i + 1) (by omega)
    have z := ltI_t (show ((i : Int) < y.2.1.length) by omega)
    have ih := L223b a0 a1 a2 a3 a4 a5 a6 a7 n0 k0 m0 g0 v16 v17 v18 v19 v20 c s l mts mk mm mg acc u16 u17 u18 u19 u20 nn ll j al n okB y c1 s1 c2 b0 hyl r (pre ++ [v]) (i + 1) (b || eqI v ll) (by rw [h]; simp) (by simp [hi])
    rw [List.any_cons, ← Bool.or_assoc]
    refine Eq.trans ?_ ih
    obtain ⟨⟨ts, k, m, g⟩, ids, nx⟩ := y
    simp only at hll hgi z
    rw [LpB_eq]
    simp only [t223b, StB]
    cases b with
    | true =>
      conv => lhs; arg 6; simp [b223_0, hll, hgi, hw, z, evOp, evM, wants, Ins.go, X.ev, iaM, ldM, binD, setD, applyW, Ek_ops_nil, allFree, free, callM, callP, callO, appM]
      simp [u16, u17, u18, u19, u20]
    | false =>
      cases hq : eqI v ll with
      | true =>
        conv => lhs; arg 6; simp [b223_0, hll, hgi, hw, z, hq, evOp, evM, wants, Ins.go, X.ev, iaM, ldM, binD, setD, applyW, Ek_ops_nil, allFree, free, callM, callP, callO, appM]
        simp [u16, u17, u18, u19, u20]
      | false =>
        conv => lhs; arg 6; simp [b223_0, hll, hgi, hw, z, hq, evOp, evM, wants, Ins.go, X.ev, iaM, ldM, binD, setD, applyW, Ek_ops_nil, allFree, free, callM, callP, callO, appM]
        simp [u16, u17, u18, u19, u20]
end Go.Ab
/- THE FUNCTIONS' EQUATIONS: thresherlaw17.ReplayCounts, the whole. (printed by mk228.py) -/
set_option linter.all false
set_option maxRecDepth 100000
namespace Go.Ab
open Go.Proofs Go.Proofs.YtdopbfjebjnpkaaH Go.Proofs.YtdopbfjebjnpkaaH.Crc Go.Proofs.YtdopbfjebjnpkaaH.Var Go.Proofs.YtdopbfjebjnpkaaH.Fr Go.Proofs.YtdopbfjebjnpkaaH.Rec
attribute [local simp] op_or op_an op_add op_sub op_mul oq_eql oq_neq oq_lss oq_gtr oq_leq oq_geq
attribute [-simp] intOp bin_shl
attribute [local simp] reset_self
theorem stR_nx : ∀ (rs : List RecV) (s : StV), 0 ≤ s.2.2 ∧ s.2.2 ≤ 1000000 → 0 ≤ (stR s rs).2.2 ∧ (stR s rs).2.2 ≤ 1000000
  | [], s, h => h
  | r :: t, s, h => stR_nx t _ (applyI_nx h)
set_option maxHeartbeats 8000000 in
theorem R223 (a0 a1 a2 a3 a4 a5 a6 a7 n0 k0 m0 g0 : Int) (hts : ∀ x ∈ [a0, a1, a2, a3, a4, a5, a6, a7], 0 ≤ x ∧ x < 256) (hn : 0 ≤ n0 ∧ n0 < 256) (hk : 0 ≤ k0 ∧ k0 < 256) (hm : 0 ≤ m0 ∧ m0 < 256) (hg : 0 ≤ g0 ∧ g0 < 256) (v16 v17 v18 v19 v20 : D) (u16 : v16.keys = []) (u17 : v17.keys = []) (u18 : v18.keys = []) (u19 : v19.keys = []) (u20 : v20.keys = []) (c : Bool) (s : Nat) (l : List B3) (hs : s = 3 ∨ l = []) (hl : l.length ≤ 30) (hB : ∀ x ∈ l, (0 ≤ x.1 ∧ x.1 < 256) ∧ (0 ≤ x.2.1 ∧ x.2.1 < 256) ∧ (0 ≤ x.2.2 ∧ x.2.2 < 256)) :
    finK false 0 [.tmp 4] (Ek cf0 K0 [.c r223] ⟨[.agg [.int .u8 a0, .int .u8 a1, .int .u8 a2, .int .u8 a3, .int .u8 a4, .int .u8 a5, .int .u8 a6, .int .u8 a7, .int .u8 n0, .int .u8 k0, .int .u8 m0, .int .u8 g0], .slc c s (l.map B3.d), .ptr 0 0 0 0, .undef, .bool false, .bool true, .undef, .undef, .undef, .undef, .undef, .undef, .undef, .undef, .undef, .bool true, v16, v17, v18, v19, v20, .undef, .undef, .undef, .undef, .undef, .undef, .undef, .undef, .undef, .undef, .undef, .undef, .undef, .undef, .undef, .undef, .undef, .undef, .undef, .undef, .undef, .undef, .undef, .undef, .undef, .undef, .undef, .undef, .undef, .undef, .undef, .undef, .undef, .undef, .undef, .undef, .undef, .undef, .undef, .undef, .undef, .undef, .undef, .undef, .undef, .undef, .undef, .undef, .undef, .undef, .undef, .undef, .undef, .undef, .undef, .undef, .undef, .undef, .undef, .undef, .undef, .undef, .undef, .undef, .undef, .undef, .undef, .undef, .undef, .undef, .undef, .undef, .undef, .undef, .undef, .undef, .undef, .undef, .undef, .undef, .undef, .undef, .undef, .undef, .undef, .undef], [.box [.int .u8 a0, .int .u8 a1, .int .u8 a2, .int .u8 a3, .int .u8 a4, .int .u8 a5, .int .u8 a6, .int .u8 a7, .int .u8 n0, .int .u8 k0, .int .u8 m0, .int .u8 g0]]⟩) = some (.bool true, []) := by
  have hM := K217 [a0, a1, a2, a3, a4, a5, a6, a7] n0 k0 m0 g0 hts hn hk hm hg rfl
  have hok := madeS_ok (n := n0) (k := k0) (m := m0) (g := g0) hts rfl hk.1
  generalize madeS [a0, a1, a2, a3, a4, a5, a6, a7] n0 k0 m0 g0 = M at *
  obtain ⟨mts, mk, mm, mg⟩ := M
  simp only [List.map_cons, List.map_nil, List.cons_append, List.nil_append] at hM hok
  obtain ⟨acc, hacc, hR⟩ := K215 false 1 mts mk mm mg c s l (.inl rfl) hs (by omega) hB
  have hfit := madeI_fits (s := (mts, mk, mm, mg)) hok l
  have hml := madeI_len (mts, mk, mm, mg) l
  rw [← hacc] at hfit hml
  rw [List.length_map] at hml
  have hmay : ∀ e ∈ acc, mayOf e.r = true := fun e he => fitsR_may _ _ _ hfit _ (List.mem_map_of_mem he)
  have hA := K216 false 7 acc (.inl rfl) (by omega) (fun e he => by have := mayOf_len (hmay e he); omega)
  have hpl := putsR_len (acc.map RcE.r)
  rw [List.length_map] at hpl
  have hpB := isB_putsR (acc.map RcE.r)
  have hall := allI_all hfit
  have hsch := stR_sch (acc.map RcE.r) noSt (by simp [noSt, noSc])
  have hnx := stR_nx (acc.map RcE.r) noSt (by simp [noSt])
  have hpos : 0 < (putsR (acc.map RcE.r)).length := by
    rw [hacc]
    unfold madeI
    have hm1 : mayOf (1, (mts, mk, mm, mg), [], 0) = true := applyI_may (x := noSt) (by rw [applyI_head hok])
    rw [putsR_cons hm1, List.length_append]
    have := recOf_len hm1
    omega
  generalize hal : putsR (acc.map RcE.r) = al at *
  obtain ⟨r1, r2, r3, r4, z1, z2, hFull⟩ := K200 false 1 al (.inl rfl) (by omega) hpB
  rw [hall] at hFull z1 z2
  obtain ⟨e0, tl, hacc2⟩ : ∃ e0 tl, acc = e0 :: tl := by
    cases acc with
    | nil => unfold madeI at hacc; cases hacc
    | cons e0 tl => exact ⟨e0, tl, rfl⟩
  have hst : stR noSt (acc.map RcE.r) = stR ((mts, mk, mm, mg), [], 0) (tl.map RcE.r) ∧ fitsR ((mts, mk, mm, mg), [], 0) false (tl.map RcE.r) := by
    rw [hacc2] at hacc hfit ⊢
    simp only [List.map_cons] at hacc hfit ⊢
    unfold madeI at hacc
    obtain ⟨q1, q2⟩ := List.cons.inj hacc
    have ha := applyI_head (x := noSt) (s := (mts, mk, mm, mg)) hok
    obtain ⟨_, _, w⟩ := hfit
    rw [q1, ha] at w
    exact ⟨by show stR (applyI noSt e0.r).1 _ = _; rw [q1, ha], w⟩
  obtain ⟨ll, q1, q2, hL⟩ := L223a a0 a1 a2 a3 a4 a5 a6 a7 n0 k0 m0 g0 v16 v17 v18 v19 v20 c s l mts mk mm mg acc u16 u17 u18 u19 u20 (by omega) tl [e0] 1 ((mts, mk, mm, mg), [], 0) 0 (-1) (by rw [hacc2]; rfl) rfl hst.2 rfl rfl (.inl (by decide)) (by simp)
  rw [← hst.1] at q1 q2 hL
  clear hst
  generalize stR noSt (acc.map RcE.r) = y at *
  simp only [List.length_nil, Nat.sub_zero] at hFull
  have zal := ltI_t (show (0 : Int) < al.length by omega)
  have ee1 : eqI (al.length : Int) al.length = true := eqI_t rfl
  have ee2 : eqI (y.2.1.length : Int) y.2.1.length = true := eqI_t rfl
  have hll : ll ≤ 1000000000 ∧ -1000000000 ≤ ll := by omega
  have wl : IntKind.i64.wrap (ll + 1) = ll + 1 := by rw [IntKind.wrap_i64]; omega
  have ee3 : eqI y.2.2 (ll + 1) = true := eqI_t q1
  obtain ⟨b0, hb0⟩ : ∃ b, ltI ll 0 = b := ⟨_, rfl⟩
  have hthere : (b0 || y.2.1.any (fun v => eqI v ll)) = true := by
    rcases q2 with h | h
    · rw [← hb0, ltI_t h]; rfl
    · rw [Bool.or_eq_true]
      exact .inr (List.any_eq_true.2 ⟨ll, h, eqI_t rfl⟩)
  simp only [StD, Sd] at hFull hR hA hM
  simp only [t223a, StB] at hL
  by_cases hn : y.2.1 = []
  · obtain ⟨⟨ts, k, m, g⟩, ids, nx⟩ := y
    simp only at hn
    subst hn
    have hb1 : b0 = true := by simpa using hthere
    subst hb1
    have z0 := ltI_f (show ¬ ((0 : Int) < 0) by omega)
    have ee4 : eqI 0 0 = true := rfl
    simp only at ee3
    simp only [List.map_nil] at hFull
    simp [r223, hM, hR]
    simp at hL
    rw [hL]
    simp [hA, hFull, zal, hb0]
    rw [LpB_eq]
    simp [b223_0, z0, u16, u17, u18, u19, u20]
    simp [hA, wl, ee1, ee4, ee3]
  · obtain rfl := z2.resolve_right hn
    have hL2 := L223b a0 a1 a2 a3 a4 a5 a6 a7 n0 k0 m0 g0 v16 v17 v18 v19 v20 c s l mts mk mm mg acc u16 u17 u18 u19 u20 (y.2.1.length : Int) ll acc.length al al.length true y r1 r2 r3 b0 hsch.2 y.2.1 [] 0 b0 rfl rfl
    rw [hthere] at hL2
    simp only [t223b, StB] at hL2
    simp [r223, hM, hR]
    simp at hL
    rw [hL]
    simp [hA, hFull, zal, hb0]
    simp at hL2
    rw [hL2]
    simp [hA, wl, ee1, ee2, ee3]
end Go.Ab
/- THE FUNCTIONS' EQUATIONS: thresherlaw17.ReplayCounts, of any list. -/
set_option linter.all false
set_option maxRecDepth 100000
namespace Go.Ab
open Go.Proofs Go.Proofs.YtdopbfjebjnpkaaH Go.Proofs.YtdopbfjebjnpkaaH.Crc Go.Proofs.YtdopbfjebjnpkaaH.Var Go.Proofs.YtdopbfjebjnpkaaH.Fr Go.Proofs.YtdopbfjebjnpkaaH.Rec
attribute [local simp] op_or op_an op_add op_sub op_mul oq_eql oq_neq oq_lss oq_gtr oq_leq oq_geq
attribute [-simp] intOp bin_shl
set_option maxHeartbeats 8000000 in
/-- thresherlaw17.ReplayCounts. -/
theorem K223 (a0 a1 a2 a3 a4 a5 a6 a7 n0 k0 m0 g0 : Int) (hts : ∀ x ∈ [a0, a1, a2, a3, a4, a5, a6, a7], 0 ≤ x ∧ x < 256) (hn : 0 ≤ n0 ∧ n0 < 256) (hk : 0 ≤ k0 ∧ k0 < 256) (hm : 0 ≤ m0 ∧ m0 < 256) (hg : 0 ≤ g0 ∧ g0 < 256) (c : Bool) (l : List B3) (hB : ∀ x ∈ l, (0 ≤ x.1 ∧ x.1 < 256) ∧ (0 ≤ x.2.1 ∧ x.2.1 < 256) ∧ (0 ≤ x.2.2 ∧ x.2.2 < 256)) :
    K0 5 [.agg [.int .u8 a0, .int .u8 a1, .int .u8 a2, .int .u8 a3, .int .u8 a4, .int .u8 a5, .int .u8 a6, .int .u8 a7, .int .u8 n0, .int .u8 k0, .int .u8 m0, .int .u8 g0], .slc c 3 (l.map B3.d)] [] = some (.bool true, []) := by
  refine K_call k223 (oraG_none (by decide) (by decide)) (by simp [c223]) ?_
  obtain ⟨t, ht⟩ : ∃ t, l.take 30 = t := ⟨_, rfl⟩
  have htl : t.length ≤ 30 := by rw [← ht]; simp; omega
  have htB : ∀ x ∈ t, (0 ≤ x.1 ∧ x.1 < 256) ∧ (0 ≤ x.2.1 ∧ x.2.1 < 256) ∧ (0 ≤ x.2.2 ∧ x.2.2 < 256) := fun x hx => hB x (by rw [← ht] at hx; exact List.mem_of_mem_take hx)
  have m1 : List.take 30 (l.map B3.d) = t.map B3.d := by rw [← ht]; simp [List.map_take]
  by_cases h30 : 30 < (l.length : Int)
  · have z := ltI_t h30
    have b1 : (30 : Int) ≤ l.length := by omega
    have b2 : 30 ≤ l.length := by omega
    simp [c223, K219, z, b1, b2, m1]
    exact R223 a0 a1 a2 a3 a4 a5 a6 a7 n0 k0 m0 g0 hts hn hk hm hg _ _ _ _ _ rfl rfl rfl rfl rfl _ 3 t (.inl rfl) htl htB
  · have z := ltI_f h30
    obtain rfl : l = t := by rw [← ht, List.take_of_length_le (by omega)]
    simp [c223, K219, z]
    exact R223 a0 a1 a2 a3 a4 a5 a6 a7 n0 k0 m0 g0 hts hn hk hm hg _ _ _ _ _ rfl rfl rfl rfl rfl c 3 l (.inl rfl) htl htB
end Go.Ab
