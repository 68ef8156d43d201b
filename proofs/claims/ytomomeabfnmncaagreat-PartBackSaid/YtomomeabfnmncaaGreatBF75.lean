/- THE FUNCTIONS' EQUATIONS: slices.Equal of bytes. -/
import Derived.Test.YtomomeabfnmncaaGreatBEq
import Derived.Test.YtomomeabfnmncaaGreatBBr
set_option linter.all false
set_option maxRecDepth 100000
namespace Go.Ab
open Go.Proofs
def b75_0 : C := (.seq (.reg none [⟨(some 14), none, (.bin .lss [] (.t 13) (.t 12))⟩]) (.seq (.cond (.t 14) .skip (.exit 0)) (.seq (.block 1 (.seq (.reg none [⟨(some 15), none, (.mv (.t 13))⟩, ⟨(some 5), none, (.mv (.t 15))⟩]) (.seq (.reg (some [(2, 6), (3, 6), (2, 7), (3, 7)]) [⟨(some 16), none, (.mv (.t 0))⟩, ⟨(some 17), none, (.mv (.t 5))⟩, ⟨(some 18), none, (.ia none 1 false (.t 16) (.t 17))⟩, ⟨(some 19), none, (.ld none (.t 18))⟩, ⟨(some 20), none, (.mv (.t 1))⟩, ⟨(some 21), none, (.mv (.t 5))⟩, ⟨(some 22), none, (.ia none 1 false (.t 20) (.t 21))⟩, ⟨(some 23), none, (.ld none (.t 22))⟩, ⟨(some 24), none, (.bin .neq [] (.t 19) (.t 23))⟩]) (.cond (.t 24) (.seq (.reg none [⟨(some 4), none, (.mv (.k (.bool false)))⟩]) .ret) .skip)))) (.reg none [⟨(some 25), none, (.bin .add [] (.t 13) (.k (.int .i64 1)))⟩, ⟨(some 13), none, (.mv (.t 25))⟩]))))
def c75 : Fn' := ⟨26, [(.tmp 4)], (.seq (.reg none [⟨(some 4), none, (.mv (.k (.bool false)))⟩]) (.seq (.seq (.reg none [⟨(some 6), none, (.mv (.t 0))⟩, ⟨(some 7), none, (.len 1 (.t 6))⟩, ⟨(some 8), none, (.mv (.t 1))⟩, ⟨(some 9), none, (.len 1 (.t 8))⟩, ⟨(some 10), none, (.bin .neq [] (.t 7) (.t 9))⟩]) (.cond (.t 10) (.seq (.reg none [⟨(some 4), none, (.mv (.k (.bool false)))⟩]) .ret) .skip)) (.seq (.seq (.reg none [⟨(some 11), none, (.mv (.t 0))⟩, ⟨(some 12), none, (.len 1 (.t 11))⟩, ⟨(some 13), none, (.mv (.k (.int .i64 0)))⟩]) (.block 0 (.loop b75_0))) (.seq (.reg none [⟨(some 4), none, (.mv (.k (.bool true)))⟩]) .ret))))⟩
theorem k75 : compF Tryz.prog 88 = some c75 := by kernel_rfl
def t75 (c d : Bool) (l m : List Int) (a b : D) (i : Nat) : List D := [.slc c 1 (l.map (.int .u8)), .slc d 1 (m.map (.int .u8)), .undef, .undef, .bool false, .undef, .slc c 1 (l.map (.int .u8)), .int .i64 l.length, .slc d 1 (m.map (.int .u8)), .int .i64 m.length, .bool false,
   .slc c 1 (l.map (.int .u8)), .int .i64 l.length, .int .i64 i, .undef, .undef, .undef, .undef, .undef, .undef, .undef, .undef, .undef, .undef, .undef, .undef]
def kn75 : List Kn := [.blk 0, .c ((C.reg none [{ dst := some 4, guard := none, ins := Ins.mv (X.k (D.bool true)) }]).seq C.ret)]
set_option maxHeartbeats 2000000 in
theorem L75 (c d : Bool) (l m : List Int) (hl : l.length ≤ 2 ^ 47) (a b : D) : ∀ (r q pre : List Int) (i : Nat), l = pre ++ r → m = pre ++ q → i = pre.length → r.length = q.length →
    finK false 0 [Rs.tmp 4] (loopK cf0 K0 (LpB cf0 K0 b75_0 (t75 c d l m a b 0) 0 ⟨t75 c d l m a b i, []⟩) kn75) = some (.bool (r == q), [])
  | [], [], pre, i, h, h', hi, _ => by
    have : l = pre := by simpa using h
    subst this
    rw [LpB_eq]
    simp [b75_0, t75, hi, kn75]
  | x :: r, y :: q, pre, i, h, h', hi, hrq => by
    have hll : i < l.length := by rw [h, hi]; simp
    have hlt : (i : Int) < l.length := by omega
    have hget : l[i]? = some x := by rw [h, hi]; simp
    have hget2 : m[i]? = some y := by rw [h', hi]; simp
    have hw := w64 (i + 1) (by omega)
    rw [LpB_eq]
    by_cases hxy : x = y
    · subst hxy
      have ih := L75 c d l m hl a b r q (pre ++ [x]) (i + 1) (by rw [h]; simp) (by rw [h']; simp) (by simp [hi]) (by simpa using hrq)
      simp only [t75] at ih ⊢
      conv => lhs; arg 4; arg 3; arg 6; simp [b75_0, hlt, hget, hget2, hw, evOp, evM, wants, Ins.go, X.ev, iaM, ldM, binD, intOp, setD, applyW, Ek_ops_nil, allFree, free]
      simp at ih ⊢
      exact ih
    · have hne : (x != y) = true := by simpa using hxy
      have heq : (x == y) = false := by simpa using hxy
      simp only [t75]
      conv => lhs; arg 4; arg 3; arg 6; simp [b75_0, hlt, hget, hget2, hw, hne, evOp, evM, wants, Ins.go, X.ev, iaM, ldM, binD, intOp, setD, applyW, Ek_ops_nil, allFree, free]
      simp [kn75, heq]
  | [], y :: q, pre, i, h, h', hi, hrq => by simp at hrq
  | x :: r, [], pre, i, h, h', hi, hrq => by simp at hrq
set_option maxHeartbeats 2000000 in
/-- slices.Equal, of bytes. -/
theorem K75 (c d : Bool) (l m : List Int) (hl : l.length ≤ 2 ^ 47) : K0 88 [.slc c 1 (l.map (.int .u8)), .slc d 1 (m.map (.int .u8))] [] = some (.bool (l == m), []) := by
  refine K_call k75 (oraG_none (by decide) (by decide)) (by simp [c75]) ?_
  by_cases he : l.length = m.length
  · have h := L75 c d l m hl .undef .undef l m [] 0 rfl rfl rfl he
    have hne : ((l.length : Int) != m.length) = false := by simp [he]
    simp only [t75, kn75] at h
    simp [c75, hne]
    simp at h
    exact h
  · have hne : ((l.length : Int) != m.length) = true := by simp; omega
    have hlm : (l == m) = false := by simp; intro e; exact he (by rw [e])
    simp [c75, hne, hlm]
end Go.Ab
/- THE FUNCTIONS' EQUATIONS: slices.Clone of bytes, crc.Unframe, bytes.Equal. -/
set_option linter.all false
set_option maxRecDepth 100000
namespace Go.Ab
open Go.Proofs Go.Proofs.YtomomeabfnmncaaGreatH Go.Proofs.YtomomeabfnmncaaGreatH.Crc Go.Proofs.YtomomeabfnmncaaGreatH.Var Go.Proofs.YtomomeabfnmncaaGreatH.Fr
def c76 : Fn' := ⟨8, [(.tmp 2)], (.seq (.reg none [⟨(some 2), none, .nilrow⟩]) (.seq (.seq (.reg none [⟨(some 3), none, (.mv (.t 0))⟩, ⟨(some 4), none, (.bin .eql [4] (.t 3) (.k nilS))⟩]) (.cond (.t 4) (.seq (.reg none [⟨(some 2), none, .nilrow⟩]) .ret) .skip)) (.seq (.reg none [⟨(some 5), none, (.bsl false 1 0 [(.int .u8 0)] [])⟩, ⟨(some 6), none, (.mv (.t 0))⟩, ⟨(some 7), none, (.app 1 1 (.t 5) (.t 6))⟩, ⟨(some 2), none, (.mv (.t 7))⟩]) .ret)))⟩
theorem k76 : compF Tryz.prog 89 = some c76 := by kernel_rfl
def c41 : Fn' := ⟨55, [(.tmp 2), (.tmp 3), (.tmp 4)], (.seq (.reg none [⟨(some 2), none, (.mv (.k nilS))⟩, ⟨(some 3), none, (.mv (.k (.int .i64 0)))⟩, ⟨(some 4), none, (.mv (.k (.int .i64 0)))⟩]) (.seq (.reg none [⟨(some 9), none, (.mv (.t 0))⟩, ⟨(some 10), none, (.call (.f 87) [(.t 9)])⟩, ⟨(some 8), none, (.mv (.t 10))⟩, ⟨(some 11), none, (.ext (.t 8) 0)⟩, ⟨(some 12), none, (.ext (.t 8) 1)⟩, ⟨(some 5), none, (.mv (.t 11))⟩, ⟨(some 6), none, (.mv (.t 12))⟩]) (.seq (.seq (.reg none [⟨(some 13), none, (.mv (.t 6))⟩, ⟨(some 14), none, (.bin .eql [] (.t 13) (.k (.int .i64 0)))⟩, ⟨(some 15), none, (.mv (.t 14))⟩, ⟨(some 16), (some ((some 15), false)), (.mv (.t 5))⟩, ⟨(some 17), (some ((some 15), false)), (.bin .gtr [] (.t 16) (.k (.int .u64 1048576)))⟩, ⟨(some 18), none, (.pick (.t 15) (.k (.bool true)) (.t 17))⟩, ⟨(some 19), none, (.mv (.t 18))⟩, ⟨(some 20), (some ((some 19), false)), (.mv (.t 0))⟩, ⟨(some 21), (some ((some 19), false)), (.len 1 (.t 20))⟩, ⟨(some 22), (some ((some 19), false)), (.mv (.t 6))⟩, ⟨(some 23), (some ((some 19), false)), (.bin .sub [] (.t 21) (.t 22))⟩, ⟨(some 24), (some ((some 19), false)), (.cvt (.int .u64) (.t 23))⟩, ⟨(some 25), (some ((some 19), false)), (.mv (.t 5))⟩, ⟨(some 26), (some ((some 19), false)), (.bin .add [] (.t 25) (.k (.int .u64 4)))⟩, ⟨(some 27), (some ((some 19), false)), (.bin .lss [] (.t 24) (.t 26))⟩, ⟨(some 28), none, (.pick (.t 19) (.k (.bool true)) (.t 27))⟩]) (.cond (.t 28) (.seq (.reg none [⟨(some 2), none, (.mv (.k nilS))⟩, ⟨(some 3), none, (.mv (.k (.int .i64 0)))⟩, ⟨(some 4), none, (.mv (.k (.int .i64 10)))⟩]) .ret) .skip)) (.seq (.reg none [⟨(some 29), none, (.mv (.t 6))⟩, ⟨(some 30), none, (.bin .add [] (.t 29) (.k (.int .i64 4)))⟩, ⟨(some 31), none, (.mv (.t 5))⟩, ⟨(some 32), none, (.cvt (.int .i64) (.t 31))⟩, ⟨(some 33), none, (.bin .add [] (.t 30) (.t 32))⟩, ⟨(some 7), none, (.mv (.t 33))⟩]) (.seq (.seq (.reg (some [(4, 11), (5, 11), (6, 11)]) [⟨(some 34), none, (.mv (.t 0))⟩, ⟨(some 35), none, (.mv (.t 6))⟩, ⟨(some 36), none, (.bin .add [] (.t 35) (.k (.int .i64 4)))⟩, ⟨(some 37), none, (.mv (.t 7))⟩, ⟨(some 38), none, (.sub 1 1 (.t 34) (some (.t 36)) (some (.t 37)) none)⟩, ⟨(some 39), none, (.call (.f 73) [(.t 38)])⟩, ⟨(some 40), none, (.call (.f 72) [(.t 39)])⟩, ⟨(some 41), none, (.mv (.t 0))⟩, ⟨(some 42), none, (.mv (.t 6))⟩, ⟨(some 43), none, (.mv (.t 6))⟩, ⟨(some 44), none, (.bin .add [] (.t 43) (.k (.int .i64 4)))⟩, ⟨(some 45), none, (.sub 1 1 (.t 41) (some (.t 42)) (some (.t 44)) none)⟩, ⟨(some 46), none, (.call (.f 88) [(.t 40), (.t 45)])⟩, ⟨(some 47), none, (.un .not (.t 46))⟩]) (.cond (.t 47) (.seq (.reg none [⟨(some 2), none, (.mv (.k nilS))⟩, ⟨(some 3), none, (.mv (.k (.int .i64 0)))⟩, ⟨(some 4), none, (.mv (.k (.int .i64 11)))⟩]) .ret) .skip)) (.seq (.reg none [⟨(some 48), none, (.mv (.t 0))⟩, ⟨(some 49), none, (.mv (.t 6))⟩, ⟨(some 50), none, (.bin .add [] (.t 49) (.k (.int .i64 4)))⟩, ⟨(some 51), none, (.mv (.t 7))⟩, ⟨(some 52), none, (.sub 1 1 (.t 48) (some (.t 50)) (some (.t 51)) none)⟩, ⟨(some 53), none, (.call (.f 89) [(.t 52)])⟩, ⟨(some 54), none, (.mv (.t 7))⟩, ⟨(some 2), none, (.mv (.t 53))⟩, ⟨(some 3), none, (.mv (.t 54))⟩, ⟨(some 4), none, (.mv (.k (.int .i64 0)))⟩]) .ret))))))⟩
theorem k41 : compF Tryz.prog 40 = some c41 := by kernel_rfl
def c43 : Fn' := ⟨10, [(.tmp 4)], (.seq (.reg none [⟨(some 4), none, (.mv (.k (.bool false)))⟩]) (.seq (.reg none [⟨(some 5), none, (.mv (.t 0))⟩, ⟨(some 6), none, (.cvt .b2s (.t 5))⟩, ⟨(some 7), none, (.mv (.t 1))⟩, ⟨(some 8), none, (.cvt .b2s (.t 7))⟩, ⟨(some 9), none, (.bin .eql [] (.t 6) (.t 8))⟩, ⟨(some 4), none, (.mv (.t 9))⟩]) .ret))⟩
theorem k43 : compF Tryz.prog 44 = some c43 := by kernel_rfl
set_option maxHeartbeats 2000000 in
/-- slices.Clone, of bytes. -/
theorem K76 (c : Bool) (l : List Int) (hl : l.length ≤ 2 ^ 46) : K0 89 [.slc c 1 (l.map (.int .u8))] [] = some (.slc l.isEmpty 1 (l.map (.int .u8)), []) := by
  cases l with
  | nil => exact K_ora (by simp [oraG, oraU])
  | cons x l =>
    refine K_call k76 (by simp [oraG, oraU]) (by simp [c76]) ?_
    have hl2 : l.length + 1 ≤ 70368744177664 := by simpa using hl
    simp [c76, hl2, binD]
attribute [local simp] op_or op_an op_add op_eql op_neq op_lss op_gtr op_leq op_geq op_sub op_mul
attribute [-simp] intOp bin_shl
theorem unframe_bad (l : List Int) (h : (varI l).2 = 0 ∨ (varI l).1 > 1048576 ∨ (l.length : Int) - (varI l).2 < (varI l).1 + 4) : unframeI l = ([], 0, 10) := by unfold unframeI; rw [if_pos h]
theorem unframe_good (l : List Int) (x n : Nat) (hv : varI l = ((x : Int), (n : Int))) (h : ¬ (n : Int) = 0) (h2 : ¬ 1048576 < (x : Int)) (h3 : ¬ (l.length : Int) - n < x + 4) :
    unframeI l = if sum4 (crcI ((l.take (n + 4 + x)).drop (n + 4))) = (l.take (n + 4)).drop n then ((l.take (n + 4 + x)).drop (n + 4), (n : Int) + 4 + x, 0) else ([], 0, 11) := by
  unfold unframeI
  rw [hv]
  simp only
  rw [if_neg (by omega)]
  rfl
set_option maxHeartbeats 4000000 in
/-- crc.Unframe. -/
theorem K41 (c : Bool) (l : List Int) (hl : l.length ≤ 2 ^ 45) (hB : isB l) : ∃ d, K0 40 [.slc c 1 (l.map (.int .u8))] [] = some (.tuple [d, .int .i64 (unframeI l).2.1, .int .i64 (unframeI l).2.2], []) ∧
    (((unframeI l).2.2 = 0 ∧ ∃ c', d = .slc c' 1 ((unframeI l).1.map (.int .u8))) ∨ (¬ (unframeI l).2.2 = 0 ∧ d = nilS)) := by
  have hv := K74 c l (by omega) hB
  have hr := varI_range l
  obtain ⟨x, hx⟩ : ∃ x : Nat, (varI l).1 = x := ⟨(varI l).1.toNat, by omega⟩
  obtain ⟨n, hn⟩ : ∃ n : Nat, (varI l).2 = n := ⟨(varI l).2.toNat, by omega⟩
  have hvv : varI l = ((x : Int), (n : Int)) := Prod.ext hx hn
  rw [hx, hn] at hv
  rw [hx, hn] at hr
  by_cases h1 : (n : Int) = 0
  · rw [unframe_bad l (.inl (by rw [hn]; exact h1))]
    refine ⟨nilS, ?_, .inr ⟨by decide, rfl⟩⟩
    have h1' : ((n : Int) == 0) = true := by simp; omega
    refine K_call k41 (oraG_none (by decide) (by decide)) (by simp [c41]) ?_
    simp [c41, hv, h1']
  · have h1' : ((n : Int) == 0) = false := by simp; omega
    by_cases h2 : 1048576 < (x : Int)
    · rw [unframe_bad l (.inr (.inl (by rw [hx]; exact h2)))]
      refine ⟨nilS, ?_, .inr ⟨by decide, rfl⟩⟩
      refine K_call k41 (oraG_none (by decide) (by decide)) (by simp [c41]) ?_
      simp [c41, hv, h1', h2]
    · have w1 : IntKind.i64.wrap ((l.length : Int) - n) = l.length - n := w64 _ (by omega)
      have w2 : IntKind.u64.wrap ((l.length : Int) - n) = l.length - n := by rw [IntKind.wrap_u64]; omega
      have w3 : IntKind.u64.wrap ((x : Int) + 4) = x + 4 := by rw [IntKind.wrap_u64]; omega
      by_cases h3 : (l.length : Int) - n < x + 4
      · rw [unframe_bad l (.inr (.inr (by rw [hx, hn]; exact h3)))]
        refine ⟨nilS, ?_, .inr ⟨by decide, rfl⟩⟩
        refine K_call k41 (oraG_none (by decide) (by decide)) (by simp [c41]) ?_
        simp [c41, hv, h1', h2, w1, w2, w3, h3]
      · rw [unframe_good l x n hvv h1 h2 h3]
        obtain ⟨A, hA⟩ : ∃ A, A = n + 4 := ⟨_, rfl⟩
        obtain ⟨E, hE⟩ : ∃ E, E = n + 4 + x := ⟨_, rfl⟩
        have hEI : (n : Int) + 4 + x = (E : Int) := by omega
        rw [← hE, ← hA, hEI]
        have w4 : IntKind.i64.wrap ((n : Int) + 4) = A := by rw [w64 _ (by omega)]; omega
        have w5 : IntKind.i64.wrap (x : Int) = x := w64 _ (by omega)
        have w6 : IntKind.i64.wrap ((A : Int) + x) = E := by rw [w64 _ (by omega)]; omega
        have b1 : E ≤ l.length := by omega
        have b2 : A ≤ E := by omega
        have b3 : A ≤ l.length := by omega
        have b4 : n ≤ A := by omega
        obtain ⟨d, hd⟩ : ∃ d, d = (l.take E).drop A := ⟨_, rfl⟩
        obtain ⟨s, hs⟩ : ∃ s, s = (l.take A).drop n := ⟨_, rfl⟩
        rw [← hd, ← hs]
        have m1 : ((l.map (D.int .u8)).take E).drop A = d.map (D.int .u8) := by rw [hd]; simp [List.map_take, List.map_drop]
        have m2 : ((l.map (D.int .u8)).take A).drop n = s.map (D.int .u8) := by rw [hs]; simp [List.map_take, List.map_drop]
        have hdB : isB d := by rw [hd]; exact isB_drop (isB_take hB _) _
        have hdl : d.length ≤ 2 ^ 45 := by rw [hd]; simp; omega
        have k1 := fun cl => N68 d cl hdB (by omega)
        have hcr := crcI_range hdB
        have k2 := N67 (crcI d) (by omega)
        have k3 := fun c e => K75 c e (sum4 (crcI d)) s (by simp [sum4_len])
        have k4 := fun c => K76 c d (by omega)
        by_cases he : sum4 (crcI d) = s
        · have he' : (sum4 (crcI d) == s) = true := by simp [he]
          rw [if_pos he]
          refine ⟨.slc d.isEmpty 1 (d.map (.int .u8)), K_call k41 (oraG_none (by decide) (by decide)) (by simp [c41]) ?_, .inl ⟨rfl, _, rfl⟩⟩
          simp [c41, hv, h1', h2, w1, w2, w3, h3, w4, w5, w6, b1, b2, b3, b4, m1, m2, k1, k2, k3, k4, he', evOp, evM, wants, Ins.go, X.ev, iaM, ldM, binD, intOp, setD, applyW, Ek_ops_nil, allFree, free, callM, callP]
        · have he' : (sum4 (crcI d) == s) = false := by simpa using he
          rw [if_neg he]
          refine ⟨nilS, K_call k41 (oraG_none (by decide) (by decide)) (by simp [c41]) ?_, .inr ⟨by decide, rfl⟩⟩
          simp [c41, hv, h1', h2, w1, w2, w3, h3, w4, w5, w6, b1, b2, b3, b4, m1, m2, k1, k2, k3, k4, he', evOp, evM, wants, Ins.go, X.ev, iaM, ldM, binD, intOp, setD, applyW, Ek_ops_nil, allFree, free, callM, callP]
end Go.Ab
/- THE FUNCTIONS' EQUATIONS: bytes.Equal. -/
set_option linter.all false
set_option maxRecDepth 100000
namespace Go.Ab
open Go.Proofs Go.Proofs.YtomomeabfnmncaaGreatH Go.Proofs.YtomomeabfnmncaaGreatH.Crc Go.Proofs.YtomomeabfnmncaaGreatH.Var Go.Proofs.YtomomeabfnmncaaGreatH.Fr
attribute [local simp] op_or op_an op_add op_eql op_neq op_lss op_gtr op_leq op_geq op_sub op_mul
attribute [-simp] intOp bin_shl
theorem op_rem (k : IntKind) (a b : Int) (h : (b == 0) = false) : intOp .rem k a b = some (.int k (a.tmod b)) := by simp only [intOp]; rw [if_neg (by simpa using h)]
theorem op_quo (k : IntKind) (a b : Int) (h : (b == 0) = false) : intOp .quo k a b = some (.int k (k.wrap (a.tdiv b))) := by simp only [intOp]; rw [if_neg (by simpa using h)]
theorem op_xor (k : IntKind) (a b : Int) : intOp .xor k a b = some (.int k (xorI k a b)) := rfl
theorem op_and (k : IntKind) (a b : Int) : intOp .and k a b = some (.int k (andI k a b)) := rfl
attribute [local simp] op_rem op_quo op_xor op_and
/-- Bytes as a text's. -/
theorem u8_beq (l m : List Int) (hl : isB l) (hm : isB m) : ((l.map fun x => UInt8.ofNat x.toNat) == (m.map fun x => UInt8.ofNat x.toNat)) = (l == m) := by
  rw [Bool.eq_iff_iff, beq_iff_eq, beq_iff_eq]
  refine ⟨fun h => ?_, fun h => by rw [h]⟩
  refine nats_inj hl hm ?_
  have h2 := congrArg (fun l : List UInt8 => l.map UInt8.toNat) h
  simp only [List.map_map] at h2
  have key : ∀ l : List Int, isB l → l.map (UInt8.toNat ∘ fun n => UInt8.ofNat n.toNat) = nats l := by
    intro l hl
    unfold nats
    apply List.map_congr_left
    intro x hx
    have := hl x hx
    show (UInt8.ofNat x.toNat).toNat = x.toNat
    rw [UInt8.toNat_ofNat']
    exact Nat.mod_eq_of_lt (by omega)
  rw [key l hl, key m hm] at h2
  exact h2
set_option maxHeartbeats 2000000 in
/-- bytes.Equal. -/
theorem K43 (c d : Bool) (l m : List Int) (hl : isB l) (hm : isB m) : K0 44 [.slc c 1 (l.map (.int .u8)), .slc d 1 (m.map (.int .u8))] [] = some (.bool (l == m), []) := by
  refine K_call k43 (oraG_none (by decide) (by decide)) (by simp [c43]) ?_
  simp [c43, u8_beq l m hl hm]
end Go.Ab
