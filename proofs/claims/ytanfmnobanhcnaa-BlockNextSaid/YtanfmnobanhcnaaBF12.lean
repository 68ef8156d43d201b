/- THE FUNCTIONS' EQUATIONS: thresherlaw07.BlockNext. -/
import Derived.Test.YtanfmnobanhcnaaBF11
set_option linter.all false
set_option maxRecDepth 100000
namespace Go.Ab
open Go.Proofs Go.Proofs.YtanfmnobanhcnaaH Go.Proofs.YtanfmnobanhcnaaH.Crc Go.Proofs.YtanfmnobanhcnaaH.Var Go.Proofs.YtanfmnobanhcnaaH.Fr
def b12_0 : C := (.seq (.seq (.reg none [⟨(some 63), none, (.mv (.t 13))⟩, ⟨(some 64), none, (.bin .leq [] (.t 63) (.k (.int .i64 3)))⟩]) (.cond (.t 64) .skip (.exit 4))) (.seq (.block 5 (.seq (.reg none [⟨(some 68), none, (.mv (.t 13))⟩, ⟨(some 69), none, (.mv (.t 4))⟩, ⟨(some 70), none, (.call (.f 28) [(.t 68), (.t 69)])⟩, ⟨(some 67), none, (.mv (.t 70))⟩, ⟨(some 71), none, (.ext (.t 67) 0)⟩, ⟨(some 72), none, (.ext (.t 67) 1)⟩, ⟨(some 73), none, (.ext (.t 67) 2)⟩, ⟨(some 14), none, (.mv (.t 71))⟩, ⟨(some 15), none, (.mv (.t 72))⟩, ⟨(some 16), none, (.mv (.t 73))⟩]) (.seq (.reg none [⟨(some 74), none, (.mv (.t 14))⟩, ⟨(some 75), none, (.mv (.t 5))⟩, ⟨(some 76), none, (.mv (.t 13))⟩, ⟨(some 77), none, (.bin .sub [] (.t 76) (.k (.int .i64 1)))⟩, ⟨(some 78), none, (.ia none 1 false (.t 75) (.t 77))⟩, ⟨(some 79), none, (.ld none (.t 78))⟩, ⟨(some 80), none, (.call (.f 30) [(.t 74), (.t 79)])⟩, ⟨(some 17), none, (.mv (.t 80))⟩]) (.seq (.seq (.reg none [⟨(some 81), none, (.mv (.t 16))⟩, ⟨(some 82), none, (.bin .neq [] (.t 81) (.k (.int .i64 0)))⟩, ⟨(some 83), none, (.mv (.t 82))⟩, ⟨(some 84), (some ((some 83), false)), (.mv (.t 17))⟩, ⟨(some 85), (some ((some 83), false)), (.un .not (.t 84))⟩, ⟨(some 86), none, (.pick (.t 83) (.k (.bool true)) (.t 85))⟩, ⟨(some 87), none, (.mv (.t 86))⟩, ⟨(some 88), (some ((some 87), false)), (.mv (.t 15))⟩, ⟨(some 89), (some ((some 87), false)), (.mv (.t 4))⟩, ⟨(some 90), (some ((some 87), false)), (.len 1 (.t 89))⟩, ⟨(some 91), (some ((some 87), false)), (.bin .gtr [] (.t 88) (.t 90))⟩, ⟨(some 92), none, (.pick (.t 87) (.k (.bool true)) (.t 91))⟩]) (.cond (.t 92) (.seq (.reg none [⟨(some 2), none, (.mv (.k (.bool false)))⟩]) .ret) .skip)) (.reg none [⟨(some 93), none, (.mv (.t 4))⟩, ⟨(some 94), none, (.mv (.t 15))⟩, ⟨(some 95), none, (.sub 1 1 (.t 93) (some (.t 94)) none none)⟩, ⟨(some 4), none, (.mv (.t 95))⟩]))))) (.reg none [⟨(some 65), none, (.mv (.t 13))⟩, ⟨(some 66), none, (.bin .add [] (.t 65) (.k (.int .i64 1)))⟩, ⟨(some 13), none, (.mv (.t 66))⟩])))
def b12_1 : C := (.seq (.seq (.reg none [⟨(some 28), none, (.mv (.t 9))⟩, ⟨(some 29), none, (.mv (.t 8))⟩, ⟨(some 30), none, (.len 1 (.t 29))⟩, ⟨(some 31), none, (.bin .lss [] (.t 28) (.t 30))⟩]) (.cond (.t 31) .skip (.exit 2))) (.seq (.block 3 (.seq (.reg none [⟨(some 34), none, (.mv (.t 6))⟩, ⟨(some 35), none, (.mv (.t 8))⟩, ⟨(some 36), none, (.mv (.t 9))⟩, ⟨(some 37), none, (.ia none 2 true (.t 35) (.t 36))⟩, ⟨(some 38), none, (.ld (some 2) (.t 37))⟩, ⟨(some 39), none, (.call (.f 31) [(.t 34), (.t 38)])⟩, ⟨(some 10), none, (.mv (.t 39))⟩]) (.seq (.reg none [⟨(some 40), none, (.mv (.t 10))⟩]) (.cond (.t 40) (.reg none [⟨(some 41), none, (.mv (.t 7))⟩, ⟨(some 42), none, (.mv (.t 8))⟩, ⟨(some 43), none, (.mv (.t 9))⟩, ⟨(some 44), none, (.ia none 2 true (.t 42) (.t 43))⟩, ⟨(some 45), none, (.ld (some 2) (.t 44))⟩, ⟨(some 46), none, (.bsl false 2 1 [(.int .i64 0), (.str [])] [(0, (.t 45))])⟩, ⟨(some 47), none, (.app 2 24 (.t 41) (.t 46))⟩, ⟨(some 7), none, (.mv (.t 47))⟩]) .skip)))) (.reg none [⟨(some 32), none, (.mv (.t 9))⟩, ⟨(some 33), none, (.bin .add [] (.t 32) (.k (.int .i64 1)))⟩, ⟨(some 9), none, (.mv (.t 33))⟩])))
def b12_2 : C := (.seq (.seq (.reg none [⟨(some 21), none, (.mv (.t 6))⟩, ⟨(some 22), none, (.bin .leq [] (.t 21) (.k (.int .i64 3)))⟩]) (.cond (.t 22) .skip (.exit 0))) (.seq (.block 1 (.seq (.reg none [⟨(some 25), none, (.bsl true 2 0 [(.int .i64 0), (.str [])] [])⟩, ⟨(some 7), none, (.mv (.t 25))⟩]) (.seq (.reg none [⟨(some 26), none, (.mv (.t 0))⟩, ⟨(some 27), none, (.call (.f 25) [(.t 26)])⟩, ⟨(some 8), none, (.mv (.t 27))⟩]) (.seq (.seq (.reg none [⟨(some 9), none, (.mv (.k (.int .i64 0)))⟩]) (.block 2 (.loop b12_1))) (.seq (.reg none [⟨(some 49), none, (.mv (.t 6))⟩, ⟨(some 50), none, (.mv (.t 7))⟩, ⟨(some 51), none, (.call (.f 26) [(.t 49), (.t 50)])⟩, ⟨(some 48), none, (.mv (.t 51))⟩, ⟨(some 52), none, (.ext (.t 48) 0)⟩, ⟨(some 53), none, (.ext (.t 48) 1)⟩, ⟨(some 11), none, (.mv (.t 52))⟩, ⟨(some 12), none, (.mv (.t 53))⟩]) (.seq (.seq (.reg none [⟨(some 54), none, (.mv (.t 12))⟩, ⟨(some 55), none, (.un .not (.t 54))⟩]) (.cond (.t 55) (.seq (.reg none [⟨(some 2), none, (.mv (.k (.bool false)))⟩]) .ret) .skip)) (.seq (.reg none [⟨(some 56), none, (.mv (.t 4))⟩, ⟨(some 57), none, (.mv (.t 11))⟩, ⟨(some 58), none, (.app 1 1 (.t 56) (.t 57))⟩, ⟨(some 4), none, (.mv (.t 58))⟩]) (.reg none [⟨(some 59), none, (.mv (.t 5))⟩, ⟨(some 60), none, (.mv (.t 7))⟩, ⟨(some 61), none, (.bsl false 1 1 [nilS] [(0, (.t 60))])⟩, ⟨(some 62), none, (.app 1 24 (.t 59) (.t 61))⟩, ⟨(some 5), none, (.mv (.t 62))⟩])))))))) (.reg none [⟨(some 23), none, (.mv (.t 6))⟩, ⟨(some 24), none, (.bin .add [] (.t 23) (.k (.int .i64 1)))⟩, ⟨(some 6), none, (.mv (.t 24))⟩])))
def r12_6 : C := (.seq (.reg none [⟨(some 96), none, (.mv (.t 3))⟩, ⟨(some 97), none, (.mv (.t 96))⟩, ⟨(some 98), (some ((some 97), true)), (.mv (.t 4))⟩, ⟨(some 99), (some ((some 97), true)), (.len 1 (.t 98))⟩, ⟨(some 100), (some ((some 97), true)), (.bin .eql [] (.t 99) (.k (.int .i64 0)))⟩, ⟨(some 101), none, (.pick (.t 97) (.t 100) (.k (.bool false)))⟩, ⟨(some 2), none, (.mv (.t 101))⟩]) .ret)
def r12_5 : C := (.seq (.seq (.reg none [⟨(some 13), none, (.mv (.k (.int .i64 1)))⟩]) (.block 4 (.loop b12_0))) r12_6)
def c12 : Fn' := ⟨102, [(.tmp 2)], (.seq (.reg none [⟨(some 2), none, (.mv (.k (.bool false)))⟩]) (.seq (.reg none [⟨(some 18), none, (.call (.f 24) [])⟩, ⟨(some 3), none, (.mv (.t 18))⟩]) (.seq (.reg none [⟨(some 19), none, (.bsl true 1 0 [(.int .u8 0)] [])⟩, ⟨(some 4), none, (.mv (.t 19))⟩]) (.seq (.reg none [⟨(some 20), none, (.bsl true 1 0 [nilS] [])⟩, ⟨(some 5), none, (.mv (.t 20))⟩]) (.seq (.seq (.reg none [⟨(some 6), none, (.mv (.k (.int .i64 1)))⟩]) (.block 0 (.loop b12_2))) r12_5)))))⟩
theorem k12 : compF Try.prog 12 = some c12 := by kernel_rfl
attribute [local simp] op_or op_an op_add op_sub op_mul oq_eql oq_neq oq_lss oq_gtr oq_leq oq_geq op_rm op_qu op_xr
attribute [-simp] intOp bin_shl bin_shr D.cells
attribute [local simp ↓] List.forall_mem_map
def t12 (c : Bool) (s : Nat) (l : List Va) (a b : Nat) (i : Int) : List D := [.slc c s (l.map Va.d), .undef, .bool false, .bool true, .sl 0 0 a a, .sl 1 0 b b, .int .i64 i, .undef, .undef, .undef, .undef, .undef, .undef, .undef, .undef, .undef, .undef, .undef, .bool true, .sl 0 0 0 0, .sl 1 0 0 0, .undef, .undef, .undef, .undef, .undef, .undef, .undef, .undef, .undef, .undef, .undef, .undef, .undef, .undef, .undef, .undef, .undef, .undef, .undef, .undef, .undef, .undef, .undef, .undef, .undef, .undef, .undef, .undef, .undef, .undef, .undef, .undef, .undef, .undef, .undef, .undef, .undef, .undef, .undef, .undef, .undef, .undef, .undef, .undef, .undef, .undef, .undef, .undef, .undef, .undef, .undef, .undef, .undef, .undef, .undef, .undef, .undef, .undef, .undef, .undef, .undef, .undef, .undef, .undef, .undef, .undef, .undef, .undef, .undef, .undef, .undef, .undef, .undef, .undef, .undef, .undef, .undef, .undef, .undef, .undef, .undef]
def t12i (c : Bool) (s : Nat) (l v : List Va) (a b : Nat) (i : Int) (n j : Nat) : List D := [.slc c s (l.map Va.d), .undef, .bool false, .bool true, .sl 0 0 a a, .sl 1 0 b b, .int .i64 i, .sl 2 0 n n, .slc false 2 (v.map Va.d), .int .i64 j, .undef, .undef, .undef, .undef, .undef, .undef, .undef, .undef, .bool true, .sl 0 0 0 0, .sl 1 0 0 0, .int .i64 i, .bool true, .undef, .undef, .sl 2 0 0 0, .slc c s (l.map Va.d), .slc false 2 (v.map Va.d), .undef, .undef, .undef, .undef, .undef, .undef, .undef, .undef, .undef, .undef, .undef, .undef, .undef, .undef, .undef, .undef, .undef, .undef, .undef, .undef, .undef, .undef, .undef, .undef, .undef, .undef, .undef, .undef, .undef, .undef, .undef, .undef, .undef, .undef, .undef, .undef, .undef, .undef, .undef, .undef, .undef, .undef, .undef, .undef, .undef, .undef, .undef, .undef, .undef, .undef, .undef, .undef, .undef, .undef, .undef, .undef, .undef, .undef, .undef, .undef, .undef, .undef, .undef, .undef, .undef, .undef, .undef, .undef, .undef, .undef, .undef, .undef, .undef, .undef]
set_option maxHeartbeats 4000000 in
theorem L12a (c : Bool) (s : Nat) (l v : List Va) (a b : Nat) (k : Int) (A O : List D) (hv : v.length ≤ 60) : ∀ (t pre acc : List Va) (n i : Nat), v = pre ++ t → i = pre.length → n = acc.length → acc.length ≤ i →
    LpB cf0 K0 b12_1 (t12i c s l v a b k 0 0) 3 ⟨t12i c s l v a b k n i, [.row 1 A 0, .row 1 O 0, .row 2 (acc.map Va.d) 0]⟩ = some (.exit 2, ⟨t12i c s l v a b k (acc ++ t.filter (fitsI k)).length v.length, [.row 1 A 0, .row 1 O 0, .row 2 ((acc ++ t.filter (fitsI k)).map Va.d) 0]⟩)
  | [], pre, acc, n, i, he, hi, hn, ha => by
    have : v = pre := by simpa using he
    subst this
    have z1 : ltI (i : Int) v.length = false := ltI_f (by omega)
    rw [LpB_eq]
    simp only [t12i]
    conv => lhs; arg 6; simp [b12_1, z1]
    simp [hi, hn]
  | (m, x) :: t, pre, acc, n, i, he, hi, hn, ha => by
    have hll : i < v.length := by rw [he, hi]; simp
    have z1 : ltI (i : Int) v.length = true := ltI_t (by omega)
    have hget : v[i]? = some (m, x) := by rw [he, hi]; simp
    have hgi : v[i]'hll = (m, x) := by rw [List.getElem?_eq_getElem hll] at hget; exact Option.some.inj hget
    have hw := w64 (i + 1) (by omega)
    have hK := K31 k (m, x)
    simp only [Va.d] at hK
    have hb1 : (acc.length + 1) * 24 ≤ 70368744177664 := by omega
    rw [LpB_eq]
    cases hf : fitsI k (m, x) with
    | false =>
      have ih := L12a c s l v a b k A O hv t (pre ++ [(m, x)]) acc n (i + 1) (by rw [he]; simp) (by simp [hi]) hn (by omega)
      rw [List.filter_cons_of_neg (by rw [hf]; simp)]
      rw [hf] at hK
      generalize t.filter (fitsI k) = g at *
      simp only [t12i] at ih ⊢
      conv => lhs; arg 6; simp [b12_1, z1, hll, hgi, hK, hw, Va.d]
      simp at ih ⊢
      exact ih
    | true =>
      have ih := L12a c s l v a b k A O hv t (pre ++ [(m, x)]) (acc ++ [(m, x)]) (n + 1) (i + 1) (by rw [he]; simp) (by simp [hi]) (by simp [hn]) (by simp; omega)
      rw [List.filter_cons_of_pos hf, show acc ++ (m, x) :: t.filter (fitsI k) = acc ++ [(m, x)] ++ t.filter (fitsI k) by simp]
      rw [hf] at hK
      have hd : (Va.d (m, x)) = .agg [.int .i64 m, .str x] := rfl
      generalize t.filter (fitsI k) = g at *
      subst hn
      simp only [t12i] at ih ⊢
      conv => lhs; arg 6; simp [b12_1, z1, hll, hgi, hK, hw, Va.d, hb1]
      simp [hd] at ih ⊢
      exact ih
set_option maxHeartbeats 8000000 in
theorem L12b (c : Bool) (s : Nat) (l v : List Va) (h25 : K0 25 [.slc c s (l.map Va.d)] [] = some (.slc false 2 (v.map Va.d), [])) (hv : v.length ≤ 60) (k k' : Int) (hk : 1 ≤ k ∧ k ≤ 3) (hk' : k' = k + 1) (A : List Int) (O : List D) (a b a' b' : Nat) (ha : a = A.length) (hb : b = O.length)
    (hal : A.length ≤ 1000000) (hob : O.length ≤ 10) (w : List Va) (hw : w = v.filter (fitsI k)) (ha' : a' = A.length + (blockI k w).length) (hb' : b' = O.length + 1) :
    LpB cf0 K0 b12_2 (t12 c s l 0 0 1) 2 ⟨t12 c s l a b k, [.row 1 (A.map (.int .u8)) 0, .row 1 O 0]⟩ =
    LpB cf0 K0 b12_2 (t12 c s l 0 0 1) 2 ⟨t12 c s l a' b' k', [.row 1 ((A ++ blockI k w).map (.int .u8)) 0, .row 1 (O ++ [.slc false 2 (w.map Va.d)]) 0]⟩ := by
  have hL := L12a c s l v a b k (A.map (.int .u8)) O hv v [] [] 0 0 rfl rfl rfl (Nat.le_refl _)
  rw [List.nil_append, ← hw] at hL
  have hok := fit_ok k hk v hv
  have hfl := List.length_filter_le (fitsI k) v
  rw [← hw] at hok hfl
  have h26 := K26 false 2 k (by unfold i64R; omega) w (.inl rfl) (by omega)
  rw [hok] at h26
  simp only [if_true] at h26
  obtain ⟨hY1, hY5, hYB⟩ := block_len hok
  generalize blockI k w = Y at *
  have hYn : ¬ Y = [] := by intro e; subst e; simp at hY5
  have z1 : leI k 3 = true := leI_t hk.2
  have hwk : IntKind.i64.wrap (k + 1) = k' := by rw [hk']; exact w64 _ (by omega)
  have b1 : A.length + Y.length ≤ 70368744177664 := by omega
  have b2 : (O.length + 1) * 24 ≤ 70368744177664 := by omega
  clear hw hk' hfl
  subst ha hb ha' hb'
  simp only [t12i] at hL
  simp at hL
  simp only [t12]
  conv => lhs; rw [LpB_eq]; arg 6; simp [b12_2, z1, h25]
  rw [hL]
  conv => lhs; arg 6; simp [h26, hYn, b1, b2, hwk, List.take_of_length_le]
  simp
def t12k (c : Bool) (s : Nat) (l : List Va) (lo n N : Nat) (i : Int) : List D := [.slc c s (l.map Va.d), .undef, .bool false, .bool true, .sl 0 lo n N, .sl 1 0 3 3, .int .i64 4, .undef, .undef, .undef, .undef, .undef, .undef, .int .i64 i, .undef, .undef, .undef, .undef, .bool true, .sl 0 0 0 0, .sl 1 0 0 0, .undef, .undef, .undef, .undef, .undef, .undef, .undef, .undef, .undef, .undef, .undef, .undef, .undef, .undef, .undef, .undef, .undef, .undef, .undef, .undef, .undef, .undef, .undef, .undef, .undef, .undef, .undef, .undef, .undef, .undef, .undef, .undef, .undef, .undef, .undef, .undef, .undef, .undef, .undef, .undef, .undef, .undef, .undef, .undef, .undef, .undef, .undef, .undef, .undef, .undef, .undef, .undef, .undef, .undef, .undef, .undef, .undef, .undef, .undef, .undef, .undef, .undef, .undef, .undef, .undef, .undef, .undef, .undef, .undef, .undef, .undef, .undef, .undef, .undef, .undef, .undef, .undef, .undef, .undef, .undef, .undef]
set_option maxHeartbeats 8000000 in
theorem L12c (c : Bool) (s : Nat) (l : List Va) (k k' : Int) (hk : 1 ≤ k ∧ k ≤ 3) (hk' : k' = k + 1) (w : List Va) (hw : w.length ≤ 60) (hok : blockOk k w = true) (hr : ∀ p ∈ w, i64R p.1)
    (A R : List Int) (O : List D) (lo n N lo' : Nat) (fz fz' : Nat) (hA : A.drop lo = blockI k w ++ R) (hlo : lo + n = N) (hN : A.length = N) (hN2 : N ≤ 1000000) (hRB : isB R) (hlo' : lo' = lo + (blockI k w).length) (hO : O.length = 3) (j : Nat) (hj : (j : Int) = k - 1) (hjO : O[j]? = some (.slc false 2 (w.map Va.d))) :
    finK false 0 [.tmp 2] (loopK cf0 K0 (LpB cf0 K0 b12_0 (t12k c s l 0 N N 1) 2 ⟨t12k c s l lo n N k, [.row 1 (A.map (.int .u8)) fz, .row 1 O fz']⟩) [.blk 4, .c r12_6]) =
    finK false 0 [.tmp 2] (loopK cf0 K0 (LpB cf0 K0 b12_0 (t12k c s l 0 N N 1) 2 ⟨t12k c s l lo' (n - (blockI k w).length) N k', [.row 1 (A.map (.int .u8)) N, .row 1 O fz']⟩) [.blk 4, .c r12_6]) := by
  obtain ⟨hY1, hY5, hYB⟩ := block_len hok
  have hAl := congrArg List.length hA
  simp only [List.length_drop, List.length_append] at hAl
  have h28 := K28 k false (blockI k w ++ R) (by simp; omega) (isB_append hYB hRB)
  rw [take_put k w hok hr R] at h28
  simp only at h28
  have h30 : K0 30 [cvV w, .slc false 2 (w.map Va.d)] [] = some (.bool true, []) := by
    have : (w == w) = true := by simp
    rw [← this]
    unfold cvV
    by_cases hv0 : w = []
    · subst hv0; exact K30 true false 0 2 [] [] (.inr rfl) (.inl rfl) (by simp)
    · rw [if_neg hv0]; exact K30 false false 2 2 w w (.inl rfl) (.inl rfl) (by omega)
  have hfz : ∃ cc ss es, cvV w = .slc cc ss es := by
    unfold cvV; split
    · exact ⟨_, _, _, rfl⟩
    · exact ⟨_, _, _, rfl⟩
  obtain ⟨cc, ss, es, hcv⟩ := hfz
  rw [hcv] at h28 h30
  have m1 : List.drop lo (A.map (D.int .u8)) = (blockI k w ++ R).map (.int .u8) := by rw [← hA, List.map_drop]
  generalize blockI k w = Y at *
  have z1 : leI k 3 = true := leI_t hk.2
  have z2 : neI 0 0 = false := rfl
  have z3 : ltI (n : Int) Y.length = false := ltI_f (by omega)
  have hwk : IntKind.i64.wrap (k + 1) = k' := by rw [hk']; exact w64 _ (by omega)
  have hwj : IntKind.i64.wrap (k - 1) = (j : Int) := by rw [hj]; exact w64 _ (by omega)
  have hYn : Y.length ≤ n := by omega
  have hYn' : (Y.length : Int) ≤ n := by omega
  have hj3 : j < 3 := by omega
  have hj3' : (j : Int) < 3 := by omega
  have hjl : j < O.length := by omega
  have hjg : O[j]'hjl = .slc false 2 (w.map Va.d) := by rw [List.getElem?_eq_getElem hjl] at hjO; exact Option.some.inj hjO
  have hln : lo + n ≤ N := by omega
  have hAN : (A.map (D.int .u8)).length = N := by rw [List.length_map, hN]
  have mA : List.take (lo + n) (A.map (D.int .u8)) = A.map (.int .u8) := List.take_of_length_le (by omega)
  simp only [List.map_append] at h28 m1
  subst hlo'
  clear hk' hj hA hAl hok hr hRB hjO
  conv => lhs; arg 4; arg 3; rw [LpB_eq]; arg 6; simp only [t12k]; simp [b12_0, z1, h28, h30, z2, z3, hwj, hYn, hYn', hj3, hj3', hO, hjg, hln, hN, mA, m1, hwk, List.take_of_length_le]
  simp only [t12k]
  simp
set_option maxHeartbeats 8000000 in
theorem K12 (c : Bool) (s : Nat) (hs : s = 2 ∨ False) (l : List Va) (hl : l.length ≤ 2 ^ 44) (hr : ∀ p ∈ l, i64R p.1) : K0 12 [.slc c s (l.map Va.d)] [] = some (.bool true, []) := by
  have h25 := K25 c s l (hs.imp id False.elim) (by omega)
  have hv := few_len10 l
  have hvr := few_i64 hr
  generalize fewV l = v at *
  obtain ⟨w1, hw1⟩ : ∃ w, w = v.filter (fitsI 1) := ⟨_, rfl⟩
  obtain ⟨w2, hw2⟩ : ∃ w, w = v.filter (fitsI 2) := ⟨_, rfl⟩
  obtain ⟨w3, hw3⟩ : ∃ w, w = v.filter (fitsI 3) := ⟨_, rfl⟩
  have l1 : w1.length ≤ 60 := by rw [hw1]; exact Nat.le_trans (List.length_filter_le _ _) hv
  have l2 : w2.length ≤ 60 := by rw [hw2]; exact Nat.le_trans (List.length_filter_le _ _) hv
  have l3 : w3.length ≤ 60 := by rw [hw3]; exact Nat.le_trans (List.length_filter_le _ _) hv
  have o1 : blockOk 1 w1 = true := by rw [hw1]; exact fit_ok 1 (by omega) v hv
  have o2 : blockOk 2 w2 = true := by rw [hw2]; exact fit_ok 2 (by omega) v hv
  have o3 : blockOk 3 w3 = true := by rw [hw3]; exact fit_ok 3 (by omega) v hv
  have r1 : ∀ p ∈ w1, i64R p.1 := by rw [hw1]; exact fit_i64 hvr
  have r2 : ∀ p ∈ w2, i64R p.1 := by rw [hw2]; exact fit_i64 hvr
  have r3 : ∀ p ∈ w3, i64R p.1 := by rw [hw3]; exact fit_i64 hvr
  obtain ⟨y1, _, b1⟩ := block_len o1
  obtain ⟨y2, _, b2⟩ := block_len o2
  obtain ⟨y3, _, b3⟩ := block_len o3
  obtain ⟨A, hA⟩ : ∃ A, [] ++ blockI 1 w1 ++ blockI 2 w2 ++ blockI 3 w3 = A := ⟨_, rfl⟩
  obtain ⟨O, hO⟩ : ∃ O, [] ++ [D.slc false 2 (w1.map Va.d)] ++ [D.slc false 2 (w2.map Va.d)] ++ [D.slc false 2 (w3.map Va.d)] = O := ⟨_, rfl⟩
  have e1 := L12b c s l v h25 hv 1 2 (by omega) (by omega) [] [] 0 0 (blockI 1 w1).length 1 rfl rfl (by simp) (by simp) w1 hw1 (by simp) rfl
  have e2 := L12b c s l v h25 hv 2 3 (by omega) (by omega) ([] ++ blockI 1 w1) ([] ++ [D.slc false 2 (w1.map Va.d)]) (blockI 1 w1).length 1 ((blockI 1 w1).length + (blockI 2 w2).length) 2 (by simp) (by simp) (by simp; omega) (by simp) w2 hw2 (by simp) (by simp)
  have e3 := L12b c s l v h25 hv 3 4 (by omega) (by omega) ([] ++ blockI 1 w1 ++ blockI 2 w2) ([] ++ [D.slc false 2 (w1.map Va.d)] ++ [D.slc false 2 (w2.map Va.d)]) ((blockI 1 w1).length + (blockI 2 w2).length) 2 A.length 3 (by simp) (by simp) (by simp; omega) (by simp) w3 hw3 (by rw [← hA]; simp; omega) (by simp)
  rw [hA, hO] at e3
  have hE : LpB cf0 K0 b12_2 (t12 c s l 0 0 1) 2 ⟨t12 c s l 0 0 1, [.row 1 (([] : List Int).map (.int .u8)) 0, .row 1 [] 0]⟩ = some (.exit 0, ⟨t12 c s l A.length 3 4, [.row 1 (A.map (.int .u8)) 0, .row 1 O 0]⟩) := by
    rw [e1, e2, e3, LpB_eq]
    have z1 : leI 4 3 = false := rfl
    simp only [t12]
    conv => lhs; arg 6; simp [b12_2, z1]
    simp
  have hAn : A.length = (blockI 1 w1).length + (blockI 2 w2).length + (blockI 3 w3).length := by rw [← hA]; simp; omega
  have hOl : O.length = 3 := by rw [← hO]; simp
  have d0 : A.drop 0 = blockI 1 w1 ++ (blockI 2 w2 ++ blockI 3 w3) := by rw [← hA]; simp
  have d1 : A.drop (blockI 1 w1).length = blockI 2 w2 ++ blockI 3 w3 := by rw [← hA]; simp
  have d2 : A.drop ((blockI 1 w1).length + (blockI 2 w2).length) = blockI 3 w3 ++ [] := by rw [← List.drop_drop, d1]; simp
  have f1 := L12c c s l 1 2 (by omega) (by omega) w1 l1 o1 r1 A _ O 0 A.length A.length (blockI 1 w1).length 0 0 d0 (by omega) rfl (by omega) (isB_append b2 b3) (by omega) hOl 0 rfl (by rw [← hO]; rfl)
  have f2 := L12c c s l 2 3 (by omega) (by omega) w2 l2 o2 r2 A _ O (blockI 1 w1).length (A.length - (blockI 1 w1).length) A.length ((blockI 1 w1).length + (blockI 2 w2).length) A.length 0 d1 (by omega) rfl (by omega) b3 rfl hOl 1 rfl (by rw [← hO]; rfl)
  have f3 := L12c c s l 3 4 (by omega) (by omega) w3 l3 o3 r3 A _ O ((blockI 1 w1).length + (blockI 2 w2).length) (A.length - (blockI 1 w1).length - (blockI 2 w2).length) A.length A.length A.length 0 d2 (by omega) rfl (by omega) isB_nil hAn hOl 2 rfl (by rw [← hO]; rfl)
  have hz : A.length - (blockI 1 w1).length - (blockI 2 w2).length - (blockI 3 w3).length = 0 := by omega
  rw [hz] at f3
  have hF : finK false 0 [.tmp 2] (loopK cf0 K0 (LpB cf0 K0 b12_0 (t12k c s l 0 A.length A.length 1) 2 ⟨t12k c s l 0 A.length A.length 1, [.row 1 (A.map (.int .u8)) 0, .row 1 O 0]⟩) [.blk 4, .c r12_6]) = some (.bool true, []) := by
    rw [f1, f2, f3, LpB_eq]
    have z1 : leI 4 3 = false := rfl
    have z2 : eqI 0 0 = true := rfl
    simp only [t12k]
    conv => lhs; arg 4; arg 3; arg 6; simp [b12_0, z1]
    simp [r12_6, z2]
  clear f1 f2 f3 e1 e2 e3 hz d0 d1 d2 hA hO
  refine K_call k12 (oraG_none (by decide) (by decide)) (by simp [c12]) ?_
  simp only [t12] at hE
  simp at hE
  simp only [t12k] at hF
  simp [c12, K24]
  rw [hE]
  simp [r12_5]
  exact hF
end Go.Ab
