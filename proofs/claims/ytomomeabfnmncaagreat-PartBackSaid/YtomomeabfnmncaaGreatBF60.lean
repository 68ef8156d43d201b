/- THE FUNCTIONS' EQUATIONS: slices.Concat of bytes. -/
import Derived.Test.YtomomeabfnmncaaGreatBEq
set_option linter.all false
set_option maxRecDepth 100000
namespace Go.Ab
open Go.Proofs
def b60_0 : C := (.seq (.reg none [⟨(some 28), none, (.bin .lss [] (.t 27) (.t 26))⟩]) (.seq (.cond (.t 28) .skip (.exit 2)) (.seq (.block 3 (.seq (.reg none [⟨(some 29), none, (.ia none 1 false (.t 25) (.t 27))⟩, ⟨(some 30), none, (.ld none (.t 29))⟩, ⟨(some 8), none, (.mv (.t 30))⟩]) (.reg none [⟨(some 31), none, (.mv (.t 6))⟩, ⟨(some 32), none, (.mv (.t 8))⟩, ⟨(some 33), none, (.app 1 1 (.t 31) (.t 32))⟩, ⟨(some 6), none, (.mv (.t 33))⟩]))) (.reg none [⟨(some 34), none, (.bin .add [] (.t 27) (.k (.int .i64 1)))⟩, ⟨(some 27), none, (.mv (.t 34))⟩]))))
def b60_1 : C := (.seq (.reg none [⟨(some 12), none, (.bin .lss [] (.t 11) (.t 10))⟩]) (.seq (.cond (.t 12) .skip (.exit 0)) (.seq (.block 1 (.seq (.reg none [⟨(some 13), none, (.ia none 1 false (.t 9) (.t 11))⟩, ⟨(some 14), none, (.ld none (.t 13))⟩, ⟨(some 5), none, (.mv (.t 14))⟩]) (.seq (.reg none [⟨(some 15), none, (.mv (.t 3))⟩, ⟨(some 16), none, (.mv (.t 5))⟩, ⟨(some 17), none, (.len 1 (.t 16))⟩, ⟨(some 18), none, (.bin .add [] (.t 15) (.t 17))⟩, ⟨(some 3), none, (.mv (.t 18))⟩]) (.seq (.reg none [⟨(some 19), none, (.mv (.t 3))⟩, ⟨(some 20), none, (.bin .lss [] (.t 19) (.k (.int .i64 0)))⟩]) (.cond (.t 20) (.reg none [⟨(some 21), none, .bad⟩, ⟨none, none, .bad⟩]) .skip))))) (.reg none [⟨(some 22), none, (.bin .add [] (.t 11) (.k (.int .i64 1)))⟩, ⟨(some 11), none, (.mv (.t 22))⟩]))))
def c60 : Fn' := ⟨36, [(.tmp 2)], (.seq (.reg none [⟨(some 2), none, (.mv (.k nilS))⟩]) (.seq (.reg none [⟨(some 3), none, (.mv (.k (.int .i64 0)))⟩]) (.seq (.seq (.reg none [⟨(some 9), none, (.mv (.t 0))⟩, ⟨(some 10), none, (.len 1 (.t 9))⟩, ⟨(some 11), none, (.mv (.k (.int .i64 0)))⟩]) (.block 0 (.loop b60_1))) (.seq (.reg none [⟨(some 23), none, (.mv (.t 3))⟩, ⟨(some 24), none, (.call (.f 85) [(.k nilS), (.t 23)])⟩, ⟨(some 6), none, (.mv (.t 24))⟩]) (.seq (.seq (.reg none [⟨(some 25), none, (.mv (.t 0))⟩, ⟨(some 26), none, (.len 1 (.t 25))⟩, ⟨(some 27), none, (.mv (.k (.int .i64 0)))⟩]) (.block 2 (.loop b60_0))) (.seq (.reg none [⟨(some 35), none, (.mv (.t 6))⟩, ⟨(some 2), none, (.mv (.t 35))⟩]) .ret))))))⟩
theorem k60 : compF Tryz.prog 37 = some c60 := by kernel_rfl
/-- Rows of bytes, of any kind of slice. -/
abbrev Ro := Bool × Nat × List Int
def Ro.d (p : Ro) : D := .slc p.1 p.2.1 (p.2.2.map (.int .u8))
def tot (L : List Ro) : Nat := (L.map fun p => p.2.2.length).sum
def t60_1 (c : Bool) (L : List Ro) (n i : Nat) : List D := [.slc c 1 (L.map Ro.d), .undef, nilS, .int .i64 n, .undef, .undef, .undef, .undef, .undef, .slc c 1 (L.map Ro.d), .int .i64 L.length, .int .i64 i, .undef, .undef, .undef, .undef, .undef, .undef, .undef, .undef, .undef, .undef, .undef, .undef, .undef, .undef, .undef, .undef, .undef, .undef, .undef, .undef, .undef, .undef, .undef, .undef]
set_option maxHeartbeats 2000000 in
theorem cat_len (c : Bool) (L : List Ro) (h : tot L ≤ 2 ^ 46) (hl : L.length ≤ 2 ^ 46) : ∀ (r pre : List Ro) (n i : Nat), L = pre ++ r → n = tot pre → i = pre.length →
   LpB cf0 K0 b60_1 (t60_1 c L 0 0) 0 ⟨t60_1 c L n i, []⟩ = some (.exit 0, ⟨t60_1 c L (tot L) L.length, []⟩)
  | [], pre, n, i, hL, hn, hi => by
    rw [LpB_eq]
    have : L = pre := by simpa using hL
    subst this
    simp [b60_1, t60_1, hn, hi]
  | (xb, xs, xl) :: r, pre, n, i, hL, hn, hi => by
    have hll : i < L.length := by rw [hL, hi]; simp
    have hlt : (i : Int) < L.length := by omega
    have hget : L[i]? = some (xb, xs, xl) := by rw [hL, hi]; simp
    have hle : n + xl.length ≤ 2 ^ 46 := by
      have : tot L = tot pre + (xl.length + tot r) := by rw [hL]; simp [tot]
      omega
    have hw := IntWalk.i64_in ((n : Int) + xl.length) (by omega)
    have hw2 := IntWalk.i64_in ((i : Int) + 1) (by omega)
    have hneg : ¬ ((n : Int) + xl.length < 0) := by omega
    have ih := cat_len c L h hl r (pre ++ [(xb, xs, xl)]) (n + xl.length) (i + 1) (by rw [hL]; simp) (by rw [hn]; simp [tot]) (by simp [hi])
    rw [LpB_eq]
    simp only [t60_1] at ih ⊢
    conv => lhs; arg 6; simp [b60_1, hlt, hget, Ro.d, hw, hw2, hneg]
    simpa using ih
def t60_0 (c : Bool) (L : List Ro) (l : List Int) (i : Nat) : List D := [.slc c 1 (L.map Ro.d), .undef, nilS, .int .i64 (tot L), .undef, .undef, .sl 0 0 l.length l.length, .undef, .undef, .slc c 1 (L.map Ro.d), .int .i64 L.length, .int .i64 L.length,
  .undef, .undef, .undef, .undef, .undef, .undef, .undef, .undef, .undef, .undef, .undef, .int .i64 (tot L), .sl 0 0 0 0, .slc c 1 (L.map Ro.d), .int .i64 L.length, .int .i64 i, .undef, .undef, .undef, .undef, .undef, .undef, .undef, .undef]
def cat (L : List Ro) : List Int := (L.map fun p => p.2.2).flatten
theorem cat_tot (L : List Ro) : (cat L).length = tot L := by simp [cat, tot, List.length_flatten]; congr 1
set_option maxHeartbeats 2000000 in
theorem cat_all (c : Bool) (L : List Ro) (h : tot L ≤ 2 ^ 46) (hl : L.length ≤ 2 ^ 46) : ∀ (r pre : List Ro) (l : List Int) (i : Nat), L = pre ++ r → l = cat pre → i = pre.length →
   LpB cf0 K0 b60_0 (t60_0 c L [] 0) 1 ⟨t60_0 c L l i, [.row 1 (l.map (.int .u8)) 0]⟩ = some (.exit 2, ⟨t60_0 c L (cat L) L.length, [.row 1 ((cat L).map (.int .u8)) 0]⟩)
  | [], pre, n, i, hL, hn, hi => by
    rw [LpB_eq]
    have : L = pre := by simpa using hL
    subst this
    simp [b60_0, t60_0, hn, hi]
  | (xb, xs, xl) :: r, pre, l, i, hL, hn, hi => by
    have hll : i < L.length := by rw [hL, hi]; simp
    have hlt : (i : Int) < L.length := by omega
    have hget : L[i]? = some (xb, xs, xl) := by rw [hL, hi]; simp
    have hle : l.length + xl.length ≤ 2 ^ 46 := by
      have : tot L = tot pre + (xl.length + tot r) := by rw [hL]; simp [tot]
      rw [hn, cat_tot]
      omega
    have hw2 := IntWalk.i64_in ((i : Int) + 1) (by omega)
    have ih := cat_all c L h hl r (pre ++ [(xb, xs, xl)]) (l ++ xl) (i + 1) (by rw [hL]; simp) (by rw [hn]; simp [cat]) (by simp [hi])
    rw [LpB_eq]
    simp only [t60_0] at ih ⊢
    have hle2 : l.length + xl.length ≤ 70368744177664 := by omega
    by_cases hx : xl = []
    · subst hx
      have hle3 : l.length ≤ 70368744177664 := by simpa using hle2
      conv => lhs; arg 6; simp [b60_0, hlt, hget, Ro.d, hw2, hle3]
      simpa using ih
    · conv => lhs; arg 6; simp [b60_0, hlt, hget, Ro.d, hw2, hle2, hx]
      simpa using ih
set_option maxHeartbeats 2000000 in
/-- slices.Concat, of rows of bytes. -/
theorem K60 (c : Bool) (L : List Ro) (h : tot L ≤ 2 ^ 46) (hl : L.length ≤ 2 ^ 46) : K0 37 [.slc c 1 (L.map Ro.d)] [] = some (.slc false 1 ((cat L).map (.int .u8)), []) := by
  refine K_call k60 (oraG_none (by decide) (by decide)) (by simp [c60]) ?_
  have h1 := cat_len c L h hl L [] 0 0 rfl rfl rfl
  have h2 := cat_all c L h hl L [] [] 0 rfl rfl rfl
  have hg : K0 85 [nilS, .int .i64 (tot L)] [] = some (.sl 0 0 0 0, [.row 1 [] 0]) := by
    refine K_ora ?_
    have : (tot L : Int).toNat * 1 ≤ capBound := by unfold capBound; simp; omega
    exact if_pos (.inl ⟨rfl, by omega, this⟩)
  simp only [t60_1] at h1
  simp only [t60_0] at h2
  simp [c60]
  simp at h1 h2
  rw [h1]
  simp [hg]
  rw [h2]
  simp
end Go.Ab
/- THE FUNCTIONS' EQUATIONS: num.Put64. -/
set_option linter.all false
set_option maxRecDepth 100000
namespace Go.Ab
open Go.Proofs
def b103_0 : C := (.seq (.reg none [⟨(some 6), none, (.bin .lss [] (.t 5) (.k (.int .i64 8)))⟩]) (.seq (.cond (.t 6) .skip (.exit 0)) (.seq (.block 1 (.seq (.reg none [⟨(some 7), none, (.mv (.t 5))⟩, ⟨(some 4), none, (.mv (.t 7))⟩]) (.reg none [⟨(some 8), none, (.mv (.t 4))⟩, ⟨(some 9), none, (.mv (.t 0))⟩, ⟨(some 10), none, (.mv (.t 4))⟩, ⟨(some 11), none, (.bin .mul [] (.k (.int .i64 8)) (.t 10))⟩, ⟨(some 12), none, (.bin .shr [] (.t 9) (.t 11))⟩, ⟨(some 13), none, (.cvt (.int .u8) (.t 12))⟩, ⟨(some 14), none, (.ia (some 8) 1 false (.t 3) (.t 8))⟩, ⟨none, none, (.st 1 (.t 14) (.t 13))⟩]))) (.reg none [⟨(some 15), none, (.bin .add [] (.t 5) (.k (.int .i64 1)))⟩, ⟨(some 5), none, (.mv (.t 15))⟩]))))
def c103 : Fn' := ⟨17, [(.tmp 2)], (.seq (.reg none [⟨(some 2), none, (.mv (.k nilS))⟩]) (.seq (.reg none [⟨(some 3), none, (.allocA 1 [(.int .u8 0), (.int .u8 0), (.int .u8 0), (.int .u8 0), (.int .u8 0), (.int .u8 0), (.int .u8 0), (.int .u8 0)])⟩]) (.seq (.seq (.reg none [⟨(some 5), none, (.mv (.k (.int .i64 0)))⟩]) (.block 0 (.loop b103_0))) (.seq (.reg none [⟨(some 16), none, (.sub 10 1 (.t 3) none none none)⟩, ⟨(some 2), none, (.mv (.t 16))⟩]) .ret))))⟩
theorem k103 : compF Tryz.prog 39 = some c103 := by kernel_rfl
def t103 (x : Int) (i : Nat) : List D := [.int .u64 x, .undef, nilS, .aptr 0 8, .undef, .int .i64 i, .undef, .undef, .undef,
            .undef, .undef, .undef, .undef, .undef, .undef, .undef, .undef]
/-- The i-th byte. -/
def by8 (x : Int) (i : Nat) : Int := IntKind.u8.wrap (x.fdiv (2 ^ min (8 * (i : Int)).toNat IntKind.u64.bits))
set_option maxHeartbeats 2000000 in
theorem L103 (x : Int) (i : Nat) (a b : List Int) (hi : a.length = i) (hb : b.length = 7 - i) (h : i < 8) : LpB cf0 K0 b103_0 (t103 x 0) 1 ⟨t103 x i, [.row 1 ((a ++ 0 :: b).map (.int .u8)) 0]⟩ = LpB cf0 K0 b103_0 (t103 x 0) 1 ⟨t103 x (i + 1), [.row 1 ((a ++ by8 x i :: b).map (.int .u8)) 0]⟩ := by
  conv => lhs; rw [LpB_eq]
  have hl : a.length + (b.length + 1) = 8 := by omega
  have hlt : (i : Int) < 8 := by omega
  have hget2 : (List.map (D.int IntKind.u8) a ++ D.int IntKind.u8 0 :: List.map (D.int IntKind.u8) b)[i]? = some (D.int IntKind.u8 0) := by rw [List.getElem?_append_right (by simp; omega)]; simp [hi]
  have hset : ∀ d, (List.map (D.int IntKind.u8) a ++ D.int IntKind.u8 0 :: List.map (D.int IntKind.u8) b).set i d = List.map (D.int IntKind.u8) a ++ d :: List.map (D.int IntKind.u8) b := fun d => by rw [List.set_append_right _ _ (by simp; omega)]; simp [hi]
  have hw := w64 (i + 1) (by omega)
  have hw8 := w64 (8 * i) (by omega)
  have hneg : ¬ (8 * (i : Int) < 0) := by omega
  simp only [t103]
  conv => lhs; arg 6; simp [b103_0, hlt, hl, hget2, hset, hw, hw8, hneg]
  simp [by8]
/-- Eight bytes. -/
def le8 (x : Int) : List Int := [by8 x 0, by8 x 1, by8 x 2, by8 x 3, by8 x 4, by8 x 5, by8 x 6, by8 x 7]
set_option maxHeartbeats 2000000 in
theorem K103 (x : Int) : K0 39 [.int .u64 x] [] = some (.slc false 1 ((le8 x).map (.int .u8)), []) := by
  refine K_call k103 (oraG_none (by decide) (by decide)) (by simp [c103]) ?_
  have h : LpB cf0 K0 b103_0 (t103 x 0) 1 ⟨t103 x 0, [.row 1 (([0, 0, 0, 0, 0, 0, 0, 0] : List Int).map (.int .u8)) 0]⟩ = some (.exit 0, ⟨t103 x 8, [.row 1 ((le8 x).map (.int .u8)) 0]⟩) := by
    have e0 := L103 x 0 [] [0, 0, 0, 0, 0, 0, 0] rfl rfl (by omega)
    have e1 := L103 x 1 [by8 x 0] [0, 0, 0, 0, 0, 0] rfl rfl (by omega)
    have e2 := L103 x 2 [by8 x 0, by8 x 1] [0, 0, 0, 0, 0] rfl rfl (by omega)
    have e3 := L103 x 3 [by8 x 0, by8 x 1, by8 x 2] [0, 0, 0, 0] rfl rfl (by omega)
    have e4 := L103 x 4 [by8 x 0, by8 x 1, by8 x 2, by8 x 3] [0, 0, 0] rfl rfl (by omega)
    have e5 := L103 x 5 [by8 x 0, by8 x 1, by8 x 2, by8 x 3, by8 x 4] [0, 0] rfl rfl (by omega)
    have e6 := L103 x 6 [by8 x 0, by8 x 1, by8 x 2, by8 x 3, by8 x 4, by8 x 5] [0] rfl rfl (by omega)
    have e7 := L103 x 7 [by8 x 0, by8 x 1, by8 x 2, by8 x 3, by8 x 4, by8 x 5, by8 x 6] [] rfl rfl (by omega)
    refine e0.trans (e1.trans (e2.trans (e3.trans (e4.trans (e5.trans (e6.trans (e7.trans ?_)))))))
    rw [LpB_eq]
    simp [b103_0, t103, le8]
  simp only [t103, le8, List.map_cons, List.map_nil] at h
  simp [c103]
  simp at h
  rw [h]
  simp [le8]
end Go.Ab
/- THE FUNCTIONS' EQUATIONS: num.PutVar. -/
set_option linter.all false
set_option maxRecDepth 100000
namespace Go.Ab
open Go.Proofs
def b66_0 : C := (.seq (.seq (.reg none [⟨(some 4), none, (.mv (.t 0))⟩, ⟨(some 5), none, (.bin .geq [] (.t 4) (.k (.int .u64 128)))⟩]) (.cond (.t 5) .skip (.exit 0))) (.seq (.block 1 (.reg none [⟨(some 8), none, (.mv (.t 3))⟩, ⟨(some 9), none, (.mv (.t 0))⟩, ⟨(some 10), none, (.cvt (.int .u8) (.t 9))⟩, ⟨(some 11), none, (.bin .or [] (.t 10) (.k (.int .u8 128)))⟩, ⟨(some 12), none, (.bsl false 1 1 [(.int .u8 0)] [(0, (.t 11))])⟩, ⟨(some 13), none, (.app 1 1 (.t 8) (.t 12))⟩, ⟨(some 3), none, (.mv (.t 13))⟩])) (.reg none [⟨(some 6), none, (.mv (.t 0))⟩, ⟨(some 7), none, (.bin .shr [] (.t 6) (.k (.int .u64 7)))⟩, ⟨(some 0), none, (.mv (.t 7))⟩])))
def c66 : Fn' := ⟨19, [(.tmp 2)], (.seq (.reg none [⟨(some 2), none, .nilrow⟩]) (.seq (.reg none [⟨(some 3), none, .nilrow⟩]) (.seq (.block 0 (.loop b66_0)) (.seq (.reg none [⟨(some 14), none, (.mv (.t 3))⟩, ⟨(some 15), none, (.mv (.t 0))⟩, ⟨(some 16), none, (.cvt (.int .u8) (.t 15))⟩, ⟨(some 17), none, (.bsl false 1 1 [(.int .u8 0)] [(0, (.t 16))])⟩, ⟨(some 18), none, (.app 1 1 (.t 14) (.t 17))⟩, ⟨(some 2), none, (.mv (.t 18))⟩]) .ret))))⟩
theorem k66 : compF Tryz.prog 71 = some c66 := by kernel_rfl
def t66 (y x : Int) (n : Nat) : List D := [.int .u64 x, .undef, .sl 0 0 0 0, .sl 1 0 n n, .undef, .undef, .undef, .undef, .undef, .undef, .undef, .undef, .undef, .undef, .undef, .undef, .undef, .undef, .undef]
/-- One part of seven bits. -/
def part7 (x : Int) : Int := IntKind.u8.wrap (BitVec.ofInt IntKind.u8.bits (IntKind.u8.wrap x) ||| BitVec.ofInt IntKind.u8.bits 128).toNat
def shr7 (x : Int) : Int := x.fdiv (2 ^ min (7 : Int).toNat IntKind.u64.bits)
def rowB (l : List Int) : Obj := .row (if l = [] then 0 else 1) (l.map (.int .u8)) 0
set_option maxHeartbeats 2000000 in
theorem L66 (y x : Int) (l : List Int) (n : Nat) (hn : n = l.length) (h : 128 ≤ x) (hl : l.length < 20) : LpB cf0 K0 b66_0 (t66 y y 0) 2 ⟨t66 y x n, [.row 0 [] 0, rowB l]⟩ = LpB cf0 K0 b66_0 (t66 y y 0) 2 ⟨t66 y (shr7 x) (n + 1), [.row 0 [] 0, rowB (l ++ [part7 x])]⟩ := by
  subst hn
  conv => lhs; rw [LpB_eq]
  have hl2 : l.length ≤ 70368744177663 := by omega
  simp only [t66]
  by_cases he : l = []
  · subst he
    conv => lhs; arg 6; simp [b66_0, h, rowB, capBound]
    simp [rowB, part7, shr7]
  · conv => lhs; arg 6; simp [b66_0, h, hl2, rowB, he]
    simp [rowB, part7, shr7]
def pre7 : Nat → Int → List Int
  | 0, _ => []
  | n + 1, x => if 128 ≤ x then part7 x :: pre7 n (shr7 x) else []
def last7 : Nat → Int → Int
  | 0, x => x
  | n + 1, x => if 128 ≤ x then last7 n (shr7 x) else x
theorem shr7_eq (x : Int) : shr7 x = x / 128 := by
  unfold shr7
  have : (min (7 : Int).toNat IntKind.u64.bits) = 7 := by decide
  rw [this, Int.fdiv_eq_ediv_of_nonneg _ (by decide)]
  rfl
set_option maxHeartbeats 2000000 in
theorem L66all (y : Int) : ∀ (n : Nat) (x : Int) (l : List Int) (k : Nat), k = l.length → x < 128 ^ (n + 1) → l.length + n ≤ 20 →
    LpB cf0 K0 b66_0 (t66 y y 0) 2 ⟨t66 y x k, [.row 0 [] 0, rowB l]⟩ = some (.exit 0, ⟨t66 y (last7 n x) (l ++ pre7 n x).length, [.row 0 [] 0, rowB (l ++ pre7 n x)]⟩)
  | 0, x, l, k, hk, hx, hl => by
    have : ¬ (128 ≤ x) := by simp at hx; omega
    subst hk
    rw [LpB_eq]
    simp only [t66]
    conv => lhs; arg 6; simp [b66_0, this]
    simp [last7, pre7, rowB]
  | n + 1, x, l, k, hk, hx, hl => by
    by_cases h : 128 ≤ x
    · rw [L66 y x l k hk h (by omega)]
      have hs : shr7 x < 128 ^ (n + 1) := by rw [shr7_eq]; rw [Int.pow_succ] at hx; omega
      have := L66all y n (shr7 x) (l ++ [part7 x]) (k + 1) (by simp [hk]) hs (by simp; omega)
      rw [this]
      simp [last7, pre7, h]
    · subst hk
      rw [LpB_eq]
      simp only [t66]
      conv => lhs; arg 6; simp [b66_0, h]
      simp [last7, pre7, rowB, h]
theorem pre7_len : ∀ (n : Nat) (x : Int), (pre7 n x).length ≤ n
  | 0, x => by simp [pre7]
  | n + 1, x => by
    unfold pre7
    split
    · have := pre7_len n (shr7 x); simp; omega
    · simp
/-- num.PutVar's bytes. -/
def putW (x : Int) : List Int := pre7 9 x ++ [IntKind.u8.wrap (last7 9 x)]
set_option maxHeartbeats 2000000 in
theorem K66 (x : Int) (hx : x ≤ 18446744073709551615) : K0 71 [.int .u64 x] [] = some (.sl 0 0 (putW x).length (putW x).length, [.row 1 ((putW x).map (.int .u8)) 0]) := by
  refine K_call k66 (oraG_none (by decide) (by decide)) (by simp [c66]) ?_
  have hx2 : x < 128 ^ (9 + 1) := by
    have : (128 : Int) ^ (9 + 1) = 1180591620717411303424 := by decide
    omega
  have h := L66all x 9 x [] 0 rfl hx2 (by simp)
  have hlen := pre7_len 9 x
  have hl3 : (pre7 9 x).length ≤ 70368744177663 := by omega
  simp only [t66, rowB] at h
  simp [c66]
  simp at h
  rw [h]
  by_cases he : pre7 9 x = []
  · simp [he, putW]
  · simp [hl3, he, putW]
end Go.Ab
/- THE FUNCTIONS' EQUATIONS: crc.step, crc.bytes, crc.Sum. -/
set_option linter.all false
set_option maxRecDepth 100000
namespace Go.Ab
open Go.Proofs
def b104_0 : C := (.seq (.reg none [⟨(some 5), none, (.bin .lss [] (.t 4) (.k (.int .i64 8)))⟩]) (.seq (.cond (.t 5) .skip (.exit 0)) (.seq (.block 1 (.seq (.reg none [⟨(some 6), none, (.mv (.t 0))⟩, ⟨(some 7), none, (.bin .and [] (.t 6) (.k (.int .u32 1)))⟩, ⟨(some 3), none, (.mv (.t 7))⟩]) (.seq (.reg none [⟨(some 8), none, (.mv (.t 0))⟩, ⟨(some 9), none, (.bin .shr [] (.t 8) (.k (.int .u64 1)))⟩, ⟨(some 0), none, (.mv (.t 9))⟩]) (.reg none [⟨(some 10), none, (.mv (.t 0))⟩, ⟨(some 11), none, (.mv (.t 3))⟩, ⟨(some 12), none, (.un .neg (.t 11))⟩, ⟨(some 13), none, (.bin .and [] (.k (.int .u32 3988292384)) (.t 12))⟩, ⟨(some 14), none, (.bin .xor [] (.t 10) (.t 13))⟩, ⟨(some 0), none, (.mv (.t 14))⟩])))) (.reg none [⟨(some 15), none, (.bin .add [] (.t 4) (.k (.int .i64 1)))⟩, ⟨(some 4), none, (.mv (.t 15))⟩]))))
def c104 : Fn' := ⟨17, [(.tmp 2)], (.seq (.reg none [⟨(some 2), none, (.mv (.k (.int .u32 0)))⟩]) (.seq (.seq (.reg none [⟨(some 4), none, (.mv (.k (.int .i64 0)))⟩]) (.block 0 (.loop b104_0))) (.seq (.reg none [⟨(some 16), none, (.mv (.t 0))⟩, ⟨(some 2), none, (.mv (.t 16))⟩]) .ret)))⟩
theorem k104 : compF Tryz.prog 107 = some c104 := by kernel_rfl
def c67 : Fn' := ⟨7, [(.tmp 2)], (.seq (.reg none [⟨(some 2), none, (.mv (.k nilS))⟩]) (.seq (.reg none [⟨(some 3), none, (.mv (.t 0))⟩, ⟨(some 4), none, (.cvt (.int .u64) (.t 3))⟩, ⟨(some 5), none, (.call (.f 39) [(.t 4)])⟩, ⟨(some 6), none, (.sub 1 1 (.t 5) none (some (.k (.int .i64 4))) none)⟩, ⟨(some 2), none, (.mv (.t 6))⟩]) .ret))⟩
theorem k67 : compF Tryz.prog 72 = some c67 := by kernel_rfl
def b68_0 : C := (.seq (.reg none [⟨(some 9), none, (.bin .lss [] (.t 8) (.t 7))⟩]) (.seq (.cond (.t 9) .skip (.exit 0)) (.seq (.block 1 (.seq (.reg none [⟨(some 10), none, (.ia none 1 false (.t 6) (.t 8))⟩, ⟨(some 11), none, (.ld none (.t 10))⟩, ⟨(some 5), none, (.mv (.t 11))⟩]) (.reg none [⟨(some 12), none, (.mv (.t 3))⟩, ⟨(some 13), none, (.bin .shr [] (.t 12) (.k (.int .u64 8)))⟩, ⟨(some 14), none, (.mv (.t 3))⟩, ⟨(some 15), none, (.cvt (.int .u8) (.t 14))⟩, ⟨(some 16), none, (.mv (.t 5))⟩, ⟨(some 17), none, (.bin .xor [] (.t 15) (.t 16))⟩, ⟨(some 18), none, (.cvt (.int .u32) (.t 17))⟩, ⟨(some 19), none, (.call (.f 107) [(.t 18)])⟩, ⟨(some 20), none, (.bin .xor [] (.t 13) (.t 19))⟩, ⟨(some 3), none, (.mv (.t 20))⟩]))) (.reg none [⟨(some 21), none, (.bin .add [] (.t 8) (.k (.int .i64 1)))⟩, ⟨(some 8), none, (.mv (.t 21))⟩]))))
def c68 : Fn' := ⟨24, [(.tmp 2)], (.seq (.reg none [⟨(some 2), none, (.mv (.k (.int .u32 0)))⟩]) (.seq (.reg none [⟨(some 3), none, (.mv (.k (.int .u32 4294967295)))⟩]) (.seq (.seq (.reg none [⟨(some 6), none, (.mv (.t 0))⟩, ⟨(some 7), none, (.len 1 (.t 6))⟩, ⟨(some 8), none, (.mv (.k (.int .i64 0)))⟩]) (.block 0 (.loop b68_0))) (.seq (.reg none [⟨(some 22), none, (.mv (.t 3))⟩, ⟨(some 23), none, (.un .xor (.t 22))⟩, ⟨(some 2), none, (.mv (.t 23))⟩]) .ret))))⟩
theorem k68 : compF Tryz.prog 73 = some c68 := by kernel_rfl
def xorI (k : IntKind) (a b : Int) : Int := k.wrap (BitVec.ofInt k.bits a ^^^ BitVec.ofInt k.bits b).toNat
def andI (k : IntKind) (a b : Int) : Int := k.wrap (BitVec.ofInt k.bits a &&& BitVec.ofInt k.bits b).toNat
def bit1 (x : Int) : Int := xorI .u32 (x.fdiv (2 ^ (min (1 : Int).toNat IntKind.u32.bits))) (andI .u32 3988292384 (IntKind.u32.wrap (0 - andI .u32 x 1)))
def t104 (x : Int) (i : Nat) : List D := [.int .u32 x, .undef, .int .u32 0, .undef, .int .i64 i, .undef, .undef, .undef, .undef, .undef, .undef, .undef, .undef, .undef, .undef, .undef, .undef]
set_option maxHeartbeats 2000000 in
theorem L104 (y x : Int) (i : Nat) (h : i < 8) : LpB cf0 K0 b104_0 (t104 y 0) 0 ⟨t104 x i, []⟩ = LpB cf0 K0 b104_0 (t104 y 0) 0 ⟨t104 (bit1 x) (i + 1), []⟩ := by
  conv => lhs; rw [LpB_eq]
  have hlt : (i : Int) < 8 := by omega
  have hw := w64 (i + 1) (by omega)
  simp only [t104]
  conv => lhs; arg 6; simp [b104_0, hlt, hw]
  simp [bit1, xorI, andI]
def bits8 (x : Int) : Int := bit1 (bit1 (bit1 (bit1 (bit1 (bit1 (bit1 (bit1 x)))))))
set_option maxHeartbeats 2000000 in
theorem K104 (x : Int) : K0 107 [.int .u32 x] [] = some (.int .u32 (bits8 x), []) := by
  refine K_call k104 (oraG_none (by decide) (by decide)) (by simp [c104]) ?_
  have h : LpB cf0 K0 b104_0 (t104 x 0) 0 ⟨t104 x 0, []⟩ = some (.exit 0, ⟨t104 (bits8 x) 8, []⟩) := by
    refine (L104 x _ 0 (by omega)).trans ((L104 x _ 1 (by omega)).trans ((L104 x _ 2 (by omega)).trans ((L104 x _ 3 (by omega)).trans ((L104 x _ 4 (by omega)).trans ((L104 x _ 5 (by omega)).trans ((L104 x _ 6 (by omega)).trans ((L104 x _ 7 (by omega)).trans ?_)))))))
    rw [LpB_eq]
    simp [b104_0, t104, bits8]
  simp only [t104] at h
  simp [c104]
  simp at h
  rw [h]
  simp
set_option maxHeartbeats 2000000 in
theorem K67 (x : Int) (hx : 0 ≤ x ∧ x ≤ 4294967295) : K0 72 [.int .u32 x] [] = some (.slc false 1 (((le8 x).take 4).map (.int .u8)), []) := by
  refine K_call k67 (oraG_none (by decide) (by decide)) (by simp [c67]) ?_
  have hw : IntKind.u64.wrap x = x := by rw [IntKind.wrap_u64]; omega
  simp [c67, hw, K103, le8]
/-- What one byte does to the sum. -/
def sum1 (c x : Int) : Int := xorI .u32 (c.fdiv (2 ^ min (8 : Int).toNat IntKind.u32.bits)) (bits8 (IntKind.u32.wrap (xorI .u8 (IntKind.u8.wrap c) x)))
def sumW (l : List Int) : Int := xorI .u32 4294967295 (l.foldl sum1 4294967295)
def t68 (l : List Int) (cl : Bool) (c : Int) (i : Nat) : List D := [.slc cl 1 (l.map (.int .u8)), .undef, .int .u32 0, .int .u32 c, .undef, .undef, .slc cl 1 (l.map (.int .u8)), .int .i64 l.length, .int .i64 i,
     .undef, .undef, .undef, .undef, .undef, .undef, .undef, .undef, .undef, .undef, .undef, .undef, .undef, .undef, .undef]
set_option maxHeartbeats 2000000 in
theorem L68 (l : List Int) (cl : Bool) (hl : l.length ≤ 2 ^ 47) : ∀ (r pre : List Int) (c : Int) (i : Nat), l = pre ++ r → i = pre.length → LpB cf0 K0 b68_0 (t68 l cl 4294967295 0) 0 ⟨t68 l cl c i, []⟩ = some (.exit 0, ⟨t68 l cl (r.foldl sum1 c) l.length, []⟩)
  | [], pre, c, i, h, hi => by
    have : l = pre := by simpa using h
    subst this
    rw [LpB_eq]
    simp [b68_0, t68, hi]
  | x :: r, pre, c, i, h, hi => by
    have hll : i < l.length := by rw [h, hi]; simp
    have hlt : (i : Int) < l.length := by omega
    have hget : l[i]? = some x := by rw [h, hi]; simp
    have hw := w64 (i + 1) (by omega)
    have ih := L68 l cl hl r (pre ++ [x]) (sum1 c x) (i + 1) (by rw [h]; simp) (by simp [hi])
    rw [LpB_eq]
    simp only [t68] at ih ⊢
    conv => lhs; arg 6; simp [b68_0, hlt, hget, hw, K104]
    simp [sum1, xorI] at ih ⊢
    exact ih
set_option maxHeartbeats 2000000 in
/-- crc.Sum. -/
theorem K68 (l : List Int) (cl : Bool) (hl : l.length ≤ 2 ^ 47) : K0 73 [.slc cl 1 (l.map (.int .u8))] [] = some (.int .u32 (sumW l), []) := by
  refine K_call k68 (oraG_none (by decide) (by decide)) (by simp [c68]) ?_
  have h := L68 l cl hl l [] 4294967295 0 rfl rfl
  simp only [t68] at h
  simp [c68]
  simp at h
  rw [h]
  have e : (-1 % 2 ^ IntKind.u32.bits : Int).toNat = 4294967295 % 2 ^ IntKind.u32.bits := by decide
  simp [sumW, xorI, IntKind.signed, IntKind.max, e]
end Go.Ab
/- THE FUNCTIONS' EQUATIONS: crc.Frame. -/
set_option linter.all false
set_option maxRecDepth 100000
namespace Go.Ab
open Go.Proofs
def c32 : Fn' := ⟨13, [(.tmp 2)], (.seq (.reg none [⟨(some 2), none, (.mv (.k nilS))⟩]) (.seq (.reg none [⟨(some 3), none, (.mv (.t 0))⟩, ⟨(some 4), none, (.len 1 (.t 3))⟩, ⟨(some 5), none, (.cvt (.int .u64) (.t 4))⟩, ⟨(some 6), none, (.call (.f 71) [(.t 5)])⟩, ⟨(some 7), none, (.mv (.t 0))⟩, ⟨(some 8), none, (.call (.f 73) [(.t 7)])⟩, ⟨(some 9), none, (.call (.f 72) [(.t 8)])⟩, ⟨(some 10), none, (.mv (.t 0))⟩, ⟨(some 11), none, (.bsl false 1 3 [nilS] [(0, (.t 6)), (1, (.t 9)), (2, (.t 10))])⟩, ⟨(some 12), none, (.call (.f 37) [(.t 11)])⟩, ⟨(some 2), none, (.mv (.t 12))⟩]) .ret))⟩
theorem k32 : compF Tryz.prog 32 = some c32 := by kernel_rfl
theorem wrap32 (x : Int) : 0 ≤ IntKind.u32.wrap x ∧ IntKind.u32.wrap x ≤ 4294967295 := by rw [IntKind.wrap_u32']; omega
/-- crc.Frame. -/
def frameW (l : List Int) : List Int := putW l.length ++ ((le8 (sumW l)).take 4 ++ l)
set_option maxHeartbeats 2000000 in
theorem K32 (l : List Int) (cl : Bool) (hl : l.length ≤ 2 ^ 45) : K0 32 [.slc cl 1 (l.map (.int .u8))] [] = some (.slc false 1 ((frameW l).map (.int .u8)), []) := by
  refine K_call k32 (oraG_none (by decide) (by decide)) (by simp [c32]) ?_
  have hw : IntKind.u64.wrap (l.length : Int) = l.length := by rw [IntKind.wrap_u64]; omega
  have h1 := K66 l.length (by omega)
  have h2 := K68 l cl (by omega)
  have h3 := K67 (sumW l) (wrap32 _)
  have hp : (putW (l.length : Int)).length ≤ 10 := by have := pre7_len 9 (l.length : Int); simp [putW]; omega
  have h4 := K60 true [(false, 1, putW l.length), (false, 1, (le8 (sumW l)).take 4), (cl, 1, l)] (by simp [tot, le8]; omega) (by simp)
  simp only [List.map_cons, List.map_nil, Ro.d, cat, List.flatten_cons, List.flatten_nil, List.append_nil] at h4
  simp [c32, hw, h1, h2, h3]
  simp at h4
  simp [h4, frameW]
end Go.Ab
/- THE FUNCTIONS' EQUATIONS: bits.Len64, of a byte's number. -/
set_option linter.all false
set_option maxRecDepth 100000
namespace Go.Ab
open Go.Proofs
def c109 : Fn' := ⟨25, [(.tmp 2)], (.seq (.reg none [⟨(some 2), none, (.mv (.k (.int .i64 0)))⟩]) (.seq (.seq (.reg none [⟨(some 3), none, (.mv (.t 0))⟩, ⟨(some 4), none, (.bin .geq [] (.t 3) (.k (.int .u64 4294967296)))⟩]) (.cond (.t 4) (.seq (.reg none [⟨(some 5), none, (.mv (.t 0))⟩, ⟨(some 6), none, (.bin .shr [] (.t 5) (.k (.int .u64 32)))⟩, ⟨(some 0), none, (.mv (.t 6))⟩]) (.reg none [⟨(some 2), none, (.mv (.k (.int .i64 32)))⟩])) .skip)) (.seq (.seq (.reg none [⟨(some 7), none, (.mv (.t 0))⟩, ⟨(some 8), none, (.bin .geq [] (.t 7) (.k (.int .u64 65536)))⟩]) (.cond (.t 8) (.seq (.reg none [⟨(some 9), none, (.mv (.t 0))⟩, ⟨(some 10), none, (.bin .shr [] (.t 9) (.k (.int .u64 16)))⟩, ⟨(some 0), none, (.mv (.t 10))⟩]) (.reg none [⟨(some 11), none, (.mv (.t 2))⟩, ⟨(some 12), none, (.bin .add [] (.t 11) (.k (.int .i64 16)))⟩, ⟨(some 2), none, (.mv (.t 12))⟩])) .skip)) (.seq (.seq (.reg none [⟨(some 13), none, (.mv (.t 0))⟩, ⟨(some 14), none, (.bin .geq [] (.t 13) (.k (.int .u64 256)))⟩]) (.cond (.t 14) (.seq (.reg none [⟨(some 15), none, (.mv (.t 0))⟩, ⟨(some 16), none, (.bin .shr [] (.t 15) (.k (.int .u64 8)))⟩, ⟨(some 0), none, (.mv (.t 16))⟩]) (.reg none [⟨(some 17), none, (.mv (.t 2))⟩, ⟨(some 18), none, (.bin .add [] (.t 17) (.k (.int .i64 8)))⟩, ⟨(some 2), none, (.mv (.t 18))⟩])) .skip)) (.seq (.reg none [⟨(some 19), none, (.mv (.t 2))⟩, ⟨(some 20), none, (.mv (.t 0))⟩, ⟨(some 21), none, (.cvt (.int .u8) (.t 20))⟩, ⟨(some 22), none, (.ix 0 0 1 false (.k (.str [0, 1, 2, 2, 3, 3, 3, 3, 4, 4, 4, 4, 4, 4, 4, 4, 5, 5, 5, 5, 5, 5, 5, 5, 5, 5, 5, 5, 5, 5, 5, 5, 6, 6, 6, 6, 6, 6, 6, 6, 6, 6, 6, 6, 6, 6, 6, 6, 6, 6, 6, 6, 6, 6, 6, 6, 6, 6, 6, 6, 6, 6, 6, 6, 7, 7, 7, 7, 7, 7, 7, 7, 7, 7, 7, 7, 7, 7, 7, 7, 7, 7, 7, 7, 7, 7, 7, 7, 7, 7, 7, 7, 7, 7, 7, 7, 7, 7, 7, 7, 7, 7, 7, 7, 7, 7, 7, 7, 7, 7, 7, 7, 7, 7, 7, 7, 7, 7, 7, 7, 7, 7, 7, 7, 7, 7, 7, 7, 8, 8, 8, 8, 8, 8, 8, 8, 8, 8, 8, 8, 8, 8, 8, 8, 8, 8, 8, 8, 8, 8, 8, 8, 8, 8, 8, 8, 8, 8, 8, 8, 8, 8, 8, 8, 8, 8, 8, 8, 8, 8, 8, 8, 8, 8, 8, 8, 8, 8, 8, 8, 8, 8, 8, 8, 8, 8, 8, 8, 8, 8, 8, 8, 8, 8, 8, 8, 8, 8, 8, 8, 8, 8, 8, 8, 8, 8, 8, 8, 8, 8, 8, 8, 8, 8, 8, 8, 8, 8, 8, 8, 8, 8, 8, 8, 8, 8, 8, 8, 8, 8, 8, 8, 8, 8, 8, 8, 8, 8, 8, 8, 8, 8, 8, 8, 8, 8, 8, 8, 8, 8, 8, 8, 8, 8, 8, 8])) (.t 21))⟩, ⟨(some 23), none, (.cvt (.int .i64) (.t 22))⟩, ⟨(some 24), none, (.bin .add [] (.t 19) (.t 23))⟩, ⟨(some 2), none, (.mv (.t 24))⟩]) .ret)))))⟩
theorem k109 : compF Tryz.prog 114 = some c109 := by kernel_rfl
def len8 (n : Nat) : Nat := if n = 0 then 0 else Nat.log2 n + 1
def tab8 : List UInt8 := (List.range 256).map fun n => UInt8.ofNat (len8 n)
set_option maxHeartbeats 2000000 in
theorem tabEq : ([0, 1, 2, 2, 3, 3, 3, 3, 4, 4, 4, 4, 4, 4, 4, 4, 5, 5, 5, 5, 5, 5, 5, 5, 5, 5, 5, 5, 5, 5, 5, 5, 6, 6, 6, 6, 6, 6, 6, 6, 6, 6, 6, 6, 6, 6, 6, 6, 6, 6, 6, 6, 6, 6, 6, 6, 6, 6, 6, 6, 6, 6, 6, 6, 7, 7, 7, 7, 7, 7, 7, 7, 7, 7, 7, 7, 7, 7, 7, 7, 7, 7, 7, 7, 7, 7, 7, 7, 7, 7, 7, 7, 7, 7, 7, 7, 7, 7, 7, 7, 7, 7, 7, 7, 7, 7, 7, 7, 7, 7, 7, 7, 7, 7, 7, 7, 7, 7, 7, 7, 7, 7, 7, 7, 7, 7, 7, 7, 8, 8, 8, 8, 8, 8, 8, 8, 8, 8, 8, 8, 8, 8, 8, 8, 8, 8, 8, 8, 8, 8, 8, 8, 8, 8, 8, 8, 8, 8, 8, 8, 8, 8, 8, 8, 8, 8, 8, 8, 8, 8, 8, 8, 8, 8, 8, 8, 8, 8, 8, 8, 8, 8, 8, 8, 8, 8, 8, 8, 8, 8, 8, 8, 8, 8, 8, 8, 8, 8, 8, 8, 8, 8, 8, 8, 8, 8, 8, 8, 8, 8, 8, 8, 8, 8, 8, 8, 8, 8, 8, 8, 8, 8, 8, 8, 8, 8, 8, 8, 8, 8, 8, 8, 8, 8, 8, 8, 8, 8, 8, 8, 8, 8, 8, 8, 8, 8, 8, 8, 8, 8, 8, 8, 8, 8, 8, 8] : List UInt8) = tab8 := by decide +kernel
set_option maxHeartbeats 2000000 in
theorem K109 (n : Nat) (hn : n < 256) : K0 114 [.int .u64 n] [] = some (.int .i64 (len8 n), []) := by
  have ht : ∀ n, n < 256 → (tab8[n]?).map (fun c => c.toNat) = some (len8 n) := by decide +kernel
  have hle : ∀ n, n < 256 → len8 n ≤ 8 := by decide +kernel
  have h1 : ¬ ((n : Int) ≥ 4294967296) := by omega
  have h2 : ¬ ((n : Int) ≥ 65536) := by omega
  have h3 : ¬ ((n : Int) ≥ 256) := by omega
  have h4 : IntKind.u8.wrap (n : Int) = n := by rw [IntKind.wrap_u8]; omega
  obtain ⟨b, hb1, hb2⟩ := Option.map_eq_some_iff.1 (ht n hn)
  have hw := w64 (len8 n) (by have := hle n hn; omega)
  have hw2 : IntKind.i64.wrap (b.toNat : Int) = len8 n := by rw [hb2]; exact hw
  have e1 : ¬ (4294967296 ≤ (n : Int)) := by omega
  have e2 : ¬ (65536 ≤ (n : Int)) := by omega
  have e3 : ¬ (256 ≤ (n : Int)) := by omega
  have hc : c109 = c109 := rfl
  refine K_call k109 (oraG_none (by decide) (by decide)) (by simp [c109]) ?_
  unfold c109
  simp only [tabEq]
  simp [e1, e2, e3, h4, hb1]
  simp [hb2, hw]
end Go.Ab
