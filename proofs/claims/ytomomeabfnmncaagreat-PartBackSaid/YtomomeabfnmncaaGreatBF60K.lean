/- THE FUNCTIONS' EQUATIONS: a second machine, in which slices.Concat of bytes, crc.Frame, thresherref02.Frame and the parts' Write give their rows as they are. -/
import Derived.Test.YtomomeabfnmncaaGreatBBr
import Derived.Test.YtomomeabfnmncaaGreatBF60
set_option linter.all false
set_option maxRecDepth 100000
namespace Go.Ab
open Go.Proofs Go.Proofs.YtomomeabfnmncaaGreatH Go.Proofs.YtomomeabfnmncaaGreatH.Crc Go.Proofs.YtomomeabfnmncaaGreatH.Var Go.Proofs.YtomomeabfnmncaaGreatH.Fr
/-- THE SECOND MACHINE: all other functions are as the first one says. -/
abbrev own1 (f : Nat) : Bool := [37, 32, 54, 11, 12, 23, 100240, 100241, 6, 3, 4, 5, 24, 61].contains f
def cf1 : Cfg := ⟨fun _ => false, fun f => f == 71 || f == 94 || f == 37 || f == 32 || f == 54⟩
theorem keep1 (f : Nat) : cf1.keep f = (f == 71 || f == 94 || f == 37 || f == 32 || f == 54) := rfl
theorem live1 (f : Nat) : cf1.live f = false := rfl
attribute [simp] keep1 live1
noncomputable def ora1 : CallFn := fun f args H => if own1 f = true then none else K0 f args H
noncomputable abbrev K1 := K cf1 fs0 ora1
theorem K1_of {f : Nat} {a : List D} {H : List Obj} {r} (h : K0 f a H = some r) (hf : ¬ own1 f = true) : K1 f a H = some r := K_ora (by unfold ora1; rw [if_neg hf]; exact h)
theorem ora1_none {f : Nat} {a : List D} {H : List Obj} (hf : own1 f = true) : ora1 f a H = none := if_pos hf
set_option maxHeartbeats 2000000 in
theorem cat_len1 (c : Bool) (L : List Ro) (h : tot L ≤ 2 ^ 46) (hl : L.length ≤ 2 ^ 46) : ∀ (r pre : List Ro) (n i : Nat), L = pre ++ r → n = tot pre → i = pre.length →
   LpB cf1 K1 b60_1 (t60_1 c L 0 0) 0 ⟨t60_1 c L n i, []⟩ = some (.exit 0, ⟨t60_1 c L (tot L) L.length, []⟩)
  | [], pre, n, i, hL, hn, hi => by
    rw [LpB_eq]
    have : L = pre := by simpa using hL
    subst this
    simp [b60_1, t60_1, hn, hi]
  | (xb, xs, xl) :: r, pre, n, i, hL, hn, hi => by
    have hll : i < L.length := by rw [hL, hi]; simp
    have hlt : (i : Int) < L.length := by omega
    have hget : L[i]? = some (xb, xs, xl) := by rw [hL, hi]; simp
    have hle : n + xl.length ≤ 2 ^ 46 := by
      have : tot L = tot pre + (xl.length + tot r) := by rw [hL]; simp [tot]
      omega
    have hw := IntWalk.i64_in ((n : Int) + xl.length) (by omega)
    have hw2 := IntWalk.i64_in ((i : Int) + 1) (by omega)
    have hneg : ¬ ((n : Int) + xl.length < 0) := by omega
    have ih := cat_len1 c L h hl r (pre ++ [(xb, xs, xl)]) (n + xl.length) (i + 1) (by rw [hL]; simp) (by rw [hn]; simp [tot]) (by simp [hi])
    rw [LpB_eq]
    simp only [t60_1] at ih ⊢
    conv => lhs; arg 6; simp [b60_1, hlt, hget, Ro.d, hw, hw2, hneg]
    simpa using ih
set_option maxHeartbeats 2000000 in
theorem cat_all1 (c : Bool) (L : List Ro) (h : tot L ≤ 2 ^ 46) (hl : L.length ≤ 2 ^ 46) : ∀ (r pre : List Ro) (l : List Int) (i : Nat), L = pre ++ r → l = cat pre → i = pre.length →
   LpB cf1 K1 b60_0 (t60_0 c L [] 0) 1 ⟨t60_0 c L l i, [.row 1 (l.map (.int .u8)) 0]⟩ = some (.exit 2, ⟨t60_0 c L (cat L) L.length, [.row 1 ((cat L).map (.int .u8)) 0]⟩)
  | [], pre, n, i, hL, hn, hi => by
    rw [LpB_eq]
    have : L = pre := by simpa using hL
    subst this
    simp [b60_0, t60_0, hn, hi]
  | (xb, xs, xl) :: r, pre, l, i, hL, hn, hi => by
    have hll : i < L.length := by rw [hL, hi]; simp
    have hlt : (i : Int) < L.length := by omega
    have hget : L[i]? = some (xb, xs, xl) := by rw [hL, hi]; simp
    have hle : l.length + xl.length ≤ 2 ^ 46 := by
      have : tot L = tot pre + (xl.length + tot r) := by rw [hL]; simp [tot]
      rw [hn, cat_tot]
      omega
    have hw2 := IntWalk.i64_in ((i : Int) + 1) (by omega)
    have ih := cat_all1 c L h hl r (pre ++ [(xb, xs, xl)]) (l ++ xl) (i + 1) (by rw [hL]; simp) (by rw [hn]; simp [cat]) (by simp [hi])
    rw [LpB_eq]
    simp only [t60_0] at ih ⊢
    have hle2 : l.length + xl.length ≤ 70368744177664 := by omega
    by_cases hx : xl = []
    · subst hx
      have hle3 : l.length ≤ 70368744177664 := by simpa using hle2
      conv => lhs; arg 6; simp [b60_0, hlt, hget, Ro.d, hw2, hle3]
      simpa using ih
    · conv => lhs; arg 6; simp [b60_0, hlt, hget, Ro.d, hw2, hle2, hx]
      simpa using ih
set_option maxHeartbeats 2000000 in
/-- slices.Concat, of rows of bytes. -/
theorem K60' (c : Bool) (L : List Ro) (h : tot L ≤ 2 ^ 46) (hl : L.length ≤ 2 ^ 46) : K1 37 [.slc c 1 (L.map Ro.d)] [] = some (.sl 0 0 (cat L).length (cat L).length, [.row 1 ((cat L).map (.int .u8)) 0]) := by
  refine K_call k60 (ora1_none (by decide)) (by simp [c60]) ?_
  have h1 := cat_len1 c L h hl L [] 0 0 rfl rfl rfl
  have h2 := cat_all1 c L h hl L [] [] 0 rfl rfl rfl
  have hg : K1 85 [nilS, .int .i64 (tot L)] [] = some (.sl 0 0 0 0, [.row 1 [] 0]) := by
    refine K1_of (K_ora ?_) (by decide)
    have : (tot L : Int).toNat * 1 ≤ capBound := by unfold capBound; simp; omega
    exact if_pos (.inl ⟨rfl, by omega, this⟩)
  simp only [t60_1] at h1
  simp only [t60_0] at h2
  simp [c60]
  simp at h1 h2
  rw [h1]
  simp [hg]
  rw [h2]
  simp
set_option maxHeartbeats 2000000 in
/-- crc.Frame, of the second machine. -/
theorem K32' (l : List Int) (cl : Bool) (h : isB l) (hl : l.length ≤ 2 ^ 45) : K1 32 [.slc cl 1 (l.map (.int .u8))] [] = some (.sl 0 0 (frameI l).length (frameI l).length, [.row 1 ((frameI l).map (.int .u8)) 0]) := by
  rw [← frameW_eq l h hl]
  refine K_call k32 (ora1_none (by decide)) (by simp [c32]) ?_
  have hw : IntKind.u64.wrap (l.length : Int) = l.length := by rw [IntKind.wrap_u64]; omega
  have h1 := K1_of (K66 l.length (by omega)) (by decide)
  have h2 := K1_of (K68 l cl (by omega)) (by decide)
  have h3 := K1_of (K67 (sumW l) (wrap32 _)) (by decide)
  have hp : (putW (l.length : Int)).length ≤ 10 := by have := pre7_len 9 (l.length : Int); simp [putW]; omega
  have h4 := K60' true [(false, 1, putW l.length), (false, 1, (le8 (sumW l)).take 4), (cl, 1, l)] (by simp [tot, le8]; omega) (by simp)
  simp only [List.map_cons, List.map_nil, Ro.d, cat, List.flatten_cons, List.flatten_nil, List.append_nil] at h4
  simp [c32, hw, h1, h2, h3]
  simp at h4
  simp [h4, frameW]
end Go.Ab
/- THE FUNCTIONS' EQUATIONS: slices.Concat of ints. -/
set_option linter.all false
set_option maxRecDepth 100000
namespace Go.Ab
open Go.Proofs
def b72_0 : C := (.seq (.reg none [⟨(some 28), none, (.bin .lss [] (.t 27) (.t 26))⟩]) (.seq (.cond (.t 28) .skip (.exit 2)) (.seq (.block 3 (.seq (.reg none [⟨(some 29), none, (.ia none 1 false (.t 25) (.t 27))⟩, ⟨(some 30), none, (.ld none (.t 29))⟩, ⟨(some 8), none, (.mv (.t 30))⟩]) (.reg none [⟨(some 31), none, (.mv (.t 6))⟩, ⟨(some 32), none, (.mv (.t 8))⟩, ⟨(some 33), none, (.app 1 8 (.t 31) (.t 32))⟩, ⟨(some 6), none, (.mv (.t 33))⟩]))) (.reg none [⟨(some 34), none, (.bin .add [] (.t 27) (.k (.int .i64 1)))⟩, ⟨(some 27), none, (.mv (.t 34))⟩]))))
def b72_1 : C := (.seq (.reg none [⟨(some 12), none, (.bin .lss [] (.t 11) (.t 10))⟩]) (.seq (.cond (.t 12) .skip (.exit 0)) (.seq (.block 1 (.seq (.reg none [⟨(some 13), none, (.ia none 1 false (.t 9) (.t 11))⟩, ⟨(some 14), none, (.ld none (.t 13))⟩, ⟨(some 5), none, (.mv (.t 14))⟩]) (.seq (.reg none [⟨(some 15), none, (.mv (.t 3))⟩, ⟨(some 16), none, (.mv (.t 5))⟩, ⟨(some 17), none, (.len 1 (.t 16))⟩, ⟨(some 18), none, (.bin .add [] (.t 15) (.t 17))⟩, ⟨(some 3), none, (.mv (.t 18))⟩]) (.seq (.reg none [⟨(some 19), none, (.mv (.t 3))⟩, ⟨(some 20), none, (.bin .lss [] (.t 19) (.k (.int .i64 0)))⟩]) (.cond (.t 20) (.reg none [⟨(some 21), none, .bad⟩, ⟨none, none, .bad⟩]) .skip))))) (.reg none [⟨(some 22), none, (.bin .add [] (.t 11) (.k (.int .i64 1)))⟩, ⟨(some 11), none, (.mv (.t 22))⟩]))))
def c72 : Fn' := ⟨36, [(.tmp 2)], (.seq (.reg none [⟨(some 2), none, (.mv (.k nilS))⟩]) (.seq (.reg none [⟨(some 3), none, (.mv (.k (.int .i64 0)))⟩]) (.seq (.seq (.reg none [⟨(some 9), none, (.mv (.t 0))⟩, ⟨(some 10), none, (.len 1 (.t 9))⟩, ⟨(some 11), none, (.mv (.k (.int .i64 0)))⟩]) (.block 0 (.loop b72_1))) (.seq (.reg none [⟨(some 23), none, (.mv (.t 3))⟩, ⟨(some 24), none, (.call (.f 108) [(.k nilS), (.t 23)])⟩, ⟨(some 6), none, (.mv (.t 24))⟩]) (.seq (.seq (.reg none [⟨(some 25), none, (.mv (.t 0))⟩, ⟨(some 26), none, (.len 1 (.t 25))⟩, ⟨(some 27), none, (.mv (.k (.int .i64 0)))⟩]) (.block 2 (.loop b72_0))) (.seq (.reg none [⟨(some 35), none, (.mv (.t 6))⟩, ⟨(some 2), none, (.mv (.t 35))⟩]) .ret))))))⟩
theorem k72 : compF Tryz.prog 74 = some c72 := by kernel_rfl
/-- Rows of numbers, of any kind of slice. -/
def Ri.d (p : Ro) : D := .slc p.1 p.2.1 (p.2.2.map (.int .i64))
def t72_1 (c : Bool) (L : List Ro) (n i : Nat) : List D := [.slc c 1 (L.map Ri.d), .undef, nilS, .int .i64 n, .undef, .undef, .undef, .undef, .undef, .slc c 1 (L.map Ri.d), .int .i64 L.length, .int .i64 i, .undef, .undef, .undef, .undef, .undef, .undef, .undef, .undef, .undef, .undef, .undef, .undef, .undef, .undef, .undef, .undef, .undef, .undef, .undef, .undef, .undef, .undef, .undef, .undef]
set_option maxHeartbeats 2000000 in
theorem cat_len72 (c : Bool) (L : List Ro) (h : tot L ≤ 2 ^ 40) (hl : L.length ≤ 2 ^ 40) : ∀ (r pre : List Ro) (n i : Nat), L = pre ++ r → n = tot pre → i = pre.length →
   LpB cf0 K0 b72_1 (t72_1 c L 0 0) 0 ⟨t72_1 c L n i, []⟩ = some (.exit 0, ⟨t72_1 c L (tot L) L.length, []⟩)
  | [], pre, n, i, hL, hn, hi => by
    rw [LpB_eq]
    have : L = pre := by simpa using hL
    subst this
    simp [b72_1, t72_1, hn, hi]
  | (xb, xs, xl) :: r, pre, n, i, hL, hn, hi => by
    have hll : i < L.length := by rw [hL, hi]; simp
    have hlt : (i : Int) < L.length := by omega
    have hget : L[i]? = some (xb, xs, xl) := by rw [hL, hi]; simp
    have hle : n + xl.length ≤ 2 ^ 40 := by
      have : tot L = tot pre + (xl.length + tot r) := by rw [hL]; simp [tot]
      omega
    have hw := IntWalk.i64_in ((n : Int) + xl.length) (by omega)
    have hw2 := IntWalk.i64_in ((i : Int) + 1) (by omega)
    have hneg : ¬ ((n : Int) + xl.length < 0) := by omega
    have ih := cat_len72 c L h hl r (pre ++ [(xb, xs, xl)]) (n + xl.length) (i + 1) (by rw [hL]; simp) (by rw [hn]; simp [tot]) (by simp [hi])
    rw [LpB_eq]
    simp only [t72_1] at ih ⊢
    conv => lhs; arg 6; simp [b72_1, hlt, hget, Ri.d, hw, hw2, hneg]
    simpa using ih
def t72_0 (c : Bool) (L : List Ro) (l : List Int) (i : Nat) : List D := [.slc c 1 (L.map Ri.d), .undef, nilS, .int .i64 (tot L), .undef, .undef, .sl 0 0 l.length l.length, .undef, .undef, .slc c 1 (L.map Ri.d), .int .i64 L.length, .int .i64 L.length,
  .undef, .undef, .undef, .undef, .undef, .undef, .undef, .undef, .undef, .undef, .undef, .int .i64 (tot L), .sl 0 0 0 0, .slc c 1 (L.map Ri.d), .int .i64 L.length, .int .i64 i, .undef, .undef, .undef, .undef, .undef, .undef, .undef, .undef]
set_option maxHeartbeats 2000000 in
theorem cat_all72 (c : Bool) (L : List Ro) (h : tot L ≤ 2 ^ 40) (hl : L.length ≤ 2 ^ 40) : ∀ (r pre : List Ro) (l : List Int) (i : Nat), L = pre ++ r → l = cat pre → i = pre.length →
   LpB cf0 K0 b72_0 (t72_0 c L [] 0) 1 ⟨t72_0 c L l i, [.row 1 (l.map (.int .i64)) 0]⟩ = some (.exit 2, ⟨t72_0 c L (cat L) L.length, [.row 1 ((cat L).map (.int .i64)) 0]⟩)
  | [], pre, n, i, hL, hn, hi => by
    rw [LpB_eq]
    have : L = pre := by simpa using hL
    subst this
    simp [b72_0, t72_0, hn, hi]
  | (xb, xs, xl) :: r, pre, l, i, hL, hn, hi => by
    have hll : i < L.length := by rw [hL, hi]; simp
    have hlt : (i : Int) < L.length := by omega
    have hget : L[i]? = some (xb, xs, xl) := by rw [hL, hi]; simp
    have hle : l.length + xl.length ≤ 2 ^ 40 := by
      have : tot L = tot pre + (xl.length + tot r) := by rw [hL]; simp [tot]
      rw [hn, cat_tot]
      omega
    have hw2 := IntWalk.i64_in ((i : Int) + 1) (by omega)
    have ih := cat_all72 c L h hl r (pre ++ [(xb, xs, xl)]) (l ++ xl) (i + 1) (by rw [hL]; simp) (by rw [hn]; simp [cat]) (by simp [hi])
    rw [LpB_eq]
    simp only [t72_0] at ih ⊢
    have hle2 : (l.length + xl.length) * 8 ≤ 70368744177664 := by omega
    by_cases hx : xl = []
    · subst hx
      have hle3 : l.length * 8 ≤ 70368744177664 := by simpa using hle2
      conv => lhs; arg 6; simp [b72_0, hlt, hget, Ri.d, hw2, hle3]
      simpa using ih
    · conv => lhs; arg 6; simp [b72_0, hlt, hget, Ri.d, hw2, hle2, hx]
      simpa using ih
set_option maxHeartbeats 2000000 in
/-- slices.Concat, of rows of bytes. -/
theorem K72 (c : Bool) (L : List Ro) (h : tot L ≤ 2 ^ 40) (hl : L.length ≤ 2 ^ 40) : K0 74 [.slc c 1 (L.map Ri.d)] [] = some (.slc false 1 ((cat L).map (.int .i64)), []) := by
  refine K_call k72 (oraG_none (by decide) (by decide)) (by simp [c72]) ?_
  have h1 := cat_len72 c L h hl L [] 0 0 rfl rfl rfl
  have h2 := cat_all72 c L h hl L [] [] 0 rfl rfl rfl
  have hg : K0 108 [nilS, .int .i64 (tot L)] [] = some (.sl 0 0 0 0, [.row 1 [] 0]) := by
    refine K_ora ?_
    have : (tot L : Int).toNat * 8 ≤ capBound := by unfold capBound; simp; omega
    exact if_pos (.inr ⟨rfl, by omega, this⟩)
  simp only [t72_1] at h1
  simp only [t72_0] at h2
  simp [c72]
  simp at h1 h2
  rw [h1]
  simp [hg]
  rw [h2]
  simp
end Go.Ab

/- THE FUNCTIONS' EQUATIONS: schema.Put. -/
set_option linter.all false
set_option maxRecDepth 100000
namespace Go.Ab
open Go.Proofs Go.Proofs.YtomomeabfnmncaaGreatH Go.Proofs.YtomomeabfnmncaaGreatH.Crc Go.Proofs.YtomomeabfnmncaaGreatH.Var Go.Proofs.YtomomeabfnmncaaGreatH.Fr Go.Proofs.YtomomeabfnmncaaGreatH.Rec
def b34_0 : C := (.seq (.reg none [⟨(some 23), none, (.bin .lss [] (.t 22) (.t 21))⟩]) (.seq (.cond (.t 23) .skip (.exit 0)) (.seq (.block 1 (.seq (.reg none [⟨(some 24), none, (.ia none 1 false (.t 20) (.t 22))⟩, ⟨(some 25), none, (.ld none (.t 24))⟩, ⟨(some 5), none, (.mv (.t 25))⟩]) (.reg none [⟨(some 26), none, (.mv (.t 3))⟩, ⟨(some 27), none, (.mv (.t 5))⟩, ⟨(some 28), none, (.cvt (.int .u64) (.t 27))⟩, ⟨(some 29), none, (.call (.f 71) [(.t 28)])⟩, ⟨(some 30), none, (.app 1 1 (.t 26) (.t 29))⟩, ⟨(some 3), none, (.mv (.t 30))⟩]))) (.reg none [⟨(some 31), none, (.bin .add [] (.t 22) (.k (.int .i64 1)))⟩, ⟨(some 22), none, (.mv (.t 31))⟩]))))
def c34 : Fn' := ⟨33, [(.tmp 2)], (.seq (.reg none [⟨(some 1), none, (.box false (.t 0))⟩, ⟨(some 2), none, (.mv (.k nilS))⟩]) (.seq (.reg none [⟨(some 3), none, .nilrow⟩]) (.seq (.seq (.reg none [⟨(some 6), none, (.fa 0 1 false (.t 1))⟩, ⟨(some 7), none, (.ld none (.t 6))⟩, ⟨(some 8), none, (.len 1 (.t 7))⟩, ⟨(some 9), none, (.bsl false 1 1 [(.int .i64 0)] [(0, (.t 8))])⟩, ⟨(some 10), none, (.fa 0 1 false (.t 1))⟩, ⟨(some 11), none, (.ld none (.t 10))⟩, ⟨(some 12), none, (.fa 1 1 false (.t 1))⟩, ⟨(some 13), none, (.ld none (.t 12))⟩, ⟨(some 14), none, (.fa 2 1 false (.t 1))⟩, ⟨(some 15), none, (.ld none (.t 14))⟩, ⟨(some 16), none, (.fa 3 1 false (.t 1))⟩, ⟨(some 17), none, (.ld none (.t 16))⟩, ⟨(some 18), none, (.bsl false 1 3 [(.int .i64 0)] [(0, (.t 13)), (1, (.t 15)), (2, (.t 17))])⟩, ⟨(some 19), none, (.bsl false 1 3 [nilS] [(0, (.t 9)), (1, (.t 11)), (2, (.t 18))])⟩, ⟨(some 20), none, (.call (.f 74) [(.t 19)])⟩, ⟨(some 21), none, (.len 1 (.t 20))⟩, ⟨(some 22), none, (.mv (.k (.int .i64 0)))⟩]) (.block 0 (.loop b34_0))) (.seq (.reg none [⟨(some 32), none, (.mv (.t 3))⟩, ⟨(some 2), none, (.mv (.t 32))⟩]) .ret))))⟩
theorem k34 : compF Tryz.prog 33 = some c34 := by kernel_rfl
attribute [local simp] op_or op_an op_add op_eql op_neq op_lss op_gtr op_leq op_geq op_sub op_mul
attribute [-simp] intOp bin_shl
def t34 (x : D) (n : Int) (k m g : Int) (L : List Int) (a i : Nat) : List D := [.agg [x, .int .i64 k, .int .i64 m, .int .i64 g], .ptr 0 0 0 0, nilS, .sl 1 0 a a, .undef, .undef, .ptr 0 0 0 0, x, .int .i64 n, .slc true 1 [.int .i64 n], .ptr 0 0 0 0, x, .ptr 0 0 1 0, .int .i64 k, .ptr 0 0 2 0, .int .i64 m, .ptr 0 0 3 0, .int .i64 g, .slc true 1 [.int .i64 k, .int .i64 m, .int .i64 g], .slc true 1 [.slc true 1 [.int .i64 n], x, .slc true 1 [.int .i64 k, .int .i64 m, .int .i64 g]], .slc false 1 (L.map (.int .i64)), .int .i64 L.length, .int .i64 i, .undef, .undef, .undef, .undef, .undef, .undef, .undef, .undef, .undef, .undef]
theorem allP_pos (x : Int) (t : List Int) : putAllI (x :: t) = putI x ++ putAllI t := rfl
set_option maxHeartbeats 4000000 in
theorem L34 (c : Bool) (s : Nat) (ts : List Int) (n k m g : Int) (L : List Int) (hL : L.length ≤ 2 ^ 31) : ∀ (t pre acc : List Int) (a i : Nat), L = pre ++ t → i = pre.length → a = acc.length → acc.length + 10 * t.length ≤ 2 ^ 40 → (∀ x ∈ t, 0 ≤ x ∧ x ≤ 9223372036854775807) →
    LpB cf0 K0 b34_0 (t34 (.slc c s (ts.map (.int .i64))) n k m g L 0 0) 2 ⟨t34 (.slc c s (ts.map (.int .i64))) n k m g L a i, [.box [.slc c s (ts.map (.int .i64)), .int .i64 k, .int .i64 m, .int .i64 g], rowB acc]⟩ =
    some (.exit 0, ⟨t34 (.slc c s (ts.map (.int .i64))) n k m g L (acc ++ putAllI t).length L.length, [.box [.slc c s (ts.map (.int .i64)), .int .i64 k, .int .i64 m, .int .i64 g], rowB (acc ++ putAllI t)]⟩)
  | [], pre, acc, a, i, h, hi, ha, hb, hx => by
    have : L = pre := by simpa using h
    subst this
    rw [LpB_eq]
    simp only [t34]
    conv => lhs; arg 6; simp [b34_0, hi]
    simp [hi, ha, putAllI, rowB]
  | x :: t, pre, acc, a, i, h, hi, ha, hb, hx => by
    have hx0 := hx x List.mem_cons_self
    have hll : i < L.length := by rw [h, hi]; simp
    have hlt : (i : Int) < L.length := by omega
    have hget : L[i]? = some x := by rw [h, hi]; simp
    have hw := w64 (i + 1) (by omega)
    have hwx : IntKind.u64.wrap x = x := by rw [IntKind.wrap_u64]; omega
    have hK := N66 x (by omega) (by omega)
    obtain ⟨p, hp⟩ : ∃ p, putI x = p := ⟨_, rfl⟩
    have hpl : p.length ≤ 10 := by rw [← hp]; exact putI_len10 _ (by omega)
    have hpn : ¬ p = [] := by
      intro e
      have := putI_pos x
      rw [hp, e] at this
      cases this
    rw [hp] at hK
    have ih := L34 c s ts n k m g L hL t (pre ++ [x]) (acc ++ p) (acc ++ p).length (i + 1) (by rw [h]; simp) (by simp [hi]) rfl (by simp at hb ⊢; omega) (fun y hy => hx y (List.mem_cons_of_mem _ hy))
    rw [allP_pos, hp, ← List.append_assoc]
    simp only [List.length_cons] at hb
    have b1 : acc.length + p.length ≤ 70368744177664 := by omega
    have b2 : p.length ≤ 70368744177664 := by omega
    rw [LpB_eq]
    simp only [t34, rowB] at ih ⊢
    by_cases hacc : acc = []
    · subst hacc
      subst ha
      conv => lhs; arg 6; simp [b34_0, hlt, hget, hw, hwx, hK, hpn, b2, List.take_of_length_le]
      simp [hpn] at ih ⊢
      exact ih
    · conv => lhs; arg 6; simp [b34_0, hlt, hget, hw, hwx, hK, hpn, hacc, ha, b1, List.take_of_length_le]
      simp [hpn, hacc] at ih ⊢
      exact ih
set_option maxHeartbeats 4000000 in
/-- schema.Put. -/
theorem K34 (c : Bool) (s : Nat) (ts : List Int) (k m g : Int) (hl : ts.length ≤ 2 ^ 30) (hpos : ∀ x ∈ ts ++ [k, m, g], 0 ≤ x ∧ x ≤ 9223372036854775807) :
    K0 33 [Sd c s ts k m g] [] = some (.slc false 1 ((putS ts k m g).map (.int .u8)), []) := by
  refine K_call k34 (oraG_none (by decide) (by decide)) (by simp [c34, Sd]) ?_
  have h1 := K72 true [(true, 1, [(ts.length : Int)]), (c, s, ts), (true, 1, [k, m, g])] (by simp [tot]; omega) (by simp)
  simp only [List.map_cons, List.map_nil, Ri.d, cat, List.flatten_cons, List.flatten_nil, List.append_nil] at h1
  obtain ⟨L, hL⟩ : ∃ L, [(ts.length : Int)] ++ (ts ++ [k, m, g]) = L := ⟨_, rfl⟩
  have hLl : L.length = ts.length + 4 := by rw [← hL]; simp
  rw [hL] at h1
  have h2 := L34 c s ts ts.length k m g L (by omega) L [] [] 0 0 rfl rfl rfl (by simp; omega) (by
    intro x hx
    rw [← hL] at hx
    rcases List.mem_append.1 hx with hx | hx
    · rw [List.mem_singleton.1 hx]; omega
    · exact hpos x hx)
  have e : putS ts k m g = putAllI L := by rw [← hL]; rfl
  rw [e]
  obtain ⟨q, hq⟩ : ∃ q, putAllI L = q := ⟨_, rfl⟩
  have hqn : ¬ q = [] := by
    intro e
    have h3 := putI_pos (ts.length : Int)
    rw [← hL, List.singleton_append, allP_pos, e] at hq
    rw [(List.append_eq_nil_iff.1 hq).1] at h3
    cases h3
  rw [hq] at h2 ⊢
  simp only [t34, rowB] at h2
  unfold Sd
  simp [c34]
  simp [hqn] at h2
  simp [h1]
  rw [h2]
  simp [hqn, List.take_of_length_le]
end Go.Ab
