/- THE FUNCTIONS' EQUATIONS: grain.Column, part.columns. -/
import Derived.Test.YtomomeabfnmncaaGreatBF255
import Derived.Test.YtomomeabfnmncaaGreatBF26
import Derived.Test.YtomomeabfnmncaaGreatBF53
set_option linter.all false
set_option maxRecDepth 100000
namespace Go.Ab
open Go.Proofs Go.Proofs.YtomomeabfnmncaaGreatH Go.Proofs.YtomomeabfnmncaaGreatH.Crc Go.Proofs.YtomomeabfnmncaaGreatH.Var Go.Proofs.YtomomeabfnmncaaGreatH.Fr
def b270_0 : C := (.seq (.reg none [⟨(some 11), none, (.bin .lss [] (.t 10) (.t 9))⟩]) (.seq (.cond (.t 11) .skip (.exit 0)) (.seq (.block 1 (.seq (.reg none [⟨(some 12), none, (.ia none 1 false (.t 8) (.t 10))⟩, ⟨(some 13), none, (.ld none (.t 12))⟩, ⟨(some 7), none, (.mv (.t 13))⟩]) (.seq (.seq (.reg none [⟨(some 14), none, (.mv (.t 1))⟩, ⟨(some 15), none, (.bin .lss [] (.t 14) (.k (.int .i64 0)))⟩, ⟨(some 16), none, (.mv (.t 15))⟩, ⟨(some 17), (some ((some 16), false)), (.mv (.t 1))⟩, ⟨(some 18), (some ((some 16), false)), (.mv (.t 7))⟩, ⟨(some 19), (some ((some 16), false)), (.len 1 (.t 18))⟩, ⟨(some 20), (some ((some 16), false)), (.bin .geq [] (.t 17) (.t 19))⟩, ⟨(some 21), none, (.pick (.t 16) (.k (.bool true)) (.t 20))⟩]) (.cond (.t 21) (.seq (.reg none [⟨(some 4), none, (.mv (.k nilS))⟩]) .ret) .skip)) (.reg none [⟨(some 22), none, (.mv (.t 5))⟩, ⟨(some 23), none, (.mv (.t 7))⟩, ⟨(some 24), none, (.mv (.t 1))⟩, ⟨(some 25), none, (.ia none 2 true (.t 23) (.t 24))⟩, ⟨(some 26), none, (.ld (some 2) (.t 25))⟩, ⟨(some 27), none, (.bsl false 2 1 [(.int .i64 0), (.str [])] [(0, (.t 26))])⟩, ⟨(some 28), none, (.app 2 24 (.t 22) (.t 27))⟩, ⟨(some 5), none, (.mv (.t 28))⟩])))) (.reg none [⟨(some 29), none, (.bin .add [] (.t 10) (.k (.int .i64 1)))⟩, ⟨(some 10), none, (.mv (.t 29))⟩]))))
def r270 : C := (.seq (.reg none [⟨(some 30), none, (.mv (.t 5))⟩, ⟨(some 4), none, (.mv (.t 30))⟩]) .ret)
def c270 : Fn' := ⟨31, [(.tmp 4)], (.seq (.reg none [⟨(some 4), none, (.mv (.k nilS))⟩]) (.seq (.reg none [⟨(some 5), none, .nilrow⟩]) (.seq (.seq (.reg none [⟨(some 8), none, (.mv (.t 0))⟩, ⟨(some 9), none, (.len 1 (.t 8))⟩, ⟨(some 10), none, (.mv (.k (.int .i64 0)))⟩]) (.block 0 (.loop b270_0))) r270)))⟩
theorem k270 : compF Tryz.prog 75 = some c270 := by kernel_rfl
def b259_0 : C := (.seq (.reg none [⟨(some 13), none, (.bin .lss [] (.t 12) (.t 11))⟩]) (.seq (.cond (.t 13) .skip (.exit 0)) (.seq (.block 1 (.seq (.reg none [⟨(some 14), none, (.mv (.t 12))⟩, ⟨(some 15), none, (.ia none 1 false (.t 10) (.t 12))⟩, ⟨(some 16), none, (.ld none (.t 15))⟩, ⟨(some 6), none, (.mv (.t 14))⟩, ⟨(some 7), none, (.mv (.t 16))⟩]) (.seq (.reg none [⟨(some 18), none, (.mv (.t 7))⟩, ⟨(some 19), none, (.mv (.t 1))⟩, ⟨(some 20), none, (.mv (.t 6))⟩, ⟨(some 21), none, (.call (.f 75) [(.t 19), (.t 20)])⟩, ⟨(some 22), none, (.call (.f 36) [(.t 18), (.t 21)])⟩, ⟨(some 17), none, (.mv (.t 22))⟩, ⟨(some 23), none, (.ext (.t 17) 0)⟩, ⟨(some 24), none, (.ext (.t 17) 1)⟩, ⟨(some 8), none, (.mv (.t 23))⟩, ⟨(some 9), none, (.mv (.t 24))⟩]) (.reg none [⟨(some 25), none, (.mv (.t 5))⟩, ⟨(some 26), none, (.mv (.t 8))⟩, ⟨(some 27), none, (.app 1 1 (.t 25) (.t 26))⟩, ⟨(some 5), none, (.mv (.t 27))⟩])))) (.reg none [⟨(some 28), none, (.bin .add [] (.t 12) (.k (.int .i64 1)))⟩, ⟨(some 12), none, (.mv (.t 28))⟩]))))
def r259 : C := (.seq (.reg none [⟨(some 29), none, (.mv (.t 5))⟩, ⟨(some 4), none, (.mv (.t 29))⟩]) .ret)
def c259 : Fn' := ⟨30, [(.tmp 4)], (.seq (.reg none [⟨(some 4), none, (.mv (.k nilS))⟩]) (.seq (.reg none [⟨(some 5), none, .nilrow⟩]) (.seq (.seq (.reg none [⟨(some 10), none, (.mv (.t 0))⟩, ⟨(some 11), none, (.len 1 (.t 10))⟩, ⟨(some 12), none, (.mv (.k (.int .i64 0)))⟩]) (.block 0 (.loop b259_0))) r259)))⟩
theorem k259 : compF Tryz.prog 35 = some c259 := by kernel_rfl
attribute [local simp] op_or op_an op_add op_sub op_mul oq_eql oq_neq oq_lss oq_gtr oq_leq oq_geq
attribute [-simp] intOp bin_shl bin_shr D.cells
/-- A column of rows. -/
def colR (k : Nat) (L : List Rw) : List Va := L.map fun x => x.r.getD k (0, [])
def rowVa (l : List Va) : Obj := .row (if l = [] then 0 else 2) (l.map Va.d) 0
def t270 (c : Bool) (L : List Rw) (k a i : Nat) : List D := [.slc c 1 (L.map Rw.d), .int .i64 k, .undef, .undef, nilS, .sl 0 0 a a, .undef, .undef, .slc c 1 (L.map Rw.d), .int .i64 L.length, .int .i64 i, .undef, .undef, .undef, .undef, .undef, .undef, .undef, .undef, .undef, .undef, .undef, .undef, .undef, .undef, .undef, .undef, .undef, .undef, .undef, .undef]
set_option maxHeartbeats 4000000 in
attribute [local simp high] cells_va in
theorem L270 (c : Bool) (L : List Rw) (k : Nat) (hk : ∀ x ∈ L, k < x.r.length) (hk2 : k ≤ 2 ^ 40) (hl : L.length ≤ 2 ^ 30) : ∀ (t pre : List Rw) (acc : List Va) (a i : Nat), L = pre ++ t → i = pre.length → a = acc.length → acc.length = i →
    LpB cf0 K0 b270_0 (t270 c L k 0 0) 1 ⟨t270 c L k a i, [rowVa acc]⟩ = some (.exit 0, ⟨t270 c L k (acc ++ colR k t).length L.length, [rowVa (acc ++ colR k t)]⟩)
  | [], pre, acc, a, i, h, hi, ha, hb => by
    have : L = pre := by simpa using h
    subst this
    have z1 : ltI (i : Int) L.length = false := ltI_f (by omega)
    rw [LpB_eq]
    simp only [t270, rowVa, colR, List.map_nil, List.append_nil]
    conv => lhs; arg 6; simp [b270_0, z1]
    simp [hi, ha]
  | x :: t, pre, acc, a, i, h, hi, ha, hb => by
    have hll : i < L.length := by rw [h, hi]; simp
    have z1 : ltI (i : Int) L.length = true := ltI_t (by omega)
    have hget : L[i]? = some x := by rw [h, hi]; simp
    have hgi : L[i]'hll = x := by rw [List.getElem?_eq_getElem hll] at hget; exact Option.some.inj hget
    have hw := w64 (i + 1) (by omega)
    have hkx := hk x (by rw [h]; simp)
    have hxs : x.s = 2 := x.h.resolve_right (by intro e; rw [e] at hkx; simp at hkx)
    have hv : x.r[k]'hkx = x.r.getD k (0, []) := by simp [List.getD_eq_getElem?_getD, hkx]
    have z2 : ltI (k : Int) 0 = false := ltI_f (by omega)
    have z3 : leI (x.r.length : Int) k = false := leI_f (by omega)
    have hb1 : (acc.length + 1) * 24 ≤ 70368744177664 := by omega
    have e : acc ++ colR k (x :: t) = acc ++ [x.r.getD k (0, [])] ++ colR k t := by simp [colR]
    rw [e]
    have ih := L270 c L k hk hk2 hl t (pre ++ [x]) (acc ++ [x.r.getD k (0, [])]) (acc ++ [x.r.getD k (0, [])]).length (i + 1) (by rw [h]; simp) (by simp [hi]) rfl (by simp [hb])
    obtain ⟨xc, xs, xr, xh⟩ := x
    simp only at hxs hkx hv z3 ih ⊢
    subst hxs
    generalize xr.getD k (0, []) = y at *
    obtain ⟨yn, ys⟩ := y
    generalize colR k t = M at *
    rw [LpB_eq]
    simp only [t270, rowVa, Va.d] at ih ⊢
    by_cases hacc : acc = []
    · subst hacc
      subst ha
      conv => lhs; arg 6; simp [b270_0, z1, z2, z3, hll, hgi, hw, Rw.d, hkx, hv, Va.d]
      simp [Va.d] at ih ⊢
      exact ih
    · conv => lhs; arg 6; simp [b270_0, z1, z2, z3, hll, hgi, hw, Rw.d, hkx, hv, Va.d, hacc, ha, hb1]
      simp [hacc, Va.d] at ih ⊢
      exact ih
set_option maxHeartbeats 4000000 in
/-- grain.Column. -/
theorem K270 (c : Bool) (s : Nat) (L : List Rw) (hs : s = 1 ∨ L = []) (k : Nat) (hk : ∀ x ∈ L, k < x.r.length) (hk2 : k ≤ 2 ^ 40) (hl : L.length ≤ 2 ^ 30) :
    ∃ c' s', (s' = 2 ∨ L = []) ∧ K0 75 [.slc c s (L.map Rw.d), .int .i64 k] [] = some (.slc c' s' ((colR k L).map Va.d), []) := by
  by_cases hn : L = []
  · subst hn
    have z1 : ltI 0 0 = false := rfl
    refine ⟨true, 0, .inr rfl, K_call k270 (oraG_none (by decide) (by decide)) (by simp [c270]) ?_⟩
    simp [c270]
    rw [LpB_eq]
    simp [b270_0, z1, r270, colR]
  · obtain rfl := hs.resolve_right hn
    have h := L270 c L k hk hk2 hl L [] [] 0 0 rfl rfl rfl rfl
    have hC : colR k L ≠ [] := by intro e; unfold colR at e; simp at e; exact hn e
    rw [List.nil_append] at h
    generalize colR k L = C at *
    refine ⟨false, 2, .inl rfl, K_call k270 (oraG_none (by decide) (by decide)) (by simp [c270]) ?_⟩
    simp only [t270, rowVa] at h
    simp [c270]
    simp [hC] at h
    rw [h]
    simp [r270, List.take_of_length_le]
/-- A column's block, if it may be one. -/
def blkO (t : Int) (l : List Va) : List Int := if blockOk t l then blockI t l else []
/-- The columns of rows, from one on, as blocks. -/
def colsI (L : List Rw) : Nat → List Int → List Int
  | _, [] => []
  | k, t :: ts => blkO t (colR k L) ++ colsI L (k + 1) ts
theorem blkO_len (t : Int) (l : List Va) : (blkO t l).length ≤ 200020 := by
  unfold blkO
  split
  · rename_i h
    obtain ⟨_, h2⟩ := Bool.and_eq_true_iff.1 h
    unfold blockOk at h
    simp only [Bool.and_eq_true, decide_eq_true_eq, List.all_eq_true] at h
    have := col_len t l (fun p hp => fits60 (h.2 p hp)) h.1.2
    have hp := putI_len10 ((t :: colI t l).length : Int) (by simp; omega)
    unfold blockI
    rw [frameI_len]
    simp only [List.length_cons] at hp ⊢
    omega
  · simp
def t259 (cu : Bool) (U : List Int) (c : Bool) (L : List Rw) (a i : Nat) : List D := [.slc cu 1 (U.map (.int .i64)), .slc c 1 (L.map Rw.d), .undef, .undef, nilS, .sl 0 0 a a, .undef, .undef, .undef, .undef, .slc cu 1 (U.map (.int .i64)), .int .i64 U.length, .int .i64 i, .undef, .undef, .undef, .undef, .undef, .undef, .undef, .undef, .undef, .undef, .undef, .undef, .undef, .undef, .undef, .undef, .undef]
def rowBy (l : List Int) : Obj := .row (if l = [] then 0 else 1) (l.map (.int .u8)) 0
set_option maxHeartbeats 4000000 in
theorem L259 (cu : Bool) (U : List Int) (hU : U.length ≤ 2 ^ 20) (hR : ∀ t ∈ U, i64R t) (c : Bool) (L : List Rw) (hn : L ≠ []) (hk : ∀ x ∈ L, U.length ≤ x.r.length) (hl : L.length ≤ 2 ^ 30) : ∀ (u pre : List Int) (acc : List Int) (a i : Nat), U = pre ++ u → i = pre.length → a = acc.length → acc.length ≤ 200020 * i →
    LpB cf0 K0 b259_0 (t259 cu U c L 0 0) 1 ⟨t259 cu U c L a i, [rowBy acc]⟩ = some (.exit 0, ⟨t259 cu U c L (acc ++ colsI L i u).length U.length, [rowBy (acc ++ colsI L i u)]⟩)
  | [], pre, acc, a, i, h, hi, ha, hb => by
    have : U = pre := by simpa using h
    subst this
    have z1 : ltI (i : Int) U.length = false := ltI_f (by omega)
    rw [LpB_eq]
    simp only [t259, rowBy, colsI, List.append_nil]
    conv => lhs; arg 6; simp [b259_0, z1]
    simp [hi, ha]
  | t :: u, pre, acc, a, i, h, hi, ha, hb => by
    have hll : i < U.length := by rw [h, hi]; simp
    have z1 : ltI (i : Int) U.length = true := ltI_t (by omega)
    have hget : U[i]? = some t := by rw [h, hi]; simp
    have hgi : U[i]'hll = t := by rw [List.getElem?_eq_getElem hll] at hget; exact Option.some.inj hget
    have hw := w64 (i + 1) (by omega)
    obtain ⟨c1, s1, hs1, hC⟩ := K270 c 1 L (.inl rfl) i (fun x hx => by have := hk x hx; omega) (by omega) hl
    have hP := K26 c1 s1 t (hR t (by rw [h]; simp)) (colR i L) (.inl (hs1.resolve_right hn)) (by unfold colR; simpa using hl)
    have hbl := blkO_len t (colR i L)
    have e : acc ++ colsI L i (t :: u) = acc ++ blkO t (colR i L) ++ colsI L (i + 1) u := by simp [colsI]
    have hq : (if blockOk t (colR i L) = true then [D.slc false 1 (List.map (D.int IntKind.u8) (blockI t (colR i L))), .bool true] else [nilS, .bool false]) = [.slc (!blockOk t (colR i L)) (if blockOk t (colR i L) then 1 else 0) ((blkO t (colR i L)).map (.int .u8)), .bool (blockOk t (colR i L))] := by
      unfold blkO
      cases blockOk t (colR i L) <;> rfl
    have hq2 : blockOk t (colR i L) = true ∨ blkO t (colR i L) = [] := by
      unfold blkO
      cases blockOk t (colR i L) <;> simp
    have ih := L259 cu U hU hR c L hn hk hl u (pre ++ [t]) (acc ++ blkO t (colR i L)) (acc ++ blkO t (colR i L)).length (i + 1) (by rw [h]; simp) (by simp [hi]) rfl (by simp; omega)
    rw [e]
    rw [hq] at hP
    clear hq e
    generalize blockOk t (colR i L) = ok at *
    generalize blkO t (colR i L) = B at *
    generalize colR i L = C at *
    generalize colsI L (i + 1) u = M at *
    have hb1 : acc.length + B.length ≤ 70368744177664 := by omega
    have hb2 : acc.length ≤ 70368744177664 := by omega
    have hb3 : B.length ≤ 70368744177664 := by omega
    rw [LpB_eq]
    simp only [t259, rowBy] at ih ⊢
    by_cases hB : B = []
    · subst hB
      rw [List.append_nil] at ih
      by_cases hacc : acc = []
      · subst hacc
        subst ha
        conv => lhs; arg 6; simp [b259_0, z1, hll, hgi, hw, hC, hP]
        simp at ih ⊢
        exact ih
      · conv => lhs; arg 6; simp [b259_0, z1, hll, hgi, hw, hC, hP, hacc, ha, hb2]
        simp [hacc] at ih ⊢
        exact ih
    · obtain rfl : ok = true := hq2.resolve_right hB
      by_cases hacc : acc = []
      · subst hacc
        subst ha
        conv => lhs; arg 6; simp [b259_0, z1, hll, hgi, hw, hC, hP, hB, hb1, hb3]
        simp [hB] at ih ⊢
        exact ih
      · conv => lhs; arg 6; simp [b259_0, z1, hll, hgi, hw, hC, hP, hB, hacc, ha, hb1]
        simp [hacc] at ih ⊢
        exact ih
set_option maxHeartbeats 4000000 in
/-- part.columns. -/
theorem K259 (cu : Bool) (su : Nat) (U : List Int) (hsu : su = 1 ∨ U = []) (hU : U.length ≤ 2 ^ 20) (hR : ∀ t ∈ U, i64R t) (c : Bool) (s : Nat) (L : List Rw) (hs : s = 1 ∨ L = []) (hn : L ≠ []) (hk : ∀ x ∈ L, U.length ≤ x.r.length) (hl : L.length ≤ 2 ^ 30) :
    ∃ c' s', (s' = 1 ∨ colsI L 0 U = []) ∧ K0 35 [.slc cu su (U.map (.int .i64)), .slc c s (L.map Rw.d)] [] = some (.slc c' s' ((colsI L 0 U).map (.int .u8)), []) := by
  by_cases hUn : U = []
  · subst hUn
    have z1 : ltI 0 0 = false := rfl
    refine ⟨true, 0, .inr rfl, K_call k259 (oraG_none (by decide) (by decide)) (by simp [c259]) ?_⟩
    simp [c259]
    rw [LpB_eq]
    simp [b259_0, z1, r259, colsI]
  · obtain rfl := hsu.resolve_right hUn
    obtain rfl := hs.resolve_right hn
    have h := L259 cu U hU hR c L hn hk hl U [] [] 0 0 rfl rfl rfl (by simp)
    rw [List.nil_append] at h
    generalize colsI L 0 U = C at *
    by_cases hC : C = []
    · subst hC
      refine ⟨true, 0, .inr rfl, K_call k259 (oraG_none (by decide) (by decide)) (by simp [c259]) ?_⟩
      simp only [t259, rowBy] at h
      simp [c259]
      simp at h
      rw [h]
      simp [r259]
    · refine ⟨false, 1, .inl rfl, K_call k259 (oraG_none (by decide) (by decide)) (by simp [c259]) ?_⟩
      simp only [t259, rowBy] at h
      simp [c259]
      simp [hC] at h
      rw [h]
      simp [r259, List.take_of_length_le]
end Go.Ab
/- THE FUNCTIONS' EQUATIONS: slices.Clone of a row, grain.Key, grain.Marks. -/
set_option linter.all false
set_option maxRecDepth 100000
namespace Go.Ab
open Go.Proofs Go.Proofs.YtomomeabfnmncaaGreatH
def b260_0 : C := (.seq (.reg none [⟨(some 13), none, (.bin .lss [] (.t 12) (.t 11))⟩]) (.seq (.cond (.t 13) .skip (.exit 0)) (.seq (.block 1 (.seq (.reg none [⟨(some 14), none, (.ia none 1 false (.t 10) (.t 12))⟩, ⟨(some 15), none, (.ld none (.t 14))⟩, ⟨(some 7), none, (.mv (.t 15))⟩]) (.reg (some [(1, 3), (1, 4)]) [⟨(some 16), none, (.mv (.t 5))⟩, ⟨(some 17), none, (.ld (some 4) (.t 2))⟩, ⟨(some 18), none, (.mv (.t 7))⟩, ⟨(some 19), none, (.ia none 1 false (.t 18) (.k (.int .i64 0)))⟩, ⟨(some 20), none, (.ld none (.t 19))⟩, ⟨(some 21), none, (.call (.f 86) [(.t 17), (.t 20)])⟩, ⟨(some 22), none, (.bsl false 1 1 [nilS] [(0, (.t 21))])⟩, ⟨(some 23), none, (.app 1 24 (.t 16) (.t 22))⟩, ⟨(some 5), none, (.mv (.t 23))⟩]))) (.reg none [⟨(some 24), none, (.bin .add [] (.t 12) (.k (.int .i64 1)))⟩, ⟨(some 12), none, (.mv (.t 24))⟩]))))
def r260 : C := (.seq (.reg none [⟨(some 25), none, (.mv (.t 5))⟩, ⟨(some 4), none, (.mv (.t 25))⟩]) .ret)
def c260 : Fn' := ⟨26, [(.tmp 4)], (.seq (.reg none [⟨(some 2), none, (.box false (.t 0))⟩, ⟨(some 4), none, (.mv (.k nilS))⟩]) (.seq (.reg none [⟨(some 5), none, .nilrow⟩]) (.seq (.seq (.reg none [⟨(some 8), none, (.ld (some 4) (.t 2))⟩, ⟨(some 9), none, (.mv (.t 1))⟩, ⟨(some 10), none, (.call (.f 34) [(.t 8), (.t 9)])⟩, ⟨(some 11), none, (.len 1 (.t 10))⟩, ⟨(some 12), none, (.mv (.k (.int .i64 0)))⟩]) (.block 0 (.loop b260_0))) r260)))⟩
theorem k260 : compF Tryz.prog 38 = some c260 := by kernel_rfl
def c263 : Fn' := ⟨8, [(.tmp 2)], (.seq (.reg none [⟨(some 2), none, .nilrow⟩]) (.seq (.seq (.reg none [⟨(some 3), none, (.mv (.t 0))⟩, ⟨(some 4), none, (.bin .eql [4] (.t 3) (.k nilS))⟩]) (.cond (.t 4) (.seq (.reg none [⟨(some 2), none, .nilrow⟩]) .ret) .skip)) (.seq (.reg none [⟨(some 5), none, (.bsl false 2 0 [(.int .i64 0), (.str [])] [])⟩, ⟨(some 6), none, (.mv (.t 0))⟩, ⟨(some 7), none, (.app 2 24 (.t 5) (.t 6))⟩, ⟨(some 2), none, (.mv (.t 7))⟩]) .ret)))⟩
theorem k263 : compF Tryz.prog 47 = some c263 := by kernel_rfl
def c271 : Fn' := ⟨10, [(.tmp 4)], (.seq (.reg none [⟨(some 2), none, (.box false (.t 0))⟩, ⟨(some 4), none, (.mv (.k nilS))⟩]) (.seq (.reg none [⟨(some 5), none, (.mv (.t 1))⟩, ⟨(some 6), none, (.fa 1 1 false (.t 2))⟩, ⟨(some 7), none, (.ld none (.t 6))⟩, ⟨(some 8), none, (.sub 1 2 (.t 5) none (some (.t 7)) none)⟩, ⟨(some 9), none, (.call (.f 47) [(.t 8)])⟩, ⟨(some 4), none, (.mv (.t 9))⟩]) .ret))⟩
theorem k271 : compF Tryz.prog 86 = some c271 := by kernel_rfl
attribute [local simp] op_or op_an op_add op_sub op_mul oq_eql oq_neq oq_lss oq_gtr oq_leq oq_geq
attribute [-simp] intOp bin_shl D.cells minD maxD minF maxF
set_option maxHeartbeats 4000000 in
/-- slices.Clone, of a row. -/
theorem K263 (c : Bool) (s : Nat) (l : List Va) (hs : s = 2 ∨ l = []) (hl : l.length ≤ 2 ^ 40) : K0 47 [.slc c s (l.map Va.d)] [] = some (.slc l.isEmpty 2 (l.map Va.d), []) := by
  cases l with
  | nil => exact K_ora (by simp [oraG, oraU])
  | cons x l =>
    obtain rfl := hs.resolve_right (by simp)
    refine K_call k263 (by simp [oraG, oraU]) (by simp [c263]) ?_
    have hl2 : (l.length + 1) * 24 ≤ 70368744177664 := by simp at hl; omega
    have e := cells_va l
    simp [c263, hl2, binD, Va.d, e]
set_option maxHeartbeats 4000000 in
/-- grain.Key. -/
theorem K271 (cc : Bool) (s : Nat) (ts : List Int) (k : Nat) (m g : Int) (x : Rw) (hk : 1 ≤ k ∧ k ≤ x.r.length) (hl : x.r.length ≤ 2 ^ 40) :
    K0 86 [Sd cc s ts k m g, x.d] [] = some (.slc false 2 ((x.r.take k).map Va.d), []) := by
  refine K_call k271 (oraG_none (by decide) (by decide)) (by simp [c271, Sd, Rw.d]) ?_
  obtain ⟨xc, xs, xr, xh⟩ := x
  simp only at hk hl
  obtain rfl := xh.resolve_right (by intro e; subst e; simp at hk; omega)
  obtain ⟨R, hR⟩ : ∃ R, xr.take k = R := ⟨_, rfl⟩
  have m1 : List.take k (xr.map Va.d) = R.map Va.d := by rw [← hR, List.map_take]
  have hRl : R.length = k := by rw [← hR, List.length_take]; omega
  have h := fun c => K263 c 2 R (.inl rfl) (by omega)
  have hne : R.isEmpty = false := by cases R with
    | nil => simp at hRl; omega
    | cons a l => rfl
  rw [hne] at h
  have b1 := hk.2
  have b2 : (k : Int) ≤ xr.length := by omega
  rw [hR]
  simp [c271, Sd, Rw.d, m1, b1, b2, h]
/-- A granule's mark. -/
def markR (k : Nat) (x : List Rw) : Rw := ⟨false, 2, ((x.head?.map Rw.r).getD []).take k, .inl rfl⟩
def rowR (acc : List Rw) : Obj := .row (if acc = [] then 0 else 1) (acc.map Rw.d) 0
def t260 (cc : Bool) (s : Nat) (ts : List Int) (k m g : Int) (c : Bool) (L : List Rw) (G : List (List Rw)) (a i : Nat) : List D := [.agg [.slc cc s (ts.map (.int .i64)), .int .i64 k, .int .i64 m, .int .i64 g], .slc c 1 (L.map Rw.d), .ptr 0 0 0 0, .undef, nilS, .sl 1 0 a a, .undef, .undef, .agg [.slc cc s (ts.map (.int .i64)), .int .i64 k, .int .i64 m, .int .i64 g], .slc c 1 (L.map Rw.d), .slc false 1 (G.map Gr), .int .i64 G.length, .int .i64 i, .undef, .undef, .undef, .undef, .undef, .undef, .undef, .undef, .undef, .undef, .undef, .undef, .undef]
set_option maxHeartbeats 8000000 in
attribute [local simp high] cells_rws in
theorem L260 (cc : Bool) (s : Nat) (ts : List Int) (k : Nat) (m g : Int) (c : Bool) (L : List Rw) (G : List (List Rw)) (hk : 1 ≤ k) (hG : ∀ x ∈ G, ∃ y ys, x = y :: ys ∧ k ≤ y.r.length ∧ y.r.length ≤ 2 ^ 40) (hl : G.length ≤ 2 ^ 30) : ∀ (t pre : List (List Rw)) (acc : List Rw) (a i : Nat), G = pre ++ t → i = pre.length → a = acc.length → acc.length = i →
    LpB cf0 K0 b260_0 (t260 cc s ts k m g c L G 0 0) 2 ⟨t260 cc s ts k m g c L G a i, [ScB cc s ts k m g, rowR acc]⟩ = some (.exit 0, ⟨t260 cc s ts k m g c L G (acc ++ t.map (markR k)).length G.length, [ScB cc s ts k m g, rowR (acc ++ t.map (markR k))]⟩)
  | [], pre, acc, a, i, h, hi, ha, hb => by
    have : G = pre := by simpa using h
    subst this
    have z1 : ltI (i : Int) G.length = false := ltI_f (by omega)
    rw [LpB_eq]
    simp only [t260, rowR, ScB, List.map_nil, List.append_nil]
    conv => lhs; arg 6; simp [b260_0, z1]
    simp [hi, ha]
  | x :: t, pre, acc, a, i, h, hi, ha, hb => by
    have hll : i < G.length := by rw [h, hi]; simp
    have z1 : ltI (i : Int) G.length = true := ltI_t (by omega)
    have hget : G[i]? = some x := by rw [h, hi]; simp
    have hgi : G[i]'hll = x := by rw [List.getElem?_eq_getElem hll] at hget; exact Option.some.inj hget
    have hw := w64 (i + 1) (by omega)
    have hb1 : (acc.length + 1) * 24 ≤ 70368744177664 := by omega
    obtain ⟨y, ys, rfl, hy, hy2⟩ := hG x (by rw [h]; simp)
    have hK := K271 cc s ts k m g y ⟨hk, hy⟩ hy2
    have e : acc ++ ((y :: ys) :: t).map (markR k) = acc ++ [markR k (y :: ys)] ++ t.map (markR k) := by simp
    rw [e]
    have ih := L260 cc s ts k m g c L G hk hG hl t (pre ++ [y :: ys]) (acc ++ [markR k (y :: ys)]) (acc ++ [markR k (y :: ys)]).length (i + 1) (by rw [h]; simp) (by simp [hi]) rfl (by simp [hb])
    have hM : (markR k (y :: ys)).d = .slc false 2 ((y.r.take k).map Va.d) := rfl
    have hM2 : D.slc false 2 (List.take k (List.map Va.d y.r)) = .slc false 2 ((y.r.take k).map Va.d) := by rw [List.map_take]
    generalize markR k (y :: ys) = M at *
    generalize t.map (markR k) = MM at *
    generalize y.r.take k = yk at *
    clear hy hy2 hG e
    obtain ⟨yc, ysd, yr, yh⟩ := y
    unfold Sd at hK
    rw [LpB_eq]
    simp only [t260, rowR, ScB, Rw.d] at ih hM hK ⊢
    by_cases hacc : acc = []
    · subst hacc
      subst ha
      conv => lhs; arg 6; simp [evOp, evM, wants, Ins.go, X.ev, iaM, ldM, binD, setD, applyW, Ek_ops_nil, allFree, free, callM, callP, callO, appM, b260_0, z1, hll, hgi, hw, Gr, Rw.d, hK]
      simp [Rw.d, hM] at ih ⊢
      exact ih
    · conv => lhs; arg 6; simp [evOp, evM, wants, Ins.go, X.ev, iaM, ldM, binD, setD, applyW, Ek_ops_nil, allFree, free, callM, callP, callO, appM, b260_0, z1, hll, hgi, hw, Gr, Rw.d, hK, hacc, ha, hb1]
      simp [hacc, Rw.d, hM] at ih ⊢
      exact ih
theorem split_mem (L : List Rw) (g : Nat) (hg : 1 ≤ g) : ∀ (n : Nat) (L : List Rw), L.length ≤ n → ∀ x ∈ splitI g L, (∃ y ys, x = y :: ys) ∧ ∀ y ∈ x, y ∈ L
  | _, [], _, x, hx => by simp [splitI_nil] at hx
  | 0, a :: l, h, x, hx => by simp at h
  | n + 1, a :: l, h, x, hx => by
    rw [splitI_cons g hg (a :: l) (by simp)] at hx
    rcases List.mem_cons.1 hx with rfl | hx
    · refine ⟨?_, fun y hy => List.mem_of_mem_take hy⟩
      obtain ⟨g', rfl⟩ : ∃ g', g = g' + 1 := ⟨g - 1, by omega⟩
      exact ⟨a, l.take g', by simp⟩
    · obtain ⟨h1, h2⟩ := split_mem L g hg n ((a :: l).drop g) (by simp at h ⊢; omega) x hx
      exact ⟨h1, fun y hy => List.mem_of_mem_drop (h2 y hy)⟩
set_option maxHeartbeats 8000000 in
/-- grain.Marks. -/
theorem K260 (cc : Bool) (s : Nat) (ts : List Int) (k : Nat) (m : Int) (g : Nat) (hg : 1 ≤ g ∧ g ≤ 64) (c : Bool) (s' : Nat) (L : List Rw) (hs' : s' = 1 ∨ L = []) (hL : L.length ≤ 2 ^ 30) (hn : L ≠ []) (hk : 1 ≤ k) (hr : ∀ y ∈ L, k ≤ y.r.length ∧ y.r.length ≤ 2 ^ 40) :
    K0 38 [Sd cc s ts k m g, .slc c s' (L.map Rw.d)] [] = some (.slc false 1 (((splitI g L).map (markR k)).map Rw.d), []) := by
  have hS := K258 cc s ts k m g hg c s' L hs' hL hn
  obtain rfl := hs'.resolve_right hn
  refine K_call k260 (oraG_none (by decide) (by decide)) (by simp [c260, Sd]) ?_
  have hR : splitI g L ≠ [] := by rw [splitI_cons g hg.1 L hn]; simp
  have h := L260 cc s ts k m g c L (splitI g L) hk (fun x hx => by
    obtain ⟨⟨y, ys, rfl⟩, h2⟩ := split_mem L g hg.1 L.length L (Nat.le_refl _) x hx
    exact ⟨y, ys, rfl, hr y (h2 y List.mem_cons_self)⟩) (by have := splitI_len g hg.1 L.length L (Nat.le_refl _); omega) (splitI g L) [] [] 0 0 rfl rfl rfl rfl
  rw [List.nil_append] at h
  generalize splitI g L = G at *
  have hM : G.map (markR k) ≠ [] := by intro e; exact hR (by simpa using e)
  generalize hMM : G.map (markR k) = M at *
  unfold Sd at hS
  simp only [t260, rowR, ScB] at h
  simp [c260, Sd, hS]
  simp [hM] at h
  rw [h]
  simp [r260, List.take_of_length_le]
end Go.Ab
