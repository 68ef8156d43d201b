/- THE FUNCTIONS' EQUATIONS: value.Fits, thresherref03.Fits, block.kind, slices.ContainsFunc of values. -/
import Derived.Test.YtomomeabfnmncaaGreatBBr
import Derived.Test.YtomomeabfnmncaaGreatBEq
set_option linter.all false
set_option maxRecDepth 100000
namespace Go.Ab
open Go.Proofs Go.Proofs.YtomomeabfnmncaaGreatH
def c31 : Fn' := ⟨23, [(.tmp 4)], (.seq (.reg none [⟨(some 3), none, (.box false (.t 1))⟩, ⟨(some 4), none, (.mv (.k (.bool false)))⟩]) (.seq (.seq (.reg none [⟨(some 5), none, (.mv (.t 0))⟩]) (.block 0 (.seq (.seq (.reg none [⟨(some 7), none, (.bin .eql [] (.t 5) (.k (.int .i64 1)))⟩, ⟨(some 6), none, (.mv (.t 7))⟩]) (.cond (.t 6) .skip (.reg none [⟨(some 8), none, (.bin .eql [] (.t 5) (.k (.int .i64 2)))⟩, ⟨(some 6), none, (.mv (.t 8))⟩]))) (.cond (.t 6) (.seq (.reg none [⟨(some 9), none, (.fa 1 1 false (.t 3))⟩, ⟨(some 10), none, (.ld none (.t 9))⟩, ⟨(some 11), none, (.bin .eql [] (.t 10) (.k (.str [])))⟩, ⟨(some 4), none, (.mv (.t 11))⟩]) .ret) (.seq (.reg none [⟨(some 13), none, (.bin .eql [] (.t 5) (.k (.int .i64 3)))⟩, ⟨(some 12), none, (.mv (.t 13))⟩]) (.cond (.t 12) (.seq (.reg none [⟨(some 14), none, (.fa 0 1 false (.t 3))⟩, ⟨(some 15), none, (.ld none (.t 14))⟩, ⟨(some 16), none, (.bin .eql [] (.t 15) (.k (.int .i64 0)))⟩, ⟨(some 17), none, (.mv (.t 16))⟩, ⟨(some 18), (some ((some 17), true)), (.fa 1 1 false (.t 3))⟩, ⟨(some 19), (some ((some 17), true)), (.ld none (.t 18))⟩, ⟨(some 20), (some ((some 17), true)), (.len 0 (.t 19))⟩, ⟨(some 21), (some ((some 17), true)), (.bin .leq [] (.t 20) (.k (.int .i64 60)))⟩, ⟨(some 22), none, (.pick (.t 17) (.t 21) (.k (.bool false)))⟩, ⟨(some 4), none, (.mv (.t 22))⟩]) .ret) .skip)))))) (.seq (.reg none [⟨(some 4), none, (.mv (.k (.bool false)))⟩]) .ret)))⟩
theorem k31 : compF Tryz.prog 93 = some c31 := by kernel_rfl
def c51 : Fn' := ⟨23, [(.tmp 4)], (.seq (.reg none [⟨(some 3), none, (.box false (.t 1))⟩, ⟨(some 4), none, (.mv (.k (.bool false)))⟩]) (.seq (.seq (.reg none [⟨(some 5), none, (.mv (.t 0))⟩]) (.block 0 (.seq (.seq (.reg none [⟨(some 7), none, (.bin .eql [] (.t 5) (.k (.int .i64 1)))⟩, ⟨(some 6), none, (.mv (.t 7))⟩]) (.cond (.t 6) .skip (.reg none [⟨(some 8), none, (.bin .eql [] (.t 5) (.k (.int .i64 2)))⟩, ⟨(some 6), none, (.mv (.t 8))⟩]))) (.cond (.t 6) (.seq (.reg none [⟨(some 9), none, (.fa 1 1 false (.t 3))⟩, ⟨(some 10), none, (.ld none (.t 9))⟩, ⟨(some 11), none, (.bin .eql [] (.t 10) (.k (.str [])))⟩, ⟨(some 4), none, (.mv (.t 11))⟩]) .ret) (.seq (.reg none [⟨(some 13), none, (.bin .eql [] (.t 5) (.k (.int .i64 3)))⟩, ⟨(some 12), none, (.mv (.t 13))⟩]) (.cond (.t 12) (.seq (.reg none [⟨(some 14), none, (.fa 0 1 false (.t 3))⟩, ⟨(some 15), none, (.ld none (.t 14))⟩, ⟨(some 16), none, (.bin .eql [] (.t 15) (.k (.int .i64 0)))⟩, ⟨(some 17), none, (.mv (.t 16))⟩, ⟨(some 18), (some ((some 17), true)), (.fa 1 1 false (.t 3))⟩, ⟨(some 19), (some ((some 17), true)), (.ld none (.t 18))⟩, ⟨(some 20), (some ((some 17), true)), (.len 0 (.t 19))⟩, ⟨(some 21), (some ((some 17), true)), (.bin .leq [] (.t 20) (.k (.int .i64 60)))⟩, ⟨(some 22), none, (.pick (.t 17) (.t 21) (.k (.bool false)))⟩, ⟨(some 4), none, (.mv (.t 22))⟩]) .ret) .skip)))))) (.seq (.reg none [⟨(some 4), none, (.mv (.k (.bool false)))⟩]) .ret)))⟩
theorem k51 : compF Tryz.prog 63 = some c51 := by kernel_rfl
def c52 : Fn' := ⟨9, [(.tmp 2)], (.seq (.reg none [⟨(some 2), none, (.mv (.k (.bool false)))⟩]) (.seq (.reg none [⟨(some 3), none, (.mv (.t 0))⟩, ⟨(some 4), none, (.bin .geq [] (.t 3) (.k (.int .i64 1)))⟩, ⟨(some 5), none, (.mv (.t 4))⟩, ⟨(some 6), (some ((some 5), true)), (.mv (.t 0))⟩, ⟨(some 7), (some ((some 5), true)), (.bin .leq [] (.t 6) (.k (.int .i64 3)))⟩, ⟨(some 8), none, (.pick (.t 5) (.t 7) (.k (.bool false)))⟩, ⟨(some 2), none, (.mv (.t 8))⟩]) .ret))⟩
theorem k52 : compF Tryz.prog 77 = some c52 := by kernel_rfl
def c50 : Fn' := ⟨8, [(.tmp 3)], (.seq (.reg none [⟨(some 2), none, (.box false (.t 0))⟩, ⟨(some 3), none, (.mv (.k (.bool false)))⟩]) (.seq (.reg none [⟨(some 4), none, (.ld none (.t 1))⟩, ⟨(some 5), none, (.ld (some 2) (.t 2))⟩, ⟨(some 6), none, (.call (.f 63) [(.t 4), (.t 5)])⟩, ⟨(some 7), none, (.un .not (.t 6))⟩, ⟨(some 3), none, (.mv (.t 7))⟩]) .ret))⟩
theorem k50 : compF Tryz.prog 76 = some c50 := by kernel_rfl
def b83_0 : C := (.seq (.reg none [⟨(some 9), none, (.bin .lss [] (.t 8) (.t 7))⟩]) (.seq (.cond (.t 9) .skip (.exit 0)) (.seq (.block 1 (.seq (.reg none [⟨(some 10), none, (.mv (.t 8))⟩, ⟨(some 5), none, (.mv (.t 10))⟩]) (.seq (.reg none [⟨(some 11), none, (.mv (.t 1))⟩, ⟨(some 12), none, (.mv (.t 0))⟩, ⟨(some 13), none, (.mv (.t 5))⟩, ⟨(some 14), none, (.ia none 2 true (.t 12) (.t 13))⟩, ⟨(some 15), none, (.ld (some 2) (.t 14))⟩, ⟨(some 16), none, (.call (.t 11) [(.t 15)])⟩]) (.cond (.t 16) (.seq (.reg none [⟨(some 17), none, (.mv (.t 5))⟩, ⟨(some 4), none, (.mv (.t 17))⟩]) .ret) .skip)))) (.reg none [⟨(some 18), none, (.bin .add [] (.t 8) (.k (.int .i64 1)))⟩, ⟨(some 8), none, (.mv (.t 18))⟩]))))
def c83 : Fn' := ⟨19, [(.tmp 4)], (.seq (.reg none [⟨(some 4), none, (.mv (.k (.int .i64 0)))⟩]) (.seq (.seq (.reg none [⟨(some 6), none, (.mv (.t 0))⟩, ⟨(some 7), none, (.len 1 (.t 6))⟩, ⟨(some 8), none, (.mv (.k (.int .i64 0)))⟩]) (.block 0 (.loop b83_0))) (.seq (.reg none [⟨(some 4), none, (.mv (.k (.int .i64 (-1))))⟩]) .ret)))⟩
theorem k83 : compF Tryz.prog 109 = some c83 := by kernel_rfl
def c53 : Fn' := ⟨9, [(.tmp 4)], (.seq (.reg none [⟨(some 4), none, (.mv (.k (.bool false)))⟩]) (.seq (.reg none [⟨(some 5), none, (.mv (.t 0))⟩, ⟨(some 6), none, (.mv (.t 1))⟩, ⟨(some 7), none, (.call (.f 109) [(.t 5), (.t 6)])⟩, ⟨(some 8), none, (.bin .geq [] (.t 7) (.k (.int .i64 0)))⟩, ⟨(some 4), none, (.mv (.t 8))⟩]) .ret))⟩
theorem k53 : compF Tryz.prog 78 = some c53 := by kernel_rfl
attribute [local simp] op_or op_an op_add op_sub op_mul oq_eql oq_neq oq_lss oq_gtr oq_leq oq_geq
attribute [-simp] intOp bin_shl
/-- A value: a number, a text. -/
abbrev Va := Int × List UInt8
def Va.d (p : Va) : D := .agg [.int .i64 p.1, .str p.2]
/-- Whether a value is of a type. -/
def fitsI (t : Int) (p : Va) : Bool := if eqI t 1 || eqI t 2 then p.2 == [] else if eqI t 3 then eqI p.1 0 && leI p.2.length 60 else false
set_option maxHeartbeats 2000000 in
theorem K31 (t : Int) (p : Va) : K0 93 [.int .i64 t, p.d] [] = some (.bool (fitsI t p), []) := by
  refine K_call k31 (oraG_none (by decide) (by decide)) (by simp [c31, Va.d]) ?_
  unfold fitsI Va.d
  obtain ⟨z1, hz1⟩ : ∃ z, eqI t 1 = z := ⟨_, rfl⟩
  obtain ⟨z2, hz2⟩ : ∃ z, eqI t 2 = z := ⟨_, rfl⟩
  obtain ⟨z3, hz3⟩ : ∃ z, eqI t 3 = z := ⟨_, rfl⟩
  obtain ⟨z4, hz4⟩ : ∃ z, eqI p.1 0 = z := ⟨_, rfl⟩
  rw [hz1, hz2, hz3, hz4]
  cases z1 <;> cases z2 <;> cases z3 <;> cases z4 <;> simp [c31, hz1, hz2, hz3, hz4]
set_option maxHeartbeats 2000000 in
theorem K51 (t : Int) (p : Va) : K0 63 [.int .i64 t, p.d] [] = some (.bool (fitsI t p), []) := by
  refine K_call k51 (oraG_none (by decide) (by decide)) (by simp [c51, Va.d]) ?_
  unfold fitsI Va.d
  obtain ⟨z1, hz1⟩ : ∃ z, eqI t 1 = z := ⟨_, rfl⟩
  obtain ⟨z2, hz2⟩ : ∃ z, eqI t 2 = z := ⟨_, rfl⟩
  obtain ⟨z3, hz3⟩ : ∃ z, eqI t 3 = z := ⟨_, rfl⟩
  obtain ⟨z4, hz4⟩ : ∃ z, eqI p.1 0 = z := ⟨_, rfl⟩
  rw [hz1, hz2, hz3, hz4]
  cases z1 <;> cases z2 <;> cases z3 <;> cases z4 <;> simp [c51, hz1, hz2, hz3, hz4]
def kindI (t : Int) : Bool := leI 1 t && leI t 3
set_option maxHeartbeats 2000000 in
theorem K52 (t : Int) : K0 77 [.int .i64 t] [] = some (.bool (kindI t), []) := by
  refine K_call k52 (oraG_none (by decide) (by decide)) (by simp [c52]) ?_
  unfold kindI
  cases h : leI 1 t <;> simp [c52, h]
set_option maxHeartbeats 2000000 in
theorem K50 (t : Int) (p : Va) : K0 76 [p.d, .ptr 0 0 0 0] [.box [.int .i64 t]] = some (.bool (!fitsI t p), [.box [.int .i64 t]]) := by
  refine K_call k50 (oraG_none (by decide) (by decide)) (by simp [c50, Va.d]) ?_
  have h := K51 t p
  unfold Va.d at h ⊢
  simp [c50, h]
/-- Rows of values. -/
abbrev Vs (c : Bool) (l : List Va) : D := .slc c 2 (l.map Va.d)
def t83 (c : Bool) (l : List Va) (f : Nat) (i : Nat) : List D := [Vs c l, .func f [] [.ptr 0 0 0 0], .undef, .undef, .int .i64 0, .undef, Vs c l, .int .i64 l.length, .int .i64 i, .undef, .undef, .undef, .undef, .undef, .undef, .undef, .undef, .undef, .undef]
def kn83 : List Kn := [.blk 0, .c ((C.reg none [⟨some 4, none, .mv (.k (.int .i64 (-1)))⟩]).seq C.ret)]
set_option maxHeartbeats 4000000 in
theorem L83 (c : Bool) (l : List Va) (f : Nat) (H : Obj) (hH : (match H with | .box [.int _ _] => true | _ => false) = true) (p : Va → Bool) (hf : ∀ x, K0 f [x.d, .ptr 0 0 0 0] [H] = some (.bool (p x), [H])) (hl : l.length ≤ 2 ^ 47) : ∀ (t pre : List Va) (i : Nat), l = pre ++ t → i = pre.length →
    finK false 1 [Rs.tmp 4] (loopK cf0 K0 (LpB cf0 K0 b83_0 (t83 c l f 0) 1 ⟨t83 c l f i, [H]⟩) kn83) = some (.int .i64 (if t.any p then ((i + t.findIdx p : Nat) : Int) else -1), [H])
  | [], pre, i, h, hi => by
    have : l = pre := by simpa using h
    subst this
    have z1 : ltI (i : Int) l.length = false := ltI_f (by omega)
    match H, hH with
    | .box [.int k n], _ =>
      rw [LpB_eq]
      simp [b83_0, t83, z1, kn83]
  | x :: t, pre, i, h, hi => by
    have hll : i < l.length := by rw [h, hi]; simp
    have z1 : ltI (i : Int) l.length = true := ltI_t (by omega)
    have hget : l[i]? = some x := by rw [h, hi]; simp
    have hgi : l[i]'hll = x := by rw [List.getElem?_eq_getElem hll] at hget; exact Option.some.inj hget
    have hw := w64 (i + 1) (by omega)
    have hfx := hf x
    have ih := L83 c l f H hH p hf hl t (pre ++ [x]) (i + 1) (by rw [h]; simp) (by simp [hi])
    have eT : p x = true → (if (x :: t).any p = true then ((i + (x :: t).findIdx p : Nat) : Int) else -1) = i := by intro hp; simp [hp, List.findIdx_cons]
    have eF : p x = false → (if (x :: t).any p = true then ((i + (x :: t).findIdx p : Nat) : Int) else -1) = if t.any p = true then ((i + 1 + t.findIdx p : Nat) : Int) else -1 := by
      intro hp
      have e1 : (x :: t).any p = t.any p := by rw [List.any_cons, hp, Bool.false_or]
      have e2 : (x :: t).findIdx p = t.findIdx p + 1 := by rw [List.findIdx_cons, hp]; rfl
      rw [e1, e2, show i + (t.findIdx p + 1) = i + 1 + t.findIdx p by omega]
    match H, hH with
    | .box [.int k n], _ =>
      rw [LpB_eq]
      cases hp : p x with
      | true =>
        rw [hp] at hfx
        rw [eT hp]
        obtain ⟨xn, xs⟩ := x
        simp only [t83, Va.d] at hfx ⊢
        conv => lhs; arg 4; arg 3; arg 6; simp [b83_0, z1, hll, hgi, hfx, Va.d, backK]
        simp [kn83]
      | false =>
        rw [hp] at hfx
        rw [eF hp]
        obtain ⟨xn, xs⟩ := x
        simp only [t83, Va.d] at ih hfx ⊢
        conv => lhs; arg 4; arg 3; arg 6; simp [b83_0, z1, hll, hgi, hfx, hw, Va.d, backK]
        simp at ih ⊢
        exact ih
set_option maxHeartbeats 2000000 in
/-- slices.ContainsFunc, of values: one that does not fit. -/
theorem K53 (c : Bool) (s : Nat) (l : List Va) (hs : s = 2 ∨ l = []) (t : Int) (hl : l.length ≤ 2 ^ 47) :
    K0 78 [.slc c s (l.map Va.d), .func 76 [] [.ptr 0 0 0 0]] [.box [.int .i64 t]] = some (.bool (l.any fun p => !fitsI t p), [.box [.int .i64 t]]) := by
  have hI : ∀ s, (s = 2 ∨ l = []) → K0 109 [.slc c s (l.map Va.d), .func 76 [] [.ptr 0 0 0 0]] [.box [.int .i64 t]] = some (.int .i64 (if (l.any fun p => !fitsI t p) = true then ((l.findIdx fun p => !fitsI t p : Nat) : Int) else -1), [.box [.int .i64 t]]) := by
    intro s hs
    refine K_call k83 (oraG_none (by decide) (by decide)) (by simp [c83]) ?_
    rcases hs with rfl | rfl
    · have h := L83 c l 76 (.box [.int .i64 t]) rfl (fun p => !fitsI t p) (K50 t) hl l [] 0 rfl rfl
      simp only [t83, kn83, Nat.zero_add] at h
      simp [c83]
      simp at h
      exact h
    · have z1 : ltI 0 0 = false := rfl
      simp [c83]
      rw [LpB_eq]
      simp [b83_0, z1]
  have h := hI s hs
  refine K_call k53 (oraG_none (by decide) (by decide)) (by simp [c53]) ?_
  cases ha : l.any fun p => !fitsI t p with
  | true =>
    rw [ha] at h
    simp only [if_true] at h
    have z : leI 0 ((l.findIdx fun p => !fitsI t p : Nat) : Int) = true := leI_t (by omega)
    simp [c53, h, z, backK]
  | false =>
    rw [ha] at h
    simp only [Bool.false_eq_true, if_false] at h
    have z : leI 0 (-1) = false := rfl
    simp [c53, h, z, backK]
end Go.Ab
/- CELLS of data, as simp's rules (texts that use them say: attribute [-simp] D.cells). -/
set_option linter.all false
namespace Go.Ab
@[simp] theorem cells_agg (l : List D) : (D.agg l).cells = l := rfl
@[simp] theorem cells_int (k : IntKind) (n : Int) : (D.int k n).cells = [.int k n] := rfl
@[simp] theorem cells_str (s : List UInt8) : (D.str s).cells = [.str s] := rfl
@[simp] theorem cells_bool (b : Bool) : (D.bool b).cells = [.bool b] := rfl
@[simp] theorem cells_slc (c : Bool) (s : Nat) (l : List D) : (D.slc c s l).cells = [.slc c s l] := rfl
@[simp] theorem cells_sl (g a n l : Nat) : (D.sl g a n l).cells = [.sl g a n l] := rfl
@[simp] theorem cells_ptr (g a n l : Nat) : (D.ptr g a n l).cells = [.ptr g a n l] := rfl
end Go.Ab
/- THE FUNCTIONS' EQUATIONS: block.each: texts, and numbers, of values. -/
set_option linter.all false
set_option maxRecDepth 100000
namespace Go.Ab
open Go.Proofs Go.Proofs.YtomomeabfnmncaaGreatH
def c56 : Fn' := ⟨5, [(.tmp 2)], (.seq (.reg none [⟨(some 1), none, (.box false (.t 0))⟩, ⟨(some 2), none, (.mv (.k (.str [])))⟩]) (.seq (.reg none [⟨(some 3), none, (.fa 1 1 false (.t 1))⟩, ⟨(some 4), none, (.ld none (.t 3))⟩, ⟨(some 2), none, (.mv (.t 4))⟩]) .ret))⟩
theorem k56 : compF Tryz.prog 81 = some c56 := by kernel_rfl
def c59 : Fn' := ⟨5, [(.tmp 2)], (.seq (.reg none [⟨(some 1), none, (.box false (.t 0))⟩, ⟨(some 2), none, (.mv (.k (.int .i64 0)))⟩]) (.seq (.reg none [⟨(some 3), none, (.fa 0 1 false (.t 1))⟩, ⟨(some 4), none, (.ld none (.t 3))⟩, ⟨(some 2), none, (.mv (.t 4))⟩]) .ret))⟩
theorem k59 : compF Tryz.prog 84 = some c59 := by kernel_rfl
def b55_0 : C := (.seq (.reg none [⟨(some 11), none, (.bin .lss [] (.t 10) (.t 9))⟩]) (.seq (.cond (.t 11) .skip (.exit 0)) (.seq (.block 1 (.seq (.reg none [⟨(some 12), none, (.ia none 2 true (.t 8) (.t 10))⟩, ⟨(some 13), none, (.ld (some 2) (.t 12))⟩, ⟨(some 7), none, (.alloc false [(.int .i64 0), (.str [])])⟩, ⟨none, none, (.st 2 (.t 7) (.t 13))⟩]) (.reg none [⟨(some 14), none, (.mv (.t 5))⟩, ⟨(some 15), none, (.mv (.t 1))⟩, ⟨(some 16), none, (.ld (some 2) (.t 7))⟩, ⟨(some 17), none, (.call (.t 15) [(.t 16)])⟩, ⟨(some 18), none, (.bsl false 1 1 [(.str [])] [(0, (.t 17))])⟩, ⟨(some 19), none, (.app 1 16 (.t 14) (.t 18))⟩, ⟨(some 5), none, (.mv (.t 19))⟩]))) (.reg none [⟨(some 20), none, (.bin .add [] (.t 10) (.k (.int .i64 1)))⟩, ⟨(some 10), none, (.mv (.t 20))⟩]))))
def c55 : Fn' := ⟨22, [(.tmp 4)], (.seq (.reg none [⟨(some 4), none, (.mv (.k nilS))⟩]) (.seq (.reg none [⟨(some 5), none, .nilrow⟩]) (.seq (.seq (.reg none [⟨(some 8), none, (.mv (.t 0))⟩, ⟨(some 9), none, (.len 1 (.t 8))⟩, ⟨(some 10), none, (.mv (.k (.int .i64 0)))⟩]) (.block 0 (.loop b55_0))) (.seq (.reg none [⟨(some 21), none, (.mv (.t 5))⟩, ⟨(some 4), none, (.mv (.t 21))⟩]) .ret))))⟩
theorem k55 : compF Tryz.prog 80 = some c55 := by kernel_rfl
def b58_0 : C := (.seq (.reg none [⟨(some 11), none, (.bin .lss [] (.t 10) (.t 9))⟩]) (.seq (.cond (.t 11) .skip (.exit 0)) (.seq (.block 1 (.seq (.reg none [⟨(some 12), none, (.ia none 2 true (.t 8) (.t 10))⟩, ⟨(some 13), none, (.ld (some 2) (.t 12))⟩, ⟨(some 7), none, (.alloc false [(.int .i64 0), (.str [])])⟩, ⟨none, none, (.st 2 (.t 7) (.t 13))⟩]) (.reg none [⟨(some 14), none, (.mv (.t 5))⟩, ⟨(some 15), none, (.mv (.t 1))⟩, ⟨(some 16), none, (.ld (some 2) (.t 7))⟩, ⟨(some 17), none, (.call (.t 15) [(.t 16)])⟩, ⟨(some 18), none, (.bsl false 1 1 [(.int .i64 0)] [(0, (.t 17))])⟩, ⟨(some 19), none, (.app 1 8 (.t 14) (.t 18))⟩, ⟨(some 5), none, (.mv (.t 19))⟩]))) (.reg none [⟨(some 20), none, (.bin .add [] (.t 10) (.k (.int .i64 1)))⟩, ⟨(some 10), none, (.mv (.t 20))⟩]))))
def c58 : Fn' := ⟨22, [(.tmp 4)], (.seq (.reg none [⟨(some 4), none, (.mv (.k nilS))⟩]) (.seq (.reg none [⟨(some 5), none, .nilrow⟩]) (.seq (.seq (.reg none [⟨(some 8), none, (.mv (.t 0))⟩, ⟨(some 9), none, (.len 1 (.t 8))⟩, ⟨(some 10), none, (.mv (.k (.int .i64 0)))⟩]) (.block 0 (.loop b58_0))) (.seq (.reg none [⟨(some 21), none, (.mv (.t 5))⟩, ⟨(some 4), none, (.mv (.t 21))⟩]) .ret))))⟩
theorem k58 : compF Tryz.prog 83 = some c58 := by kernel_rfl
attribute [local simp] op_or op_an op_add op_sub op_mul oq_eql oq_neq oq_lss oq_gtr oq_leq oq_geq
attribute [-simp] intOp bin_shl
theorem K56 (p : Va) : K0 81 [p.d] [] = some (.str p.2, []) := by
  refine K_call k56 (oraG_none (by decide) (by decide)) (by simp [c56, Va.d]) ?_
  simp [c56, Va.d]
theorem K59 (p : Va) : K0 84 [p.d] [] = some (.int .i64 p.1, []) := by
  refine K_call k59 (oraG_none (by decide) (by decide)) (by simp [c59, Va.d]) ?_
  simp [c59, Va.d]
def rowS (l : List D) : Obj := .row (if l = [] then 0 else 1) l 0
def t55 (c : Bool) (l : List Va) (f a i : Nat) : List D := [Vs c l, .func f [] [], .undef, .undef, nilS, .sl 0 0 a a, .undef, .undef, Vs c l, .int .i64 l.length, .int .i64 i, .undef, .undef, .undef, .undef, .undef, .undef, .undef, .undef, .undef, .undef, .undef]
set_option maxHeartbeats 4000000 in
theorem L55 (c : Bool) (l : List Va) (hl : l.length ≤ 2 ^ 30) : ∀ (t pre : List Va) (acc : List D) (a i : Nat), l = pre ++ t → i = pre.length → a = acc.length → acc.length = i →
    LpB cf0 K0 b55_0 (t55 c l 81 0 0) 1 ⟨t55 c l 81 a i, [rowS acc]⟩ = some (.exit 0, ⟨t55 c l 81 (acc ++ t.map fun p => D.str p.2).length l.length, [rowS (acc ++ t.map fun p => D.str p.2)]⟩)
  | [], pre, acc, a, i, h, hi, ha, hb => by
    have : l = pre := by simpa using h
    subst this
    have z1 : ltI (i : Int) l.length = false := ltI_f (by omega)
    rw [LpB_eq]
    simp only [t55, rowS]
    conv => lhs; arg 6; simp [b55_0, z1]
    simp [hi, ha]
  | (n, s) :: t, pre, acc, a, i, h, hi, ha, hb => by
    have hll : i < l.length := by rw [h, hi]; simp
    have z1 : ltI (i : Int) l.length = true := ltI_t (by omega)
    have hget : l[i]? = some (n, s) := by rw [h, hi]; simp
    have hgi : l[i]'hll = (n, s) := by rw [List.getElem?_eq_getElem hll] at hget; exact Option.some.inj hget
    have hw := w64 (i + 1) (by omega)
    have hf := K56 (n, s)
    have hb1 : (acc.length + 1) * 16 ≤ 70368744177664 := by omega
    have ih := L55 c l hl t (pre ++ [(n, s)]) (acc ++ [.str s]) (acc ++ [D.str s]).length (i + 1) (by rw [h]; simp) (by simp [hi]) rfl (by simp [hb])
    rw [show acc ++ ((n, s) :: t).map (fun p => D.str p.2) = acc ++ [.str s] ++ t.map (fun p => D.str p.2) by simp]
    rw [LpB_eq]
    simp only [t55, Va.d, rowS] at ih hf ⊢
    by_cases hacc : acc = []
    · subst hacc
      subst ha
      conv => lhs; arg 6; simp [b55_0, z1, hll, hgi, hf, hw, Va.d]
      simp at ih ⊢
      exact ih
    · conv => lhs; arg 6; simp [b55_0, z1, hll, hgi, hf, hw, Va.d, hacc, ha, hb1]
      simp [hacc] at ih ⊢
      exact ih
set_option maxHeartbeats 4000000 in
/-- The texts of values. -/
theorem K55 (c : Bool) (s : Nat) (l : List Va) (hs : s = 2 ∨ l = []) (hl : l.length ≤ 2 ^ 30) : ∃ c' s', (s' = 1 ∨ l = []) ∧ K0 80 [.slc c s (l.map Va.d), .func 81 [] []] [] = some (.slc c' s' (l.map fun p => D.str p.2), []) := by
  rcases hs with rfl | rfl
  · have h := L55 c l hl l [] [] 0 0 rfl rfl rfl rfl
    by_cases hn : l = []
    · subst hn
      have z1 : ltI 0 0 = false := rfl
      refine ⟨true, 0, .inr rfl, K_call k55 (oraG_none (by decide) (by decide)) (by simp [c55]) ?_⟩
      simp [c55]
      rw [LpB_eq]
      simp [b55_0, z1]
    · refine ⟨false, 1, .inl rfl, K_call k55 (oraG_none (by decide) (by decide)) (by simp [c55]) ?_⟩
      simp only [t55, rowS] at h
      simp [c55]
      simp [hn] at h
      rw [h]
      simp [hn, List.take_of_length_le]
  · have z1 : ltI 0 0 = false := rfl
    refine ⟨true, 0, .inr rfl, K_call k55 (oraG_none (by decide) (by decide)) (by simp [c55]) ?_⟩
    simp [c55]
    rw [LpB_eq]
    simp [b55_0, z1]
set_option maxHeartbeats 4000000 in
theorem L58 (c : Bool) (l : List Va) (hl : l.length ≤ 2 ^ 30) : ∀ (t pre : List Va) (acc : List D) (a i : Nat), l = pre ++ t → i = pre.length → a = acc.length → acc.length = i →
    LpB cf0 K0 b58_0 (t55 c l 84 0 0) 1 ⟨t55 c l 84 a i, [rowS acc]⟩ = some (.exit 0, ⟨t55 c l 84 (acc ++ t.map fun p => D.int .i64 p.1).length l.length, [rowS (acc ++ t.map fun p => D.int .i64 p.1)]⟩)
  | [], pre, acc, a, i, h, hi, ha, hb => by
    have : l = pre := by simpa using h
    subst this
    have z1 : ltI (i : Int) l.length = false := ltI_f (by omega)
    rw [LpB_eq]
    simp only [t55, rowS]
    conv => lhs; arg 6; simp [b58_0, z1]
    simp [hi, ha]
  | (n, s) :: t, pre, acc, a, i, h, hi, ha, hb => by
    have hll : i < l.length := by rw [h, hi]; simp
    have z1 : ltI (i : Int) l.length = true := ltI_t (by omega)
    have hget : l[i]? = some (n, s) := by rw [h, hi]; simp
    have hgi : l[i]'hll = (n, s) := by rw [List.getElem?_eq_getElem hll] at hget; exact Option.some.inj hget
    have hw := w64 (i + 1) (by omega)
    have hf := K59 (n, s)
    have hb1 : (acc.length + 1) * 8 ≤ 70368744177664 := by omega
    have ih := L58 c l hl t (pre ++ [(n, s)]) (acc ++ [.int .i64 n]) (acc ++ [D.int .i64 n]).length (i + 1) (by rw [h]; simp) (by simp [hi]) rfl (by simp [hb])
    rw [show acc ++ ((n, s) :: t).map (fun p => D.int .i64 p.1) = acc ++ [.int .i64 n] ++ t.map (fun p => D.int .i64 p.1) by simp]
    rw [LpB_eq]
    simp only [t55, Va.d, rowS] at ih hf ⊢
    by_cases hacc : acc = []
    · subst hacc
      subst ha
      conv => lhs; arg 6; simp [b58_0, z1, hll, hgi, hf, hw, Va.d]
      simp at ih ⊢
      exact ih
    · conv => lhs; arg 6; simp [b58_0, z1, hll, hgi, hf, hw, Va.d, hacc, ha, hb1]
      simp [hacc] at ih ⊢
      exact ih
set_option maxHeartbeats 4000000 in
/-- The numbers of values. -/
theorem K58 (c : Bool) (s : Nat) (l : List Va) (hs : s = 2 ∨ l = []) (hl : l.length ≤ 2 ^ 30) : ∃ c' s', (s' = 1 ∨ l = []) ∧ K0 83 [.slc c s (l.map Va.d), .func 84 [] []] [] = some (.slc c' s' (l.map fun p => D.int .i64 p.1), []) := by
  rcases hs with rfl | rfl
  · have h := L58 c l hl l [] [] 0 0 rfl rfl rfl rfl
    by_cases hn : l = []
    · subst hn
      have z1 : ltI 0 0 = false := rfl
      refine ⟨true, 0, .inr rfl, K_call k58 (oraG_none (by decide) (by decide)) (by simp [c58]) ?_⟩
      simp [c58]
      rw [LpB_eq]
      simp [b58_0, z1]
    · refine ⟨false, 1, .inl rfl, K_call k58 (oraG_none (by decide) (by decide)) (by simp [c58]) ?_⟩
      simp only [t55, rowS] at h
      simp [c58]
      simp [hn] at h
      rw [h]
      simp [hn, List.take_of_length_le]
  · have z1 : ltI 0 0 = false := rfl
    refine ⟨true, 0, .inr rfl, K_call k58 (oraG_none (by decide) (by decide)) (by simp [c58]) ?_⟩
    simp [c58]
    rw [LpB_eq]
    simp [b58_0, z1]
end Go.Ab
/- CELLS OF VALUES, as simp's rules (texts that use them say: attribute [-simp] D.cells). -/
set_option linter.all false
namespace Go.Ab
@[simp high] theorem cells_va (x : List Va) : ((List.map Va.d x).all fun e => e.cells.length == 2) = true := by
  simp only [List.all_eq_true, beq_iff_eq]
  intro e he
  obtain ⟨p, _, rfl⟩ := List.mem_map.1 he
  rfl
@[simp high] theorem cells_va1 (x : Va) : (Va.d x).cells.length = 2 := rfl
/-! Long lists: a place is found ahead of the general rule about what is within bounds, which works out the list's length (a second of the kernel's time each). -/
@[simp high] theorem get_0 {α : Type} (a : α) (l : List α) : (a :: l)[0]? = some a := rfl
@[simp high] theorem get_1 {α : Type} (a : α) (l : List α) (k : Nat) : (a :: l)[k + 1]? = l[k]? := rfl
@[simp high] theorem set_32 {α : Type} (a0 a1 a2 a3 a4 a5 a6 a7 a8 a9 a10 a11 a12 a13 a14 a15 a16 a17 a18 a19 a20 a21 a22 a23 a24 a25 a26 a27 a28 a29 a30 a31 : α) (l : List α) (k : Nat) (d : α) : (a0 :: a1 :: a2 :: a3 :: a4 :: a5 :: a6 :: a7 :: a8 :: a9 :: a10 :: a11 :: a12 :: a13 :: a14 :: a15 :: a16 :: a17 :: a18 :: a19 :: a20 :: a21 :: a22 :: a23 :: a24 :: a25 :: a26 :: a27 :: a28 :: a29 :: a30 :: a31 :: l).set (k + 32) d = a0 :: a1 :: a2 :: a3 :: a4 :: a5 :: a6 :: a7 :: a8 :: a9 :: a10 :: a11 :: a12 :: a13 :: a14 :: a15 :: a16 :: a17 :: a18 :: a19 :: a20 :: a21 :: a22 :: a23 :: a24 :: a25 :: a26 :: a27 :: a28 :: a29 :: a30 :: a31 :: l.set k d := rfl
@[simp high] theorem get_32 {α : Type} (a0 a1 a2 a3 a4 a5 a6 a7 a8 a9 a10 a11 a12 a13 a14 a15 a16 a17 a18 a19 a20 a21 a22 a23 a24 a25 a26 a27 a28 a29 a30 a31 : α) (l : List α) (k : Nat) : (a0 :: a1 :: a2 :: a3 :: a4 :: a5 :: a6 :: a7 :: a8 :: a9 :: a10 :: a11 :: a12 :: a13 :: a14 :: a15 :: a16 :: a17 :: a18 :: a19 :: a20 :: a21 :: a22 :: a23 :: a24 :: a25 :: a26 :: a27 :: a28 :: a29 :: a30 :: a31 :: l)[k + 32]? = l[k]? := rfl
@[simp high] theorem set_8 {α : Type} (a0 a1 a2 a3 a4 a5 a6 a7 : α) (l : List α) (k : Nat) (d : α) : (a0 :: a1 :: a2 :: a3 :: a4 :: a5 :: a6 :: a7 :: l).set (k + 8) d = a0 :: a1 :: a2 :: a3 :: a4 :: a5 :: a6 :: a7 :: l.set k d := rfl
@[simp high] theorem get_8 {α : Type} (a0 a1 a2 a3 a4 a5 a6 a7 : α) (l : List α) (k : Nat) : (a0 :: a1 :: a2 :: a3 :: a4 :: a5 :: a6 :: a7 :: l)[k + 8]? = l[k]? := rfl
end Go.Ab
