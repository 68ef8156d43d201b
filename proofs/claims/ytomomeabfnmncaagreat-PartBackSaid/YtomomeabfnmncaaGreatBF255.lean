/- THE FUNCTIONS' EQUATIONS: slices.EqualFunc of a schema's types and a row, schema.Row; slices.IndexFunc, ContainsFunc of rows. -/
import Derived.Test.YtomomeabfnmncaaGreatBF53
import Derived.Test.YtomomeabfnmncaaGreatBBr
import Derived.Test.YtomomeabfnmncaaGreatBF84
import Derived.Lib.Bytealg
set_option linter.all false
set_option maxRecDepth 100000
namespace Go.Ab
open Go.Proofs Go.Proofs.YtomomeabfnmncaaGreatH
def b265_0 : C := (.seq (.reg none [⟨(some 18), none, (.bin .lss [] (.t 17) (.t 16))⟩]) (.seq (.cond (.t 18) .skip (.exit 0)) (.seq (.block 1 (.seq (.reg none [⟨(some 19), none, (.mv (.t 17))⟩, ⟨(some 20), none, (.ia none 1 false (.t 15) (.t 17))⟩, ⟨(some 21), none, (.ld none (.t 20))⟩, ⟨(some 7), none, (.mv (.t 19))⟩, ⟨(some 8), none, (.mv (.t 21))⟩]) (.seq (.reg none [⟨(some 22), none, (.mv (.t 1))⟩, ⟨(some 23), none, (.mv (.t 7))⟩, ⟨(some 24), none, (.ia none 2 true (.t 22) (.t 23))⟩, ⟨(some 25), none, (.ld (some 2) (.t 24))⟩, ⟨(some 9), none, (.alloc false [(.int .i64 0), (.str [])])⟩, ⟨none, none, (.st 2 (.t 9) (.t 25))⟩]) (.seq (.reg none [⟨(some 26), none, (.mv (.t 2))⟩, ⟨(some 27), none, (.mv (.t 8))⟩, ⟨(some 28), none, (.ld (some 2) (.t 9))⟩, ⟨(some 29), none, (.call (.t 26) [(.t 27), (.t 28)])⟩, ⟨(some 30), none, (.un .not (.t 29))⟩]) (.cond (.t 30) (.seq (.reg none [⟨(some 6), none, (.mv (.k (.bool false)))⟩]) .ret) .skip))))) (.reg none [⟨(some 31), none, (.bin .add [] (.t 17) (.k (.int .i64 1)))⟩, ⟨(some 17), none, (.mv (.t 31))⟩]))))
def r265 : C := (.seq (.reg none [⟨(some 6), none, (.mv (.k (.bool true)))⟩]) .ret)
def c265 : Fn' := ⟨32, [(.tmp 6)], (.seq (.reg none [⟨(some 6), none, (.mv (.k (.bool false)))⟩]) (.seq (.seq (.reg none [⟨(some 10), none, (.mv (.t 0))⟩, ⟨(some 11), none, (.len 1 (.t 10))⟩, ⟨(some 12), none, (.mv (.t 1))⟩, ⟨(some 13), none, (.len 1 (.t 12))⟩, ⟨(some 14), none, (.bin .neq [] (.t 11) (.t 13))⟩]) (.cond (.t 14) (.seq (.reg none [⟨(some 6), none, (.mv (.k (.bool false)))⟩]) .ret) .skip)) (.seq (.seq (.reg none [⟨(some 15), none, (.mv (.t 0))⟩, ⟨(some 16), none, (.len 1 (.t 15))⟩, ⟨(some 17), none, (.mv (.k (.int .i64 0)))⟩]) (.block 0 (.loop b265_0))) r265)))⟩
theorem k265 : compF Tryz.prog 62 = some c265 := by kernel_rfl
def b266_0 : C := (.seq (.reg none [⟨(some 9), none, (.bin .lss [] (.t 8) (.t 7))⟩]) (.seq (.cond (.t 9) .skip (.exit 0)) (.seq (.block 1 (.seq (.reg none [⟨(some 10), none, (.mv (.t 8))⟩, ⟨(some 5), none, (.mv (.t 10))⟩]) (.seq (.reg none [⟨(some 11), none, (.mv (.t 1))⟩, ⟨(some 12), none, (.mv (.t 0))⟩, ⟨(some 13), none, (.mv (.t 5))⟩, ⟨(some 14), none, (.ia none 1 false (.t 12) (.t 13))⟩, ⟨(some 15), none, (.ld none (.t 14))⟩, ⟨(some 16), none, (.call (.t 11) [(.t 15)])⟩]) (.cond (.t 16) (.seq (.reg none [⟨(some 17), none, (.mv (.t 5))⟩, ⟨(some 4), none, (.mv (.t 17))⟩]) .ret) .skip)))) (.reg none [⟨(some 18), none, (.bin .add [] (.t 8) (.k (.int .i64 1)))⟩, ⟨(some 8), none, (.mv (.t 18))⟩]))))
def r266 : C := (.seq (.reg none [⟨(some 4), none, (.mv (.k (.int .i64 (-1))))⟩]) .ret)
def c266 : Fn' := ⟨19, [(.tmp 4)], (.seq (.reg none [⟨(some 4), none, (.mv (.k (.int .i64 0)))⟩]) (.seq (.seq (.reg none [⟨(some 6), none, (.mv (.t 0))⟩, ⟨(some 7), none, (.len 1 (.t 6))⟩, ⟨(some 8), none, (.mv (.k (.int .i64 0)))⟩]) (.block 0 (.loop b266_0))) r266))⟩
theorem k266 : compF Tryz.prog 67 = some c266 := by kernel_rfl
def c255 : Fn' := ⟨9, [(.tmp 4)], (.seq (.reg none [⟨(some 2), none, (.box false (.t 0))⟩, ⟨(some 4), none, (.mv (.k (.bool false)))⟩]) (.seq (.reg none [⟨(some 5), none, (.fa 0 1 false (.t 2))⟩, ⟨(some 6), none, (.ld none (.t 5))⟩, ⟨(some 7), none, (.mv (.t 1))⟩, ⟨(some 8), none, (.call (.f 62) [(.t 6), (.t 7), (.f 63)])⟩, ⟨(some 4), none, (.mv (.t 8))⟩]) .ret))⟩
theorem k255 : compF Tryz.prog 28 = some c255 := by kernel_rfl
def c254 : Fn' := ⟨8, [(.tmp 3)], (.seq (.reg none [⟨(some 3), none, (.mv (.k (.bool false)))⟩]) (.seq (.reg none [⟨(some 4), none, (.ld (some 4) (.t 1))⟩, ⟨(some 5), none, (.mv (.t 0))⟩, ⟨(some 6), none, (.call (.f 28) [(.t 4), (.t 5)])⟩, ⟨(some 7), none, (.un .not (.t 6))⟩, ⟨(some 3), none, (.mv (.t 7))⟩]) .ret))⟩
theorem k254 : compF Tryz.prog 27 = some c254 := by kernel_rfl
def c256 : Fn' := ⟨9, [(.tmp 4)], (.seq (.reg none [⟨(some 4), none, (.mv (.k (.bool false)))⟩]) (.seq (.reg none [⟨(some 5), none, (.mv (.t 0))⟩, ⟨(some 6), none, (.mv (.t 1))⟩, ⟨(some 7), none, (.call (.f 67) [(.t 5), (.t 6)])⟩, ⟨(some 8), none, (.bin .geq [] (.t 7) (.k (.int .i64 0)))⟩, ⟨(some 4), none, (.mv (.t 8))⟩]) .ret))⟩
theorem k256 : compF Tryz.prog 30 = some c256 := by kernel_rfl
attribute [local simp] op_or op_an op_add op_sub op_mul oq_eql oq_neq oq_lss oq_gtr oq_leq oq_geq
attribute [-simp] intOp bin_shl D.cells
/-- Whether a row may be. -/
def mayR : List Int → List Va → Bool
  | [], [] => true
  | t :: ts, p :: r => fitsI t p && mayR ts r
  | _, _ => false
theorem mayR_len : ∀ (ts : List Int) (r : List Va), mayR ts r = true → r.length = ts.length
  | [], [], _ => rfl
  | [], _ :: _, h => by cases h
  | _ :: _, [], h => by cases h
  | t :: ts, p :: r, h => by simp [mayR] at h; simp [mayR_len ts r h.2]
theorem mayR_ne : ∀ (ts : List Int) (r : List Va), ¬ ts.length = r.length → mayR ts r = false
  | ts, r, h => by
    cases hr : mayR ts r with
    | false => rfl
    | true => exact absurd (mayR_len ts r hr).symm h
def t265 (cu cr : Bool) (U : List Int) (R : List Va) (n i : Nat) : List D := [.slc cu 1 (U.map (.int .i64)), Vs cr R, .func 63 [] [], .undef, .undef, .undef, .bool false, .undef, .undef, .undef, .slc cu 1 (U.map (.int .i64)), .int .i64 n, Vs cr R, .int .i64 n, .bool false, .slc cu 1 (U.map (.int .i64)), .int .i64 n, .int .i64 i, .undef, .undef, .undef, .undef, .undef, .undef, .undef, .undef, .undef, .undef, .undef, .undef, .undef, .undef]
set_option maxHeartbeats 4000000 in
theorem L265 (cu cr : Bool) (U : List Int) (R : List Va) (n : Nat) (hU : U.length = n) (hR : R.length = n) (hn : n ≤ 2 ^ 47) : ∀ (u : List Int) (x : List Va) (pu : List Int) (pr : List Va) (i : Nat), U = pu ++ u → R = pr ++ x → i = pu.length → i = pr.length →
    finK false 0 [Rs.tmp 6] (loopK cf0 K0 (LpB cf0 K0 b265_0 (t265 cu cr U R n 0) 0 ⟨t265 cu cr U R n i, []⟩) [.blk 0, .c r265]) = some (.bool (mayR u x), []) := by
  intro u
  induction u with
  | nil =>
    intro x pu pr i h1 h2 h3 h4
    have e1 : U.length = i := by rw [h1]; simp [h3]
    obtain rfl : x = [] := by
      have : R.length = i + x.length := by rw [h2]; simp [h4]
      exact List.eq_nil_of_length_eq_zero (by omega)
    have z1 : ltI (i : Int) n = false := ltI_f (by omega)
    rw [LpB_eq]
    simp [t265, b265_0, z1, r265, mayR]
  | cons t u ih =>
    intro x pu pr i h1 h2 h3 h4
    match x with
    | [] =>
      exfalso
      have e1 : U.length = i + (u.length + 1) := by rw [h1]; simp [h3]
      have e2 : R.length = i := by rw [h2]; simp [h4]
      omega
    | p :: x =>
      have l0 : i < U.length := by rw [h1]; simp [h3]
      have l1 : i < R.length := by omega
      have z1 : ltI (i : Int) n = true := ltI_t (by omega)
      have g0 : U[i]'l0 = t := by
        have : U[i]? = some t := by rw [h1, h3]; simp
        rw [List.getElem?_eq_getElem l0] at this
        exact Option.some.inj this
      have g1 : R[i]'l1 = p := by
        have : R[i]? = some p := by rw [h2, h4]; simp
        rw [List.getElem?_eq_getElem l1] at this
        exact Option.some.inj this
      have hw := w64 (i + 1) (by omega)
      have hK := K51 t p
      have hih := ih x (pu ++ [t]) (pr ++ [p]) (i + 1) (by rw [h1]; simp) (by rw [h2]; simp) (by simp [h3]) (by simp [h4])
      rw [LpB_eq]
      obtain ⟨pn, ps⟩ := p
      simp only [mayR]
      simp only [t265, Vs, Va.d] at hK hih ⊢
      cases hf : fitsI t (pn, ps) with
      | true =>
        rw [hf] at hK
        conv => lhs; arg 4; arg 3; arg 6; simp [evOp, evM, wants, Ins.go, X.ev, iaM, ldM, binD, setD, applyW, Ek_ops_nil, allFree, free, callM, callP, callO, appM, b265_0, z1, l0, l1, g0, g1, hw, Va.d, hK]
        simp at hih ⊢
        exact hih
      | false =>
        rw [hf] at hK
        conv => lhs; arg 4; arg 3; arg 6; simp [evOp, evM, wants, Ins.go, X.ev, iaM, ldM, binD, setD, applyW, Ek_ops_nil, allFree, free, callM, callP, callO, appM, b265_0, z1, l0, l1, g0, g1, hw, Va.d, hK]
        simp
set_option maxHeartbeats 4000000 in
/-- slices.EqualFunc. -/
theorem K265 (c : Bool) (s : Nat) (ts : List Int) (hs : s = 1 ∨ ts = []) (cr : Bool) (sr : Nat) (r : List Va) (hr : sr = 2 ∨ r = []) (hl : ts.length ≤ 2 ^ 47) :
    K0 62 [.slc c s (ts.map (.int .i64)), .slc cr sr (r.map Va.d), .func 63 [] []] [] = some (.bool (mayR ts r), []) := by
  refine K_call k265 (oraG_none (by decide) (by decide)) (by simp [c265]) ?_
  by_cases he : ts.length = r.length
  · have z1 : neI (ts.length : Int) r.length = false := neI_f (by omega)
    by_cases hn : ts = []
    · subst hn
      obtain rfl : r = [] := List.eq_nil_of_length_eq_zero (by simpa using he.symm)
      have z2 : ltI 0 0 = false := rfl
      have z3 : neI 0 0 = false := rfl
      simp [c265, z3]
      rw [LpB_eq]
      simp [b265_0, z2, r265, mayR]
    · obtain rfl := hs.resolve_right hn
      obtain rfl := hr.resolve_right (by intro e; subst e; simp at he; exact hn he)
      have h := L265 c cr ts r ts.length rfl he.symm hl ts r [] [] 0 rfl rfl rfl rfl
      simp only [t265, Vs] at h
      rw [he] at h z1
      simp [c265, he, z1]
      simp at h
      exact h
  · have z1 : neI (ts.length : Int) r.length = true := neI_t (by omega)
    rw [mayR_ne ts r he]
    simp [c265, z1]
set_option maxHeartbeats 4000000 in
/-- schema.Row. -/
theorem K255 (c : Bool) (s : Nat) (ts : List Int) (hs : s = 1 ∨ ts = []) (k m g : Int) (cr : Bool) (sr : Nat) (r : List Va) (hr : sr = 2 ∨ r = []) (hl : ts.length ≤ 2 ^ 47) :
    K0 28 [Sd c s ts k m g, .slc cr sr (r.map Va.d)] [] = some (.bool (mayR ts r), []) := by
  refine K_call k255 (oraG_none (by decide) (by decide)) (by simp [c255, Sd]) ?_
  have h := K265 c s ts hs cr sr r hr hl
  simp [c255, Sd, h]
/-- A row as an element: its flags. -/
structure Rw where
  c : Bool
  s : Nat
  r : List Va
  h : s = 2 ∨ r = []
def Rw.d (x : Rw) : D := .slc x.c x.s (x.r.map Va.d)
theorem cells_rw (x : Rw) : x.d.cells = [x.d] := rfl
theorem cells_rws (l : List Rw) : ((List.map Rw.d l).all fun e => e.cells.length == 1) = true := by
  rw [List.all_eq_true]
  intro e he
  obtain ⟨x, _, rfl⟩ := List.mem_map.1 he
  rfl
set_option maxHeartbeats 4000000 in
/-- part.Write's odd. -/
theorem K254 (c : Bool) (s : Nat) (ts : List Int) (hs : s = 1 ∨ ts = []) (k m g : Int) (x : Rw) (hl : ts.length ≤ 2 ^ 47) :
    K0 27 [x.d, .ptr 0 0 0 0] [.box [.slc c s (ts.map (.int .i64)), .int .i64 k, .int .i64 m, .int .i64 g]] = some (.bool (!mayR ts x.r), [.box [.slc c s (ts.map (.int .i64)), .int .i64 k, .int .i64 m, .int .i64 g]]) := by
  refine K_call k254 (oraG_none (by decide) (by decide)) (by simp [c254, Rw.d]) ?_
  have h := K255 c s ts hs k m g x.c x.s x.r x.h hl
  unfold Sd at h
  unfold Rw.d
  simp [c254, h, backK]
def t266 (c : Bool) (l : List Rw) (f i : Nat) : List D := [.slc c 1 (l.map Rw.d), .func f [] [.ptr 0 0 0 0], .undef, .undef, .int .i64 0, .undef, .slc c 1 (l.map Rw.d), .int .i64 l.length, .int .i64 i, .undef, .undef, .undef, .undef, .undef, .undef, .undef, .undef, .undef, .undef]
set_option maxHeartbeats 4000000 in
theorem L266 (c : Bool) (l : List Rw) (f : Nat) (cc : Bool) (cs : Nat) (ts : List Int) (k m g : Int) (p : Rw → Bool)
    (hf : ∀ x, K0 f [x.d, .ptr 0 0 0 0] [.box [.slc cc cs (ts.map (.int .i64)), .int .i64 k, .int .i64 m, .int .i64 g]] = some (.bool (p x), [.box [.slc cc cs (ts.map (.int .i64)), .int .i64 k, .int .i64 m, .int .i64 g]])) (hl : l.length ≤ 2 ^ 47) : ∀ (t pre : List Rw) (i : Nat), l = pre ++ t → i = pre.length →
    finK false 1 [Rs.tmp 4] (loopK cf0 K0 (LpB cf0 K0 b266_0 (t266 c l f 0) 1 ⟨t266 c l f i, [.box [.slc cc cs (ts.map (.int .i64)), .int .i64 k, .int .i64 m, .int .i64 g]]⟩) [.blk 0, .c r266]) =
      some (.int .i64 (if t.any p then ((i + t.findIdx p : Nat) : Int) else -1), [.box [.slc cc cs (ts.map (.int .i64)), .int .i64 k, .int .i64 m, .int .i64 g]])
  | [], pre, i, h, hi => by
    have : l = pre := by simpa using h
    subst this
    have z1 : ltI (i : Int) l.length = false := ltI_f (by omega)
    rw [LpB_eq]
    simp [b266_0, t266, z1, r266]
  | x :: t, pre, i, h, hi => by
    have hll : i < l.length := by rw [h, hi]; simp
    have z1 : ltI (i : Int) l.length = true := ltI_t (by omega)
    have hget : l[i]? = some x := by rw [h, hi]; simp
    have hgi : l[i]'hll = x := by rw [List.getElem?_eq_getElem hll] at hget; exact Option.some.inj hget
    have hw := w64 (i + 1) (by omega)
    have hfx := hf x
    have ih := L266 c l f cc cs ts k m g p hf hl t (pre ++ [x]) (i + 1) (by rw [h]; simp) (by simp [hi])
    have eT : p x = true → (if (x :: t).any p = true then ((i + (x :: t).findIdx p : Nat) : Int) else -1) = i := by intro hp; simp [hp, List.findIdx_cons]
    have eF : p x = false → (if (x :: t).any p = true then ((i + (x :: t).findIdx p : Nat) : Int) else -1) = if t.any p = true then ((i + 1 + t.findIdx p : Nat) : Int) else -1 := by
      intro hp
      have e1 : (x :: t).any p = t.any p := by rw [List.any_cons, hp, Bool.false_or]
      have e2 : (x :: t).findIdx p = t.findIdx p + 1 := by rw [List.findIdx_cons, hp]; rfl
      rw [e1, e2, show i + (t.findIdx p + 1) = i + 1 + t.findIdx p by omega]
    rw [LpB_eq]
    cases hp : p x with
    | true =>
      rw [hp] at hfx
      rw [eT hp]
      simp only [t266, Rw.d] at hfx ⊢
      conv => lhs; arg 4; arg 3; arg 6; simp [b266_0, z1, hll, hgi, hfx, Rw.d, backK]
      simp
    | false =>
      rw [hp] at hfx
      rw [eF hp]
      simp only [t266, Rw.d] at ih hfx ⊢
      conv => lhs; arg 4; arg 3; arg 6; simp [b266_0, z1, hll, hgi, hfx, hw, Rw.d, backK]
      simp at ih ⊢
      exact ih
set_option maxHeartbeats 4000000 in
/-- slices.ContainsFunc, of rows: a function of a schema. -/
theorem K256 (c : Bool) (s : Nat) (l : List Rw) (hs : s = 1 ∨ l = []) (f : Nat) (cc : Bool) (cs : Nat) (ts : List Int) (k m g : Int) (p : Rw → Bool)
    (hf : ∀ x, K0 f [x.d, .ptr 0 0 0 0] [.box [.slc cc cs (ts.map (.int .i64)), .int .i64 k, .int .i64 m, .int .i64 g]] = some (.bool (p x), [.box [.slc cc cs (ts.map (.int .i64)), .int .i64 k, .int .i64 m, .int .i64 g]])) (hl : l.length ≤ 2 ^ 47) :
    K0 30 [.slc c s (l.map Rw.d), .func f [] [.ptr 0 0 0 0]] [.box [.slc cc cs (ts.map (.int .i64)), .int .i64 k, .int .i64 m, .int .i64 g]] = some (.bool (l.any p), [.box [.slc cc cs (ts.map (.int .i64)), .int .i64 k, .int .i64 m, .int .i64 g]]) := by
  have hI : K0 67 [.slc c s (l.map Rw.d), .func f [] [.ptr 0 0 0 0]] [.box [.slc cc cs (ts.map (.int .i64)), .int .i64 k, .int .i64 m, .int .i64 g]] = some (.int .i64 (if l.any p = true then ((l.findIdx p : Nat) : Int) else -1), [.box [.slc cc cs (ts.map (.int .i64)), .int .i64 k, .int .i64 m, .int .i64 g]]) := by
    refine K_call k266 (oraG_none (by decide) (by decide)) (by simp [c266]) ?_
    rcases hs with rfl | rfl
    · have h := L266 c l f cc cs ts k m g p hf hl l [] 0 rfl rfl
      simp only [t266, Nat.zero_add] at h
      simp [c266]
      simp at h
      exact h
    · have z1 : ltI 0 0 = false := rfl
      simp [c266]
      rw [LpB_eq]
      simp [b266_0, z1, r266]
  refine K_call k256 (oraG_none (by decide) (by decide)) (by simp [c256]) ?_
  cases ha : l.any p with
  | true =>
    rw [ha] at hI
    simp only [if_true] at hI
    have z : leI 0 ((l.findIdx p : Nat) : Int) = true := leI_t (by omega)
    simp [c256, hI, z, backK]
  | false =>
    rw [ha] at hI
    simp only [Bool.false_eq_true, if_false] at hI
    have z : leI 0 (-1) = false := rfl
    simp [c256, hI, z, backK]
end Go.Ab
/- THE FUNCTIONS' EQUATIONS: cmp.Compare, strings.Compare, value.Compare. -/
set_option linter.all false
set_option maxRecDepth 100000
namespace Go.Ab
open Go.Proofs Go.Proofs.YtomomeabfnmncaaGreatH
def c275 : Fn' := ⟨41, [(.tmp 6)], (.seq (.reg none [⟨(some 4), none, (.box false (.t 1))⟩, ⟨(some 5), none, (.box false (.t 2))⟩, ⟨(some 6), none, (.mv (.k (.int .i64 0)))⟩]) (.seq (.block 0 (.seq (.reg none [⟨(some 8), none, (.mv (.t 0))⟩, ⟨(some 9), none, (.ld (some 2) (.t 4))⟩, ⟨(some 10), none, (.call (.f 63) [(.t 8), (.t 9)])⟩, ⟨(some 11), none, (.un .not (.t 10))⟩, ⟨(some 12), none, (.mv (.t 11))⟩, ⟨(some 13), (some ((some 12), false)), (.mv (.t 0))⟩, ⟨(some 14), (some ((some 12), false)), (.ld (some 2) (.t 5))⟩, ⟨(some 15), (some ((some 12), false)), (.call (.f 63) [(.t 13), (.t 14)])⟩, ⟨(some 16), (some ((some 12), false)), (.un .not (.t 15))⟩, ⟨(some 17), none, (.pick (.t 12) (.k (.bool true)) (.t 16))⟩, ⟨(some 7), none, (.mv (.t 17))⟩]) (.cond (.t 7) (.seq (.reg none [⟨(some 6), none, (.mv (.k (.int .i64 0)))⟩]) .ret) (.seq (.reg none [⟨(some 19), none, (.mv (.t 0))⟩, ⟨(some 20), none, (.bin .eql [] (.t 19) (.k (.int .i64 3)))⟩, ⟨(some 18), none, (.mv (.t 20))⟩]) (.cond (.t 18) (.seq (.reg none [⟨(some 21), none, (.fa 1 1 false (.t 4))⟩, ⟨(some 22), none, (.ld none (.t 21))⟩, ⟨(some 23), none, (.fa 1 1 false (.t 5))⟩, ⟨(some 24), none, (.ld none (.t 23))⟩, ⟨(some 25), none, (.call (.f 123) [(.t 22), (.t 24)])⟩, ⟨(some 6), none, (.mv (.t 25))⟩]) .ret) (.seq (.reg none [⟨(some 27), none, (.mv (.t 0))⟩, ⟨(some 28), none, (.bin .eql [] (.t 27) (.k (.int .i64 2)))⟩, ⟨(some 26), none, (.mv (.t 28))⟩]) (.cond (.t 26) (.seq (.reg none [⟨(some 29), none, (.fa 0 1 false (.t 4))⟩, ⟨(some 30), none, (.ld none (.t 29))⟩, ⟨(some 31), none, (.cvt (.int .u64) (.t 30))⟩, ⟨(some 32), none, (.fa 0 1 false (.t 5))⟩, ⟨(some 33), none, (.ld none (.t 32))⟩, ⟨(some 34), none, (.cvt (.int .u64) (.t 33))⟩, ⟨(some 35), none, (.call (.f 124) [(.t 31), (.t 34)])⟩, ⟨(some 6), none, (.mv (.t 35))⟩]) .ret) .skip))))))) (.seq (.reg none [⟨(some 36), none, (.fa 0 1 false (.t 4))⟩, ⟨(some 37), none, (.ld none (.t 36))⟩, ⟨(some 38), none, (.fa 0 1 false (.t 5))⟩, ⟨(some 39), none, (.ld none (.t 38))⟩, ⟨(some 40), none, (.call (.f 125) [(.t 37), (.t 39)])⟩, ⟨(some 6), none, (.mv (.t 40))⟩]) .ret)))⟩
theorem k275 : compF Tryz.prog 106 = some c275 := by kernel_rfl
def c278 : Fn' := ⟨20, [(.tmp 4)], (.seq (.reg none [⟨(some 4), none, (.mv (.k (.int .i64 0)))⟩]) (.seq (.reg none [⟨(some 7), none, (.mv (.t 0))⟩, ⟨(some 8), none, (.call (.f 133) [(.t 7)])⟩, ⟨(some 5), none, (.mv (.t 8))⟩]) (.seq (.reg none [⟨(some 9), none, (.mv (.t 1))⟩, ⟨(some 10), none, (.call (.f 133) [(.t 9)])⟩, ⟨(some 6), none, (.mv (.t 10))⟩]) (.seq (.seq (.reg none [⟨(some 11), none, (.mv (.t 5))⟩]) (.cond (.t 11) (.seq (.seq (.reg none [⟨(some 12), none, (.mv (.t 6))⟩]) (.cond (.t 12) (.seq (.reg none [⟨(some 4), none, (.mv (.k (.int .i64 0)))⟩]) .ret) .skip)) (.seq (.reg none [⟨(some 4), none, (.mv (.k (.int .i64 (-1))))⟩]) .ret)) .skip)) (.seq (.seq (.reg none [⟨(some 13), none, (.mv (.t 6))⟩]) (.cond (.t 13) (.seq (.reg none [⟨(some 4), none, (.mv (.k (.int .i64 1)))⟩]) .ret) .skip)) (.seq (.seq (.reg none [⟨(some 14), none, (.mv (.t 0))⟩, ⟨(some 15), none, (.mv (.t 1))⟩, ⟨(some 16), none, (.bin .lss [] (.t 14) (.t 15))⟩]) (.cond (.t 16) (.seq (.reg none [⟨(some 4), none, (.mv (.k (.int .i64 (-1))))⟩]) .ret) .skip)) (.seq (.seq (.reg none [⟨(some 17), none, (.mv (.t 0))⟩, ⟨(some 18), none, (.mv (.t 1))⟩, ⟨(some 19), none, (.bin .gtr [] (.t 17) (.t 18))⟩]) (.cond (.t 19) (.seq (.reg none [⟨(some 4), none, (.mv (.k (.int .i64 1)))⟩]) .ret) .skip)) (.seq (.reg none [⟨(some 4), none, (.mv (.k (.int .i64 0)))⟩]) .ret))))))))⟩
theorem k278 : compF Tryz.prog 124 = some c278 := by kernel_rfl
def c279 : Fn' := ⟨20, [(.tmp 4)], (.seq (.reg none [⟨(some 4), none, (.mv (.k (.int .i64 0)))⟩]) (.seq (.reg none [⟨(some 7), none, (.mv (.t 0))⟩, ⟨(some 8), none, (.call (.f 134) [(.t 7)])⟩, ⟨(some 5), none, (.mv (.t 8))⟩]) (.seq (.reg none [⟨(some 9), none, (.mv (.t 1))⟩, ⟨(some 10), none, (.call (.f 134) [(.t 9)])⟩, ⟨(some 6), none, (.mv (.t 10))⟩]) (.seq (.seq (.reg none [⟨(some 11), none, (.mv (.t 5))⟩]) (.cond (.t 11) (.seq (.seq (.reg none [⟨(some 12), none, (.mv (.t 6))⟩]) (.cond (.t 12) (.seq (.reg none [⟨(some 4), none, (.mv (.k (.int .i64 0)))⟩]) .ret) .skip)) (.seq (.reg none [⟨(some 4), none, (.mv (.k (.int .i64 (-1))))⟩]) .ret)) .skip)) (.seq (.seq (.reg none [⟨(some 13), none, (.mv (.t 6))⟩]) (.cond (.t 13) (.seq (.reg none [⟨(some 4), none, (.mv (.k (.int .i64 1)))⟩]) .ret) .skip)) (.seq (.seq (.reg none [⟨(some 14), none, (.mv (.t 0))⟩, ⟨(some 15), none, (.mv (.t 1))⟩, ⟨(some 16), none, (.bin .lss [] (.t 14) (.t 15))⟩]) (.cond (.t 16) (.seq (.reg none [⟨(some 4), none, (.mv (.k (.int .i64 (-1))))⟩]) .ret) .skip)) (.seq (.seq (.reg none [⟨(some 17), none, (.mv (.t 0))⟩, ⟨(some 18), none, (.mv (.t 1))⟩, ⟨(some 19), none, (.bin .gtr [] (.t 17) (.t 18))⟩]) (.cond (.t 19) (.seq (.reg none [⟨(some 4), none, (.mv (.k (.int .i64 1)))⟩]) .ret) .skip)) (.seq (.reg none [⟨(some 4), none, (.mv (.k (.int .i64 0)))⟩]) .ret))))))))⟩
theorem k279 : compF Tryz.prog 125 = some c279 := by kernel_rfl
def c281 : Fn' := ⟨6, [(.tmp 2)], (.seq (.reg none [⟨(some 2), none, (.mv (.k (.bool false)))⟩]) (.seq (.reg none [⟨(some 3), none, (.mv (.t 0))⟩, ⟨(some 4), none, (.mv (.t 0))⟩, ⟨(some 5), none, (.bin .neq [] (.t 3) (.t 4))⟩, ⟨(some 2), none, (.mv (.t 5))⟩]) .ret))⟩
theorem k281 : compF Tryz.prog 133 = some c281 := by kernel_rfl
def c282 : Fn' := ⟨6, [(.tmp 2)], (.seq (.reg none [⟨(some 2), none, (.mv (.k (.bool false)))⟩]) (.seq (.reg none [⟨(some 3), none, (.mv (.t 0))⟩, ⟨(some 4), none, (.mv (.t 0))⟩, ⟨(some 5), none, (.bin .neq [] (.t 3) (.t 4))⟩, ⟨(some 2), none, (.mv (.t 5))⟩]) .ret))⟩
theorem k282 : compF Tryz.prog 134 = some c282 := by kernel_rfl
attribute [local simp] op_or op_an op_add op_sub op_mul oq_eql oq_neq oq_lss oq_gtr oq_leq oq_geq
attribute [-simp] intOp bin_shl D.cells
theorem bin_neB (a b : Bool) : binD .neq [3] (.bool a) (.bool b) = some (.bool (a != b)) := by cases a <;> cases b <;> rfl
theorem bin_eqB (a b : Bool) : binD .eql [3] (.bool a) (.bool b) = some (.bool (a == b)) := by cases a <;> cases b <;> rfl
attribute [simp] bin_neB bin_eqB
/-- The order of two numbers. -/
def cmpZ (a b : Int) : Int := if ltI a b then -1 else if ltI b a then 1 else 0
theorem neI_self (a : Int) : neI a a = false := neI_f rfl
set_option maxHeartbeats 2000000 in
theorem K281 (a : Int) : K0 133 [.int .u64 a] [] = some (.bool false, []) := by
  refine K_call k281 (oraG_none (by decide) (by decide)) (by simp [c281]) ?_
  simp [c281, neI_self]
set_option maxHeartbeats 2000000 in
theorem K282 (a : Int) : K0 134 [.int .i64 a] [] = some (.bool false, []) := by
  refine K_call k282 (oraG_none (by decide) (by decide)) (by simp [c282]) ?_
  simp [c282, neI_self]
set_option maxHeartbeats 2000000 in
theorem K278 (a b : Int) : K0 124 [.int .u64 a, .int .u64 b] [] = some (.int .i64 (cmpZ a b), []) := by
  refine K_call k278 (oraG_none (by decide) (by decide)) (by simp [c278]) ?_
  have h1 := K281 a
  have h2 := K281 b
  unfold cmpZ
  cases z1 : ltI a b <;> cases z2 : ltI b a <;> simp [c278, h1, h2, z1, z2]
set_option maxHeartbeats 2000000 in
theorem K279 (a b : Int) : K0 125 [.int .i64 a, .int .i64 b] [] = some (.int .i64 (cmpZ a b), []) := by
  refine K_call k279 (oraG_none (by decide) (by decide)) (by simp [c279]) ?_
  have h1 := K282 a
  have h2 := K282 b
  unfold cmpZ
  cases z1 : ltI a b <;> cases z2 : ltI b a <;> simp [c279, h1, h2, z1, z2]
/-- strings.Compare, by the oracle. -/
theorem K277 (a b : List UInt8) : K0 123 [.str a, .str b] [] = some (.int .i64 (Lib.compareBytes a b), []) := K_ora (by
  unfold oraG
  split
  · rename_i h _; cases h
  · rename_i h _; cases h
  · rfl)
/-- The order of two values of a type. -/
def vcmp (t : Int) (p q : Va) : Int := if !fitsI t p || !fitsI t q then 0 else if eqI t 3 then Lib.compareBytes p.2 q.2 else if eqI t 2 then cmpZ (IntKind.u64.wrap p.1) (IntKind.u64.wrap q.1) else cmpZ p.1 q.1
set_option maxHeartbeats 4000000 in
theorem K275 (t : Int) (p q : Va) : K0 106 [.int .i64 t, p.d, q.d] [] = some (.int .i64 (vcmp t p q), []) := by
  refine K_call k275 (oraG_none (by decide) (by decide)) (by simp [c275, Va.d]) ?_
  have h1 := K51 t p
  have h2 := K51 t q
  have h3 := K277 p.2 q.2
  have h4 := K278 (IntKind.u64.wrap p.1) (IntKind.u64.wrap q.1)
  have h5 := K279 p.1 q.1
  unfold vcmp
  unfold Va.d at h1 h2 ⊢
  obtain ⟨z1, hz1⟩ : ∃ z, fitsI t p = z := ⟨_, rfl⟩
  obtain ⟨z2, hz2⟩ : ∃ z, fitsI t q = z := ⟨_, rfl⟩
  obtain ⟨z3, hz3⟩ : ∃ z, eqI t 3 = z := ⟨_, rfl⟩
  obtain ⟨z4, hz4⟩ : ∃ z, eqI t 2 = z := ⟨_, rfl⟩
  rw [hz1] at h1
  rw [hz2] at h2
  rw [hz1, hz2, hz3, hz4]
  cases z1
  · simp [c275, h1]
  cases z2
  · simp [c275, h1, h2]
  cases z3
  · cases z4
    · simp [c275, h1, h2, hz3, hz4, h5]
    · simp [c275, h1, h2, hz3, hz4, h4]
  · simp [c275, h1, h2, hz3, h3]
end Go.Ab
/- THE FUNCTIONS' EQUATIONS: thresherref03: texts, both, Compare. -/
set_option linter.all false
set_option maxRecDepth 100000
namespace Go.Ab
open Go.Proofs Go.Proofs.YtomomeabfnmncaaGreatH
def b274_0 : C := (.seq (.seq (.reg none [⟨(some 6), none, (.mv (.t 5))⟩, ⟨(some 7), none, (.mv (.t 0))⟩, ⟨(some 8), none, (.len 0 (.t 7))⟩, ⟨(some 9), none, (.bin .lss [] (.t 6) (.t 8))⟩, ⟨(some 10), none, (.mv (.t 9))⟩, ⟨(some 11), (some ((some 10), true)), (.mv (.t 5))⟩, ⟨(some 12), (some ((some 10), true)), (.mv (.t 1))⟩, ⟨(some 13), (some ((some 10), true)), (.len 0 (.t 12))⟩, ⟨(some 14), (some ((some 10), true)), (.bin .lss [] (.t 11) (.t 13))⟩, ⟨(some 15), none, (.pick (.t 10) (.t 14) (.k (.bool false)))⟩]) (.cond (.t 15) .skip (.exit 0))) (.seq (.block 1 (.seq (.seq (.reg (some []) [⟨(some 18), none, (.mv (.t 0))⟩, ⟨(some 19), none, (.mv (.t 5))⟩, ⟨(some 20), none, (.ix 0 0 1 false (.t 18) (.t 19))⟩, ⟨(some 21), none, (.mv (.t 1))⟩, ⟨(some 22), none, (.mv (.t 5))⟩, ⟨(some 23), none, (.ix 0 0 1 false (.t 21) (.t 22))⟩, ⟨(some 24), none, (.bin .lss [] (.t 20) (.t 23))⟩]) (.cond (.t 24) (.seq (.reg none [⟨(some 4), none, (.mv (.k (.int .i64 (-1))))⟩]) .ret) .skip)) (.seq (.reg (some []) [⟨(some 25), none, (.mv (.t 0))⟩, ⟨(some 26), none, (.mv (.t 5))⟩, ⟨(some 27), none, (.ix 0 0 1 false (.t 25) (.t 26))⟩, ⟨(some 28), none, (.mv (.t 1))⟩, ⟨(some 29), none, (.mv (.t 5))⟩, ⟨(some 30), none, (.ix 0 0 1 false (.t 28) (.t 29))⟩, ⟨(some 31), none, (.bin .gtr [] (.t 27) (.t 30))⟩]) (.cond (.t 31) (.seq (.reg none [⟨(some 4), none, (.mv (.k (.int .i64 1)))⟩]) .ret) .skip)))) (.reg none [⟨(some 16), none, (.mv (.t 5))⟩, ⟨(some 17), none, (.bin .add [] (.t 16) (.k (.int .i64 1)))⟩, ⟨(some 5), none, (.mv (.t 17))⟩])))
def r274 : C := (.seq (.seq (.reg none [⟨(some 32), none, (.mv (.t 0))⟩, ⟨(some 33), none, (.len 0 (.t 32))⟩, ⟨(some 34), none, (.mv (.t 1))⟩, ⟨(some 35), none, (.len 0 (.t 34))⟩, ⟨(some 36), none, (.bin .lss [] (.t 33) (.t 35))⟩]) (.cond (.t 36) (.seq (.reg none [⟨(some 4), none, (.mv (.k (.int .i64 (-1))))⟩]) .ret) .skip)) (.seq (.seq (.reg none [⟨(some 37), none, (.mv (.t 0))⟩, ⟨(some 38), none, (.len 0 (.t 37))⟩, ⟨(some 39), none, (.mv (.t 1))⟩, ⟨(some 40), none, (.len 0 (.t 39))⟩, ⟨(some 41), none, (.bin .gtr [] (.t 38) (.t 40))⟩]) (.cond (.t 41) (.seq (.reg none [⟨(some 4), none, (.mv (.k (.int .i64 1)))⟩]) .ret) .skip)) (.seq (.reg none [⟨(some 4), none, (.mv (.k (.int .i64 0)))⟩]) .ret)))
def c274 : Fn' := ⟨42, [(.tmp 4)], (.seq (.reg none [⟨(some 4), none, (.mv (.k (.int .i64 0)))⟩]) (.seq (.seq (.reg none [⟨(some 5), none, (.mv (.k (.int .i64 0)))⟩]) (.block 0 (.loop b274_0))) r274))⟩
theorem k274 : compF Tryz.prog 92 = some c274 := by kernel_rfl
def c273 : Fn' := ⟨19, [(.tmp 6)], (.seq (.reg none [⟨(some 4), none, (.box false (.t 1))⟩, ⟨(some 5), none, (.box false (.t 2))⟩, ⟨(some 6), none, (.mv (.k (.bool false)))⟩]) (.seq (.reg none [⟨(some 9), none, (.mv (.t 0))⟩, ⟨(some 10), none, (.ld (some 2) (.t 4))⟩, ⟨(some 11), none, (.call (.f 93) [(.t 9), (.t 10)])⟩, ⟨(some 7), none, (.mv (.t 11))⟩]) (.seq (.reg none [⟨(some 12), none, (.mv (.t 0))⟩, ⟨(some 13), none, (.ld (some 2) (.t 5))⟩, ⟨(some 14), none, (.call (.f 93) [(.t 12), (.t 13)])⟩, ⟨(some 8), none, (.mv (.t 14))⟩]) (.seq (.reg none [⟨(some 15), none, (.mv (.t 7))⟩, ⟨(some 16), none, (.mv (.t 15))⟩, ⟨(some 17), (some ((some 16), true)), (.mv (.t 8))⟩, ⟨(some 18), none, (.pick (.t 16) (.t 17) (.k (.bool false)))⟩, ⟨(some 6), none, (.mv (.t 18))⟩]) .ret))))⟩
theorem k273 : compF Tryz.prog 91 = some c273 := by kernel_rfl
def c264 : Fn' := ⟨51, [(.tmp 6)], (.seq (.reg none [⟨(some 4), none, (.box false (.t 1))⟩, ⟨(some 5), none, (.box false (.t 2))⟩, ⟨(some 6), none, (.mv (.k (.int .i64 0)))⟩]) (.seq (.reg none [⟨(some 10), none, (.mv (.t 0))⟩, ⟨(some 11), none, (.ld (some 2) (.t 4))⟩, ⟨(some 12), none, (.ld (some 2) (.t 5))⟩, ⟨(some 13), none, (.call (.f 91) [(.t 10), (.t 11), (.t 12)])⟩, ⟨(some 7), none, (.mv (.t 13))⟩]) (.seq (.seq (.reg none [⟨(some 14), none, (.mv (.t 7))⟩, ⟨(some 15), none, (.un .not (.t 14))⟩]) (.cond (.t 15) (.seq (.reg none [⟨(some 6), none, (.mv (.k (.int .i64 0)))⟩]) .ret) .skip)) (.seq (.reg none [⟨(some 16), none, (.fa 0 1 false (.t 4))⟩, ⟨(some 17), none, (.ld none (.t 16))⟩, ⟨(some 18), none, (.fa 0 1 false (.t 5))⟩, ⟨(some 19), none, (.ld none (.t 18))⟩, ⟨(some 20), none, (.bin .lss [] (.t 17) (.t 19))⟩, ⟨(some 8), none, (.mv (.t 20))⟩]) (.seq (.reg none [⟨(some 21), none, (.fa 0 1 false (.t 4))⟩, ⟨(some 22), none, (.ld none (.t 21))⟩, ⟨(some 23), none, (.fa 0 1 false (.t 5))⟩, ⟨(some 24), none, (.ld none (.t 23))⟩, ⟨(some 25), none, (.bin .gtr [] (.t 22) (.t 24))⟩, ⟨(some 9), none, (.mv (.t 25))⟩]) (.seq (.seq (.reg none [⟨(some 26), none, (.mv (.t 0))⟩]) (.block 0 (.seq (.reg none [⟨(some 28), none, (.bin .eql [] (.t 26) (.k (.int .i64 2)))⟩, ⟨(some 27), none, (.mv (.t 28))⟩]) (.cond (.t 27) (.seq (.reg none [⟨(some 29), none, (.fa 0 1 false (.t 4))⟩, ⟨(some 30), none, (.ld none (.t 29))⟩, ⟨(some 31), none, (.bin .lss [] (.t 30) (.k (.int .i64 0)))⟩, ⟨(some 32), none, (.fa 0 1 false (.t 5))⟩, ⟨(some 33), none, (.ld none (.t 32))⟩, ⟨(some 34), none, (.bin .lss [] (.t 33) (.k (.int .i64 0)))⟩, ⟨(some 35), none, (.bin .neq [3] (.t 31) (.t 34))⟩]) (.cond (.t 35) (.seq (.reg none [⟨(some 36), none, (.fa 0 1 false (.t 5))⟩, ⟨(some 37), none, (.ld none (.t 36))⟩, ⟨(some 38), none, (.bin .lss [] (.t 37) (.k (.int .i64 0)))⟩, ⟨(some 8), none, (.mv (.t 38))⟩]) (.reg none [⟨(some 39), none, (.fa 0 1 false (.t 4))⟩, ⟨(some 40), none, (.ld none (.t 39))⟩, ⟨(some 41), none, (.bin .lss [] (.t 40) (.k (.int .i64 0)))⟩, ⟨(some 9), none, (.mv (.t 41))⟩])) .skip)) (.seq (.reg none [⟨(some 43), none, (.bin .eql [] (.t 26) (.k (.int .i64 3)))⟩, ⟨(some 42), none, (.mv (.t 43))⟩]) (.cond (.t 42) (.seq (.reg none [⟨(some 44), none, (.fa 1 1 false (.t 4))⟩, ⟨(some 45), none, (.ld none (.t 44))⟩, ⟨(some 46), none, (.fa 1 1 false (.t 5))⟩, ⟨(some 47), none, (.ld none (.t 46))⟩, ⟨(some 48), none, (.call (.f 92) [(.t 45), (.t 47)])⟩, ⟨(some 6), none, (.mv (.t 48))⟩]) .ret) .skip)))))) (.seq (.seq (.reg none [⟨(some 49), none, (.mv (.t 8))⟩]) (.cond (.t 49) (.seq (.reg none [⟨(some 6), none, (.mv (.k (.int .i64 (-1))))⟩]) .ret) .skip)) (.seq (.seq (.reg none [⟨(some 50), none, (.mv (.t 9))⟩]) (.cond (.t 50) (.seq (.reg none [⟨(some 6), none, (.mv (.k (.int .i64 1)))⟩]) .ret) .skip)) (.seq (.reg none [⟨(some 6), none, (.mv (.k (.int .i64 0)))⟩]) .ret)))))))))⟩
theorem k264 : compF Tryz.prog 48 = some c264 := by kernel_rfl
attribute [local simp] op_or op_an op_add op_sub op_mul oq_eql oq_neq oq_lss oq_gtr oq_leq oq_geq
attribute [-simp] intOp bin_shl D.cells
def t274 (a b : List UInt8) (i : Nat) : List D := [.str a, .str b, .undef, .undef, .int .i64 0, .int .i64 i, .undef, .undef, .undef, .undef, .undef, .undef, .undef, .undef, .undef, .undef, .undef, .undef, .undef, .undef, .undef, .undef, .undef, .undef, .undef, .undef, .undef, .undef, .undef, .undef, .undef, .undef, .undef, .undef, .undef, .undef, .undef, .undef, .undef, .undef, .undef, .undef]
theorem u8lt (x y : UInt8) : ltI (x.toNat : Int) y.toNat = decide (x < y) := by
  by_cases h : x < y
  · rw [ltI_t (by have := UInt8.lt_iff_toNat_lt.1 h; omega)]; simp [h]
  · rw [ltI_f (fun h2 => h (UInt8.lt_iff_toNat_lt.2 (by omega)))]; simp [h]
set_option maxHeartbeats 4000000 in
theorem L274 (a b : List UInt8) (ha : a.length ≤ 2 ^ 47) (hb : b.length ≤ 2 ^ 47) : ∀ (x y pa pb : List UInt8) (i : Nat), a = pa ++ x → b = pb ++ y → i = pa.length → i = pb.length →
    finK false 0 [Rs.tmp 4] (loopK cf0 K0 (LpB cf0 K0 b274_0 (t274 a b 0) 0 ⟨t274 a b i, []⟩) [.blk 0, .c r274]) = some (.int .i64 (Lib.compareBytes x y), []) := by
  intro x
  induction x with
  | nil =>
    intro y pa pb i h1 h2 h3 h4
    have l1 : a.length = i := by rw [h1]; simp [h3]
    have l2 : b.length = i + y.length := by rw [h2]; simp [h4]
    have z1 : ltI (i : Int) a.length = false := ltI_f (by omega)
    have z2 : ltI (a.length : Int) b.length = decide (0 < y.length) := by
      by_cases h : 0 < y.length
      · rw [ltI_t (by omega)]; simp [h]
      · rw [ltI_f (by omega)]; simp [h]
    have z3 : ltI (b.length : Int) a.length = false := ltI_f (by omega)
    rw [LpB_eq]
    simp only [t274]
    cases y with
    | nil => 
      conv => lhs; arg 4; arg 3; arg 6; simp [b274_0, z1]
      simp [r274, z2, z3, Lib.compareBytes]
    | cons y t =>
      conv => lhs; arg 4; arg 3; arg 6; simp [b274_0, z1]
      simp at z2
      simp [r274, z2, z3, Lib.compareBytes]
  | cons x s ih =>
    intro y pa pb i h1 h2 h3 h4
    have l1 : i < a.length := by rw [h1, h3]; simp
    have l2 : b.length = i + y.length := by rw [h2]; simp [h4]
    have z1 : ltI (i : Int) a.length = true := ltI_t (by omega)
    have g1 : a[i]'l1 = x := by
      have : a[i]? = some x := by rw [h1, h3]; simp
      rw [List.getElem?_eq_getElem l1] at this
      exact Option.some.inj this
    rw [LpB_eq]
    simp only [t274] at ih ⊢
    cases y with
    | nil =>
      simp only [List.length_nil, Nat.add_zero] at l2
      have z2 : ltI (i : Int) b.length = false := ltI_f (by omega)
      have z4 : ltI (a.length : Int) b.length = false := ltI_f (by omega)
      have z3 : ltI (b.length : Int) a.length = true := ltI_t (by omega)
      conv => lhs; arg 4; arg 3; arg 6; simp [b274_0, z1, z2]
      simp [r274, z4, z3, Lib.compareBytes]
    | cons y t =>
      have l2' : i < b.length := by rw [l2]; simp
      have z2 : ltI (i : Int) b.length = true := ltI_t (by omega)
      have g2 : b[i]'l2' = y := by
        have : b[i]? = some y := by rw [h2, h4]; simp
        rw [List.getElem?_eq_getElem l2'] at this
        exact Option.some.inj this
      have hw := w64 (i + 1) (by omega)
      by_cases u1 : x < y
      · have e1 := u8lt x y
        simp only [u1, decide_true] at e1
        conv => lhs; arg 4; arg 3; arg 6; simp [evOp, evM, wants, Ins.go, X.ev, iaM, ldM, binD, setD, applyW, Ek_ops_nil, allFree, free, callM, callP, callO, appM, b274_0, z1, z2, l1, l2', g1, g2, e1]
        simp [Lib.compareBytes, u1]
      · have e1 := u8lt x y
        simp only [u1, decide_false] at e1
        by_cases u2 : y < x
        · have e2 := u8lt y x
          simp only [u2, decide_true] at e2
          conv => lhs; arg 4; arg 3; arg 6; simp [evOp, evM, wants, Ins.go, X.ev, iaM, ldM, binD, setD, applyW, Ek_ops_nil, allFree, free, callM, callP, callO, appM, b274_0, z1, z2, l1, l2', g1, g2, e1, e2]
          simp [Lib.compareBytes, u1, u2]
        · have e2 := u8lt y x
          simp only [u2, decide_false] at e2
          have i1 := ih t (pa ++ [x]) (pb ++ [y]) (i + 1) (by rw [h1]; simp) (by rw [h2]; simp) (by simp [h3]) (by simp [h4])
          conv => lhs; arg 4; arg 3; arg 6; simp [evOp, evM, wants, Ins.go, X.ev, iaM, ldM, binD, setD, applyW, Ek_ops_nil, allFree, free, callM, callP, callO, appM, b274_0, z1, z2, l1, l2', g1, g2, e1, e2, hw]
          simp [Lib.compareBytes, u1, u2] at i1 ⊢
          exact i1
set_option maxHeartbeats 2000000 in
theorem K274 (a b : List UInt8) (ha : a.length ≤ 2 ^ 47) (hb : b.length ≤ 2 ^ 47) : K0 92 [.str a, .str b] [] = some (.int .i64 (Lib.compareBytes a b), []) := by
  refine K_call k274 (oraG_none (by decide) (by decide)) (by simp [c274]) ?_
  have h := L274 a b ha hb a b [] [] 0 rfl rfl rfl rfl
  simp only [t274] at h
  simp [c274]
  simp at h
  exact h
set_option maxHeartbeats 2000000 in
theorem K273 (t : Int) (p q : Va) : K0 91 [.int .i64 t, p.d, q.d] [] = some (.bool (fitsI t p && fitsI t q), []) := by
  refine K_call k273 (oraG_none (by decide) (by decide)) (by simp [c273, Va.d]) ?_
  have h1 := K31 t p
  have h2 := K31 t q
  unfold Va.d at h1 h2 ⊢
  cases z1 : fitsI t p <;> rw [z1] at h1 <;> simp [c273, h1, h2]
/-- .. by the signs. -/
def cmpS2 (a b : Int) : Int := if neI (if ltI a 0 then 1 else 0) (if ltI b 0 then 1 else 0) then (if ltI b 0 then -1 else if ltI a 0 then 1 else 0) else cmpZ a b
theorem cmpS2_eq (a b : Int) (ha : i64R a) (hb : i64R b) : cmpS2 a b = cmpZ (IntKind.u64.wrap a) (IntKind.u64.wrap b) := by
  have w : ∀ a, i64R a → IntKind.u64.wrap a = if a < 0 then a + 18446744073709551616 else a := fun a h => by
    unfold i64R at h
    rw [IntKind.wrap_u64]
    split <;> omega
  rw [w a ha, w b hb]
  unfold i64R at ha hb
  unfold cmpS2 cmpZ
  simp only [ltI, neI, decide_eq_true_eq]
  by_cases h1 : a < 0 <;> by_cases h2 : b < 0 <;> simp [h1, h2] <;> (repeat' split) <;> omega
set_option maxHeartbeats 4000000 in
theorem K264 (t : Int) (p q : Va) (hp : i64R p.1) (hq : i64R q.1) (hp2 : p.2.length ≤ 2 ^ 47) (hq2 : q.2.length ≤ 2 ^ 47) : K0 48 [.int .i64 t, p.d, q.d] [] = some (.int .i64 (vcmp t p q), []) := by
  refine K_call k264 (oraG_none (by decide) (by decide)) (by simp [c264, Va.d]) ?_
  have h1 := K273 t p q
  have h3 := K274 p.2 q.2 hp2 hq2
  have h4 := cmpS2_eq p.1 q.1 hp hq
  unfold vcmp
  unfold Va.d at h1 ⊢
  rw [← h4]
  obtain ⟨z3, hz3⟩ : ∃ z, eqI t 3 = z := ⟨_, rfl⟩
  obtain ⟨z4, hz4⟩ : ∃ z, eqI t 2 = z := ⟨_, rfl⟩
  cases z1 : fitsI t p && fitsI t q
  · have : (!fitsI t p || !fitsI t q) = true := by rw [← Bool.not_and, z1]; rfl
    rw [z1] at h1
    rw [if_pos this]
    simp [c264, h1]
  · have : (!fitsI t p || !fitsI t q) = false := by rw [← Bool.not_and, z1]; rfl
    rw [z1] at h1
    rw [if_neg (by rw [this]; simp), hz3, hz4]
    cases z3
    · cases z4
      · unfold cmpZ
        cases y1 : ltI p.1 q.1 <;> cases y2 : ltI q.1 p.1 <;> simp [c264, h1, hz3, hz4, y1, y2]
      · unfold cmpS2 cmpZ
        cases y1 : ltI p.1 q.1 <;> cases y2 : ltI q.1 p.1 <;> cases y3 : ltI p.1 0 <;> cases y4 : ltI q.1 0 <;> simp [c264, h1, hz3, hz4, y1, y2, y3, y4, neI]
    · have hne : eqI t 2 = false := by
        unfold eqI at hz3 ⊢
        simp at hz3 ⊢
        omega
      simp [c264, h1, hz3, hne, h3]
end Go.Ab
/- THE FUNCTIONS' EQUATIONS: schema.Compare. -/
set_option linter.all false
set_option maxRecDepth 100000
namespace Go.Ab
open Go.Proofs Go.Proofs.YtomomeabfnmncaaGreatH
def b269_0 : C := (.seq (.reg none [⟨(some 26), none, (.bin .lss [] (.t 25) (.t 24))⟩]) (.seq (.cond (.t 26) .skip (.exit 0)) (.seq (.block 1 (.seq (.reg none [⟨(some 27), none, (.mv (.t 25))⟩, ⟨(some 28), none, (.ia none 1 false (.t 23) (.t 25))⟩, ⟨(some 29), none, (.ld none (.t 28))⟩, ⟨(some 7), none, (.mv (.t 27))⟩, ⟨(some 8), none, (.mv (.t 29))⟩]) (.seq (.reg (some [(3, 7), (4, 7), (3, 8), (4, 8)]) [⟨(some 30), none, (.mv (.t 8))⟩, ⟨(some 31), none, (.mv (.t 1))⟩, ⟨(some 32), none, (.mv (.t 7))⟩, ⟨(some 33), none, (.ia none 2 true (.t 31) (.t 32))⟩, ⟨(some 34), none, (.ld (some 2) (.t 33))⟩, ⟨(some 35), none, (.mv (.t 2))⟩, ⟨(some 36), none, (.mv (.t 7))⟩, ⟨(some 37), none, (.ia none 2 true (.t 35) (.t 36))⟩, ⟨(some 38), none, (.ld (some 2) (.t 37))⟩, ⟨(some 39), none, (.call (.f 106) [(.t 30), (.t 34), (.t 38)])⟩, ⟨(some 9), none, (.mv (.t 39))⟩]) (.seq (.reg none [⟨(some 40), none, (.mv (.t 9))⟩, ⟨(some 41), none, (.bin .neq [] (.t 40) (.k (.int .i64 0)))⟩]) (.cond (.t 41) (.seq (.reg none [⟨(some 42), none, (.mv (.t 9))⟩, ⟨(some 6), none, (.mv (.t 42))⟩]) .ret) .skip))))) (.reg none [⟨(some 43), none, (.bin .add [] (.t 25) (.k (.int .i64 1)))⟩, ⟨(some 25), none, (.mv (.t 43))⟩]))))
def r269 : C := (.seq (.reg none [⟨(some 6), none, (.mv (.k (.int .i64 0)))⟩]) .ret)
def c269 : Fn' := ⟨44, [(.tmp 6)], (.seq (.reg none [⟨(some 3), none, (.box false (.t 0))⟩, ⟨(some 6), none, (.mv (.k (.int .i64 0)))⟩]) (.seq (.seq (.reg none [⟨(some 10), none, (.fa 0 1 false (.t 3))⟩, ⟨(some 11), none, (.ld none (.t 10))⟩, ⟨(some 12), none, (.fa 1 1 false (.t 3))⟩, ⟨(some 13), none, (.ld none (.t 12))⟩, ⟨(some 14), none, (.mx [(.t 13), (.k (.int .i64 0))])⟩, ⟨(some 15), none, (.fa 0 1 false (.t 3))⟩, ⟨(some 16), none, (.ld none (.t 15))⟩, ⟨(some 17), none, (.len 1 (.t 16))⟩, ⟨(some 18), none, (.mv (.t 1))⟩, ⟨(some 19), none, (.len 1 (.t 18))⟩, ⟨(some 20), none, (.mv (.t 2))⟩, ⟨(some 21), none, (.len 1 (.t 20))⟩, ⟨(some 22), none, (.mn [(.t 14), (.t 17), (.t 19), (.t 21)])⟩, ⟨(some 23), none, (.sub 1 1 (.t 11) none (some (.t 22)) none)⟩, ⟨(some 24), none, (.len 1 (.t 23))⟩, ⟨(some 25), none, (.mv (.k (.int .i64 0)))⟩]) (.block 0 (.loop b269_0))) r269))⟩
theorem k269 : compF Tryz.prog 70 = some c269 := by kernel_rfl
attribute [local simp] op_or op_an op_add op_sub op_mul oq_eql oq_neq oq_lss oq_gtr oq_leq oq_geq
attribute [-simp] intOp bin_shl D.cells minD maxD minF maxF
/-- The order of two rows, by columns of these types. -/
def cmpL : List Int → List Va → List Va → Int
  | t :: ts, p :: a, q :: b => if vcmp t p q = 0 then cmpL ts a b else vcmp t p q
  | _, _, _ => 0
def cmpK (ts : List Int) (k : Int) (a b : List Va) : Int := cmpL (ts.take k.toNat) a b
theorem cmpL_nil (a b : List Va) : cmpL [] a b = 0 := by cases a <;> cases b <;> rfl
theorem cmpL_min : ∀ (ts : List Int) (n : Nat) (a b : List Va), (a.length ≤ n ∨ b.length ≤ n ∨ ts.length ≤ n) → cmpL (ts.take n) a b = cmpL ts a b
  | [], n, a, b, _ => by simp
  | t :: ts, 0, a, b, h => by
    simp only [List.take_zero]
    rcases h with h | h | h
    · obtain rfl : a = [] := List.eq_nil_of_length_eq_zero (by omega)
      rfl
    · obtain rfl : b = [] := List.eq_nil_of_length_eq_zero (by omega)
      cases a <;> rfl
    · simp at h
  | t :: ts, n + 1, [], b, h => by rfl
  | t :: ts, n + 1, p :: a, [], h => by rfl
  | t :: ts, n + 1, p :: a, q :: b, h => by
    simp only [List.take_succ_cons, cmpL]
    rw [cmpL_min ts n a b (by simp at h; omega)]
def Sb (c : Bool) (ts : List Int) (k m g : Int) : Obj := .box [.slc c 1 (ts.map (.int .i64)), .int .i64 k, .int .i64 m, .int .i64 g]
theorem max_k (k : Int) : maxD [.int .i64 k, .int .i64 0] = some (.int .i64 (k.toNat : Nat)) := by
  simp only [maxD, maxF, BEq.rfl, if_true]
  congr 2
  split <;> omega
theorem min_k (a b c d : Nat) : minD [.int .i64 a, .int .i64 b, .int .i64 c, .int .i64 d] = some (.int .i64 ((min (min (min a b) c) d : Nat) : Int)) := by
  simp only [minD, minF, BEq.rfl, if_true]
  congr 2
  split <;> (try split) <;> (try split) <;> omega
def t269 (cu ca cb : Bool) (U : List Int) (a b : List Va) (c : Bool) (ts : List Int) (k m g : Int) (n i : Nat) : List D := [.agg [.slc c 1 (ts.map (.int .i64)), .int .i64 k, .int .i64 m, .int .i64 g], Vs ca a, Vs cb b, .ptr 0 0 0 0, .undef, .undef, .int .i64 0, .undef, .undef, .undef, .ptr 0 0 0 0, .slc c 1 (ts.map (.int .i64)), .ptr 0 0 1 0, .int .i64 k, .int .i64 (max k 0), .ptr 0 0 0 0, .slc c 1 (ts.map (.int .i64)), .int .i64 ts.length, Vs ca a, .int .i64 a.length, Vs cb b, .int .i64 b.length, .int .i64 n, .slc cu 1 (U.map (.int .i64)), .int .i64 n, .int .i64 i, .undef, .undef, .undef, .undef, .undef, .undef, .undef, .undef, .undef, .undef, .undef, .undef, .undef, .undef, .undef, .undef, .undef, .undef]
set_option maxHeartbeats 4000000 in
theorem L269 (cu ca cb : Bool) (U : List Int) (a b : List Va) (hU : U.length ≤ 2 ^ 47) (n : Nat) (hn : U.length = n) (c : Bool) (ts : List Int) (k m g : Int) : ∀ (u : List Int) (x y : List Va) (pu : List Int) (pa pb : List Va) (i : Nat), U = pu ++ u → a = pa ++ x → b = pb ++ y → i = pu.length → i = pa.length → i = pb.length → u.length ≤ x.length → u.length ≤ y.length →
    finK false 0 [Rs.tmp 6] (loopK cf0 K0 (LpB cf0 K0 b269_0 (t269 cu ca cb U a b c ts k m g n 0) 1 ⟨t269 cu ca cb U a b c ts k m g n i, [Sb c ts k m g]⟩) [.blk 0, .c r269]) = some (.int .i64 (cmpL u x y), []) := by
  intro u
  induction u with
  | nil =>
    intro x y pu pa pb i h1 h2 h3 h4 h5 h6 h7 h8
    have l1 : n = i := by rw [← hn, h1]; simp [h4]
    have z1 : ltI (i : Int) n = false := ltI_f (by omega)
    rw [LpB_eq, cmpL_nil]
    simp [t269, b269_0, z1, Sb, r269, Vs]
  | cons t u ih =>
    intro x y pu pa pb i h1 h2 h3 h4 h5 h6 h7 h8
    match x, y, h7, h8 with
    | p :: x, q :: y, h7, h8 =>
      have l0 : i < U.length := by rw [h1]; simp [h4]
      have l1 : i < a.length := by rw [h2]; simp [h5]
      have l2 : i < b.length := by rw [h3]; simp [h6]
      have z1 : ltI (i : Int) n = true := ltI_t (by omega)
      have g0 : U[i]'l0 = t := by
        have : U[i]? = some t := by rw [h1, h4]; simp
        rw [List.getElem?_eq_getElem l0] at this
        exact Option.some.inj this
      have g1 : a[i]'l1 = p := by
        have : a[i]? = some p := by rw [h2, h5]; simp
        rw [List.getElem?_eq_getElem l1] at this
        exact Option.some.inj this
      have g2 : b[i]'l2 = q := by
        have : b[i]? = some q := by rw [h3, h6]; simp
        rw [List.getElem?_eq_getElem l2] at this
        exact Option.some.inj this
      have hw := w64 (i + 1) (by omega)
      have hK := K275 t p q
      have hih := ih x y (pu ++ [t]) (pa ++ [p]) (pb ++ [q]) (i + 1) (by rw [h1]; simp) (by rw [h2]; simp) (by rw [h3]; simp) (by simp [h4]) (by simp [h5]) (by simp [h6]) (by simpa using h7) (by simpa using h8)
      rw [LpB_eq]
      unfold Va.d at hK
      simp only [cmpL]
      by_cases hz : vcmp t p q = 0
      · have z2 : neI (vcmp t p q) 0 = false := neI_f hz
        conv => lhs; arg 4; arg 3; arg 6; simp [evOp, evM, wants, Ins.go, X.ev, iaM, ldM, binD, setD, applyW, Ek_ops_nil, allFree, free, callM, callP, callO, appM, t269, b269_0, z1, l0, l1, l2, g0, g1, g2, hw, Va.d, Vs, Sb, hK, z2]
        simp only [hz, if_true]
        simp [t269, Vs, Sb] at hih ⊢
        exact hih
      · have z2 : neI (vcmp t p q) 0 = true := neI_t hz
        conv => lhs; arg 4; arg 3; arg 6; simp [evOp, evM, wants, Ins.go, X.ev, iaM, ldM, binD, setD, applyW, Ek_ops_nil, allFree, free, callM, callP, callO, appM, t269, b269_0, z1, l0, l1, l2, g0, g1, g2, hw, Va.d, Vs, Sb, hK, z2]
        simp [hz]
set_option maxHeartbeats 4000000 in
theorem K269 (c : Bool) (ts : List Int) (k m g : Int) (ca cb : Bool) (a b : List Va) (hl : ts.length ≤ 2 ^ 47) : K0 70 [Sd c 1 ts k m g, Vs ca a, Vs cb b] [] = some (.int .i64 (cmpK ts k a b), []) := by
  refine K_call k269 (oraG_none (by decide) (by decide)) (by simp [c269, Sd, Vs]) ?_
  obtain ⟨n, hn⟩ : ∃ n, n = min (min (min k.toNat ts.length) a.length) b.length := ⟨_, rfl⟩
  have h1 := max_k k
  have h2 := min_k k.toNat ts.length a.length b.length
  rw [← hn] at h2
  have hlen : (ts.take n).length = n := by rw [List.length_take]; omega
  have h := fun cu => L269 cu ca cb (ts.take n) a b (by omega) n hlen c ts k m g (ts.take n) a b [] [] [] 0 rfl rfl rfl rfl rfl rfl (by rw [hlen]; omega) (by rw [hlen]; omega)
  have hc : cmpL (ts.take n) a b = cmpK ts k a b := by
    unfold cmpK
    rw [show ts.take n = (ts.take k.toNat).take n by rw [List.take_take]; congr 1; omega]
    exact cmpL_min _ _ _ _ (by rw [List.length_take]; omega)
  rw [hc] at h
  have b1 : (n : Int) ≤ ts.length := by omega
  have b2 : n ≤ ts.length := by omega
  have b3 : min n ts.length = n := by omega
  rw [Int.ofNat_toNat] at h1 h2
  obtain ⟨U, hU⟩ : ∃ U, ts.take n = U := ⟨_, rfl⟩
  rw [hU] at h
  have m1 : List.take n (ts.map (D.int .i64)) = U.map (D.int .i64) := by rw [← hU, List.map_take]
  have h := h (c && n == ts.length)
  simp only [t269, Vs, Sb] at h
  have hUl : U.length = n := by rw [← hU]; exact hlen
  simp [c269, Sd, Vs, h1, h2, b1, b2, b3, m1, hUl]
  simp at h
  exact h
end Go.Ab
/- THE FUNCTIONS' EQUATIONS: slices.IsSortedFunc of rows, order.Sorted. -/
set_option linter.all false
set_option maxRecDepth 100000
namespace Go.Ab
open Go.Proofs Go.Proofs.YtomomeabfnmncaaGreatH
def b267_0 : C := (.seq (.seq (.reg none [⟨(some 9), none, (.mv (.t 5))⟩, ⟨(some 10), none, (.bin .gtr [] (.t 9) (.k (.int .i64 0)))⟩]) (.cond (.t 10) .skip (.exit 0))) (.seq (.block 1 (.seq (.reg (some [(3, 8), (4, 8), (3, 9), (4, 9)]) [⟨(some 13), none, (.mv (.t 1))⟩, ⟨(some 14), none, (.mv (.t 0))⟩, ⟨(some 15), none, (.mv (.t 5))⟩, ⟨(some 16), none, (.ia none 1 false (.t 14) (.t 15))⟩, ⟨(some 17), none, (.ld none (.t 16))⟩, ⟨(some 18), none, (.mv (.t 0))⟩, ⟨(some 19), none, (.mv (.t 5))⟩, ⟨(some 20), none, (.bin .sub [] (.t 19) (.k (.int .i64 1)))⟩, ⟨(some 21), none, (.ia none 1 false (.t 18) (.t 20))⟩, ⟨(some 22), none, (.ld none (.t 21))⟩, ⟨(some 23), none, (.call (.t 13) [(.t 17), (.t 22)])⟩, ⟨(some 24), none, (.bin .lss [] (.t 23) (.k (.int .i64 0)))⟩]) (.cond (.t 24) (.seq (.reg none [⟨(some 4), none, (.mv (.k (.bool false)))⟩]) .ret) .skip))) (.reg none [⟨(some 11), none, (.mv (.t 5))⟩, ⟨(some 12), none, (.bin .sub [] (.t 11) (.k (.int .i64 1)))⟩, ⟨(some 5), none, (.mv (.t 12))⟩])))
def r267 : C := (.seq (.reg none [⟨(some 4), none, (.mv (.k (.bool true)))⟩]) .ret)
def c267 : Fn' := ⟨25, [(.tmp 4)], (.seq (.reg none [⟨(some 4), none, (.mv (.k (.bool false)))⟩]) (.seq (.seq (.reg none [⟨(some 6), none, (.mv (.t 0))⟩, ⟨(some 7), none, (.len 1 (.t 6))⟩, ⟨(some 8), none, (.bin .sub [] (.t 7) (.k (.int .i64 1)))⟩, ⟨(some 5), none, (.mv (.t 8))⟩]) (.block 0 (.loop b267_0))) r267))⟩
theorem k267 : compF Tryz.prog 68 = some c267 := by kernel_rfl
def c257 : Fn' := ⟨8, [(.tmp 4)], (.seq (.reg none [⟨(some 2), none, (.box false (.t 0))⟩, ⟨(some 4), none, (.mv (.k (.bool false)))⟩]) (.seq (.reg none [⟨(some 5), none, (.mv (.t 1))⟩, ⟨(some 6), none, (.fn 69 [] [(.t 2)])⟩, ⟨(some 7), none, (.call (.f 68) [(.t 5), (.t 6)])⟩, ⟨(some 4), none, (.mv (.t 7))⟩]) .ret))⟩
theorem k257 : compF Tryz.prog 31 = some c257 := by kernel_rfl
def c268 : Fn' := ⟨10, [(.tmp 5)], (.seq (.reg none [⟨(some 5), none, (.mv (.k (.int .i64 0)))⟩]) (.seq (.reg none [⟨(some 6), none, (.ld (some 4) (.t 2))⟩, ⟨(some 7), none, (.mv (.t 0))⟩, ⟨(some 8), none, (.mv (.t 1))⟩, ⟨(some 9), none, (.call (.f 70) [(.t 6), (.t 7), (.t 8)])⟩, ⟨(some 5), none, (.mv (.t 9))⟩]) .ret))⟩
theorem k268 : compF Tryz.prog 69 = some c268 := by kernel_rfl
attribute [local simp] op_or op_an op_add op_sub op_mul oq_eql oq_neq oq_lss oq_gtr oq_leq oq_geq
attribute [-simp] intOp bin_shl D.cells minD maxD minF maxF
/-- K269, of rows with flags. -/
theorem K269' (c : Bool) (s : Nat) (ts : List Int) (hs : s = 1 ∨ ts = []) (k m g : Int) (a b : Rw) (hl : ts.length ≤ 2 ^ 47) : K0 70 [Sd c s ts k m g, a.d, b.d] [] = some (.int .i64 (cmpK ts k a.r b.r), []) := by
  obtain ⟨ca, sa, ra, ha⟩ := a
  obtain ⟨cb, sb, rb, hb⟩ := b
  by_cases h0 : s = 1 ∧ sa = 2 ∧ sb = 2
  · obtain ⟨rfl, rfl, rfl⟩ := h0
    exact K269 c ts k m g ca cb ra rb hl
  · have hz : min (min (min k.toNat ts.length) ra.length) rb.length = 0 := by
      rcases hs with rfl | rfl
      · rcases ha with rfl | rfl
        · rcases hb with rfl | rfl
          · exact absurd ⟨rfl, rfl, rfl⟩ h0
          · simp
        · simp
      · simp
    have hc : cmpK ts k ra rb = 0 := by
      unfold cmpK
      rw [← cmpL_min (ts.take k.toNat) 0 ra rb (by rw [List.length_take]; omega), List.take_zero, cmpL_nil]
    have h1 := max_k k
    have h2 := min_k k.toNat ts.length ra.length rb.length
    rw [hz] at h2
    rw [Int.ofNat_toNat] at h1 h2
    have z1 : ltI 0 0 = false := rfl
    rw [hc]
    refine K_call k269 (oraG_none (by decide) (by decide)) (by simp [c269, Sd, Rw.d]) ?_
    simp at h2
    simp [c269, Sd, Rw.d, h1, h2, hs]
    rw [LpB_eq]
    simp [b269_0, z1, r269]
def okAt (ts : List Int) (k : Int) (L : List Rw) (j : Nat) : Bool := !ltI (cmpK ts k ((L[j + 1]?.map Rw.r).getD []) ((L[j]?.map Rw.r).getD [])) 0
/-- The first n pairs are in order. -/
def srt (ts : List Int) (k : Int) (L : List Rw) (n : Nat) : Bool := (List.range n).all (okAt ts k L)
abbrev ScB (c : Bool) (s : Nat) (ts : List Int) (k m g : Int) : Obj := .box [.slc c s (ts.map (.int .i64)), .int .i64 k, .int .i64 m, .int .i64 g]
set_option maxHeartbeats 4000000 in
theorem K268 (c : Bool) (s : Nat) (ts : List Int) (hs : s = 1 ∨ ts = []) (k m g : Int) (a b : Rw) (hl : ts.length ≤ 2 ^ 47) :
    K0 69 [a.d, b.d, .ptr 0 0 0 0] [ScB c s ts k m g] = some (.int .i64 (cmpK ts k a.r b.r), [ScB c s ts k m g]) := by
  refine K_call k268 (oraG_none (by decide) (by decide)) (by simp [c268, Rw.d]) ?_
  have h := K269' c s ts hs k m g a b hl
  unfold Sd at h
  unfold Rw.d at h ⊢
  simp [c268, h, backK]
def t267 (c : Bool) (L : List Rw) (f n : Nat) (i : Nat) : List D := [.slc c 1 (L.map Rw.d), .func f [] [.ptr 0 0 0 0], .undef, .undef, .bool false, .int .i64 i, .slc c 1 (L.map Rw.d), .int .i64 L.length, .int .i64 n, .undef, .undef, .undef, .undef, .undef, .undef, .undef, .undef, .undef, .undef, .undef, .undef, .undef, .undef, .undef, .undef]
set_option maxHeartbeats 4000000 in
theorem L267 (c : Bool) (L : List Rw) (cc : Bool) (s : Nat) (ts : List Int) (hs : s = 1 ∨ ts = []) (k m g : Int) (hl : ts.length ≤ 2 ^ 47) (n : Nat) (hn : n < L.length) (hL : L.length ≤ 2 ^ 47) : ∀ i : Nat, i ≤ n →
    finK false 1 [Rs.tmp 4] (loopK cf0 K0 (LpB cf0 K0 b267_0 (t267 c L 69 n n) 1 ⟨t267 c L 69 n i, [ScB cc s ts k m g]⟩) [.blk 0, .c r267]) = some (.bool (srt ts k L i), [ScB cc s ts k m g])
  | 0, hi => by
    have z1 : ltI 0 0 = false := rfl
    rw [LpB_eq]
    simp [b267_0, t267, z1, r267, srt]
  | i + 1, hi => by
    have l1 : i + 1 < L.length := by omega
    have l0 : i < L.length := by omega
    have z1 : ltI 0 ((i + 1 : Nat) : Int) = true := ltI_t (by omega)
    have w1 : IntKind.i64.wrap (((i + 1 : Nat) : Int) - 1) = i := by rw [w64 _ (by omega)]; omega
    have hK := K268 cc s ts hs k m g (L[i + 1]'l1) (L[i]'l0) hl
    have hs2 : srt ts k L (i + 1) = (srt ts k L i && !ltI (cmpK ts k (L[i + 1]'l1).r (L[i]'l0).r) 0) := by
      unfold srt
      rw [List.range_succ, List.all_append]
      simp only [List.all_cons, List.all_nil, Bool.and_true]
      unfold okAt
      rw [List.getElem?_eq_getElem l1, List.getElem?_eq_getElem l0]
      rfl
    have ih := L267 c L cc s ts hs k m g hl n hn hL i (by omega)
    obtain ⟨I, hI⟩ : ∃ I, I = i + 1 := ⟨_, rfl⟩
    obtain ⟨a, ha⟩ : ∃ a, L[i + 1]'l1 = a := ⟨_, rfl⟩
    obtain ⟨b, hb⟩ : ∃ b, L[i]'l0 = b := ⟨_, rfl⟩
    rw [hs2]
    rw [ha, hb] at hK ⊢
    rw [← hI] at z1 w1 l1 ⊢
    have ha' : L[I]'l1 = a := by rw [← ha]; congr 1
    clear ha hs2
    rw [LpB_eq]
    cases hc : ltI (cmpK ts k a.r b.r) 0 with
    | true =>
      simp only [t267, Rw.d, ScB] at hK ⊢
      conv => lhs; arg 4; arg 3; arg 6; simp [evOp, evM, wants, Ins.go, X.ev, iaM, ldM, binD, setD, applyW, Ek_ops_nil, allFree, free, callM, callP, callO, appM, b267_0, z1, l0, l1, ha', hb, w1, Rw.d, hK, hc, backK, ScB]
      simp
    | false =>
      simp only [t267, Rw.d, ScB] at hK ih ⊢
      conv => lhs; arg 4; arg 3; arg 6; simp [evOp, evM, wants, Ins.go, X.ev, iaM, ldM, binD, setD, applyW, Ek_ops_nil, allFree, free, callM, callP, callO, appM, b267_0, z1, l0, l1, ha', hb, w1, Rw.d, hK, hc, backK, ScB]
      simp at ih ⊢
      exact ih
set_option maxHeartbeats 4000000 in
theorem K267 (c : Bool) (s' : Nat) (L : List Rw) (hs' : s' = 1 ∨ L = []) (cc : Bool) (s : Nat) (ts : List Int) (hs : s = 1 ∨ ts = []) (k m g : Int) (hl : ts.length ≤ 2 ^ 47) (hL : L.length ≤ 2 ^ 47) :
    K0 68 [.slc c s' (L.map Rw.d), .func 69 [] [.ptr 0 0 0 0]] [ScB cc s ts k m g] = some (.bool (srt ts k L (L.length - 1)), [ScB cc s ts k m g]) := by
  refine K_call k267 (oraG_none (by decide) (by decide)) (by simp [c267]) ?_
  by_cases hn : L = []
  · subst hn
    have z1 : ltI 0 (-1) = false := rfl
    have w : IntKind.i64.wrap (-1) = -1 := by rw [IntKind.wrap_i64]; omega
    simp [c267, w]
    rw [LpB_eq]
    simp [b267_0, z1, r267, srt, w]
  · obtain rfl := hs'.resolve_right hn
    have hp : 0 < L.length := by cases L with
      | nil => exact absurd rfl hn
      | cons a l => simp
    have w1 : IntKind.i64.wrap ((L.length : Int) - 1) = ((L.length - 1 : Nat) : Int) := by rw [w64 _ (by omega)]; omega
    have h := L267 c L cc s ts hs k m g hl (L.length - 1) (by omega) hL (L.length - 1) (Nat.le_refl _)
    generalize hN : L.length - 1 = N at *
    simp only [t267] at h
    simp [c267, w1]
    exact h
set_option maxHeartbeats 4000000 in
/-- order.Sorted. -/
theorem K257 (c : Bool) (s' : Nat) (L : List Rw) (hs' : s' = 1 ∨ L = []) (cc : Bool) (s : Nat) (ts : List Int) (hs : s = 1 ∨ ts = []) (k m g : Int) (hl : ts.length ≤ 2 ^ 47) (hL : L.length ≤ 2 ^ 47) :
    K0 31 [Sd cc s ts k m g, .slc c s' (L.map Rw.d)] [] = some (.bool (srt ts k L (L.length - 1)), []) := by
  refine K_call k257 (oraG_none (by decide) (by decide)) (by simp [c257, Sd]) ?_
  have h := K267 c s' L hs' cc s ts hs k m g hl hL
  simp [c257, Sd, h, backK]
end Go.Ab
/- THE FUNCTIONS' EQUATIONS: grain.Split. -/
set_option linter.all false
set_option maxRecDepth 100000
namespace Go.Ab
open Go.Proofs Go.Proofs.YtomomeabfnmncaaGreatH
def b258_0 : C := (.seq (.seq (.reg none [⟨(some 8), none, (.mv (.t 6))⟩, ⟨(some 9), none, (.mv (.t 1))⟩, ⟨(some 10), none, (.len 1 (.t 9))⟩, ⟨(some 11), none, (.bin .lss [] (.t 8) (.t 10))⟩]) (.cond (.t 11) .skip (.exit 0))) (.seq (.block 1 (.seq (.reg none [⟨(some 16), none, (.mv (.t 6))⟩, ⟨(some 17), none, (.fa 3 1 false (.t 2))⟩, ⟨(some 18), none, (.ld none (.t 17))⟩, ⟨(some 19), none, (.bin .add [] (.t 16) (.t 18))⟩, ⟨(some 20), none, (.mv (.t 1))⟩, ⟨(some 21), none, (.len 1 (.t 20))⟩, ⟨(some 22), none, (.mn [(.t 19), (.t 21)])⟩, ⟨(some 7), none, (.mv (.t 22))⟩]) (.reg none [⟨(some 23), none, (.mv (.t 5))⟩, ⟨(some 24), none, (.mv (.t 1))⟩, ⟨(some 25), none, (.mv (.t 6))⟩, ⟨(some 26), none, (.mv (.t 7))⟩, ⟨(some 27), none, (.mv (.t 7))⟩, ⟨(some 28), none, (.sub 1 1 (.t 24) (some (.t 25)) (some (.t 26)) (some (.t 27)))⟩, ⟨(some 29), none, (.bsl false 1 1 [nilS] [(0, (.t 28))])⟩, ⟨(some 30), none, (.app 1 24 (.t 23) (.t 29))⟩, ⟨(some 5), none, (.mv (.t 30))⟩]))) (.reg none [⟨(some 12), none, (.mv (.t 6))⟩, ⟨(some 13), none, (.fa 3 1 false (.t 2))⟩, ⟨(some 14), none, (.ld none (.t 13))⟩, ⟨(some 15), none, (.bin .add [] (.t 12) (.t 14))⟩, ⟨(some 6), none, (.mv (.t 15))⟩])))
def r258 : C := (.seq (.reg none [⟨(some 31), none, (.mv (.t 5))⟩, ⟨(some 4), none, (.mv (.t 31))⟩]) .ret)
def c258 : Fn' := ⟨32, [(.tmp 4)], (.seq (.reg none [⟨(some 2), none, (.box false (.t 0))⟩, ⟨(some 4), none, (.mv (.k nilS))⟩]) (.seq (.reg none [⟨(some 5), none, .nilrow⟩]) (.seq (.seq (.reg none [⟨(some 6), none, (.mv (.k (.int .i64 0)))⟩]) (.block 0 (.loop b258_0))) r258)))⟩
theorem k258 : compF Tryz.prog 34 = some c258 := by kernel_rfl
attribute [local simp] op_or op_an op_add op_sub op_mul oq_eql oq_neq oq_lss oq_gtr oq_leq oq_geq
attribute [-simp] intOp bin_shl D.cells minD maxD minF maxF
/-- Rows in granules. -/
def splitN {α : Type} (g : Nat) : Nat → List α → List (List α)
  | 0, _ => []
  | _ + 1, [] => []
  | n + 1, a :: l => (a :: l).take g :: splitN g n ((a :: l).drop g)
def splitI {α : Type} (g : Nat) (l : List α) : List (List α) := splitN g l.length l
theorem splitN_fuel {α : Type} (g : Nat) (hg : 1 ≤ g) : ∀ (n m : Nat) (l : List α), l.length ≤ n → l.length ≤ m → splitN g n l = splitN g m l
  | 0, 0, l, _, _ => rfl
  | 0, m + 1, [], _, _ => rfl
  | n + 1, 0, [], _, _ => rfl
  | n + 1, m + 1, [], _, _ => rfl
  | 0, m + 1, a :: l, h, _ => by simp at h
  | n + 1, 0, a :: l, _, h => by simp at h
  | n + 1, m + 1, a :: l, h1, h2 => by
    simp only [splitN]
    rw [splitN_fuel g hg n m _ (by simp at h1 ⊢; omega) (by simp at h2 ⊢; omega)]
theorem splitI_nil {α : Type} (g : Nat) : splitI g ([] : List α) = [] := rfl
theorem splitI_cons {α : Type} (g : Nat) (hg : 1 ≤ g) (l : List α) (h : l ≠ []) : splitI g l = l.take g :: splitI g (l.drop g) := by
  cases l with
  | nil => exact absurd rfl h
  | cons a l =>
    unfold splitI
    rw [List.length_cons, splitN, splitN_fuel g hg l.length ((a :: l).drop g).length _ (by simp; omega) (Nat.le_refl _)]
theorem splitI_map {α β : Type} (f : α → β) (g : Nat) (hg : 1 ≤ g) : ∀ (n : Nat) (l : List α), l.length ≤ n → splitI g (l.map f) = (splitI g l).map (List.map f)
  | _, [], _ => rfl
  | 0, a :: l, h => by simp at h
  | n + 1, a :: l, h => by
    rw [splitI_cons g hg ((a :: l).map f) (by simp), splitI_cons g hg (a :: l) (by simp), ← List.map_take, ← List.map_drop, splitI_map f g hg n ((a :: l).drop g) (by simp at h ⊢; omega), List.map_cons]
theorem splitI_len {α : Type} (g : Nat) (hg : 1 ≤ g) : ∀ (n : Nat) (l : List α), l.length ≤ n → (splitI g l).length ≤ l.length
  | _, [], _ => by simp [splitI_nil]
  | 0, a :: l, h => by simp at h
  | n + 1, a :: l, h => by
    rw [splitI_cons g hg _ (by simp)]
    have := splitI_len g hg n ((a :: l).drop g) (by simp at h ⊢; omega)
    simp at this ⊢
    omega
/-- A granule. -/
def Gr (x : List Rw) : D := .slc true 1 (x.map Rw.d)
theorem cells_gr (x : List Rw) : (Gr x).cells = [Gr x] := rfl
theorem cells_grs (l : List (List Rw)) : ((List.map Gr l).all fun e => e.cells.length == 1) = true := by
  rw [List.all_eq_true]
  intro e he
  obtain ⟨x, _, rfl⟩ := List.mem_map.1 he
  rfl
theorem min2 (a b : Nat) : minD [.int .i64 a, .int .i64 b] = some (.int .i64 ((min a b : Nat) : Int)) := by
  simp only [minD, minF, BEq.rfl, if_true]
  congr 2
  split <;> omega
def rowG (acc : List (List Rw)) : Obj := .row (if acc = [] then 0 else 1) (acc.map Gr) 0
def t258 (cc : Bool) (s : Nat) (ts : List Int) (k m g : Int) (c : Bool) (L : List Rw) (a i : Nat) : List D := [.agg [.slc cc s (ts.map (.int .i64)), .int .i64 k, .int .i64 m, .int .i64 g], .slc c 1 (L.map Rw.d), .ptr 0 0 0 0, .undef, nilS, .sl 1 0 a a, .int .i64 i, .undef, .undef, .undef, .undef, .undef, .undef, .undef, .undef, .undef, .undef, .undef, .undef, .undef, .undef, .undef, .undef, .undef, .undef, .undef, .undef, .undef, .undef, .undef, .undef, .undef]
set_option maxHeartbeats 8000000 in
attribute [local simp high] cells_grs in
theorem L258 (cc : Bool) (s : Nat) (ts : List Int) (k m : Int) (g : Nat) (hg : 1 ≤ g ∧ g ≤ 64) (c : Bool) (L : List Rw) (hL : L.length ≤ 2 ^ 30) : ∀ (n : Nat) (i : Nat) (acc : List (List Rw)) (a : Nat), i ≤ L.length + 64 → L.length - i ≤ n → a = acc.length → acc.length ≤ i →
    ∃ j : Nat, LpB cf0 K0 b258_0 (t258 cc s ts k m g c L 0 0) 2 ⟨t258 cc s ts k m g c L a i, [ScB cc s ts k m g, rowG acc]⟩ =
      some (.exit 0, ⟨t258 cc s ts k m g c L (acc ++ splitI g (L.drop i)).length j, [ScB cc s ts k m g, rowG (acc ++ splitI g (L.drop i))]⟩) := by
  intro n
  induction n with
  | zero =>
    intro i acc a hi hn ha hai
    have z1 : ltI (i : Int) L.length = false := ltI_f (by omega)
    refine ⟨i, ?_⟩
    rw [List.drop_eq_nil_of_le (by omega), splitI_nil, List.append_nil]
    rw [LpB_eq]
    simp only [t258, rowG, ScB]
    conv => lhs; arg 6; simp [b258_0, z1]
    simp [ha]
  | succ n ih =>
    intro i acc a hi hn ha hai
    rcases Nat.lt_or_ge i L.length with hlt | hge
    · have z1 : ltI (i : Int) L.length = true := ltI_t (by omega)
      have w1 : IntKind.i64.wrap ((i : Int) + g) = ((i + g : Nat) : Int) := by rw [w64 _ (by omega)]; omega
      have hd : L.drop i ≠ [] := by intro e; have := congrArg List.length e; simp at this; omega
      obtain ⟨I, hI⟩ : ∃ I, I = i + g := ⟨_, rfl⟩
      obtain ⟨E, hE⟩ : ∃ E, E = min I L.length := ⟨_, rfl⟩
      have hm := min2 I L.length
      rw [← hE] at hm
      rw [← hI] at w1
      obtain ⟨G, hG⟩ : ∃ G, (L.take E).drop i = G := ⟨_, rfl⟩
      have hG2 : (L.drop i).take g = G := by
        rw [← hG, List.drop_take, List.take_eq_take_iff]
        simp; omega
      have m1 : List.drop i (List.take E (L.map Rw.d)) = G.map Rw.d := by rw [← hG]; simp [List.map_drop, List.map_take]
      have b1 : i ≤ E := by omega
      have b1' : (i : Int) ≤ E := by omega
      have b2 : E ≤ L.length := by omega
      have b2' : (E : Int) ≤ L.length := by omega
      have b3 : (acc.length + 1) * 24 ≤ 70368744177664 := by omega
      obtain ⟨j, ih⟩ := ih I (acc ++ [G]) (acc ++ [G]).length (by omega) (by omega) rfl (by simp; omega)
      refine ⟨j, ?_⟩
      rw [splitI_cons g hg.1 _ hd, hG2, List.drop_drop, ← hI, show acc ++ G :: splitI g (L.drop I) = acc ++ [G] ++ splitI g (L.drop I) by simp]
      refine Eq.trans ?_ ih
      clear ih
      generalize acc ++ [G] ++ splitI g (L.drop I) = R at *
      rw [LpB_eq]
      by_cases hacc : acc = []
      · subst hacc
        subst ha
        simp only [t258, rowG, ScB] at ⊢
        conv => lhs; arg 6; simp [b258_0, z1, w1, hm, m1, b1, b1', b2, b2', Gr]
        simp [Gr]
      · simp only [t258, rowG, ScB] at ⊢
        conv => lhs; arg 6; simp [b258_0, z1, w1, hm, m1, b1, b1', b2, b2', Gr, hacc, b3, ha]
        simp [Gr, hacc]
    · have z1 : ltI (i : Int) L.length = false := ltI_f (by omega)
      refine ⟨i, ?_⟩
      rw [List.drop_eq_nil_of_le (by omega), splitI_nil, List.append_nil]
      rw [LpB_eq]
      simp only [t258, rowG, ScB]
      conv => lhs; arg 6; simp [b258_0, z1]
      simp [ha]
set_option maxHeartbeats 8000000 in
/-- grain.Split, of some rows. -/
theorem K258 (cc : Bool) (s : Nat) (ts : List Int) (k m : Int) (g : Nat) (hg : 1 ≤ g ∧ g ≤ 64) (c : Bool) (s' : Nat) (L : List Rw) (hs' : s' = 1 ∨ L = []) (hL : L.length ≤ 2 ^ 30) (hn : L ≠ []) :
    K0 34 [Sd cc s ts k m g, .slc c s' (L.map Rw.d)] [] = some (.slc false 1 ((splitI g L).map Gr), []) := by
  obtain rfl := hs'.resolve_right hn
  refine K_call k258 (oraG_none (by decide) (by decide)) (by simp [c258, Sd]) ?_
  obtain ⟨j, h⟩ := L258 cc s ts k m g hg c L hL L.length 0 [] 0 (by omega) (by omega) rfl (Nat.le_refl _)
  have hR : splitI g L ≠ [] := by rw [splitI_cons g hg.1 L hn]; simp
  rw [List.drop_zero, List.nil_append] at h
  generalize splitI g L = R at *
  simp only [t258, rowG, ScB] at h
  simp [c258, Sd]
  simp [hR] at h
  rw [h]
  simp [r258, List.take_of_length_le]
end Go.Ab
