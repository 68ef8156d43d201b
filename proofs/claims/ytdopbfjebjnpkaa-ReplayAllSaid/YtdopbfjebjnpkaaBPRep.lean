/- PLAIN: what a log says: records applied one behind the other. -/
import Derived.Test.YtdopbfjebjnpkaaBPCrc
import Derived.Test.YtdopbfjebjnpkaaAOraU
import Derived.Test.YtdopbfjebjnpkaaBF73
set_option linter.all false
namespace Go.Ab
open Go.Proofs Go.Proofs.YtdopbfjebjnpkaaH Go.Proofs.YtdopbfjebjnpkaaH.Crc Go.Proofs.YtdopbfjebjnpkaaH.Var Go.Proofs.YtdopbfjebjnpkaaH.Fr Go.Proofs.YtdopbfjebjnpkaaH.Rec
abbrev ScV := List Int × Int × Int × Int
/-- A state: a schema, numbers, the next number. -/
abbrev StV := ScV × List Int × Int
def noSc : ScV := ([], 0, 0, 0)
def noSt : StV := (noSc, [], 0)
def mayOf (r : RecV) : Bool := mayI r.1 r.2.1.1 r.2.1.2.1 r.2.1.2.2.1 r.2.1.2.2.2 r.2.2.1 r.2.2.2
def recOf (r : RecV) : List Int := frameI (recB r.1 r.2.1.1 r.2.1.2.1 r.2.1.2.2.1 r.2.1.2.2.2 r.2.2.1 r.2.2.2)
/-- Where a number stands first. -/
def idxR : List Int → Int → Option Nat
  | [], _ => none
  | y :: t, x => if y = x then some 0 else (idxR t x).map (· + 1)
def optI : Option Nat → Int
  | some n => n
  | none => -1
theorem idxR_some : ∀ (l : List Int) (x : Int) (n : Nat), idxR l x = some n → l[n]? = some x
  | [], x, n, h => by cases h
  | y :: t, x, n, h => by
    unfold idxR at h
    split at h
    · rename_i he
      obtain rfl := Option.some.inj h
      rw [he]; rfl
    · obtain ⟨k, hk, rfl⟩ := Option.map_eq_some_iff.1 h
      exact idxR_some t x k hk
theorem idxR_lt {l : List Int} {x : Int} {n : Nat} (h : idxR l x = some n) : n < l.length := (List.getElem?_eq_some_iff.1 (idxR_some l x n h)).1
theorem idxR_nodup : ∀ (l : List Int) (x : Int) (n : Nat), l.Nodup → l[n]? = some x → idxR l x = some n
  | [], x, n, _, h => by simp at h
  | y :: t, x, n, hn, h => by
    unfold idxR
    cases n with
    | zero =>
      simp only [List.getElem?_cons_zero, Option.some.injEq] at h
      rw [if_pos h]
    | succ n =>
      rw [List.getElem?_cons_succ] at h
      rw [if_neg, idxR_nodup t x n (List.nodup_cons.1 hn).2 h]
      · rfl
      · rintro rfl
        exact (List.nodup_cons.1 hn).1 (List.mem_of_getElem? h)
/-- Where numbers stand in a row in others. -/
def rowOk (l so : List Int) (a : Nat) : Bool := decide (a + so.length ≤ l.length) && ((l.drop a).take so.length == so)
def rowR (l so : List Int) : Option Nat := (idxR l (so.headD 0)).bind fun a => if rowOk l so a = true then some a else none
/-- A record more. -/
def applyI (s : StV) (r : RecV) : StV × Bool :=
  if mayOf r = false then (s, false)
  else if r.1 = 1 then (if unl r.2.2.1 r.2.2.2 = true then ((r.2.1, r.2.2.1, r.2.2.2), true) else (s, false))
  else if r.2.2.2 < s.2.2 then (s, false)
  else if r.1 = 2 then (if s.2.1.length < 40 then ((s.1, s.2.1 ++ [r.2.2.2], r.2.2.2 + 1), true) else (s, false))
  else match rowR s.2.1 r.2.2.1 with
    | some a => ((s.1, s.2.1.take a ++ r.2.2.2 :: s.2.1.drop (a + r.2.2.1.length), r.2.2.2 + 1), true)
    | none => (s, false)
/-- What bytes say: the state, and what is left of them. -/
def allN : Nat → List Int → StV → Bool → StV × List Int
  | 0, l, s, _ => (s, l)
  | k + 1, l, s, first => if l = [] then (s, l)
    else if (recTake l).2.2 ≠ 0 ∨ first ≠ decide ((recTake l).1.1 = 1) then (s, l)
    else if (applyI s (recTake l).1).2 = false then (s, l)
    else allN k (l.drop (recTake l).2.1.toNat) (applyI s (recTake l).1).1 false
def allI (l : List Int) : StV × List Int := allN (l.length + 1) l noSt true
theorem unl_nil (n : Int) : unl [] n = true := rfl
theorem recTake_pos (l : List Int) (h : (recTake l).2.2 = 0) : 0 < (recTake l).2.1 ∧ (recTake l).2.1 ≤ l.length := by
  rcases recTake_cases l with ⟨kd, ts, k, m, g, ids, id, hm, rest, rfl⟩ | ⟨_, _, h1⟩
  · rw [recTake_put hm]
    simp only [List.length_append]
    have : 0 < (frameI (recB kd ts k m g ids id)).length := by
      rw [frameI_len]; omega
    omega
  · omega
theorem recTake_may (l : List Int) (h : (recTake l).2.2 = 0) : mayOf (recTake l).1 = true ∧ ∃ rest, l = recOf (recTake l).1 ++ rest := by
  rcases recTake_cases l with ⟨kd, ts, k, m, g, ids, id, hm, rest, rfl⟩ | ⟨_, _, h1⟩
  · rw [recTake_put hm]
    exact ⟨hm, rest, rfl⟩
  · omega
end Go.Ab
/- THE FUNCTIONS' EQUATIONS: slices.Clone, Clip, Index, Equal of ints; thresherref17.place. -/
set_option linter.all false
set_option maxRecDepth 100000
namespace Go.Ab
open Go.Proofs Go.Proofs.YtdopbfjebjnpkaaH Go.Proofs.YtdopbfjebjnpkaaH.Crc Go.Proofs.YtdopbfjebjnpkaaH.Var Go.Proofs.YtdopbfjebjnpkaaH.Fr Go.Proofs.YtdopbfjebjnpkaaH.Rec
def c205 : Fn' := ⟨8, [(.tmp 2)], (.seq (.reg none [⟨(some 2), none, .nilrow⟩]) (.seq (.seq (.reg none [⟨(some 3), none, (.mv (.t 0))⟩, ⟨(some 4), none, (.bin .eql [4] (.t 3) (.k nilS))⟩]) (.cond (.t 4) (.seq (.reg none [⟨(some 2), none, .nilrow⟩]) .ret) .skip)) (.seq (.reg none [⟨(some 5), none, (.bsl false 1 0 [(.int .i64 0)] [])⟩, ⟨(some 6), none, (.mv (.t 0))⟩, ⟨(some 7), none, (.app 1 8 (.t 5) (.t 6))⟩, ⟨(some 2), none, (.mv (.t 7))⟩]) .ret)))⟩
theorem k205 : compF Try.prog 31 = some c205 := by kernel_rfl
def c206 : Fn' := ⟨9, [(.tmp 2)], (.seq (.reg none [⟨(some 2), none, (.mv (.k nilS))⟩]) (.seq (.reg none [⟨(some 3), none, (.mv (.t 0))⟩, ⟨(some 4), none, (.mv (.t 0))⟩, ⟨(some 5), none, (.len 1 (.t 4))⟩, ⟨(some 6), none, (.mv (.t 0))⟩, ⟨(some 7), none, (.len 1 (.t 6))⟩, ⟨(some 8), none, (.sub 1 1 (.t 3) none (some (.t 5)) (some (.t 7)))⟩, ⟨(some 2), none, (.mv (.t 8))⟩]) .ret))⟩
theorem k206 : compF Try.prog 32 = some c206 := by kernel_rfl
def b207_0 : C := (.seq (.reg none [⟨(some 9), none, (.bin .lss [] (.t 8) (.t 7))⟩]) (.seq (.cond (.t 9) .skip (.exit 0)) (.seq (.block 1 (.seq (.reg none [⟨(some 10), none, (.mv (.t 8))⟩, ⟨(some 5), none, (.mv (.t 10))⟩]) (.seq (.reg none [⟨(some 11), none, (.mv (.t 1))⟩, ⟨(some 12), none, (.mv (.t 0))⟩, ⟨(some 13), none, (.mv (.t 5))⟩, ⟨(some 14), none, (.ia none 1 false (.t 12) (.t 13))⟩, ⟨(some 15), none, (.ld none (.t 14))⟩, ⟨(some 16), none, (.bin .eql [] (.t 11) (.t 15))⟩]) (.cond (.t 16) (.seq (.reg none [⟨(some 17), none, (.mv (.t 5))⟩, ⟨(some 4), none, (.mv (.t 17))⟩]) .ret) .skip)))) (.reg none [⟨(some 18), none, (.bin .add [] (.t 8) (.k (.int .i64 1)))⟩, ⟨(some 8), none, (.mv (.t 18))⟩]))))
def c207 : Fn' := ⟨19, [(.tmp 4)], (.seq (.reg none [⟨(some 4), none, (.mv (.k (.int .i64 0)))⟩]) (.seq (.seq (.reg none [⟨(some 6), none, (.mv (.t 0))⟩, ⟨(some 7), none, (.len 1 (.t 6))⟩, ⟨(some 8), none, (.mv (.k (.int .i64 0)))⟩]) (.block 0 (.loop b207_0))) (.seq (.reg none [⟨(some 4), none, (.mv (.k (.int .i64 (-1))))⟩]) .ret)))⟩
theorem k207 : compF Try.prog 54 = some c207 := by kernel_rfl
def b208_0 : C := (.seq (.reg none [⟨(some 14), none, (.bin .lss [] (.t 13) (.t 12))⟩]) (.seq (.cond (.t 14) .skip (.exit 0)) (.seq (.block 1 (.seq (.reg none [⟨(some 15), none, (.mv (.t 13))⟩, ⟨(some 5), none, (.mv (.t 15))⟩]) (.seq (.reg (some [(2, 6), (3, 6), (2, 7), (3, 7)]) [⟨(some 16), none, (.mv (.t 0))⟩, ⟨(some 17), none, (.mv (.t 5))⟩, ⟨(some 18), none, (.ia none 1 false (.t 16) (.t 17))⟩, ⟨(some 19), none, (.ld none (.t 18))⟩, ⟨(some 20), none, (.mv (.t 1))⟩, ⟨(some 21), none, (.mv (.t 5))⟩, ⟨(some 22), none, (.ia none 1 false (.t 20) (.t 21))⟩, ⟨(some 23), none, (.ld none (.t 22))⟩, ⟨(some 24), none, (.bin .neq [] (.t 19) (.t 23))⟩]) (.cond (.t 24) (.seq (.reg none [⟨(some 4), none, (.mv (.k (.bool false)))⟩]) .ret) .skip)))) (.reg none [⟨(some 25), none, (.bin .add [] (.t 13) (.k (.int .i64 1)))⟩, ⟨(some 13), none, (.mv (.t 25))⟩]))))
def c208 : Fn' := ⟨26, [(.tmp 4)], (.seq (.reg none [⟨(some 4), none, (.mv (.k (.bool false)))⟩]) (.seq (.seq (.reg none [⟨(some 6), none, (.mv (.t 0))⟩, ⟨(some 7), none, (.len 1 (.t 6))⟩, ⟨(some 8), none, (.mv (.t 1))⟩, ⟨(some 9), none, (.len 1 (.t 8))⟩, ⟨(some 10), none, (.bin .neq [] (.t 7) (.t 9))⟩]) (.cond (.t 10) (.seq (.reg none [⟨(some 4), none, (.mv (.k (.bool false)))⟩]) .ret) .skip)) (.seq (.seq (.reg none [⟨(some 11), none, (.mv (.t 0))⟩, ⟨(some 12), none, (.len 1 (.t 11))⟩, ⟨(some 13), none, (.mv (.k (.int .i64 0)))⟩]) (.block 0 (.loop b208_0))) (.seq (.reg none [⟨(some 4), none, (.mv (.k (.bool true)))⟩]) .ret))))⟩
theorem k208 : compF Try.prog 55 = some c208 := by kernel_rfl
def b210_0 : C := (.seq (.seq (.reg none [⟨(some 6), none, (.mv (.t 5))⟩, ⟨(some 7), none, (.mv (.t 0))⟩, ⟨(some 8), none, (.len 1 (.t 7))⟩, ⟨(some 9), none, (.bin .lss [] (.t 6) (.t 8))⟩]) (.cond (.t 9) .skip (.exit 0))) (.seq (.block 1 (.seq (.reg none [⟨(some 12), none, (.mv (.t 0))⟩, ⟨(some 13), none, (.mv (.t 5))⟩, ⟨(some 14), none, (.ia none 1 false (.t 12) (.t 13))⟩, ⟨(some 15), none, (.ld none (.t 14))⟩, ⟨(some 16), none, (.mv (.t 1))⟩, ⟨(some 17), none, (.bin .eql [] (.t 15) (.t 16))⟩]) (.cond (.t 17) (.seq (.reg none [⟨(some 18), none, (.mv (.t 5))⟩, ⟨(some 4), none, (.mv (.t 18))⟩]) .ret) .skip))) (.reg none [⟨(some 10), none, (.mv (.t 5))⟩, ⟨(some 11), none, (.bin .add [] (.t 10) (.k (.int .i64 1)))⟩, ⟨(some 5), none, (.mv (.t 11))⟩])))
def c210 : Fn' := ⟨19, [(.tmp 4)], (.seq (.reg none [⟨(some 4), none, (.mv (.k (.int .i64 0)))⟩]) (.seq (.seq (.reg none [⟨(some 5), none, (.mv (.k (.int .i64 0)))⟩]) (.block 0 (.loop b210_0))) (.seq (.reg none [⟨(some 4), none, (.mv (.k (.int .i64 (-1))))⟩]) .ret)))⟩
theorem k210 : compF Try.prog 38 = some c210 := by kernel_rfl
attribute [local simp] op_or op_an op_add op_sub op_mul oq_eql oq_neq oq_lss oq_gtr oq_leq oq_geq
attribute [-simp] intOp bin_shl
set_option maxHeartbeats 2000000 in
/-- slices.Clone, of ints. -/
theorem K205 (c : Bool) (s : Nat) (l : List Int) (hs : s = 1 ∨ l = []) (hl : l.length ≤ 2 ^ 40) : ∃ c', K0 31 [.slc c s (l.map (.int .i64))] [] = some (.slc c' 1 (l.map (.int .i64)), []) := by
  cases l with
  | nil => exact ⟨true, K_ora (by simp [oraG, oraU])⟩
  | cons x l =>
    obtain rfl := hs.resolve_right (by simp)
    refine ⟨false, K_call k205 (by simp [oraG, oraU]) (by simp [c205]) ?_⟩
    have hl2 : (l.length + 1) * 8 ≤ 70368744177664 := by simp at hl; omega
    simp [c205, hl2, binD]
set_option maxHeartbeats 2000000 in
/-- slices.Clip, of ints. -/
theorem K206 (c : Bool) (s : Nat) (l : List Int) (hs : s = 1 ∨ l = []) (hl : l.length ≤ 2 ^ 40) : K0 32 [.slc c s (l.map (.int .i64))] [] = some (.slc true 1 (l.map (.int .i64)), []) := by
  refine K_call k206 (oraG_none (by decide) (by decide)) (by simp [c206]) ?_
  rcases hs with rfl | rfl
  · simp [c206]
  · simp [c206]
def t207 (c : Bool) (l : List Int) (x : Int) (i : Nat) : List D := [Sl c l, .int .i64 x, .undef, .undef, .int .i64 0, .undef, Sl c l, .int .i64 l.length, .int .i64 i, .undef, .undef, .undef, .undef, .undef, .undef, .undef, .undef, .undef, .undef]
def kn207 : List Kn := [.blk 0, .c ((C.reg none [⟨some 4, none, .mv (.k (.int .i64 (-1)))⟩]).seq C.ret)]
set_option maxHeartbeats 4000000 in
theorem L207 (c : Bool) (l : List Int) (x : Int) (hl : l.length ≤ 2 ^ 47) : ∀ (r pre : List Int) (i : Nat), l = pre ++ r → i = pre.length →
    finK false 0 [Rs.tmp 4] (loopK cf0 K0 (LpB cf0 K0 b207_0 (t207 c l x 0) 0 ⟨t207 c l x i, []⟩) kn207) = some (.int .i64 (optI ((idxR r x).map (i + ·))), [])
  | [], pre, i, h, hi => by
    have : l = pre := by simpa using h
    subst this
    have z := ltI_f (show ¬ ((l.length : Int) < l.length) by omega)
    rw [LpB_eq]
    simp only [t207]
    conv => lhs; arg 4; arg 3; arg 6; simp [b207_0, hi, z]
    simp [kn207, idxR, optI]
  | y :: r, pre, i, h, hi => by
    have hll : i < l.length := by rw [h, hi]; simp
    have hget : l[i]? = some y := by rw [h, hi]; simp
    have hgi : l[i]'hll = y := by rw [List.getElem?_eq_getElem hll] at hget; exact Option.some.inj hget
    have hw := w64 (i + 1) (by omega)
    have z := ltI_t (show ((i : Int) < l.length) by omega)
    rw [LpB_eq]
    by_cases hxy : y = x
    · have q := eqI_t hxy.symm
      simp only [t207]
      conv => lhs; arg 4; arg 3; arg 6; simp [b207_0, hll, hgi, hw, z, q]
      simp [kn207, idxR, hxy, optI]
    · have q := eqI_f (fun e => hxy (Eq.symm e) : ¬ x = y)
      have ih := L207 c l x hl r (pre ++ [y]) (i + 1) (by rw [h]; simp) (by simp [hi])
      have e : (idxR (y :: r) x).map (i + ·) = (idxR r x).map (i + 1 + ·) := by
        rw [idxR, if_neg hxy, Option.map_map]
        congr 1
        funext n
        simp only [Function.comp]
        omega
      rw [e]
      simp only [t207] at ih ⊢
      conv => lhs; arg 4; arg 3; arg 6; simp [b207_0, hll, hgi, hw, z, q]
      simp at ih ⊢
      exact ih
set_option maxHeartbeats 2000000 in
/-- slices.Index, of ints. -/
theorem K207 (c : Bool) (s : Nat) (l : List Int) (x : Int) (hs : s = 1 ∨ l = []) (hl : l.length ≤ 2 ^ 47) : K0 54 [.slc c s (l.map (.int .i64)), .int .i64 x] [] = some (.int .i64 (optI (idxR l x)), []) := by
  refine K_call k207 (oraG_none (by decide) (by decide)) (by simp [c207]) ?_
  by_cases hn : l = []
  · subst hn
    have z := ltI_f (show ¬ ((0 : Int) < 0) by omega)
    simp [c207]
    rw [LpB_eq]
    simp [b207_0, z, idxR, optI]
  · obtain rfl := hs.resolve_right hn
    have h := L207 c l x hl l [] 0 rfl rfl
    have e : (idxR l x).map (0 + ·) = idxR l x := by simp
    rw [e] at h
    simp only [t207, kn207] at h
    simp [c207]
    simp at h
    exact h
def t210 (c : Bool) (l : List Int) (x : Int) (i : Nat) : List D := [Sl c l, .int .i64 x, .undef, .undef, .int .i64 0, .int .i64 i, .undef, .undef, .undef, .undef, .undef, .undef, .undef, .undef, .undef, .undef, .undef, .undef, .undef]
def kn210 : List Kn := [.blk 0, .c ((C.reg none [⟨some 4, none, .mv (.k (.int .i64 (-1)))⟩]).seq C.ret)]
set_option maxHeartbeats 4000000 in
theorem L210 (c : Bool) (l : List Int) (x : Int) (hl : l.length ≤ 2 ^ 47) : ∀ (r pre : List Int) (i : Nat), l = pre ++ r → i = pre.length →
    finK false 0 [Rs.tmp 4] (loopK cf0 K0 (LpB cf0 K0 b210_0 (t210 c l x 0) 0 ⟨t210 c l x i, []⟩) kn210) = some (.int .i64 (optI ((idxR r x).map (i + ·))), [])
  | [], pre, i, h, hi => by
    have : l = pre := by simpa using h
    subst this
    have z := ltI_f (show ¬ ((l.length : Int) < l.length) by omega)
    rw [LpB_eq]
    simp only [t210]
    conv => lhs; arg 4; arg 3; arg 6; simp [b210_0, hi, z]
    simp [kn210, idxR, optI]
  | y :: r, pre, i, h, hi => by
    have hll : i < l.length := by rw [h, hi]; simp
    have hget : l[i]? = some y := by rw [h, hi]; simp
    have hgi : l[i]'hll = y := by rw [List.getElem?_eq_getElem hll] at hget; exact Option.some.inj hget
    have hw := w64 (i + 1) (by omega)
    have z := ltI_t (show ((i : Int) < l.length) by omega)
    rw [LpB_eq]
    by_cases hxy : y = x
    · have q := eqI_t hxy
      simp only [t210]
      conv => lhs; arg 4; arg 3; arg 6; simp [b210_0, hll, hgi, hw, z, q]
      simp [kn210, idxR, hxy, optI]
    · have q := eqI_f hxy
      have ih := L210 c l x hl r (pre ++ [y]) (i + 1) (by rw [h]; simp) (by simp [hi])
      have e : (idxR (y :: r) x).map (i + ·) = (idxR r x).map (i + 1 + ·) := by
        rw [idxR, if_neg hxy, Option.map_map]
        congr 1
        funext n
        simp only [Function.comp]
        omega
      rw [e]
      simp only [t210] at ih ⊢
      conv => lhs; arg 4; arg 3; arg 6; simp [b210_0, hll, hgi, hw, z, q]
      simp at ih ⊢
      exact ih
set_option maxHeartbeats 2000000 in
/-- thresherref17.place. -/
theorem K210 (c : Bool) (s : Nat) (l : List Int) (x : Int) (hs : s = 1 ∨ l = []) (hl : l.length ≤ 2 ^ 47) : K0 38 [.slc c s (l.map (.int .i64)), .int .i64 x] [] = some (.int .i64 (optI (idxR l x)), []) := by
  refine K_call k210 (oraG_none (by decide) (by decide)) (by simp [c210]) ?_
  by_cases hn : l = []
  · subst hn
    have z := ltI_f (show ¬ ((0 : Int) < 0) by omega)
    simp [c210]
    rw [LpB_eq]
    simp [b210_0, z, idxR, optI]
  · obtain rfl := hs.resolve_right hn
    have h := L210 c l x hl l [] 0 rfl rfl
    have e : (idxR l x).map (0 + ·) = idxR l x := by simp
    rw [e] at h
    simp only [t210, kn210] at h
    simp [c210]
    simp at h
    exact h
def t208 (c d : Bool) (l m : List Int) (i : Nat) : List D := [Sl c l, Sl d m, .undef, .undef, .bool false, .undef, Sl c l, .int .i64 l.length, Sl d m, .int .i64 m.length, .bool false, Sl c l, .int .i64 l.length, .int .i64 i, .undef, .undef, .undef, .undef, .undef, .undef, .undef, .undef, .undef, .undef, .undef, .undef]
def kn208 : List Kn := [.blk 0, .c ((C.reg none [⟨some 4, none, .mv (.k (.bool true))⟩]).seq C.ret)]
set_option maxHeartbeats 4000000 in
theorem L208 (c d : Bool) (l m : List Int) (hl : l.length ≤ 2 ^ 47) : ∀ (r q pre : List Int) (i : Nat), l = pre ++ r → m = pre ++ q → i = pre.length → r.length = q.length →
    finK false 0 [Rs.tmp 4] (loopK cf0 K0 (LpB cf0 K0 b208_0 (t208 c d l m 0) 0 ⟨t208 c d l m i, []⟩) kn208) = some (.bool (r == q), [])
  | [], [], pre, i, h, h', hi, _ => by
    have : l = pre := by simpa using h
    subst this
    have z := ltI_f (show ¬ ((l.length : Int) < l.length) by omega)
    rw [LpB_eq]
    simp only [t208]
    conv => lhs; arg 4; arg 3; arg 6; simp [b208_0, hi, z]
    simp [kn208]
  | x :: r, y :: q, pre, i, h, h', hi, hrq => by
    have hll : i < l.length := by rw [h, hi]; simp
    have hlm : i < m.length := by rw [h', hi]; simp
    have hget : l[i]? = some x := by rw [h, hi]; simp
    have hget2 : m[i]? = some y := by rw [h', hi]; simp
    have hgi : l[i]'hll = x := by rw [List.getElem?_eq_getElem hll] at hget; exact Option.some.inj hget
    have hgm : m[i]'hlm = y := by rw [List.getElem?_eq_getElem hlm] at hget2; exact Option.some.inj hget2
    have hw := w64 (i + 1) (by omega)
    have z := ltI_t (show ((i : Int) < l.length) by omega)
    rw [LpB_eq]
    by_cases hxy : x = y
    · have hne := neI_f hxy
      have ih := L208 c d l m hl r q (pre ++ [x]) (i + 1) (by rw [h]; simp) (by rw [h', hxy]; simp) (by simp [hi]) (by simpa using hrq)
      have e : (x :: r == y :: q) = (r == q) := by simp [hxy]
      rw [e]
      simp only [t208] at ih ⊢
      conv => lhs; arg 4; arg 3; arg 6; simp [b208_0, hll, hlm, hgi, hgm, hw, hne, z, evOp, evM, wants, Ins.go, X.ev, iaM, ldM, binD, setD, applyW, Ek_ops_nil, allFree, free]
      simp at ih ⊢
      exact ih
    · have hne := neI_t hxy
      have heq : (x :: r == y :: q) = false := by simp [hxy]
      rw [heq]
      simp only [t208]
      conv => lhs; arg 4; arg 3; arg 6; simp [b208_0, hll, hlm, hgi, hgm, hw, hne, z, evOp, evM, wants, Ins.go, X.ev, iaM, ldM, binD, setD, applyW, Ek_ops_nil, allFree, free]
      simp [kn208]
  | [], y :: q, pre, i, h, h', hi, hrq => by simp at hrq
  | x :: r, [], pre, i, h, h', hi, hrq => by simp at hrq
set_option maxHeartbeats 2000000 in
/-- slices.Equal, of ints. -/
theorem K208 (c d : Bool) (s s' : Nat) (l m : List Int) (hs : s = 1 ∨ l = []) (hs' : s' = 1 ∨ m = []) (hl : l.length ≤ 2 ^ 47) : K0 55 [.slc c s (l.map (.int .i64)), .slc d s' (m.map (.int .i64))] [] = some (.bool (l == m), []) := by
  refine K_call k208 (oraG_none (by decide) (by decide)) (by simp [c208]) ?_
  by_cases he : l.length = m.length
  · have hne := neI_f (show (l.length : Int) = m.length by omega)
    by_cases hn : l = []
    · subst hn
      have hm : m = [] := List.eq_nil_of_length_eq_zero (by simpa using he.symm)
      subst hm
      have z := ltI_f (show ¬ ((0 : Int) < 0) by omega)
      have z2 := neI_f (show (0 : Int) = 0 by rfl)
      simp [c208, z2]
      rw [LpB_eq]
      simp [b208_0, z]
    · have hm : ¬ m = [] := by intro e; rw [e] at he; exact hn (List.eq_nil_of_length_eq_zero (by simpa using he))
      obtain rfl := hs.resolve_right hn
      obtain rfl := hs'.resolve_right hm
      have h := L208 c d l m hl l m [] 0 rfl rfl rfl he
      simp only [t208, kn208] at h
      simp [c208, hne]
      simp at h
      exact h
  · have hne := neI_t (show ¬ (l.length : Int) = m.length by omega)
    have hlm : (l == m) = false := by simp; intro e; exact he (by rw [e])
    rw [hlm]
    simp [c208, hne]
end Go.Ab
