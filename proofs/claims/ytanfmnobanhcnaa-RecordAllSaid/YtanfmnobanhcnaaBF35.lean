/- THE FUNCTIONS' EQUATIONS: record: writer.number, each. -/
import Derived.Test.YtanfmnobanhcnaaBF72
import Derived.Test.YtanfmnobanhcnaaBF33
set_option linter.all false
set_option maxRecDepth 100000
namespace Go.Ab
open Go.Proofs Go.Proofs.YtanfmnobanhcnaaH Go.Proofs.YtanfmnobanhcnaaH.Crc Go.Proofs.YtanfmnobanhcnaaH.Var Go.Proofs.YtanfmnobanhcnaaH.Fr Go.Proofs.YtanfmnobanhcnaaH.Rec
def c35 : Fn' := ⟨15, [], (.reg (some [(4, 7)]) [⟨(some 4), none, (.mv (.t 0))⟩, ⟨(some 5), none, (.mv (.t 0))⟩, ⟨(some 6), none, (.nc (.t 5))⟩, ⟨(some 7), none, (.fa 0 1 false (.t 6))⟩, ⟨(some 8), none, (.ld none (.t 7))⟩, ⟨(some 9), none, (.mv (.t 1))⟩, ⟨(some 10), none, (.cvt (.int .u64) (.t 9))⟩, ⟨(some 11), none, (.call (.f 66) [(.t 10)])⟩, ⟨(some 12), none, (.app 1 1 (.t 8) (.t 11))⟩, ⟨(some 13), none, (.nc (.t 4))⟩, ⟨(some 14), none, (.fa 0 1 false (.t 13))⟩, ⟨none, none, (.st 1 (.t 14) (.t 12))⟩])⟩
theorem k35 : compF Try.prog 35 = some c35 := by kernel_rfl
def b36_0 : C := (.seq (.reg none [⟨(some 13), none, (.bin .lss [] (.t 12) (.t 11))⟩]) (.seq (.cond (.t 13) .skip (.exit 0)) (.seq (.block 1 (.seq (.reg none [⟨(some 14), none, (.ia none 1 false (.t 10) (.t 12))⟩, ⟨(some 15), none, (.ld none (.t 14))⟩, ⟨(some 5), none, (.mv (.t 15))⟩]) (.reg none [⟨(some 16), none, (.mv (.t 1))⟩, ⟨(some 17), none, (.mv (.t 5))⟩, ⟨(some 18), none, (.call (.t 16) [(.t 17)])⟩]))) (.reg none [⟨(some 19), none, (.bin .add [] (.t 12) (.k (.int .i64 1)))⟩, ⟨(some 12), none, (.mv (.t 19))⟩]))))
def c36 : Fn' := ⟨20, [], (.seq (.reg none [⟨(some 6), none, (.mv (.t 1))⟩, ⟨(some 7), none, (.mv (.t 0))⟩, ⟨(some 8), none, (.len 1 (.t 7))⟩, ⟨(some 9), none, (.call (.t 6) [(.t 8)])⟩]) (.seq (.reg none [⟨(some 10), none, (.mv (.t 0))⟩, ⟨(some 11), none, (.len 1 (.t 10))⟩, ⟨(some 12), none, (.mv (.k (.int .i64 0)))⟩]) (.block 0 (.loop b36_0))))⟩
theorem k36 : compF Try.prog 36 = some c36 := by kernel_rfl
attribute [local simp] op_or op_an op_add op_eql op_neq op_lss op_gtr op_leq op_geq op_sub op_mul
attribute [-simp] intOp bin_shl
/-- A writer: ahead of what is put first, and behind it. -/
def W0 (l : List Int) : List Obj := [.box [.slc true 1 (l.map (.int .u8))]]
def W1 (l : List Int) : List Obj := [.box [.sl 1 0 l.length l.length], .row 1 (l.map (.int .u8)) 0]
theorem range2 : List.range 2 = [0, 1] := rfl
theorem range3 : List.range 3 = [0, 1, 2] := rfl
theorem range4 : List.range 4 = [0, 1, 2, 3] := rfl
attribute [simp] range2 range3 range4
theorem putI_ne (x : Int) : ¬ putI x = [] := by
  intro e
  have := putI_pos x
  rw [e] at this
  cases this
set_option maxHeartbeats 4000000 in
theorem K35a (l : List Int) (n : Int) (hl : l.length ≤ 2 ^ 40) (h0 : 0 ≤ n) (hn : n ≤ 9223372036854775807) : K0 35 [.ptr 0 0 0 0, .int .i64 n] (W0 l) = some (.tuple [], W1 (l ++ putI n)) := by
  refine K_call k35 (oraG_none (by decide) (by decide)) (by simp [c35, W0]) ?_
  have hw : IntKind.u64.wrap n = n := by rw [IntKind.wrap_u64]; omega
  have hK := N66 n h0 (by omega)
  have hq := putI_ne n
  have hpl := putI_len10 n (by omega)
  generalize putI n = p at *
  have b1 : l.length + p.length ≤ 70368744177664 := by omega
  simp [c35, W0, W1, hw, hK, hq, b1, List.take_of_length_le, evOp, evM, wants, Ins.go, X.ev, iaM, ldM, binD, intOp, setD, applyW, Ek_ops_nil, allFree, free, callM, callP, appM]
set_option maxHeartbeats 4000000 in
theorem K35b (l : List Int) (n : Int) (hl : l.length ≤ 2 ^ 40) (h0 : 0 ≤ n) (hn : n ≤ 9223372036854775807) : K0 35 [.ptr 0 0 0 0, .int .i64 n] (W1 l) = some (.tuple [], W1 (l ++ putI n)) := by
  refine K_call k35 (oraG_none (by decide) (by decide)) (by simp [c35, W1]) ?_
  have hw : IntKind.u64.wrap n = n := by rw [IntKind.wrap_u64]; omega
  have hK := N66 n h0 (by omega)
  have hq := putI_ne n
  have hpl := putI_len10 n (by omega)
  generalize putI n = p at *
  have b1 : l.length + p.length ≤ 70368744177664 := by omega
  simp [c35, W0, W1, hw, hK, hq, b1, List.take_of_length_le, evOp, evM, wants, Ins.go, X.ev, iaM, ldM, binD, intOp, setD, applyW, Ek_ops_nil, allFree, free, callM, callP, appM]
def t36 (c : Bool) (ids : List Int) (i : Nat) : List D := [.slc c 1 (ids.map (.int .i64)), .func 35 [.ptr 0 0 0 0] [], .undef, .undef, .undef, .undef, .func 35 [.ptr 0 0 0 0] [], .slc c 1 (ids.map (.int .i64)), .int .i64 ids.length, .tuple [], .slc c 1 (ids.map (.int .i64)), .int .i64 ids.length, .int .i64 i, .undef, .undef, .undef, .undef, .undef, .undef, .undef]
set_option maxHeartbeats 4000000 in
theorem L36 (c : Bool) (ids : List Int) (hl : ids.length ≤ 2 ^ 30) : ∀ (t pre acc : List Int) (i : Nat), ids = pre ++ t → i = pre.length → acc.length + 10 * t.length ≤ 2 ^ 36 → (∀ x ∈ t, 0 ≤ x ∧ x ≤ 9223372036854775807) →
    LpB cf0 K0 b36_0 (t36 c ids 0) 2 ⟨t36 c ids i, W1 acc⟩ = some (.exit 0, ⟨t36 c ids ids.length, W1 (acc ++ putAllI t)⟩)
  | [], pre, acc, i, h, hi, hb, hx => by
    have : ids = pre := by simpa using h
    subst this
    rw [LpB_eq]
    simp only [t36, W1]
    conv => lhs; arg 6; simp [b36_0, hi]
    simp [hi, putAllI]
  | x :: t, pre, acc, i, h, hi, hb, hx => by
    have hx0 := hx x List.mem_cons_self
    have hll : i < ids.length := by rw [h, hi]; simp
    have hget : ids[i]? = some x := by rw [h, hi]; simp
    have hgi : ids[i]'hll = x := by rw [List.getElem?_eq_getElem hll] at hget; exact Option.some.inj hget
    have hw := w64 (i + 1) (by omega)
    have hp := putI_len10 x (by omega)
    simp only [List.length_cons] at hb
    have hK := K35b acc x (by omega) (by omega) (by omega)
    have ih := L36 c ids hl t (pre ++ [x]) (acc ++ putI x) (i + 1) (by rw [h]; simp) (by simp [hi]) (by simp; omega) (fun y hy => hx y (List.mem_cons_of_mem _ hy))
    rw [allP_pos, ← List.append_assoc]
    rw [LpB_eq]
    simp only [t36, W1] at ih hK ⊢
    conv => lhs; arg 6; simp [b36_0, hll, hgi, hw, hK, backK]
    simp at ih ⊢
    exact ih
set_option maxHeartbeats 4000000 in
theorem K36 (c : Bool) (s : Nat) (ids : List Int) (hs : s = 1 ∨ ids = []) (acc : List Int) (hl : ids.length ≤ 2 ^ 30) (ha : acc.length ≤ 2 ^ 30) (hx : ∀ x ∈ ids, 0 ≤ x ∧ x ≤ 9223372036854775807) :
    K0 36 [.slc c s (ids.map (.int .i64)), .func 35 [.ptr 0 0 0 0] []] (W1 acc) = some (.tuple [], W1 (acc ++ putI ids.length ++ putAllI ids)) := by
  refine K_call k36 (oraG_none (by decide) (by decide)) (by simp [c36, W1]) ?_
  have hp := putI_len10 (ids.length : Int) (by omega)
  have hK := K35b acc ids.length (by omega) (by omega) (by omega)
  rcases hs with rfl | rfl
  · have h := L36 c ids hl ids [] (acc ++ putI ids.length) 0 rfl rfl (by simp; omega) hx
    generalize putI (ids.length : Int) = p at *
    simp only [t36, W1] at h hK ⊢
    simp [c36, hK, backK]
    simp at h
    simp [h]
  · simp only [W1] at hK ⊢
    simp at hK
    simp [c36, hK, backK]
    rw [LpB_eq]
    simp [b36_0, putAllI]
end Go.Ab
