/- THE FUNCTIONS' EQUATIONS: thresherref06: Each, place, Dict, Put. -/
import Derived.Test.YtanfmnobanhcnaaBPBlk
import Derived.Test.YtanfmnobanhcnaaBF75
import Derived.Test.YtanfmnobanhcnaaBCel
import Derived.Test.YtanfmnobanhcnaaBG1
set_option linter.all false
set_option maxRecDepth 100000
namespace Go.Ab
open Go.Proofs Go.Proofs.YtanfmnobanhcnaaH Go.Proofs.YtanfmnobanhcnaaH.Crc Go.Proofs.YtanfmnobanhcnaaH.Var Go.Proofs.YtanfmnobanhcnaaH.Fr
def b90_0 : C := (.seq (.seq (.reg none [⟨(some 6), none, (.mv (.t 4))⟩, ⟨(some 7), none, (.mv (.t 0))⟩, ⟨(some 8), none, (.len 1 (.t 7))⟩, ⟨(some 9), none, (.bin .lss [] (.t 6) (.t 8))⟩]) (.cond (.t 9) .skip (.exit 0))) (.seq (.block 1 (.reg (some [(3, 11), (4, 11), (7, 11), (8, 11), (3, 12), (4, 12), (7, 12), (8, 12)]) [⟨(some 12), none, (.mv (.t 3))⟩, ⟨(some 13), none, (.mv (.t 0))⟩, ⟨(some 14), none, (.mv (.t 4))⟩, ⟨(some 15), none, (.ia none 1 false (.t 13) (.t 14))⟩, ⟨(some 16), none, (.ld none (.t 15))⟩, ⟨(some 17), none, (.len 0 (.t 16))⟩, ⟨(some 18), none, (.cvt (.int .u64) (.t 17))⟩, ⟨(some 19), none, (.call (.f 39) [(.t 18)])⟩, ⟨(some 20), none, (.app 1 1 (.t 12) (.t 19))⟩, ⟨(some 21), none, (.mv (.t 0))⟩, ⟨(some 22), none, (.mv (.t 4))⟩, ⟨(some 23), none, (.ia none 1 false (.t 21) (.t 22))⟩, ⟨(some 24), none, (.ld none (.t 23))⟩, ⟨(some 25), none, (.app 1 1 (.t 20) (.t 24))⟩, ⟨(some 3), none, (.mv (.t 25))⟩])) (.reg none [⟨(some 10), none, (.mv (.t 4))⟩, ⟨(some 11), none, (.bin .add [] (.t 10) (.k (.int .i64 1)))⟩, ⟨(some 4), none, (.mv (.t 11))⟩])))
def c90 : Fn' := ⟨27, [(.tmp 2)], (.seq (.reg none [⟨(some 2), none, (.mv (.k nilS))⟩]) (.seq (.reg none [⟨(some 5), none, (.bsl true 1 0 [(.int .u8 0)] [])⟩, ⟨(some 3), none, (.mv (.t 5))⟩]) (.seq (.seq (.reg none [⟨(some 4), none, (.mv (.k (.int .i64 0)))⟩]) (.block 0 (.loop b90_0))) (.seq (.reg none [⟨(some 26), none, (.mv (.t 3))⟩, ⟨(some 2), none, (.mv (.t 26))⟩]) .ret))))⟩
theorem k90 : compF Try.prog 90 = some c90 := by kernel_rfl
def b112_0 : C := (.seq (.seq (.reg none [⟨(some 6), none, (.mv (.t 5))⟩, ⟨(some 7), none, (.mv (.t 0))⟩, ⟨(some 8), none, (.len 1 (.t 7))⟩, ⟨(some 9), none, (.bin .lss [] (.t 6) (.t 8))⟩]) (.cond (.t 9) .skip (.exit 0))) (.seq (.block 1 (.seq (.reg none [⟨(some 12), none, (.mv (.t 0))⟩, ⟨(some 13), none, (.mv (.t 5))⟩, ⟨(some 14), none, (.ia none 1 false (.t 12) (.t 13))⟩, ⟨(some 15), none, (.ld none (.t 14))⟩, ⟨(some 16), none, (.mv (.t 1))⟩, ⟨(some 17), none, (.bin .eql [] (.t 15) (.t 16))⟩]) (.cond (.t 17) (.seq (.reg none [⟨(some 18), none, (.mv (.t 5))⟩, ⟨(some 4), none, (.mv (.t 18))⟩]) .ret) .skip))) (.reg none [⟨(some 10), none, (.mv (.t 5))⟩, ⟨(some 11), none, (.bin .add [] (.t 10) (.k (.int .i64 1)))⟩, ⟨(some 5), none, (.mv (.t 11))⟩])))
def c112 : Fn' := ⟨19, [(.tmp 4)], (.seq (.reg none [⟨(some 4), none, (.mv (.k (.int .i64 0)))⟩]) (.seq (.seq (.reg none [⟨(some 5), none, (.mv (.k (.int .i64 0)))⟩]) (.block 0 (.loop b112_0))) (.seq (.reg none [⟨(some 4), none, (.mv (.k (.int .i64 (-1))))⟩]) .ret)))⟩
theorem k112 : compF Try.prog 112 = some c112 := by kernel_rfl
def b89_0 : C := (.seq (.seq (.reg none [⟨(some 9), none, (.mv (.t 5))⟩, ⟨(some 10), none, (.mv (.t 0))⟩, ⟨(some 11), none, (.len 1 (.t 10))⟩, ⟨(some 12), none, (.bin .lss [] (.t 9) (.t 11))⟩]) (.cond (.t 12) .skip (.exit 0))) (.seq (.block 1 (.seq (.reg none [⟨(some 15), none, (.mv (.t 3))⟩, ⟨(some 16), none, (.mv (.t 0))⟩, ⟨(some 17), none, (.mv (.t 5))⟩, ⟨(some 18), none, (.ia none 1 false (.t 16) (.t 17))⟩, ⟨(some 19), none, (.ld none (.t 18))⟩, ⟨(some 20), none, (.call (.f 112) [(.t 15), (.t 19)])⟩, ⟨(some 6), none, (.mv (.t 20))⟩]) (.seq (.seq (.reg none [⟨(some 21), none, (.mv (.t 6))⟩, ⟨(some 22), none, (.bin .lss [] (.t 21) (.k (.int .i64 0)))⟩]) (.cond (.t 22) (.seq (.reg none [⟨(some 23), none, (.mv (.t 3))⟩, ⟨(some 24), none, (.len 1 (.t 23))⟩, ⟨(some 6), none, (.mv (.t 24))⟩]) (.reg none [⟨(some 25), none, (.mv (.t 3))⟩, ⟨(some 26), none, (.mv (.t 0))⟩, ⟨(some 27), none, (.mv (.t 5))⟩, ⟨(some 28), none, (.ia none 1 false (.t 26) (.t 27))⟩, ⟨(some 29), none, (.ld none (.t 28))⟩, ⟨(some 30), none, (.bsl false 1 1 [(.str [])] [(0, (.t 29))])⟩, ⟨(some 31), none, (.app 1 16 (.t 25) (.t 30))⟩, ⟨(some 3), none, (.mv (.t 31))⟩])) .skip)) (.reg none [⟨(some 32), none, (.mv (.t 4))⟩, ⟨(some 33), none, (.mv (.t 6))⟩, ⟨(some 34), none, (.cvt (.int .u64) (.t 33))⟩, ⟨(some 35), none, (.call (.f 39) [(.t 34)])⟩, ⟨(some 36), none, (.app 1 1 (.t 32) (.t 35))⟩, ⟨(some 4), none, (.mv (.t 36))⟩])))) (.reg none [⟨(some 13), none, (.mv (.t 5))⟩, ⟨(some 14), none, (.bin .add [] (.t 13) (.k (.int .i64 1)))⟩, ⟨(some 5), none, (.mv (.t 14))⟩])))
def r89 : C := (.seq (.reg none [⟨(some 37), none, (.mv (.t 3))⟩, ⟨(some 38), none, (.len 1 (.t 37))⟩, ⟨(some 39), none, (.cvt (.int .u64) (.t 38))⟩, ⟨(some 40), none, (.call (.f 39) [(.t 39)])⟩, ⟨(some 41), none, (.mv (.t 3))⟩, ⟨(some 42), none, (.call (.f 90) [(.t 41)])⟩, ⟨(some 43), none, (.app 1 1 (.t 40) (.t 42))⟩, ⟨(some 44), none, (.mv (.t 4))⟩, ⟨(some 45), none, (.app 1 1 (.t 43) (.t 44))⟩, ⟨(some 2), none, (.mv (.t 45))⟩]) .ret)
def c89 : Fn' := ⟨46, [(.tmp 2)], (.seq (.reg none [⟨(some 2), none, .nilrow⟩]) (.seq (.reg none [⟨(some 7), none, (.bsl true 1 0 [(.str [])] [])⟩, ⟨(some 3), none, (.mv (.t 7))⟩]) (.seq (.reg none [⟨(some 8), none, (.bsl true 1 0 [(.int .u8 0)] [])⟩, ⟨(some 4), none, (.mv (.t 8))⟩]) (.seq (.seq (.reg none [⟨(some 5), none, (.mv (.k (.int .i64 0)))⟩]) (.block 0 (.loop b89_0))) r89))))⟩
theorem k89 : compF Try.prog 89 = some c89 := by kernel_rfl
def c61 : Fn' := ⟨29, [(.tmp 2)], (.seq (.reg none [⟨(some 2), none, .nilrow⟩]) (.seq (.reg none [⟨(some 6), none, (.mv (.t 0))⟩, ⟨(some 7), none, (.len 1 (.t 6))⟩, ⟨(some 8), none, (.cvt (.int .u64) (.t 7))⟩, ⟨(some 9), none, (.call (.f 39) [(.t 8)])⟩, ⟨(some 3), none, (.mv (.t 9))⟩]) (.seq (.reg none [⟨(some 10), none, (.mv (.t 0))⟩, ⟨(some 11), none, (.call (.f 89) [(.t 10)])⟩, ⟨(some 4), none, (.mv (.t 11))⟩]) (.seq (.reg none [⟨(some 12), none, (.mv (.t 0))⟩, ⟨(some 13), none, (.call (.f 90) [(.t 12)])⟩, ⟨(some 5), none, (.mv (.t 13))⟩]) (.seq (.seq (.reg none [⟨(some 14), none, (.mv (.t 4))⟩, ⟨(some 15), none, (.len 1 (.t 14))⟩, ⟨(some 16), none, (.mv (.t 5))⟩, ⟨(some 17), none, (.len 1 (.t 16))⟩, ⟨(some 18), none, (.bin .lss [] (.t 15) (.t 17))⟩]) (.cond (.t 18) (.seq (.reg none [⟨(some 19), none, (.mv (.t 3))⟩, ⟨(some 20), none, (.bsl false 1 1 [(.int .u8 0)] [(0, (.k (.int .u8 1)))])⟩, ⟨(some 21), none, (.app 1 1 (.t 19) (.t 20))⟩, ⟨(some 22), none, (.mv (.t 4))⟩, ⟨(some 23), none, (.app 1 1 (.t 21) (.t 22))⟩, ⟨(some 2), none, (.mv (.t 23))⟩]) .ret) .skip)) (.seq (.reg none [⟨(some 24), none, (.mv (.t 3))⟩, ⟨(some 25), none, (.bsl false 1 1 [(.int .u8 0)] [(0, (.k (.int .u8 0)))])⟩, ⟨(some 26), none, (.app 1 1 (.t 24) (.t 25))⟩, ⟨(some 27), none, (.mv (.t 5))⟩, ⟨(some 28), none, (.app 1 1 (.t 26) (.t 27))⟩, ⟨(some 2), none, (.mv (.t 28))⟩]) .ret))))))⟩
theorem k61 : compF Try.prog 61 = some c61 := by kernel_rfl
attribute [local simp] op_or op_an op_add op_sub op_mul oq_eql oq_neq oq_lss oq_gtr oq_leq oq_geq op_rm op_qu
attribute [-simp] intOp bin_shl bin_shr
def t90 (c : Bool) (s : Nat) (l : List Tx) (a i : Nat) : List D := [.slc c s (l.map D.str), .undef, nilS, .sl 0 0 a a, .int .i64 i, .sl 0 0 0 0, .undef, .undef, .undef, .undef, .undef, .undef, .undef, .undef, .undef, .undef, .undef, .undef, .undef, .undef, .undef, .undef, .undef, .undef, .undef, .undef, .undef]
set_option maxHeartbeats 4000000 in
theorem L90 (c : Bool) (s : Nat) (l : List Tx) (hs : s = 1 ∨ l = []) (hl : l.length ≤ 2 ^ 30) : ∀ (t pre : List Tx) (acc : List Int) (a i : Nat), l = pre ++ t → i = pre.length → a = acc.length → acc.length + (eachI t).length ≤ 2 ^ 40 →
    LpB cf0 K0 b90_0 (t90 c s l 0 0) 1 ⟨t90 c s l a i, [.row 1 (acc.map (.int .u8)) 0]⟩ = some (.exit 0, ⟨t90 c s l (acc ++ eachI t).length l.length, [.row 1 ((acc ++ eachI t).map (.int .u8)) 0]⟩)
  | [], pre, acc, a, i, h, hi, ha, hb => by
    have : l = pre := by simpa using h
    subst this
    have z1 : ltI (i : Int) l.length = false := ltI_f (by omega)
    have e : eachI [] = [] := rfl
    rw [LpB_eq]
    simp only [t90, e]
    conv => lhs; arg 6; simp [b90_0, z1]
    simp [hi, ha]
  | x :: t, pre, acc, a, i, h, hi, ha, hb => by
    have hll : i < l.length := by rw [h, hi]; simp
    have z1 : ltI (i : Int) l.length = true := ltI_t (by omega)
    have hget : l[i]? = some x := by rw [h, hi]; simp
    have hgi : l[i]'hll = x := by rw [List.getElem?_eq_getElem hll] at hget; exact Option.some.inj hget
    have hw := w64 (i + 1) (by omega)
    obtain rfl : s = 1 := hs.resolve_right (by intro e; subst e; simp at hll)
    rw [each_cons] at hb ⊢
    simp only [List.length_append, bsI_len] at hb
    have hwx : IntKind.u64.wrap (x.length : Int) = x.length := by rw [IntKind.wrap_u64]; omega
    have hK := K39 (x.length : Int) (by omega) (by omega)
    have hpn := putI_ne' (x.length : Int)
    generalize putI (x.length : Int) = p at *
    have ih := L90 c 1 l hs hl t (pre ++ [x]) (acc ++ (p ++ bsI x)) (acc ++ (p ++ bsI x)).length (i + 1) (by rw [h]; simp) (by simp [hi]) rfl (by simp [bsI_len]; omega)
    rw [show acc ++ (p ++ (bsI x ++ eachI t)) = acc ++ (p ++ bsI x) ++ eachI t by simp]
    have b1 : acc.length + p.length ≤ 70368744177664 := by omega
    have b2 : acc.length + (p.length + x.length) ≤ 70368744177664 := by omega
    subst ha
    rw [LpB_eq]
    simp only [t90] at ih ⊢
    by_cases hx : x = []
    · subst hx
      simp only [bsI, List.map_nil, List.append_nil, List.length_nil, Int.natCast_zero] at ih ⊢ hwx hK
      have hw0 : IntKind.u64.wrap 0 = 0 := by decide
      have hK0 : K0 39 [.int .u64 0] [] = _ := hK
      conv => lhs; arg 6; simp [b90_0, z1, hll, hgi, hw, hK0, hw0, hpn, b1, List.take_of_length_le, Nat.add_assoc, evOp, evM, wants, Ins.go, X.ev, iaM, ldM, binD, setD, applyW, Ek_ops_nil, allFree, free, callM, callP, appM]
      simp at ih ⊢
      exact ih
    · conv => lhs; arg 6; simp [b90_0, z1, hll, hgi, hw, hK, hwx, hpn, hx, b1, b2, List.take_of_length_le, Nat.add_assoc, evOp, evM, wants, Ins.go, X.ev, iaM, ldM, binD, setD, applyW, Ek_ops_nil, allFree, free, callM, callP, appM]
      simp [bsI_map, bsI_len, Nat.add_assoc] at ih ⊢
      exact ih
set_option maxHeartbeats 4000000 in
/-- thresherref06.Each. -/
theorem K90 (c : Bool) (s : Nat) (l : List Tx) (hs : s = 1 ∨ l = []) (hl : l.length ≤ 2 ^ 30) (hb : (eachI l).length ≤ 2 ^ 40) : K0 90 [.slc c s (l.map D.str)] [] = some (.slc false 1 ((eachI l).map (.int .u8)), []) := by
  have h := L90 c s l hs hl l [] [] 0 0 rfl rfl rfl (by simpa using hb)
  refine K_call k90 (oraG_none (by decide) (by decide)) (by simp [c90]) ?_
  rw [List.nil_append] at h
  generalize eachI l = E at *
  simp only [t90] at h
  simp [c90]
  simp at h
  rw [h]
  simp [List.take_of_length_le]
def t112 (c : Bool) (l : List Tx) (x : Tx) (i : Nat) : List D := [.slc c 1 (l.map D.str), .str x, .undef, .undef, .int .i64 0, .int .i64 i, .undef, .undef, .undef, .undef, .undef, .undef, .undef, .undef, .undef, .undef, .undef, .undef, .undef]
def kn112 : List Kn := [.blk 0, .c ((C.reg none [⟨some 4, none, .mv (.k (.int .i64 (-1)))⟩]).seq C.ret)]
set_option maxHeartbeats 4000000 in
theorem L112 (c : Bool) (l : List Tx) (x : Tx) (hl : l.length ≤ 2 ^ 47) : ∀ (t pre : List Tx) (i : Nat), l = pre ++ t → i = pre.length →
    finK false 0 [.tmp 4] (loopK cf0 K0 (LpB cf0 K0 b112_0 (t112 c l x 0) 0 ⟨t112 c l x i, []⟩) kn112) = some (.int .i64 (if x ∈ t then ((i + t.idxOf x : Nat) : Int) else -1), [])
  | [], pre, i, h, hi => by
    have : l = pre := by simpa using h
    subst this
    have z1 : ltI (i : Int) l.length = false := ltI_f (by omega)
    rw [LpB_eq]
    simp only [t112]
    conv => lhs; arg 4; arg 3; arg 6; simp [b112_0, z1]
    simp [kn112]
  | y :: t, pre, i, h, hi => by
    have hll : i < l.length := by rw [h, hi]; simp
    have z1 : ltI (i : Int) l.length = true := ltI_t (by omega)
    have hget : l[i]? = some y := by rw [h, hi]; simp
    have hgi : l[i]'hll = y := by rw [List.getElem?_eq_getElem hll] at hget; exact Option.some.inj hget
    have hw := w64 (i + 1) (by omega)
    rw [LpB_eq]
    by_cases hxy : y = x
    · subst hxy
      simp only [t112]
      conv => lhs; arg 4; arg 3; arg 6; simp [b112_0, z1, hll, hgi]
      simp [kn112]
    · have ih := L112 c l x hl t (pre ++ [y]) (i + 1) (by rw [h]; simp) (by simp [hi])
      have e : (if x ∈ y :: t then ((i + (y :: t).idxOf x : Nat) : Int) else -1) = if x ∈ t then ((i + 1 + t.idxOf x : Nat) : Int) else -1 := by
        have h1 : (x ∈ y :: t) ↔ x ∈ t := by
          rw [List.mem_cons]
          exact ⟨fun h => h.resolve_left fun e => hxy e.symm, .inr⟩
        by_cases hm : x ∈ t
        · rw [if_pos (h1.2 hm), if_pos hm, List.idxOf_cons]
          have hb : (y == x) = false := by simpa using hxy
          rw [hb]
          simp; omega
        · rw [if_neg (fun h => hm (h1.1 h)), if_neg hm]
      rw [e]
      have hne : (y == x) = false := by simpa using hxy
      generalize (if x ∈ t then ((i + 1 + t.idxOf x : Nat) : Int) else -1) = V at *
      simp only [t112] at ih ⊢
      conv => lhs; arg 4; arg 3; arg 6; simp [b112_0, z1, hll, hgi, hne, hw]
      simp at ih ⊢
      exact ih
set_option maxHeartbeats 4000000 in
/-- place. -/
theorem K112 (c : Bool) (s : Nat) (l : List Tx) (hs : s = 1 ∨ l = []) (x : Tx) (hl : l.length ≤ 2 ^ 47) : K0 112 [.slc c s (l.map D.str), .str x] [] = some (.int .i64 (if x ∈ l then ((l.idxOf x : Nat) : Int) else -1), []) := by
  refine K_call k112 (oraG_none (by decide) (by decide)) (by simp [c112]) ?_
  rcases hs with rfl | rfl
  · have h := L112 c l x hl l [] 0 rfl rfl
    simp only [t112, kn112, Nat.zero_add] at h
    simp [c112]
    simp at h
    exact h
  · have z1 : ltI 0 0 = false := rfl
    simp [c112]
    rw [LpB_eq]
    simp [b112_0, z1]
def t89 (c : Bool) (s : Nat) (l : List Tx) (a b i : Nat) : List D := [.slc c s (l.map D.str), .undef, .sl 0 0 0 0, .sl 1 0 a a, .sl 2 0 b b, .int .i64 i, .undef, .sl 1 0 0 0, .sl 2 0 0 0, .undef, .undef, .undef, .undef, .undef, .undef, .undef, .undef, .undef, .undef, .undef, .undef, .undef, .undef, .undef, .undef, .undef, .undef, .undef, .undef, .undef, .undef, .undef, .undef, .undef, .undef, .undef, .undef, .undef, .undef, .undef, .undef, .undef, .undef, .undef, .undef, .undef]
set_option maxHeartbeats 8000000 in
theorem L89 (c : Bool) (s : Nat) (l : List Tx) (hs : s = 1 ∨ l = []) (hl : l.length ≤ 2 ^ 30) : ∀ (t pre : List Tx) (W : List Tx) (P : List Int) (a b i f : Nat), l = pre ++ t → i = pre.length → a = W.length → b = P.length → W.length ≤ i → P.length ≤ 10 * i →
    ∃ f', LpB cf0 K0 b89_0 (t89 c s l 0 0 0) 3 ⟨t89 c s l a b i, [.row 0 [] 0, .row 1 (W.map D.str) f, .row 1 (P.map (.int .u8)) 0]⟩ =
      some (.exit 0, ⟨t89 c s l (t.foldl dictS (W, P)).1.length (t.foldl dictS (W, P)).2.length l.length, [.row 0 [] 0, .row 1 ((t.foldl dictS (W, P)).1.map D.str) f', .row 1 ((t.foldl dictS (W, P)).2.map (.int .u8)) 0]⟩)
  | [], pre, W, P, a, b, i, f, h, hi, ha, hb, hW, hP => by
    have : l = pre := by simpa using h
    subst this
    have z1 : ltI (i : Int) l.length = false := ltI_f (by omega)
    refine ⟨f, ?_⟩
    rw [LpB_eq]
    simp only [t89, List.foldl_nil]
    conv => lhs; arg 6; simp [b89_0, z1]
    simp [hi, ha, hb]
  | x :: t, pre, W, P, a, b, i, f, h, hi, ha, hb, hW, hP => by
    have hil : i < 2 ^ 30 := by have : l.length = pre.length + (t.length + 1) := by rw [h]; simp
                                omega
    have hll : i < l.length := by rw [h, hi]; simp
    have z1 : ltI (i : Int) l.length = true := ltI_t (by omega)
    have hget : l[i]? = some x := by rw [h, hi]; simp
    have hgi : l[i]'hll = x := by rw [List.getElem?_eq_getElem hll] at hget; exact Option.some.inj hget
    have hw := w64 (i + 1) (by omega)
    obtain rfl : s = 1 := hs.resolve_right (by intro e; subst e; simp at hll)
    have h112 := K112 false 1 W (.inl rfl) x (by omega)
    rw [List.foldl_cons]
    subst ha hb
    by_cases hx : x ∈ W
    · have hk : W.idxOf x < W.length := List.idxOf_lt_length_of_mem hx
      have e : dictS (W, P) x = (W, P ++ putI (W.idxOf x)) := by unfold dictS; rw [if_pos hx]
      rw [e]
      rw [if_pos hx] at h112
      generalize W.idxOf x = k at *
      have z2 : ltI (k : Int) 0 = false := ltI_f (by omega)
      have hwk : IntKind.u64.wrap (k : Int) = k := by rw [IntKind.wrap_u64]; omega
      have hK := K39 (k : Int) (by omega) (by omega)
      have hpn := putI_ne' (k : Int)
      have hpl := putI_len10 (k : Int) (by omega)
      generalize putI (k : Int) = p at *
      obtain ⟨f', ih⟩ := L89 c 1 l hs hl t (pre ++ [x]) W (P ++ p) W.length (P ++ p).length (i + 1) W.length (by rw [h]; simp) (by simp [hi]) rfl rfl (by omega) (by simp; omega)
      refine ⟨f', ?_⟩
      generalize t.foldl dictS (W, P ++ p) = Q at *
      have b1 : P.length + p.length ≤ 70368744177664 := by omega
      rw [LpB_eq]
      simp only [t89] at ih ⊢
      conv => lhs; arg 6; simp [b89_0, z1, hll, hgi, hw, h112, z2, hwk, hK, hpn, b1, List.take_of_length_le, List.lookup]
      simp at ih ⊢
      exact ih
    · have e : dictS (W, P) x = (W ++ [x], P ++ putI W.length) := by unfold dictS; rw [if_neg hx]
      rw [e]
      rw [if_neg hx] at h112
      have z2 : ltI (-1) 0 = true := rfl
      have hwk : IntKind.u64.wrap (W.length : Int) = W.length := by rw [IntKind.wrap_u64]; omega
      have hK := K39 (W.length : Int) (by omega) (by omega)
      have hpn := putI_ne' (W.length : Int)
      have hpl := putI_len10 (W.length : Int) (by omega)
      generalize putI (W.length : Int) = p at *
      obtain ⟨f', ih⟩ := L89 c 1 l hs hl t (pre ++ [x]) (W ++ [x]) (P ++ p) (W ++ [x]).length (P ++ p).length (i + 1) W.length (by rw [h]; simp) (by simp [hi]) rfl rfl (by simp; omega) (by simp; omega)
      refine ⟨f', ?_⟩
      generalize t.foldl dictS (W ++ [x], P ++ p) = Q at *
      have b1 : P.length + p.length ≤ 70368744177664 := by omega
      have b2 : (W.length + 1) * 16 ≤ 70368744177664 := by omega
      rw [LpB_eq]
      simp only [t89] at ih ⊢
      conv => lhs; arg 6; simp [b89_0, z1, hll, hgi, hw, h112, z2, hwk, hK, hpn, b1, b2, List.take_of_length_le, List.lookup]
      simp at ih ⊢
      exact ih
set_option maxHeartbeats 8000000 in
/-- thresherref06.Dict. -/
theorem K89 (c : Bool) (s : Nat) (l : List Tx) (hs : s = 1 ∨ l = []) (hl : l.length ≤ 2 ^ 30) (hb : (dictI l).length ≤ 2 ^ 40) : K0 89 [.slc c s (l.map D.str)] [] = some (.slc false 1 ((dictI l).map (.int .u8)), []) := by
  obtain ⟨f', h⟩ := L89 c s l hs hl l [] [] [] 0 0 0 0 rfl rfl rfl rfl (by simp) (by simp)
  have hF := dictF l ([], [])
  unfold dictI at hb ⊢
  generalize l.foldl dictS ([], []) = Q at *
  obtain ⟨W, P⟩ := Q
  simp only at h hF hb ⊢
  simp only [List.length_append] at hb
  have hWl : W.length ≤ l.length := by simpa using hF.1
  have hwk : IntKind.u64.wrap (W.length : Int) = W.length := by rw [IntKind.wrap_u64]; omega
  have hK := K39 (W.length : Int) (by omega) (by omega)
  have hpn := putI_ne' (W.length : Int)
  have h90 := K90 false 1 W (.inl rfl) (by omega) (by omega)
  generalize putI (W.length : Int) = p at *
  generalize eachI W = E at *
  have b0 : p.length ≤ 70368744177664 := by omega
  have b1 : p.length + E.length ≤ 70368744177664 := by omega
  have b2 : p.length + (E.length + P.length) ≤ 70368744177664 := by omega
  have b3 : p.length + P.length ≤ 70368744177664 := by omega
  refine K_call k89 (oraG_none (by decide) (by decide)) (by simp [c89]) ?_
  simp only [t89] at h
  simp [c89]
  simp at h
  rw [h]
  by_cases hE : E = []
  · subst hE
    by_cases hP : P = []
    · subst hP
      simp [r89, hwk, hK, hpn, h90, b0, List.take_of_length_le, Nat.add_assoc, List.lookup]
    · simp [r89, hwk, hK, hpn, h90, hP, b0, b3, List.take_of_length_le, Nat.add_assoc, List.lookup]
  · by_cases hP : P = []
    · subst hP
      simp [r89, hwk, hK, hpn, h90, hE, b0, b1, List.take_of_length_le, Nat.add_assoc, List.lookup]
    · simp [r89, hwk, hK, hpn, h90, hE, hP, b0, b1, b2, List.take_of_length_le, Nat.add_assoc, List.lookup]
set_option maxHeartbeats 4000000 in
/-- thresherref06.Put. -/
theorem K61 (c : Bool) (s : Nat) (l : List Tx) (hs : s = 1 ∨ l = []) (hl : l.length ≤ 2 ^ 30) (hb : (eachI l).length ≤ 2 ^ 40) (hb2 : (dictI l).length ≤ 2 ^ 40) : K0 61 [.slc c s (l.map D.str)] [] = some (.slc false 1 ((textsI l).map (.int .u8)), []) := by
  have h89 := K89 c s l hs hl hb2
  have h90 := K90 c s l hs hl hb
  have hwx : IntKind.u64.wrap (l.length : Int) = l.length := by rw [IntKind.wrap_u64]; omega
  have hK := K39 (l.length : Int) (by omega) (by omega)
  have hpn := putI_ne' (l.length : Int)
  have hpl := putI_len10 (l.length : Int) (by omega)
  unfold textsI
  generalize putI (l.length : Int) = p at *
  generalize eachI l = E at *
  generalize dictI l = F at *
  have c1 : F.length + 1 = 1 + F.length := Nat.add_comm _ _
  have c2 : E.length + 1 = 1 + E.length := Nat.add_comm _ _
  have b0 : p.length ≤ 70368744177663 := by omega
  have b1 : p.length + (1 + E.length) ≤ 70368744177664 := by omega
  have b2 : p.length + (1 + F.length) ≤ 70368744177664 := by omega
  refine K_call k61 (oraG_none (by decide) (by decide)) (by simp [c61]) ?_
  by_cases hF : F.length < E.length
  · rw [if_pos hF]
    have z1 : ltI (F.length : Int) E.length = true := ltI_t (by omega)
    by_cases hFn : F = []
    · subst hFn
      simp at z1
      simp [c61, h89, h90, z1, hwx, hK, hpn, c1, b0, b2, List.take_of_length_le, Nat.add_assoc]
    · simp [c61, h89, h90, z1, hwx, hK, hpn, hFn, c1, b0, b2, List.take_of_length_le, Nat.add_assoc]
  · rw [if_neg hF]
    have z1 : ltI (F.length : Int) E.length = false := ltI_f (by omega)
    by_cases hEn : E = []
    · subst hEn
      simp at z1
      simp [c61, h89, h90, z1, hwx, hK, hpn, c2, b0, b1, List.take_of_length_le, Nat.add_assoc]
    · simp [c61, h89, h90, z1, hwx, hK, hpn, hEn, c2, b0, b1, List.take_of_length_le, Nat.add_assoc]
end Go.Ab
/- THE FUNCTIONS' EQUATIONS: thresherref06: each, numbered, Take. -/
set_option linter.all false
set_option maxRecDepth 100000
namespace Go.Ab
open Go.Proofs Go.Proofs.YtanfmnobanhcnaaH Go.Proofs.YtanfmnobanhcnaaH.Crc Go.Proofs.YtanfmnobanhcnaaH.Var Go.Proofs.YtanfmnobanhcnaaH.Fr
def b99_0 : C := (.seq (.seq (.reg none [⟨(some 12), none, (.mv (.t 8))⟩, ⟨(some 13), none, (.mv (.t 1))⟩, ⟨(some 14), none, (.bin .lss [] (.t 12) (.t 13))⟩]) (.cond (.t 14) .skip (.exit 0))) (.seq (.block 1 (.seq (.reg none [⟨(some 18), none, (.mv (.t 0))⟩, ⟨(some 19), none, (.call (.f 79) [(.t 18)])⟩, ⟨(some 17), none, (.mv (.t 19))⟩, ⟨(some 20), none, (.ext (.t 17) 0)⟩, ⟨(some 21), none, (.ext (.t 17) 1)⟩, ⟨(some 9), none, (.mv (.t 20))⟩, ⟨(some 10), none, (.mv (.t 21))⟩]) (.seq (.seq (.reg none [⟨(some 22), none, (.mv (.t 10))⟩, ⟨(some 23), none, (.bin .eql [] (.t 22) (.k (.int .i64 0)))⟩, ⟨(some 24), none, (.mv (.t 23))⟩, ⟨(some 25), (some ((some 24), false)), (.mv (.t 9))⟩, ⟨(some 26), (some ((some 24), false)), (.bin .gtr [] (.t 25) (.k (.int .u64 60)))⟩, ⟨(some 27), none, (.pick (.t 24) (.k (.bool true)) (.t 26))⟩, ⟨(some 28), none, (.mv (.t 27))⟩, ⟨(some 29), (some ((some 28), false)), (.mv (.t 0))⟩, ⟨(some 30), (some ((some 28), false)), (.len 1 (.t 29))⟩, ⟨(some 31), (some ((some 28), false)), (.mv (.t 10))⟩, ⟨(some 32), (some ((some 28), false)), (.bin .sub [] (.t 30) (.t 31))⟩, ⟨(some 33), (some ((some 28), false)), (.mv (.t 9))⟩, ⟨(some 34), (some ((some 28), false)), (.cvt (.int .i64) (.t 33))⟩, ⟨(some 35), (some ((some 28), false)), (.bin .lss [] (.t 32) (.t 34))⟩, ⟨(some 36), none, (.pick (.t 28) (.k (.bool true)) (.t 35))⟩]) (.cond (.t 36) (.seq (.reg none [⟨(some 4), none, (.mv (.k nilS))⟩, ⟨(some 5), none, (.mv (.k nilS))⟩, ⟨(some 6), none, (.mv (.k (.bool false)))⟩]) .ret) .skip)) (.seq (.reg none [⟨(some 37), none, (.mv (.t 7))⟩, ⟨(some 38), none, (.mv (.t 0))⟩, ⟨(some 39), none, (.mv (.t 10))⟩, ⟨(some 40), none, (.mv (.t 10))⟩, ⟨(some 41), none, (.mv (.t 9))⟩, ⟨(some 42), none, (.cvt (.int .i64) (.t 41))⟩, ⟨(some 43), none, (.bin .add [] (.t 40) (.t 42))⟩, ⟨(some 44), none, (.sub 1 1 (.t 38) (some (.t 39)) (some (.t 43)) none)⟩, ⟨(some 45), none, (.cvt .b2s (.t 44))⟩, ⟨(some 46), none, (.bsl false 1 1 [(.str [])] [(0, (.t 45))])⟩, ⟨(some 47), none, (.app 1 16 (.t 37) (.t 46))⟩, ⟨(some 7), none, (.mv (.t 47))⟩]) (.reg none [⟨(some 48), none, (.mv (.t 0))⟩, ⟨(some 49), none, (.mv (.t 10))⟩, ⟨(some 50), none, (.mv (.t 9))⟩, ⟨(some 51), none, (.cvt (.int .i64) (.t 50))⟩, ⟨(some 52), none, (.bin .add [] (.t 49) (.t 51))⟩, ⟨(some 53), none, (.sub 1 1 (.t 48) (some (.t 52)) none none)⟩, ⟨(some 0), none, (.mv (.t 53))⟩]))))) (.reg none [⟨(some 15), none, (.mv (.t 8))⟩, ⟨(some 16), none, (.bin .add [] (.t 15) (.k (.int .i64 1)))⟩, ⟨(some 8), none, (.mv (.t 16))⟩])))
def r99 : C := (.seq (.reg none [⟨(some 54), none, (.mv (.t 7))⟩, ⟨(some 55), none, (.mv (.t 0))⟩, ⟨(some 4), none, (.mv (.t 54))⟩, ⟨(some 5), none, (.mv (.t 55))⟩, ⟨(some 6), none, (.mv (.k (.bool true)))⟩]) .ret)
def c99 : Fn' := ⟨56, [(.tmp 4), (.tmp 5), (.tmp 6)], (.seq (.reg none [⟨(some 4), none, (.mv (.k nilS))⟩, ⟨(some 5), none, (.mv (.k nilS))⟩, ⟨(some 6), none, (.mv (.k (.bool false)))⟩]) (.seq (.reg none [⟨(some 11), none, (.bsl true 1 0 [(.str [])] [])⟩, ⟨(some 7), none, (.mv (.t 11))⟩]) (.seq (.seq (.reg none [⟨(some 8), none, (.mv (.k (.int .i64 0)))⟩]) (.block 0 (.loop b99_0))) r99)))⟩
theorem k99 : compF Try.prog 99 = some c99 := by kernel_rfl
def b100_0 : C := (.seq (.seq (.reg none [⟨(some 41), none, (.mv (.t 12))⟩, ⟨(some 42), none, (.mv (.t 1))⟩, ⟨(some 43), none, (.bin .lss [] (.t 41) (.t 42))⟩]) (.cond (.t 43) .skip (.exit 0))) (.seq (.block 1 (.seq (.reg none [⟨(some 47), none, (.mv (.t 9))⟩, ⟨(some 48), none, (.call (.f 79) [(.t 47)])⟩, ⟨(some 46), none, (.mv (.t 48))⟩, ⟨(some 49), none, (.ext (.t 46) 0)⟩, ⟨(some 50), none, (.ext (.t 46) 1)⟩, ⟨(some 13), none, (.mv (.t 49))⟩, ⟨(some 14), none, (.mv (.t 50))⟩]) (.seq (.seq (.reg none [⟨(some 51), none, (.mv (.t 14))⟩, ⟨(some 52), none, (.bin .eql [] (.t 51) (.k (.int .i64 0)))⟩, ⟨(some 53), none, (.mv (.t 52))⟩, ⟨(some 54), (some ((some 53), false)), (.mv (.t 13))⟩, ⟨(some 55), (some ((some 53), false)), (.mv (.t 8))⟩, ⟨(some 56), (some ((some 53), false)), (.len 1 (.t 55))⟩, ⟨(some 57), (some ((some 53), false)), (.cvt (.int .u64) (.t 56))⟩, ⟨(some 58), (some ((some 53), false)), (.bin .geq [] (.t 54) (.t 57))⟩, ⟨(some 59), none, (.pick (.t 53) (.k (.bool true)) (.t 58))⟩]) (.cond (.t 59) (.seq (.reg none [⟨(some 4), none, (.mv (.k nilS))⟩, ⟨(some 5), none, (.mv (.k (.bool false)))⟩]) .ret) .skip)) (.seq (.reg none [⟨(some 60), none, (.mv (.t 11))⟩, ⟨(some 61), none, (.mv (.t 8))⟩, ⟨(some 62), none, (.mv (.t 13))⟩, ⟨(some 63), none, (.ia none 1 false (.t 61) (.t 62))⟩, ⟨(some 64), none, (.ld none (.t 63))⟩, ⟨(some 65), none, (.bsl false 1 1 [(.str [])] [(0, (.t 64))])⟩, ⟨(some 66), none, (.app 1 16 (.t 60) (.t 65))⟩, ⟨(some 11), none, (.mv (.t 66))⟩]) (.reg none [⟨(some 67), none, (.mv (.t 9))⟩, ⟨(some 68), none, (.mv (.t 14))⟩, ⟨(some 69), none, (.sub 1 1 (.t 67) (some (.t 68)) none none)⟩, ⟨(some 9), none, (.mv (.t 69))⟩]))))) (.reg none [⟨(some 44), none, (.mv (.t 12))⟩, ⟨(some 45), none, (.bin .add [] (.t 44) (.k (.int .i64 1)))⟩, ⟨(some 12), none, (.mv (.t 45))⟩])))
def r100_7 : C := (.seq (.reg none [⟨(some 70), none, (.mv (.t 11))⟩, ⟨(some 4), none, (.mv (.t 70))⟩, ⟨(some 5), none, (.mv (.k (.bool true)))⟩]) .ret)
def r100_6 : C := (.seq (.seq (.reg none [⟨(some 12), none, (.mv (.k (.int .i64 0)))⟩]) (.block 0 (.loop b100_0))) r100_7)
def c100 : Fn' := ⟨71, [(.tmp 4), (.tmp 5)], (.seq (.reg none [⟨(some 4), none, (.mv (.k nilS))⟩, ⟨(some 5), none, (.mv (.k (.bool false)))⟩]) (.seq (.reg none [⟨(some 16), none, (.mv (.t 0))⟩, ⟨(some 17), none, (.call (.f 79) [(.t 16)])⟩, ⟨(some 15), none, (.mv (.t 17))⟩, ⟨(some 18), none, (.ext (.t 15) 0)⟩, ⟨(some 19), none, (.ext (.t 15) 1)⟩, ⟨(some 6), none, (.mv (.t 18))⟩, ⟨(some 7), none, (.mv (.t 19))⟩]) (.seq (.seq (.reg none [⟨(some 20), none, (.mv (.t 7))⟩, ⟨(some 21), none, (.bin .eql [] (.t 20) (.k (.int .i64 0)))⟩, ⟨(some 22), none, (.mv (.t 21))⟩, ⟨(some 23), (some ((some 22), false)), (.mv (.t 6))⟩, ⟨(some 24), (some ((some 22), false)), (.mv (.t 1))⟩, ⟨(some 25), (some ((some 22), false)), (.cvt (.int .u64) (.t 24))⟩, ⟨(some 26), (some ((some 22), false)), (.bin .gtr [] (.t 23) (.t 25))⟩, ⟨(some 27), none, (.pick (.t 22) (.k (.bool true)) (.t 26))⟩]) (.cond (.t 27) (.seq (.reg none [⟨(some 4), none, (.mv (.k nilS))⟩, ⟨(some 5), none, (.mv (.k (.bool false)))⟩]) .ret) .skip)) (.seq (.reg none [⟨(some 29), none, (.mv (.t 0))⟩, ⟨(some 30), none, (.mv (.t 7))⟩, ⟨(some 31), none, (.sub 1 1 (.t 29) (some (.t 30)) none none)⟩, ⟨(some 32), none, (.mv (.t 6))⟩, ⟨(some 33), none, (.cvt (.int .i64) (.t 32))⟩, ⟨(some 34), none, (.call (.f 99) [(.t 31), (.t 33)])⟩, ⟨(some 28), none, (.mv (.t 34))⟩, ⟨(some 35), none, (.ext (.t 28) 0)⟩, ⟨(some 36), none, (.ext (.t 28) 1)⟩, ⟨(some 37), none, (.ext (.t 28) 2)⟩, ⟨(some 8), none, (.mv (.t 35))⟩, ⟨(some 9), none, (.mv (.t 36))⟩, ⟨(some 10), none, (.mv (.t 37))⟩]) (.seq (.seq (.reg none [⟨(some 38), none, (.mv (.t 10))⟩, ⟨(some 39), none, (.un .not (.t 38))⟩]) (.cond (.t 39) (.seq (.reg none [⟨(some 4), none, (.mv (.k nilS))⟩, ⟨(some 5), none, (.mv (.k (.bool false)))⟩]) .ret) .skip)) (.seq (.reg none [⟨(some 40), none, (.bsl true 1 0 [(.str [])] [])⟩, ⟨(some 11), none, (.mv (.t 40))⟩]) r100_6))))))⟩
theorem k100 : compF Try.prog 100 = some c100 := by kernel_rfl
def c64 : Fn' := ⟨63, [(.tmp 2), (.tmp 3)], (.seq (.reg none [⟨(some 2), none, (.mv (.k nilS))⟩, ⟨(some 3), none, (.mv (.k (.int .i64 0)))⟩]) (.seq (.reg none [⟨(some 10), none, (.mv (.t 0))⟩, ⟨(some 11), none, (.call (.f 79) [(.t 10)])⟩, ⟨(some 9), none, (.mv (.t 11))⟩, ⟨(some 12), none, (.ext (.t 9) 0)⟩, ⟨(some 13), none, (.ext (.t 9) 1)⟩, ⟨(some 4), none, (.mv (.t 12))⟩, ⟨(some 5), none, (.mv (.t 13))⟩]) (.seq (.seq (.reg none [⟨(some 14), none, (.mv (.t 5))⟩, ⟨(some 15), none, (.bin .eql [] (.t 14) (.k (.int .i64 0)))⟩, ⟨(some 16), none, (.mv (.t 15))⟩, ⟨(some 17), (some ((some 16), false)), (.mv (.t 4))⟩, ⟨(some 18), (some ((some 16), false)), (.bin .gtr [] (.t 17) (.k (.int .u64 2000)))⟩, ⟨(some 19), none, (.pick (.t 16) (.k (.bool true)) (.t 18))⟩, ⟨(some 20), none, (.mv (.t 19))⟩, ⟨(some 21), (some ((some 20), false)), (.mv (.t 5))⟩, ⟨(some 22), (some ((some 20), false)), (.mv (.t 0))⟩, ⟨(some 23), (some ((some 20), false)), (.len 1 (.t 22))⟩, ⟨(some 24), (some ((some 20), false)), (.bin .geq [] (.t 21) (.t 23))⟩, ⟨(some 25), none, (.pick (.t 20) (.k (.bool true)) (.t 24))⟩]) (.cond (.t 25) (.seq (.reg none [⟨(some 2), none, (.mv (.k nilS))⟩, ⟨(some 3), none, (.mv (.k (.int .i64 10)))⟩]) .ret) .skip)) (.seq (.reg none [⟨(some 27), none, (.mv (.t 0))⟩, ⟨(some 28), none, (.mv (.t 5))⟩, ⟨(some 29), none, (.bin .add [] (.t 28) (.k (.int .i64 1)))⟩, ⟨(some 30), none, (.sub 1 1 (.t 27) (some (.t 29)) none none)⟩, ⟨(some 31), none, (.mv (.t 4))⟩, ⟨(some 32), none, (.cvt (.int .i64) (.t 31))⟩, ⟨(some 33), none, (.call (.f 99) [(.t 30), (.t 32)])⟩, ⟨(some 26), none, (.mv (.t 33))⟩, ⟨(some 34), none, (.ext (.t 26) 0)⟩, ⟨(some 35), none, (.ext (.t 26) 1)⟩, ⟨(some 36), none, (.ext (.t 26) 2)⟩, ⟨(some 6), none, (.mv (.t 34))⟩, ⟨(some 7), none, (.mv (.t 35))⟩, ⟨(some 8), none, (.mv (.t 36))⟩]) (.seq (.seq (.reg none [⟨(some 37), none, (.mv (.t 0))⟩, ⟨(some 38), none, (.mv (.t 5))⟩, ⟨(some 39), none, (.ia none 1 false (.t 37) (.t 38))⟩, ⟨(some 40), none, (.ld none (.t 39))⟩, ⟨(some 41), none, (.bin .eql [] (.t 40) (.k (.int .u8 1)))⟩]) (.cond (.t 41) (.reg none [⟨(some 43), none, (.mv (.t 0))⟩, ⟨(some 44), none, (.mv (.t 5))⟩, ⟨(some 45), none, (.bin .add [] (.t 44) (.k (.int .i64 1)))⟩, ⟨(some 46), none, (.sub 1 1 (.t 43) (some (.t 45)) none none)⟩, ⟨(some 47), none, (.mv (.t 4))⟩, ⟨(some 48), none, (.cvt (.int .i64) (.t 47))⟩, ⟨(some 49), none, (.call (.f 100) [(.t 46), (.t 48)])⟩, ⟨(some 42), none, (.mv (.t 49))⟩, ⟨(some 50), none, (.ext (.t 42) 0)⟩, ⟨(some 51), none, (.ext (.t 42) 1)⟩, ⟨(some 6), none, (.mv (.t 50))⟩, ⟨(some 8), none, (.mv (.t 51))⟩]) .skip)) (.seq (.seq (.reg (some [(4, 7), (5, 7)]) [⟨(some 52), none, (.mv (.t 8))⟩, ⟨(some 53), none, (.un .not (.t 52))⟩, ⟨(some 54), none, (.mv (.t 53))⟩, ⟨(some 55), (some ((some 54), false)), (.mv (.t 6))⟩, ⟨(some 56), (some ((some 54), false)), (.call (.f 61) [(.t 55)])⟩, ⟨(some 57), (some ((some 54), false)), (.cvt .b2s (.t 56))⟩, ⟨(some 58), (some ((some 54), false)), (.mv (.t 0))⟩, ⟨(some 59), (some ((some 54), false)), (.cvt .b2s (.t 58))⟩, ⟨(some 60), (some ((some 54), false)), (.bin .neq [] (.t 57) (.t 59))⟩, ⟨(some 61), none, (.pick (.t 54) (.k (.bool true)) (.t 60))⟩]) (.cond (.t 61) (.seq (.reg none [⟨(some 2), none, (.mv (.k nilS))⟩, ⟨(some 3), none, (.mv (.k (.int .i64 10)))⟩]) .ret) .skip)) (.seq (.reg none [⟨(some 62), none, (.mv (.t 6))⟩, ⟨(some 2), none, (.mv (.t 62))⟩, ⟨(some 3), none, (.mv (.k (.int .i64 0)))⟩]) .ret)))))))⟩
theorem k64 : compF Try.prog 64 = some c64 := by kernel_rfl
attribute [local simp] op_or op_an op_add op_sub op_mul oq_eql oq_neq oq_lss oq_gtr oq_leq oq_geq op_rm op_qu
attribute [-simp] intOp bin_shl bin_shr
/-- So many texts, or none. -/
def eachT : Nat → List Int → Option (List Tx × List Int)
  | 0, l => some ([], l)
  | n + 1, l => if (varI l).2 = 0 ∨ 60 < (varI l).1 ∨ (l.length : Int) - (varI l).2 < (varI l).1 then none
    else (eachT n (l.drop ((varI l).2.toNat + (varI l).1.toNat))).map fun q => (((l.drop (varI l).2.toNat).take (varI l).1.toNat).map u8I :: q.1, q.2)
def V99 (c : Bool) (acc : List Tx) : Option (List Tx × List Int) → D
  | none => .tuple [nilS, nilS, .bool false]
  | some q => .tuple [.slc false 1 ((acc ++ q.1).map D.str), .slc c 1 (q.2.map (.int .u8)), .bool true]
def t99 (c : Bool) (l : List Int) (n a i : Nat) : List D := [.slc c 1 (l.map (.int .u8)), .int .i64 n, .undef, .undef, nilS, nilS, .bool false, .sl 0 0 a a, .int .i64 i, .undef, .undef, .sl 0 0 0 0, .undef, .undef, .undef, .undef, .undef, .undef, .undef, .undef, .undef, .undef, .undef, .undef, .undef, .undef, .undef, .undef, .undef, .undef, .undef, .undef, .undef, .undef, .undef, .undef, .undef, .undef, .undef, .undef, .undef, .undef, .undef, .undef, .undef, .undef, .undef, .undef, .undef, .undef, .undef, .undef, .undef, .undef, .undef, .undef]
set_option maxHeartbeats 8000000 in
theorem L99 (c : Bool) (l0 : List Int) (n : Nat) (hn : n ≤ 2 ^ 30) : ∀ (k : Nat) (l : List Int) (acc : List Tx) (a i : Nat), l.length ≤ 2 ^ 40 → isB l → i + k = n → a = acc.length → acc.length = i →
    finK false 0 [.tmp 4, .tmp 5, .tmp 6] (loopK cf0 K0 (LpB cf0 K0 b99_0 (t99 c l0 n 0 0) 1 ⟨t99 c l n a i, [.row 1 (acc.map D.str) 0]⟩) [.blk 0, .c r99]) = some (V99 c acc (eachT k l), [])
  | 0, l, acc, a, i, hl, hB, hi, ha, hai => by
    have z1 : ltI (i : Int) n = false := ltI_f (by omega)
    rw [LpB_eq]
    simp only [t99, eachT, V99, List.append_nil]
    conv => lhs; arg 4; arg 3; arg 6; simp [b99_0, z1]
    subst ha
    simp [r99, List.take_of_length_le]
  | k + 1, l, acc, a, i, hl, hB, hi, ha, hai => by
    have z1 : ltI (i : Int) n = true := ltI_t (by omega)
    have hwi := w64 (i + 1) (by omega)
    have h79 := K79 c l (by omega) hB
    have hvr := varI_range l
    simp only [eachT]
    obtain ⟨x, hx⟩ : ∃ x : Nat, (varI l).1 = x := ⟨(varI l).1.toNat, by omega⟩
    obtain ⟨m, hm⟩ : ∃ m : Nat, (varI l).2 = m := ⟨(varI l).2.toNat, by omega⟩
    rw [hx, hm] at h79 hvr ⊢
    subst ha
    by_cases h0 : (m : Int) = 0
    · have z2 : eqI (m : Int) 0 = true := eqI_t h0
      rw [if_pos (.inl h0)]
      simp only [V99]
      rw [LpB_eq]
      simp only [t99]
      conv => lhs; arg 4; arg 3; arg 6; simp [b99_0, z1, h79, z2]
      simp [Ks_rt]
    have z2 : eqI (m : Int) 0 = false := eqI_f h0
    by_cases h6 : 60 < (x : Int)
    · have z3 : ltI 60 (x : Int) = true := ltI_t h6
      rw [if_pos (.inr (.inl h6))]
      simp only [V99]
      rw [LpB_eq]
      simp only [t99]
      conv => lhs; arg 4; arg 3; arg 6; simp [b99_0, z1, h79, z2, z3]
      simp [Ks_rt]
    have z3 : ltI 60 (x : Int) = false := ltI_f (by omega)
    have hwx : IntKind.i64.wrap (x : Int) = x := w64 _ (by omega)
    have hws : IntKind.i64.wrap ((l.length : Int) - m) = ((l.length - m : Nat) : Int) := by rw [w64 _ (by omega)]; omega
    by_cases h7 : (l.length : Int) - m < x
    · have z4 : ltI ((l.length - m : Nat) : Int) (x : Int) = true := ltI_t (by omega)
      rw [if_pos (.inr (.inr h7))]
      simp only [V99]
      generalize l.length - m = d at *
      rw [LpB_eq]
      simp only [t99]
      conv => lhs; arg 4; arg 3; arg 6; simp [b99_0, z1, h79, z2, z3, hwx, hws, z4]
      simp [Ks_rt]
    have z4 : ltI ((l.length - m : Nat) : Int) (x : Int) = false := ltI_f (by omega)
    rw [if_neg (by omega)]
    have e1 : Int.toNat (m : Int) = m := by omega
    have e2 : Int.toNat (x : Int) = x := by omega
    rw [e1, e2]
    obtain ⟨A, hA⟩ : ∃ A, m + x = A := ⟨_, rfl⟩
    have hwa : IntKind.i64.wrap ((m : Int) + x) = (A : Int) := by rw [w64 _ (by omega)]; omega
    rw [hA]
    obtain ⟨r, hr⟩ : ∃ r, l.drop A = r := ⟨_, rfl⟩
    obtain ⟨t, ht⟩ : ∃ t, (l.drop m).take x = t := ⟨_, rfl⟩
    have m1 : List.drop A (l.map (D.int .u8)) = r.map (.int .u8) := by rw [← hr, List.map_drop]
    have m2 : List.drop m (List.take A (l.map (D.int .u8))) = t.map (.int .u8) := by
      rw [← ht, ← List.map_take, ← List.map_drop, List.drop_take, ← hA, Nat.add_sub_cancel_left]
    obtain ⟨u, hu⟩ : ∃ u, t.map u8I = u := ⟨_, rfl⟩
    have hU : t.map (fun x => UInt8.ofNat x.toNat) = u := hu
    rw [hr, ht, hu]
    have ih := L99 c l0 n hn k r (acc ++ [u]) (acc ++ [u]).length (i + 1) (by rw [← hr]; simp; omega) (by rw [← hr]; exact isB_drop hB _) (by omega) rfl (by simp [hai])
    have eV : V99 c acc ((eachT k r).map fun q => (u :: q.1, q.2)) = V99 c (acc ++ [u]) (eachT k r) := by
      cases eachT k r <;> simp [V99]
    rw [eV]
    generalize V99 c (acc ++ [u]) (eachT k r) = V at *
    have hAl : A ≤ l.length := by omega
    have hAl' : (A : Int) ≤ l.length := by omega
    have hmA : m ≤ A := by omega
    have hmA' : (m : Int) ≤ A := by omega
    have hb1 : (acc.length + 1) * 16 ≤ 70368744177664 := by omega
    generalize l.length - m = d at *
    clear hA hu
    rw [LpB_eq]
    simp only [t99] at ih ⊢
    conv => lhs; arg 4; arg 3; arg 6; simp [b99_0, z1, h79, z2, z3, hwx, hws, z4, hwa, hAl, hAl', hmA, hmA', m1, m2, hU, hb1, hwi]
    simp at ih ⊢
    exact ih
set_option maxHeartbeats 4000000 in
/-- each. -/
theorem K99 (c : Bool) (l : List Int) (n : Nat) (hn : n ≤ 2 ^ 30) (hl : l.length ≤ 2 ^ 40) (hB : isB l) : K0 99 [.slc c 1 (l.map (.int .u8)), .int .i64 n] [] = some (V99 c [] (eachT n l), []) := by
  have h := L99 c l n hn n l [] 0 0 hl hB (by omega) rfl rfl
  refine K_call k99 (oraG_none (by decide) (by decide)) (by simp [c99]) ?_
  generalize V99 c [] (eachT n l) = V at *
  simp only [t99] at h
  simp [c99]
  simp at h
  exact h
/-- So many places of words, or none. -/
def placesT (W : List Tx) : Nat → List Int → Option (List Tx)
  | 0, _ => some []
  | n + 1, l => if (varI l).2 = 0 ∨ (W.length : Int) ≤ (varI l).1 then none else (placesT W n (l.drop (varI l).2.toNat)).map (W.getD (varI l).1.toNat [] :: ·)
def numbT (n : Nat) (l : List Int) : Option (List Tx) :=
  if (varI l).2 = 0 ∨ (n : Int) < (varI l).1 then none
  else match eachT (varI l).1.toNat (l.drop (varI l).2.toNat) with
    | none => none
    | some q => placesT q.1 n q.2
def V100 (acc : List Tx) : Option (List Tx) → D
  | none => .tuple [nilS, .bool false]
  | some t => .tuple [.slc false 1 ((acc ++ t).map D.str), .bool true]
theorem each_len2 : ∀ (n : Nat) (l : List Int) (q : List Tx × List Int), eachT n l = some q → q.1.length = n ∧ q.2.length ≤ l.length
  | 0, l, q, h => by simp only [eachT, Option.some.injEq] at h; subst h; simp
  | n + 1, l, q, h => by
    simp only [eachT] at h
    split at h
    · cases h
    · obtain ⟨p, hp, rfl⟩ := Option.map_eq_some_iff.1 h
      obtain ⟨h1, h2⟩ := each_len2 n _ p hp
      simp only [List.length_drop] at h2
      exact ⟨by simp [h1], Nat.le_trans h2 (Nat.sub_le _ _)⟩
theorem each_B : ∀ (n : Nat) (l : List Int) (q : List Tx × List Int), isB l → eachT n l = some q → isB q.2
  | 0, l, q, hB, h => by simp only [eachT, Option.some.injEq] at h; subst h; exact hB
  | n + 1, l, q, hB, h => by
    simp only [eachT] at h
    split at h
    · cases h
    · obtain ⟨p, hp, rfl⟩ := Option.map_eq_some_iff.1 h
      exact each_B n _ p (isB_drop hB _) hp
theorem each60 : ∀ (n : Nat) (l : List Int) (q : List Tx × List Int), eachT n l = some q → ∀ s ∈ q.1, s.length ≤ 60
  | 0, l, q, h => by simp only [eachT, Option.some.injEq] at h; subst h; simp
  | n + 1, l, q, h => by
    simp only [eachT] at h
    split at h
    · cases h
    · rename_i h1
      obtain ⟨p, hp, rfl⟩ := Option.map_eq_some_iff.1 h
      intro s hs
      rcases List.mem_cons.1 hs with rfl | hs
      · simp only [List.length_map, List.length_take]; omega
      · exact each60 n _ p hp s hs
theorem places60 (W : List Tx) (hW : ∀ s ∈ W, s.length ≤ 60) : ∀ (n : Nat) (l : List Int) (t : List Tx), placesT W n l = some t → t.length = n ∧ ∀ s ∈ t, s.length ≤ 60
  | 0, l, t, h => by simp only [placesT, Option.some.injEq] at h; subst h; simp
  | n + 1, l, t, h => by
    simp only [placesT] at h
    split at h
    · cases h
    · obtain ⟨p, hp, rfl⟩ := Option.map_eq_some_iff.1 h
      obtain ⟨h1, h2⟩ := places60 W hW n _ p hp
      refine ⟨by simp [h1], fun s hs => ?_⟩
      rcases List.mem_cons.1 hs with rfl | hs
      · rw [List.getD_eq_getElem?_getD]
        cases h : W[(varI l).1.toNat]? with
        | none => simp
        | some w => exact hW w (List.mem_of_getElem? h)
      · exact h2 s hs
def t100 (c : Bool) (b bd R : List Int) (n : Nat) (many used : Int) (W : List Tx) (l : List Int) (a i : Nat) : List D := [.slc c 1 (b.map (.int .u8)), .int .i64 n, .undef, .undef, nilS, .bool false, .int .u64 many, .int .i64 used, .slc false 1 (W.map D.str), .slc c 1 (l.map (.int .u8)), .bool true, .sl 0 0 a a, .int .i64 i, .undef, .undef, .tuple [.int .u64 many, .int .i64 used], .slc c 1 (b.map (.int .u8)), .tuple [.int .u64 many, .int .i64 used], .int .u64 many, .int .i64 used, .int .i64 used, .bool false, .bool false, .int .u64 many, .int .i64 n, .int .u64 n, .bool false, .bool false, .tuple [.slc false 1 (W.map D.str), .slc c 1 (R.map (.int .u8)), .bool true], .slc c 1 (b.map (.int .u8)), .int .i64 used, .slc c 1 (bd.map (.int .u8)), .int .u64 many, .int .i64 many, .tuple [.slc false 1 (W.map D.str), .slc c 1 (R.map (.int .u8)), .bool true], .slc false 1 (W.map D.str), .slc c 1 (R.map (.int .u8)), .bool true, .bool true, .bool false, .sl 0 0 0 0, .undef, .undef, .undef, .undef, .undef, .undef, .undef, .undef, .undef, .undef, .undef, .undef, .undef, .undef, .undef, .undef, .undef, .undef, .undef, .undef, .undef, .undef, .undef, .undef, .undef, .undef, .undef, .undef, .undef, .undef]
set_option maxHeartbeats 8000000 in
theorem L100 (c : Bool) (b bd R : List Int) (n : Nat) (many used : Int) (W : List Tx) (hW : W.length ≤ 2 ^ 40) (l0 : List Int) (hn : n ≤ 2 ^ 30) : ∀ (k : Nat) (l : List Int) (acc : List Tx) (a i : Nat), l.length ≤ 2 ^ 40 → isB l → i + k = n → a = acc.length → acc.length = i →
    finK false 0 [.tmp 4, .tmp 5] (loopK cf0 K0 (LpB cf0 K0 b100_0 (t100 c b bd R n many used W l0 0 0) 1 ⟨t100 c b bd R n many used W l a i, [.row 1 (acc.map D.str) 0]⟩) [.blk 0, .c r100_7]) = some (V100 acc (placesT W k l), [])
  | 0, l, acc, a, i, hl, hB, hi, ha, hai => by
    have z1 : ltI (i : Int) n = false := ltI_f (by omega)
    rw [LpB_eq]
    simp only [t100, placesT, V100, List.append_nil]
    conv => lhs; arg 4; arg 3; arg 6; simp [b100_0, z1]
    subst ha
    simp [r100_7, List.take_of_length_le]
  | k + 1, l, acc, a, i, hl, hB, hi, ha, hai => by
    have z1 : ltI (i : Int) n = true := ltI_t (by omega)
    have hwi := w64 (i + 1) (by omega)
    have h79 := K79 c l (by omega) hB
    have hvr := varI_range l
    simp only [placesT]
    obtain ⟨x, hx⟩ : ∃ x : Nat, (varI l).1 = x := ⟨(varI l).1.toNat, by omega⟩
    obtain ⟨m, hm⟩ : ∃ m : Nat, (varI l).2 = m := ⟨(varI l).2.toNat, by omega⟩
    rw [hx, hm] at h79 hvr ⊢
    subst ha
    have hwW : IntKind.u64.wrap (W.length : Int) = W.length := by rw [IntKind.wrap_u64]; omega
    by_cases h0 : (m : Int) = 0
    · have z2 : eqI (m : Int) 0 = true := eqI_t h0
      rw [if_pos (.inl h0)]
      simp only [V100]
      rw [LpB_eq]
      simp only [t100]
      conv => lhs; arg 4; arg 3; arg 6; simp [b100_0, z1, h79, z2]
      simp [Ks_rt]
    have z2 : eqI (m : Int) 0 = false := eqI_f h0
    by_cases h6 : (W.length : Int) ≤ (x : Int)
    · have z3 : leI (W.length : Int) (x : Int) = true := leI_t h6
      rw [if_pos (.inr h6)]
      simp only [V100]
      rw [LpB_eq]
      simp only [t100]
      conv => lhs; arg 4; arg 3; arg 6; simp [b100_0, z1, h79, z2, hwW, z3]
      simp [Ks_rt]
    have z3 : leI (W.length : Int) (x : Int) = false := leI_f (by omega)
    rw [if_neg (by omega)]
    have e1 : Int.toNat (m : Int) = m := by omega
    have e2 : Int.toNat (x : Int) = x := by omega
    rw [e1, e2]
    have hxW : x < W.length := by omega
    obtain ⟨w, hw⟩ : ∃ w, W[x]'hxW = w := ⟨_, rfl⟩
    have e3 : W.getD x [] = w := by rw [← hw]; simp [hxW]
    rw [e3]
    obtain ⟨r, hr⟩ : ∃ r, l.drop m = r := ⟨_, rfl⟩
    have m1 : List.drop m (l.map (D.int .u8)) = r.map (.int .u8) := by rw [← hr, List.map_drop]
    rw [hr]
    have hml : m ≤ l.length := by omega
    have ih := L100 c b bd R n many used W hW l0 hn k r (acc ++ [w]) (acc ++ [w]).length (i + 1) (by rw [← hr]; simp; omega) (by rw [← hr]; exact isB_drop hB _) (by omega) rfl (by simp [hai])
    have eV : V100 acc ((placesT W k r).map (w :: ·)) = V100 (acc ++ [w]) (placesT W k r) := by
      cases placesT W k r <;> simp [V100]
    rw [eV]
    generalize V100 (acc ++ [w]) (placesT W k r) = V at *
    have hb1 : (acc.length + 1) * 16 ≤ 70368744177664 := by omega
    rw [LpB_eq]
    simp only [t100] at ih ⊢
    conv => lhs; arg 4; arg 3; arg 6; simp [b100_0, z1, h79, z2, hwW, z3, hxW, hw, hml, m1, hb1, hwi]
    simp at ih ⊢
    exact ih
set_option maxHeartbeats 8000000 in
/-- numbered. -/
theorem K100 (c : Bool) (l : List Int) (n : Nat) (hn : n ≤ 2 ^ 30) (hl : l.length ≤ 2 ^ 40) (hB : isB l) : K0 100 [.slc c 1 (l.map (.int .u8)), .int .i64 n] [] = some (V100 [] (numbT n l), []) := by
  have h79 := K79 c l (by omega) hB
  have hvr := varI_range l
  refine K_call k100 (oraG_none (by decide) (by decide)) (by simp [c100]) ?_
  unfold numbT
  obtain ⟨x, hx⟩ : ∃ x : Nat, (varI l).1 = x := ⟨(varI l).1.toNat, by omega⟩
  obtain ⟨m, hm⟩ : ∃ m : Nat, (varI l).2 = m := ⟨(varI l).2.toNat, by omega⟩
  rw [hx, hm] at h79 hvr ⊢
  have hwn : IntKind.u64.wrap (n : Int) = n := by rw [IntKind.wrap_u64]; omega
  by_cases h0 : (m : Int) = 0
  · have z2 : eqI (m : Int) 0 = true := eqI_t h0
    rw [if_pos (.inl h0)]
    simp [c100, h79, z2, V100]
  have z2 : eqI (m : Int) 0 = false := eqI_f h0
  by_cases h6 : (n : Int) < (x : Int)
  · have z3 : ltI (n : Int) (x : Int) = true := ltI_t h6
    rw [if_pos (.inr h6)]
    simp [c100, h79, z2, hwn, z3, V100]
  have z3 : ltI (n : Int) (x : Int) = false := ltI_f (by omega)
  rw [if_neg (by omega)]
  have e1 : Int.toNat (m : Int) = m := by omega
  have e2 : Int.toNat (x : Int) = x := by omega
  rw [e1, e2]
  have hwx : IntKind.i64.wrap (x : Int) = x := w64 _ (by omega)
  obtain ⟨r, hr⟩ : ∃ r, l.drop m = r := ⟨_, rfl⟩
  have m1 : List.drop m (l.map (D.int .u8)) = r.map (.int .u8) := by rw [← hr, List.map_drop]
  have hml : m ≤ l.length := by omega
  have hrB : isB r := by rw [← hr]; exact isB_drop hB _
  have hrl : r.length ≤ 2 ^ 40 := by rw [← hr]; simp; omega
  have h99 := K99 c r x (by omega) hrl hrB
  rw [hr]
  cases he : eachT x r with
  | none =>
    rw [he] at h99
    simp only [V99] at h99
    simp [c100, r100_6, h79, z2, hwn, z3, hml, m1, hwx, h99, V100]
  | some q =>
    obtain ⟨W, R⟩ := q
    rw [he] at h99
    simp only [V99, List.nil_append] at h99
    obtain ⟨g1, g2⟩ := each_len2 x r (W, R) he
    have gB := each_B x r (W, R) hrB he
    simp only at g1 g2 gB ⊢
    have h := L100 c l r R n x m W (by omega) R hn n R [] 0 0 (by omega) gB (by omega) rfl rfl
    generalize V100 [] (placesT W n R) = V at *
    simp only [t100] at h
    simp [c100, r100_6, h79, z2, hwn, z3, hml, m1, hwx, h99]
    simp at h
    exact h
/-- Texts taken, as the reference says. -/
def refT (l : List Int) : Option (List Tx) :=
  if (varI l).2 = 0 ∨ 2000 < (varI l).1 ∨ (l.length : Int) ≤ (varI l).2 then none
  else match (if l.getD (varI l).2.toNat 0 = 1 then numbT (varI l).1.toNat (l.drop ((varI l).2.toNat + 1)) else (eachT (varI l).1.toNat (l.drop ((varI l).2.toNat + 1))).map (·.1)) with
    | none => none
    | some t => if textsI t = l then some t else none
def V64 : Option (List Tx) → D
  | none => .tuple [nilS, .int .i64 10]
  | some t => .tuple [.slc false 1 (t.map D.str), .int .i64 0]
theorem numb60 (n : Nat) (l : List Int) (t : List Tx) (h : numbT n l = some t) : t.length = n ∧ ∀ s ∈ t, s.length ≤ 60 := by
  unfold numbT at h
  split at h
  · cases h
  · split at h
    · cases h
    · rename_i q hq
      exact places60 q.1 (each60 _ _ q hq) n q.2 t h
set_option maxHeartbeats 8000000 in
/-- thresherref06.Take. -/
theorem K64 (c : Bool) (l : List Int) (hl : l.length ≤ 2 ^ 40) (hB : isB l) : K0 64 [.slc c 1 (l.map (.int .u8))] [] = some (V64 (refT l), []) := by
  have hr := varI_range l
  have hK := K79 c l (by omega) hB
  refine K_call k64 (oraG_none (by decide) (by decide)) (by simp [c64]) ?_
  unfold refT
  obtain ⟨u, hu⟩ : ∃ u, u = (varI l).1 := ⟨_, rfl⟩
  obtain ⟨m, hm⟩ : ∃ m : Nat, (varI l).2 = m := ⟨(varI l).2.toNat, by omega⟩
  rw [hm, ← hu] at hK hr ⊢
  by_cases h0 : (m : Int) = 0
  · have z1 : eqI (m : Int) 0 = true := eqI_t h0
    rw [if_pos (.inl h0)]
    simp [c64, hK, z1, V64]
  have z1 : eqI (m : Int) 0 = false := eqI_f h0
  by_cases h2 : 2000 < u
  · have z2 : ltI 2000 u = true := ltI_t h2
    rw [if_pos (.inr (.inl h2))]
    simp [c64, hK, z1, z2, V64]
  have z2 : ltI 2000 u = false := ltI_f (by omega)
  by_cases h3 : (l.length : Int) ≤ m
  · have z3 : leI (l.length : Int) m = true := leI_t h3
    rw [if_pos (.inr (.inr h3))]
    simp [c64, hK, z1, z2, z3, V64]
  have z3 : leI (l.length : Int) m = false := leI_f (by omega)
  rw [if_neg (by omega)]
  have h4 : m < l.length := by omega
  have hw := w64 (m + 1) (by omega)
  obtain ⟨x, hx⟩ : ∃ x, l[m]'h4 = x := ⟨_, rfl⟩
  have e2 : l.getD (Int.toNat (m : Int)) 0 = x := by rw [← hx]; simp [h4]
  have e3 : Int.toNat (m : Int) = m := by omega
  rw [e2, e3]
  obtain ⟨n, hn⟩ : ∃ n : Nat, u = n := ⟨u.toNat, by omega⟩
  subst hn
  have e4 : Int.toNat (n : Int) = n := by omega
  rw [e4]
  have hwn : IntKind.i64.wrap (n : Int) = n := w64 n (by omega)
  have hwm : IntKind.i64.wrap ((m : Int) + 1) = (m : Int) + 1 := by have := hw; simpa using this
  have h50 : 0 ≤ (m : Int) + 1 := by omega
  have h5 : m + 1 ≤ l.length := by omega
  have h5' : (m : Int) + 1 ≤ l.length := by omega
  obtain ⟨r, hr'⟩ : ∃ r, r = l.drop (m + 1) := ⟨_, rfl⟩
  have m1 : List.drop (m + 1) (l.map (D.int .u8)) = r.map (.int .u8) := by rw [hr', List.map_drop]
  have hBr : isB r := by rw [hr']; exact isB_drop hB _
  have hlr : r.length ≤ 2 ^ 40 := by rw [hr']; simp; omega
  rw [← hr']
  have h99 := K99 c r n (by omega) hlr hBr
  have h100 := K100 c r n (by omega) hlr hBr
  have key : ∀ t : List Tx, t.length = n → (∀ s ∈ t, s.length ≤ 60) → K0 61 [.slc false 1 (t.map D.str)] [] = some (.slc false 1 ((textsI t).map (.int .u8)), []) := fun t ht hs => by
    have hd := dict_len t 60 (by omega) (by omega) hs
    have he := each_len 60 (by omega) t hs
    exact K61 false 1 t (.inl rfl) (by omega) (by omega) (by omega)
  have he60 := each60 n r
  have hel := each_len2 n r
  have hn60 := numb60 n r
  by_cases h6 : x = 1
  · have z6 : eqI x 1 = true := eqI_t h6
    rw [if_pos h6]
    obtain ⟨a1, a2, a3, q1, q2, q3, p3, hp⟩ : ∃ a1 a2 a3 q1 q2 q3 p3, V99 c [] (eachT n r) = .tuple [.slc a1 a2 a3, .slc q1 q2 q3, .bool p3] := by
      cases eachT n r with
      | none => exact ⟨_, _, _, _, _, _, _, rfl⟩
      | some q => exact ⟨_, _, _, _, _, _, _, rfl⟩
    rw [hp] at h99
    cases ho : numbT n r with
    | none =>
      rw [ho] at h100
      simp only [V100] at h100
      simp [c64, hK, z1, z2, z3, h4, hx, z6, h5, h5', h50, m1, hwm, hw, hwn, h99, h100, V64, evOp, evM, wants, Ins.go, X.ev, iaM, ldM, binD, setD, applyW, Ek_ops_nil, allFree, free, callM, callP, appM]
    | some t =>
      rw [ho] at h100
      simp only [V100, List.nil_append] at h100
      obtain ⟨ht, hs⟩ := hn60 t ho
      have h61 := key t ht hs
      have hEB := isB_texts t
      dsimp only
      generalize textsI t = E at *
      by_cases hE : E = l
      · rw [if_pos hE]
        subst hE
        simp [c64, hK, z1, z2, z3, h4, hx, z6, h5, h5', h50, m1, hwm, hw, hwn, h99, h100, h61, V64, evOp, evM, wants, Ins.go, X.ev, iaM, ldM, binD, setD, applyW, Ek_ops_nil, allFree, free, callM, callP, appM]
      · rw [if_neg hE]
        have hne := u8_ne hEB hB hE
        simp [c64, hK, z1, z2, z3, h4, hx, z6, h5, h5', h50, m1, hwm, hw, hwn, h99, h100, h61, hne, V64, evOp, evM, wants, Ins.go, X.ev, iaM, ldM, binD, setD, applyW, Ek_ops_nil, allFree, free, callM, callP, appM]
  · have z6 : eqI x 1 = false := eqI_f h6
    rw [if_neg h6]
    cases ho : eachT n r with
    | none =>
      rw [ho] at h99
      simp only [V99] at h99
      simp [c64, hK, z1, z2, z3, h4, hx, z6, h5, h5', h50, m1, hwm, hw, hwn, h99, V64, evOp, evM, wants, Ins.go, X.ev, iaM, ldM, binD, setD, applyW, Ek_ops_nil, allFree, free, callM, callP, appM]
    | some q =>
      obtain ⟨t, R⟩ := q
      rw [ho] at h99
      simp only [V99, List.nil_append] at h99
      have h61 := key t (hel _ ho).1 (he60 _ ho)
      have hEB := isB_texts t
      simp only [Option.map_some]
      generalize textsI t = E at *
      by_cases hE : E = l
      · rw [if_pos hE]
        subst hE
        simp [c64, hK, z1, z2, z3, h4, hx, z6, h5, h5', h50, m1, hwm, hw, hwn, h99, h61, V64, evOp, evM, wants, Ins.go, X.ev, iaM, ldM, binD, setD, applyW, Ek_ops_nil, allFree, free, callM, callP, appM]
      · rw [if_neg hE]
        have hne := u8_ne hEB hB hE
        simp [c64, hK, z1, z2, z3, h4, hx, z6, h5, h5', h50, m1, hwm, hw, hwn, h99, h61, hne, V64, evOp, evM, wants, Ins.go, X.ev, iaM, ldM, binD, setD, applyW, Ek_ops_nil, allFree, free, callM, callP, appM]
end Go.Ab
/- PLAIN WORDS: texts taken, as the reference says. -/
set_option linter.all false
set_option maxRecDepth 100000
namespace Go.Ab
open Go.Proofs Go.Proofs.YtanfmnobanhcnaaH Go.Proofs.YtanfmnobanhcnaaH.Crc Go.Proofs.YtanfmnobanhcnaaH.Var Go.Proofs.YtanfmnobanhcnaaH.Fr
theorem some_bad (one : List Int → Bool → Tx × List Int × Bool) (k : Nat) (l : List Int) : someT one k l true = ([], l, true) := by cases k <;> rfl
theorem text_bad {l : List Int} (h : (varI l).2 = 0 ∨ 60 < (varI l).1 ∨ (l.length : Int) - (varI l).2 < (varI l).1) : (textT l false).2.2 = true := by
  have hr := varI_range l
  by_cases h1 : (varI l).2 = 0 ∨ 60 < (varI l).1
  · have hn : numT 61 l false = (0, l, true) := by
      unfold numT
      exact if_pos (.inr (by omega))
    unfold textT
    rw [hn]
    rfl
  · have hn : numT 61 l false = ((varI l).1, l.drop (varI l).2.toNat, false) := by
      unfold numT
      exact if_neg (by simp only [Bool.false_eq_true, false_or]; omega)
    unfold textT
    rw [hn]
    dsimp only
    rw [if_pos (.inr (by rw [List.length_drop]; omega))]
theorem text_good {l : List Int} (h : ¬ ((varI l).2 = 0 ∨ 60 < (varI l).1 ∨ (l.length : Int) - (varI l).2 < (varI l).1)) : textT l false = (((l.drop (varI l).2.toNat).take (varI l).1.toNat).map u8I, l.drop ((varI l).2.toNat + (varI l).1.toNat), false) := by
  have hr := varI_range l
  have hn : numT 61 l false = ((varI l).1, l.drop (varI l).2.toNat, false) := by
    unfold numT
    exact if_neg (by simp only [Bool.false_eq_true, false_or]; omega)
  unfold textT
  rw [hn]
  dsimp only
  rw [if_neg (by simp only [Bool.false_eq_true, false_or, List.length_drop]; omega), List.drop_drop]
theorem each_some : ∀ (n : Nat) (l : List Int), (eachT n l = none → (someT textT n l false).2.2 = true) ∧ (∀ q, eachT n l = some q → someT textT n l false = (q.1, q.2, false))
  | 0, l => ⟨fun h => by simp [eachT] at h, fun q h => by simp only [eachT, Option.some.injEq] at h; subst h; rfl⟩
  | n + 1, l => by
    by_cases hc : (varI l).2 = 0 ∨ 60 < (varI l).1 ∨ (l.length : Int) - (varI l).2 < (varI l).1
    · have hb := text_bad hc
      have he : eachT (n + 1) l = none := by simp only [eachT]; rw [if_pos hc]
      rw [he]
      refine ⟨fun _ => ?_, fun q h => by cases h⟩
      simp only [someT]
      rw [hb, some_bad]
    · have hg := text_good hc
      obtain ⟨i1, i2⟩ := each_some n (l.drop ((varI l).2.toNat + (varI l).1.toNat))
      have he : eachT (n + 1) l = (eachT n (l.drop ((varI l).2.toNat + (varI l).1.toNat))).map fun q => (((l.drop (varI l).2.toNat).take (varI l).1.toNat).map u8I :: q.1, q.2) := by simp only [eachT]; rw [if_neg hc]
      rw [he]
      simp only [someT]
      rw [hg]
      dsimp only
      refine ⟨fun h => i1 (Option.map_eq_none_iff.1 h), fun q h => ?_⟩
      obtain ⟨p, hp, rfl⟩ := Option.map_eq_some_iff.1 h
      rw [i2 p hp]
theorem places_some (W : List Tx) : ∀ (n : Nat) (l : List Int), (placesT W n l = none → (someT (wordT W) n l false).2.2 = true) ∧ (∀ t, placesT W n l = some t → (someT (wordT W) n l false).1 = t ∧ (someT (wordT W) n l false).2.2 = false)
  | 0, l => ⟨fun h => by simp [placesT] at h, fun t h => by simp only [placesT, Option.some.injEq] at h; subst h; exact ⟨rfl, rfl⟩⟩
  | n + 1, l => by
    by_cases hc : (varI l).2 = 0 ∨ (W.length : Int) ≤ (varI l).1
    · have hb : wordT W l false = ([], l, true) := by
        unfold wordT numT
        dsimp only
        rw [if_pos (c := false = true ∨ _) (.inr hc)]
        rfl
      have he : placesT W (n + 1) l = none := by simp only [placesT]; rw [if_pos hc]
      rw [he]
      refine ⟨fun _ => ?_, fun q h => by cases h⟩
      simp only [someT]
      rw [hb]
      dsimp only
      rw [some_bad]
    · have hg : wordT W l false = (W.getD (varI l).1.toNat [], l.drop (varI l).2.toNat, false) := by
        unfold wordT numT
        dsimp only
        rw [if_neg (c := false = true ∨ _) (by simp only [Bool.false_eq_true, false_or]; exact hc)]
        rfl
      obtain ⟨i1, i2⟩ := places_some W n (l.drop (varI l).2.toNat)
      have he : placesT W (n + 1) l = (placesT W n (l.drop (varI l).2.toNat)).map (W.getD (varI l).1.toNat [] :: ·) := by simp only [placesT]; rw [if_neg hc]
      rw [he]
      simp only [someT]
      rw [hg]
      dsimp only
      refine ⟨fun h => i1 (Option.map_eq_none_iff.1 h), fun q h => ?_⟩
      obtain ⟨p, hp, rfl⟩ := Option.map_eq_some_iff.1 h
      obtain ⟨j1, j2⟩ := i2 p hp
      rw [j1]
      exact ⟨rfl, j2⟩
theorem numb_raw (n : Nat) (r : List Int) : (numbT n r = none → (rawT (n : Int) 1 r).2.2 = true) ∧ (∀ t, numbT n r = some t → (rawT (n : Int) 1 r).1 = t ∧ (rawT (n : Int) 1 r).2.2 = false) := by
  have hr := varI_range r
  have e1 : ((n : Int) + 1).toNat = n + 1 := by omega
  unfold rawT
  rw [if_pos rfl, Int.toNat_natCast]
  unfold numbT
  by_cases hc : (varI r).2 = 0 ∨ (n : Int) < (varI r).1
  · have hw : wordsT (n : Int) r = ([], r, true) := by
      unfold wordsT
      have hn : numT ((n : Int) + 1).toNat r false = (0, r, true) := by
        unfold numT
        rw [if_pos (.inr (by omega))]
      rw [hn]
      exact some_bad _ _ _
    rw [if_pos hc, hw]
    dsimp only
    rw [some_bad]
    exact ⟨fun _ => rfl, fun t h => by cases h⟩
  · have hn : numT ((n : Int) + 1).toNat r false = ((varI r).1, r.drop (varI r).2.toNat, false) := by
      unfold numT
      rw [if_neg (by simp only [Bool.false_eq_true, false_or]; omega)]
    rw [if_neg hc]
    have hw : wordsT (n : Int) r = someT textT (varI r).1.toNat (r.drop (varI r).2.toNat) false := by unfold wordsT; rw [hn]
    rw [hw]
    obtain ⟨i1, i2⟩ := each_some (varI r).1.toNat (r.drop (varI r).2.toNat)
    cases he : eachT (varI r).1.toNat (r.drop (varI r).2.toNat) with
    | none =>
      rw [i1 he]
      rw [some_bad]
      exact ⟨fun _ => rfl, fun t h => by cases h⟩
    | some q =>
      rw [i2 q he]
      exact places_some q.1 n q.2
theorem ok_bad {l : List Int} {s : List Tx × List Int × Bool} (h : s.2.2 = true) : okT l s = none := by unfold okT; rw [if_pos h]
theorem ok_good {l : List Int} {s : List Tx × List Int × Bool} (h : s.2.2 = false) : okT l s = if textsI s.1 = l then some s.1 else none := by unfold okT; rw [if_neg (by rw [h]; decide)]
/-- The reference takes the same texts. -/
theorem ref_eq (l : List Int) : refT l = textsT l := by
  have hr := varI_range l
  unfold refT textsT
  by_cases hc : (varI l).2 = 0 ∨ 2000 < (varI l).1
  · have hn : numT 2001 l false = (0, l, true) := by
      unfold numT
      rw [if_pos (.inr (by omega))]
    rw [if_pos (by omega), hn]
    rw [if_pos (.inl rfl)]
  · have hn : numT 2001 l false = ((varI l).1, l.drop (varI l).2.toNat, false) := by
      unfold numT
      rw [if_neg (by simp only [Bool.false_eq_true, false_or]; omega)]
    rw [hn]
    dsimp only
    by_cases hl : (l.length : Int) ≤ (varI l).2
    · rw [if_pos (.inr (.inr hl)), if_pos (.inr (List.drop_eq_nil_of_le (by omega)))]
    · rw [if_neg (by omega)]
      have hm : (varI l).2.toNat < l.length := by omega
      have hd : l.drop (varI l).2.toNat = l[(varI l).2.toNat]'hm :: l.drop ((varI l).2.toNat + 1) := List.drop_eq_getElem_cons hm
      have hg : l.getD (varI l).2.toNat 0 = l[(varI l).2.toNat]'hm := by rw [List.getD_eq_getElem?_getD, List.getElem?_eq_getElem hm]; rfl
      obtain ⟨w, hw0⟩ : ∃ w, l[(varI l).2.toNat]'hm = w := ⟨_, rfl⟩
      rw [hw0] at hd hg
      rw [hd, hg]
      rw [if_neg (c := false = true ∨ _) (by simp)]
      simp only [List.headD_cons, List.tail_cons]
      obtain ⟨n, hn2⟩ : ∃ n : Nat, (varI l).1 = n := ⟨(varI l).1.toNat, by omega⟩
      rw [hn2, Int.toNat_natCast]
      generalize l.drop ((varI l).2.toNat + 1) = r at *
      by_cases hw : w = 1
      · subst hw
        rw [if_pos rfl]
        obtain ⟨i1, i2⟩ := numb_raw n r
        cases ho : numbT n r with
        | none => rw [ok_bad (i1 ho)]
        | some t =>
          obtain ⟨j1, j2⟩ := i2 t ho
          rw [ok_good j2, j1]
      · rw [if_neg hw]
        have hraw : rawT (n : Int) w r = someT textT n r false := by unfold rawT; rw [if_neg hw, Int.toNat_natCast]
        rw [hraw]
        obtain ⟨i1, i2⟩ := each_some n r
        cases ho : eachT n r with
        | none => rw [ok_bad (i1 ho)]; rfl
        | some q =>
          have j := i2 q ho
          rw [ok_good (by rw [j]), j]
          rfl
end Go.Ab
