/- THE FUNCTIONS' EQUATIONS: block: each, read. -/
import Derived.Test.YtomomeabfnmncaaGreatBF114
import Derived.Test.YtomomeabfnmncaaGreatBF53
import Derived.Test.YtomomeabfnmncaaGreatBBr
set_option linter.all false
set_option maxRecDepth 100000
namespace Go.Ab
open Go.Proofs Go.Proofs.YtomomeabfnmncaaGreatH Go.Proofs.YtomomeabfnmncaaGreatH.Crc Go.Proofs.YtomomeabfnmncaaGreatH.Var Go.Proofs.YtomomeabfnmncaaGreatH.Fr
def b94_0 : C := (.seq (.reg none [⟨(some 11), none, (.bin .lss [] (.t 10) (.t 9))⟩]) (.seq (.cond (.t 11) .skip (.exit 0)) (.seq (.block 1 (.seq (.reg none [⟨(some 12), none, (.ia none 1 false (.t 8) (.t 10))⟩, ⟨(some 13), none, (.ld none (.t 12))⟩, ⟨(some 7), none, (.mv (.t 13))⟩]) (.reg none [⟨(some 14), none, (.mv (.t 5))⟩, ⟨(some 15), none, (.mv (.t 1))⟩, ⟨(some 16), none, (.mv (.t 7))⟩, ⟨(some 17), none, (.call (.t 15) [(.t 16)])⟩, ⟨(some 18), none, (.bsl false 2 1 [(.int .i64 0), (.str [])] [(0, (.t 17))])⟩, ⟨(some 19), none, (.app 2 24 (.t 14) (.t 18))⟩, ⟨(some 5), none, (.mv (.t 19))⟩]))) (.reg none [⟨(some 20), none, (.bin .add [] (.t 10) (.k (.int .i64 1)))⟩, ⟨(some 10), none, (.mv (.t 20))⟩]))))
def c94 : Fn' := ⟨22, [(.tmp 4)], (.seq (.reg none [⟨(some 4), none, (.mv (.k nilS))⟩]) (.seq (.reg none [⟨(some 5), none, .nilrow⟩]) (.seq (.seq (.reg none [⟨(some 8), none, (.mv (.t 0))⟩, ⟨(some 9), none, (.len 1 (.t 8))⟩, ⟨(some 10), none, (.mv (.k (.int .i64 0)))⟩]) (.block 0 (.loop b94_0))) (.seq (.reg none [⟨(some 21), none, (.mv (.t 5))⟩, ⟨(some 4), none, (.mv (.t 21))⟩]) .ret))))⟩
theorem k94 : compF Tryz.prog 136 = some c94 := by kernel_rfl
def c95 : Fn' := ⟨5, [(.cell 2 (some 2))], (.seq (.reg none [⟨(some 2), none, (.alloc false [(.int .i64 0), (.str [])])⟩]) (.seq (.reg none [⟨(some 3), none, (.mv (.t 0))⟩, ⟨(some 4), none, (.bld [(.int .i64 0), (.str [])] [(1, (1, (.t 3)))])⟩, ⟨none, none, (.st 2 (.t 2) (.t 4))⟩]) .ret))⟩
theorem k95 : compF Tryz.prog 137 = some c95 := by kernel_rfl
def b97_0 : C := (.seq (.reg none [⟨(some 11), none, (.bin .lss [] (.t 10) (.t 9))⟩]) (.seq (.cond (.t 11) .skip (.exit 0)) (.seq (.block 1 (.seq (.reg none [⟨(some 12), none, (.ia none 1 false (.t 8) (.t 10))⟩, ⟨(some 13), none, (.ld none (.t 12))⟩, ⟨(some 7), none, (.mv (.t 13))⟩]) (.reg none [⟨(some 14), none, (.mv (.t 5))⟩, ⟨(some 15), none, (.mv (.t 1))⟩, ⟨(some 16), none, (.mv (.t 7))⟩, ⟨(some 17), none, (.call (.t 15) [(.t 16)])⟩, ⟨(some 18), none, (.bsl false 2 1 [(.int .i64 0), (.str [])] [(0, (.t 17))])⟩, ⟨(some 19), none, (.app 2 24 (.t 14) (.t 18))⟩, ⟨(some 5), none, (.mv (.t 19))⟩]))) (.reg none [⟨(some 20), none, (.bin .add [] (.t 10) (.k (.int .i64 1)))⟩, ⟨(some 10), none, (.mv (.t 20))⟩]))))
def c97 : Fn' := ⟨22, [(.tmp 4)], (.seq (.reg none [⟨(some 4), none, (.mv (.k nilS))⟩]) (.seq (.reg none [⟨(some 5), none, .nilrow⟩]) (.seq (.seq (.reg none [⟨(some 8), none, (.mv (.t 0))⟩, ⟨(some 9), none, (.len 1 (.t 8))⟩, ⟨(some 10), none, (.mv (.k (.int .i64 0)))⟩]) (.block 0 (.loop b97_0))) (.seq (.reg none [⟨(some 21), none, (.mv (.t 5))⟩, ⟨(some 4), none, (.mv (.t 21))⟩]) .ret))))⟩
theorem k97 : compF Tryz.prog 139 = some c97 := by kernel_rfl
def c98 : Fn' := ⟨5, [(.cell 2 (some 2))], (.seq (.reg none [⟨(some 2), none, (.alloc false [(.int .i64 0), (.str [])])⟩]) (.seq (.reg none [⟨(some 3), none, (.mv (.t 0))⟩, ⟨(some 4), none, (.bld [(.int .i64 0), (.str [])] [(0, (1, (.t 3)))])⟩, ⟨none, none, (.st 2 (.t 2) (.t 4))⟩]) .ret))⟩
theorem k98 : compF Tryz.prog 140 = some c98 := by kernel_rfl
def c63 : Fn' := ⟨28, [(.tmp 4), (.tmp 5)], (.seq (.reg none [⟨(some 4), none, (.mv (.k nilS))⟩, ⟨(some 5), none, (.mv (.k (.int .i64 0)))⟩]) (.seq (.seq (.reg none [⟨(some 10), none, (.mv (.t 0))⟩, ⟨(some 11), none, (.bin .eql [] (.t 10) (.k (.int .i64 3)))⟩]) (.cond (.t 11) (.seq (.reg none [⟨(some 13), none, (.mv (.t 1))⟩, ⟨(some 14), none, (.call (.f 135) [(.t 13)])⟩, ⟨(some 12), none, (.mv (.t 14))⟩, ⟨(some 15), none, (.ext (.t 12) 0)⟩, ⟨(some 16), none, (.ext (.t 12) 1)⟩, ⟨(some 6), none, (.mv (.t 15))⟩, ⟨(some 7), none, (.mv (.t 16))⟩]) (.seq (.reg none [⟨(some 17), none, (.mv (.t 6))⟩, ⟨(some 18), none, (.call (.f 136) [(.t 17), (.f 137)])⟩, ⟨(some 19), none, (.mv (.t 7))⟩, ⟨(some 4), none, (.mv (.t 18))⟩, ⟨(some 5), none, (.mv (.t 19))⟩]) .ret)) .skip)) (.seq (.reg none [⟨(some 21), none, (.mv (.t 1))⟩, ⟨(some 22), none, (.call (.f 138) [(.t 21)])⟩, ⟨(some 20), none, (.mv (.t 22))⟩, ⟨(some 23), none, (.ext (.t 20) 0)⟩, ⟨(some 24), none, (.ext (.t 20) 1)⟩, ⟨(some 8), none, (.mv (.t 23))⟩, ⟨(some 9), none, (.mv (.t 24))⟩]) (.seq (.reg none [⟨(some 25), none, (.mv (.t 8))⟩, ⟨(some 26), none, (.call (.f 139) [(.t 25), (.f 140)])⟩, ⟨(some 27), none, (.mv (.t 9))⟩, ⟨(some 4), none, (.mv (.t 26))⟩, ⟨(some 5), none, (.mv (.t 27))⟩]) .ret))))⟩
theorem k63 : compF Tryz.prog 127 = some c63 := by kernel_rfl
attribute [local simp] op_or op_an op_add op_sub op_mul oq_eql oq_neq oq_lss oq_gtr oq_leq oq_geq
attribute [-simp] intOp bin_shl bin_shr
def rowV (l : List Va) : Obj := .row (if l = [] then 0 else 2) (l.map Va.d) 0
def cvV (t : List Va) : D := if t = [] then .slc true 0 [] else .slc false 2 (t.map Va.d)
def sV (s : Tx) : Va := (0, s)
def nV (n : Int) : Va := (n, [])
set_option maxHeartbeats 2000000 in
theorem K95 (s : Tx) : K0 137 [.str s] [] = some ((sV s).d, []) := by
  refine K_call k95 (oraG_none (by decide) (by decide)) (by simp [c95]) ?_
  simp [c95, sV, Va.d]
set_option maxHeartbeats 2000000 in
theorem K98 (n : Int) : K0 140 [.int .i64 n] [] = some ((nV n).d, []) := by
  refine K_call k98 (oraG_none (by decide) (by decide)) (by simp [c98]) ?_
  simp [c98, nV, Va.d]
def t94 (c : Bool) (l : List Tx) (a i : Nat) (v : D) : List D := [.slc c 1 (l.map D.str), .func 137 [] [], .undef, .undef, nilS, .sl 0 0 a a, .undef, .undef, .slc c 1 (l.map D.str), .int .i64 l.length, .int .i64 i, .undef, .undef, .undef, .undef, .undef, .undef, .undef, .undef, .undef, .undef, .undef]
set_option maxHeartbeats 4000000 in
theorem L94 (c : Bool) (l : List Tx) (hl : l.length ≤ 2 ^ 30) : ∀ (t pre : List Tx) (acc : List Va) (a i : Nat), l = pre ++ t → i = pre.length → a = acc.length → acc.length = i →
    LpB cf0 K0 b94_0 (t94 c l 0 0 .undef) 1 ⟨t94 c l a i .undef, [rowV acc]⟩ = some (.exit 0, ⟨t94 c l (acc ++ t.map sV).length l.length .undef, [rowV (acc ++ t.map sV)]⟩)
  | [], pre, acc, a, i, h, hi, ha, hai => by
    have : l = pre := by simpa using h
    subst this
    have z1 : ltI (i : Int) l.length = false := ltI_f (by omega)
    rw [LpB_eq]
    simp only [t94, rowV]
    conv => lhs; arg 6; simp [b94_0, z1]
    simp [hi, ha]
  | s :: t, pre, acc, a, i, h, hi, ha, hai => by
    have hll : i < l.length := by rw [h, hi]; simp
    have z1 : ltI (i : Int) l.length = true := ltI_t (by omega)
    have hget : l[i]? = some s := by rw [h, hi]; simp
    have hgi : l[i]'hll = s := by rw [List.getElem?_eq_getElem hll] at hget; exact Option.some.inj hget
    have hw := w64 (i + 1) (by omega)
    have hK := K95 s
    have ih := L94 c l hl t (pre ++ [s]) (acc ++ [sV s]) (acc ++ [sV s]).length (i + 1) (by rw [h]; simp) (by simp [hi]) rfl (by simp [hai])
    rw [show acc ++ (s :: t).map sV = acc ++ [sV s] ++ t.map sV by simp]
    have hd : (sV s).d = .agg [.int .i64 (sV s).1, .str (sV s).2] := rfl
    rw [hd] at hK
    have hb1 : (acc.length + 1) * 24 ≤ 70368744177664 := by omega
    generalize List.map sV t = M at *
    generalize sV s = y at *
    rw [LpB_eq]
    simp only [t94, rowV] at ih ⊢
    by_cases hacc : acc = []
    · subst hacc
      subst ha
      conv => lhs; arg 6; simp [b94_0, z1, hll, hgi, hK, hw]
      simp [hd] at ih ⊢
      exact ih
    · conv => lhs; arg 6; simp [b94_0, z1, hll, hgi, hK, hw, hacc, ha, hb1]
      simp [hd, hacc] at ih ⊢
      exact ih
set_option maxHeartbeats 4000000 in
theorem K94 (c : Bool) (s : Nat) (l : List Tx) (hs : s = 1 ∨ l = []) (hl : l.length ≤ 2 ^ 30) : K0 136 [.slc c s (l.map D.str), .func 137 [] []] [] = some (cvV (l.map sV), []) := by
  unfold cvV
  by_cases hn : l = []
  · subst hn
    have z1 : ltI 0 0 = false := rfl
    refine K_call k94 (oraG_none (by decide) (by decide)) (by simp [c94]) ?_
    simp [c94]
    rw [LpB_eq]
    simp [b94_0, z1]
  · obtain rfl := hs.resolve_right hn
    have h := L94 c l hl l [] [] 0 0 rfl rfl rfl rfl
    have he : ¬ l.map sV = [] := by simpa using hn
    refine K_call k94 (oraG_none (by decide) (by decide)) (by simp [c94]) ?_
    generalize List.map sV l = E at *
    simp only [t94, rowV] at h
    simp [c94]
    simp [he] at h
    rw [h]
    simp [he, List.take_of_length_le]
def t97 (c : Bool) (l : List Int) (a i : Nat) (v : D) : List D := [.slc c 1 (l.map (.int .i64)), .func 140 [] [], .undef, .undef, nilS, .sl 0 0 a a, .undef, .undef, .slc c 1 (l.map (.int .i64)), .int .i64 l.length, .int .i64 i, .undef, .undef, .undef, .undef, .undef, .undef, .undef, .undef, .undef, .undef, .undef]
set_option maxHeartbeats 4000000 in
theorem L97 (c : Bool) (l : List Int) (hl : l.length ≤ 2 ^ 30) : ∀ (t pre : List Int) (acc : List Va) (a i : Nat), l = pre ++ t → i = pre.length → a = acc.length → acc.length = i →
    LpB cf0 K0 b97_0 (t97 c l 0 0 .undef) 1 ⟨t97 c l a i .undef, [rowV acc]⟩ = some (.exit 0, ⟨t97 c l (acc ++ t.map nV).length l.length .undef, [rowV (acc ++ t.map nV)]⟩)
  | [], pre, acc, a, i, h, hi, ha, hai => by
    have : l = pre := by simpa using h
    subst this
    have z1 : ltI (i : Int) l.length = false := ltI_f (by omega)
    rw [LpB_eq]
    simp only [t97, rowV]
    conv => lhs; arg 6; simp [b97_0, z1]
    simp [hi, ha]
  | s :: t, pre, acc, a, i, h, hi, ha, hai => by
    have hll : i < l.length := by rw [h, hi]; simp
    have z1 : ltI (i : Int) l.length = true := ltI_t (by omega)
    have hget : l[i]? = some s := by rw [h, hi]; simp
    have hgi : l[i]'hll = s := by rw [List.getElem?_eq_getElem hll] at hget; exact Option.some.inj hget
    have hw := w64 (i + 1) (by omega)
    have hK := K98 s
    have ih := L97 c l hl t (pre ++ [s]) (acc ++ [nV s]) (acc ++ [nV s]).length (i + 1) (by rw [h]; simp) (by simp [hi]) rfl (by simp [hai])
    rw [show acc ++ (s :: t).map nV = acc ++ [nV s] ++ t.map nV by simp]
    have hd : (nV s).d = .agg [.int .i64 (nV s).1, .str (nV s).2] := rfl
    rw [hd] at hK
    have hb1 : (acc.length + 1) * 24 ≤ 70368744177664 := by omega
    generalize List.map nV t = M at *
    generalize nV s = y at *
    rw [LpB_eq]
    simp only [t97, rowV] at ih ⊢
    by_cases hacc : acc = []
    · subst hacc
      subst ha
      conv => lhs; arg 6; simp [b97_0, z1, hll, hgi, hK, hw]
      simp [hd] at ih ⊢
      exact ih
    · conv => lhs; arg 6; simp [b97_0, z1, hll, hgi, hK, hw, hacc, ha, hb1]
      simp [hd, hacc] at ih ⊢
      exact ih
set_option maxHeartbeats 4000000 in
theorem K97 (c : Bool) (s : Nat) (l : List Int) (hs : s = 1 ∨ l = []) (hl : l.length ≤ 2 ^ 30) : K0 139 [.slc c s (l.map (.int .i64)), .func 140 [] []] [] = some (cvV (l.map nV), []) := by
  unfold cvV
  by_cases hn : l = []
  · subst hn
    have z1 : ltI 0 0 = false := rfl
    refine K_call k97 (oraG_none (by decide) (by decide)) (by simp [c97]) ?_
    simp [c97]
    rw [LpB_eq]
    simp [b97_0, z1]
  · obtain rfl := hs.resolve_right hn
    have h := L97 c l hl l [] [] 0 0 rfl rfl rfl rfl
    have he : ¬ l.map nV = [] := by simpa using hn
    refine K_call k97 (oraG_none (by decide) (by decide)) (by simp [c97]) ?_
    generalize List.map nV l = E at *
    simp only [t97, rowV] at h
    simp [c97]
    simp [he] at h
    rw [h]
    simp [he, List.take_of_length_le]
/-- What a block's bytes say. -/
def readO (t : Int) (b : List Int) : Option (List Va) := if t = 3 then (textsT b).map (·.map sV) else (intsT b).map (·.map nV)
def V63 : Option (List Va) → D
  | none => .tuple [cvV [], .int .i64 10]
  | some l => .tuple [cvV l, .int .i64 0]
theorem okT_some {l : List Int} {s : List Tx × List Int × Bool} {t : List Tx} (h : okT l s = some t) : s.1 = t ∧ textsI t = l := by
  unfold okT at h
  split at h
  · cases h
  · split at h
    · rename_i h1
      obtain rfl := Option.some.inj h
      exact ⟨rfl, h1⟩
    · cases h
theorem textsT_some {l : List Int} {t : List Tx} (h : textsT l = some t) : t.length ≤ 2000 ∧ (∀ s ∈ t, s.length ≤ 60) ∧ textsI t = l := by
  have hq := numT_range 2001 l false
  unfold textsT at h
  split at h
  · cases h
  · rename_i h1
    obtain ⟨h2, h3⟩ := okT_some h
    have h4 := hq.2.resolve_right fun e => h1 (.inl e)
    rw [← h2]
    refine ⟨Nat.le_trans (rawT_len _ _ _) (by omega), raw60 _ _ _, ?_⟩
    rw [h2]; exact h3
theorem intsT_some {l t : List Int} (h : intsT l = some t) : t.length ≤ 2000 ∧ intsI t = l := by
  have hr := varI_range l
  unfold intsT at h
  cases h1 : rawI l with
  | none => rw [h1] at h; cases h
  | some u =>
    rw [h1] at h
    simp only at h
    split at h
    · rename_i h2
      obtain rfl := Option.some.inj h
      exact ⟨raw_len l u h1 hr.1, h2⟩
    · cases h
set_option maxHeartbeats 2000000 in
/-- read. -/
theorem K63 (t : Int) (c : Bool) (l : List Int) (hl : l.length ≤ 2 ^ 40) (hB : isB l) : K0 127 [.int .i64 t, .slc c 1 (l.map (.int .u8))] [] = some (V63 (readO t l), []) := by
  refine K_call k63 (oraG_none (by decide) (by decide)) (by simp [c63]) ?_
  unfold readO
  by_cases ht : t = 3
  · have z1 : eqI t 3 = true := eqI_t ht
    rw [if_pos ht]
    have h := K93 c l hl hB
    cases ho : textsT l with
    | none =>
      rw [ho] at h
      simp only [V93] at h
      have h2 := K94 true 0 [] (.inr rfl) (by simp)
      simp [cvV] at h2
      simp [c63, z1, h, V63, h2, cvV]
    | some s =>
      rw [ho] at h
      simp only [V93] at h
      obtain ⟨cc, ss, hss, hcv⟩ := cvT_slc s
      rw [hcv] at h
      have h2 := K94 cc ss s hss (by have := (textsT_some ho).1; omega)
      simp only [Option.map_some]
      generalize s.map sV = v at *
      obtain ⟨d, hd⟩ : ∃ d, cvV v = d := ⟨_, rfl⟩
      rw [hd] at h2
      unfold cvV at hd
      by_cases hv : v = []
      · subst hv; simp at hd; subst hd; simp [c63, z1, h, V63, h2, cvV]
      · rw [if_neg hv] at hd; subst hd; simp [c63, z1, h, V63, h2, cvV, hv]
  · have z1 : eqI t 3 = false := eqI_f ht
    rw [if_neg ht]
    have h := K96 c l hl hB
    cases ho : intsT l with
    | none =>
      rw [ho] at h
      simp only [V96] at h
      have h2 := K97 true 0 [] (.inr rfl) (by simp)
      simp [cvV] at h2
      simp [c63, z1, h, V63, h2, cvV]
    | some s =>
      rw [ho] at h
      simp only [V96] at h
      obtain ⟨cc, ss, hss, hcv⟩ := cvI_slc s
      rw [hcv] at h
      have h2 := K97 cc ss s hss (by have := (intsT_some ho).1; omega)
      simp only [Option.map_some]
      generalize s.map nV = v at *
      obtain ⟨d, hd⟩ : ∃ d, cvV v = d := ⟨_, rfl⟩
      rw [hd] at h2
      unfold cvV at hd
      by_cases hv : v = []
      · subst hv; simp at hd; subst hd; simp [c63, z1, h, V63, h2, cvV]
      · rw [if_neg hv] at hd; subst hd; simp [c63, z1, h, V63, h2, cvV, hv]
end Go.Ab
/- THE FUNCTIONS' EQUATIONS: block.Take. -/
set_option linter.all false
set_option maxRecDepth 100000
namespace Go.Ab
open Go.Proofs Go.Proofs.YtomomeabfnmncaaGreatH Go.Proofs.YtomomeabfnmncaaGreatH.Crc Go.Proofs.YtomomeabfnmncaaGreatH.Var Go.Proofs.YtomomeabfnmncaaGreatH.Fr
def c28 : Fn' := ⟨50, [(.tmp 4), (.tmp 5), (.tmp 6)], (.seq (.reg none [⟨(some 4), none, (.mv (.k nilS))⟩, ⟨(some 5), none, (.mv (.k (.int .i64 0)))⟩, ⟨(some 6), none, (.mv (.k (.int .i64 0)))⟩]) (.seq (.reg none [⟨(some 12), none, (.mv (.t 1))⟩, ⟨(some 13), none, (.call (.f 40) [(.t 12)])⟩, ⟨(some 11), none, (.mv (.t 13))⟩, ⟨(some 14), none, (.ext (.t 11) 0)⟩, ⟨(some 15), none, (.ext (.t 11) 1)⟩, ⟨(some 16), none, (.ext (.t 11) 2)⟩, ⟨(some 7), none, (.mv (.t 14))⟩, ⟨(some 8), none, (.mv (.t 15))⟩, ⟨(some 9), none, (.mv (.t 16))⟩]) (.seq (.block 0 (.seq (.reg none [⟨(some 18), none, (.mv (.t 9))⟩, ⟨(some 19), none, (.bin .neq [] (.t 18) (.k (.int .i64 0)))⟩, ⟨(some 17), none, (.mv (.t 19))⟩]) (.cond (.t 17) (.seq (.reg none [⟨(some 20), none, (.mv (.t 9))⟩, ⟨(some 4), none, (.mv (.k nilS))⟩, ⟨(some 5), none, (.mv (.k (.int .i64 0)))⟩, ⟨(some 6), none, (.mv (.t 20))⟩]) .ret) (.seq (.reg none [⟨(some 22), none, (.mv (.t 7))⟩, ⟨(some 23), none, (.len 1 (.t 22))⟩, ⟨(some 24), none, (.bin .eql [] (.t 23) (.k (.int .i64 0)))⟩, ⟨(some 25), none, (.mv (.t 24))⟩, ⟨(some 26), (some ((some 25), false)), (.mv (.t 0))⟩, ⟨(some 27), (some ((some 25), false)), (.call (.f 77) [(.t 26)])⟩, ⟨(some 28), (some ((some 25), false)), (.un .not (.t 27))⟩, ⟨(some 29), none, (.pick (.t 25) (.k (.bool true)) (.t 28))⟩, ⟨(some 30), none, (.mv (.t 29))⟩, ⟨(some 31), (some ((some 30), false)), (.mv (.t 7))⟩, ⟨(some 32), (some ((some 30), false)), (.ia none 1 false (.t 31) (.k (.int .i64 0)))⟩, ⟨(some 33), (some ((some 30), false)), (.ld none (.t 32))⟩, ⟨(some 34), (some ((some 30), false)), (.cvt (.int .i64) (.t 33))⟩, ⟨(some 35), (some ((some 30), false)), (.mv (.t 0))⟩, ⟨(some 36), (some ((some 30), false)), (.bin .neq [] (.t 34) (.t 35))⟩, ⟨(some 37), none, (.pick (.t 30) (.k (.bool true)) (.t 36))⟩, ⟨(some 21), none, (.mv (.t 37))⟩]) (.cond (.t 21) (.seq (.reg none [⟨(some 4), none, (.mv (.k nilS))⟩, ⟨(some 5), none, (.mv (.k (.int .i64 0)))⟩, ⟨(some 6), none, (.mv (.k (.int .i64 10)))⟩]) .ret) .skip))))) (.seq (.reg none [⟨(some 39), none, (.mv (.t 0))⟩, ⟨(some 40), none, (.mv (.t 7))⟩, ⟨(some 41), none, (.sub 1 1 (.t 40) (some (.k (.int .i64 1))) none none)⟩, ⟨(some 42), none, (.call (.f 127) [(.t 39), (.t 41)])⟩, ⟨(some 38), none, (.mv (.t 42))⟩, ⟨(some 43), none, (.ext (.t 38) 0)⟩, ⟨(some 44), none, (.ext (.t 38) 1)⟩, ⟨(some 10), none, (.mv (.t 43))⟩, ⟨(some 9), none, (.mv (.t 44))⟩]) (.seq (.seq (.reg none [⟨(some 45), none, (.mv (.t 9))⟩, ⟨(some 46), none, (.bin .neq [] (.t 45) (.k (.int .i64 0)))⟩]) (.cond (.t 46) (.seq (.reg none [⟨(some 47), none, (.mv (.t 9))⟩, ⟨(some 4), none, (.mv (.k nilS))⟩, ⟨(some 5), none, (.mv (.k (.int .i64 0)))⟩, ⟨(some 6), none, (.mv (.t 47))⟩]) .ret) .skip)) (.seq (.reg none [⟨(some 48), none, (.mv (.t 10))⟩, ⟨(some 49), none, (.mv (.t 8))⟩, ⟨(some 4), none, (.mv (.t 48))⟩, ⟨(some 5), none, (.mv (.t 49))⟩, ⟨(some 6), none, (.mv (.k (.int .i64 0)))⟩]) .ret))))))⟩
theorem k28 : compF Tryz.prog 115 = some c28 := by kernel_rfl
attribute [local simp] op_or op_an op_add op_sub op_mul oq_eql oq_neq oq_lss oq_gtr oq_leq oq_geq
attribute [-simp] intOp bin_shl bin_shr
/-- What block.Take answers: the values, how many bytes, and why not. -/
def takeI (t : Int) (l : List Int) : List Va × Int × Int :=
  if ¬ (unframeI l).2.2 = 0 then ([], 0, (unframeI l).2.2)
  else if (unframeI l).1 = [] ∨ kindI t = false ∨ ¬ (unframeI l).1.headD 0 = t then ([], 0, 10)
  else match readO t (unframeI l).1.tail with
    | none => ([], 0, 10)
    | some v => (v, (unframeI l).2.1, 0)
theorem uI_len (l : List Int) : (unframeI l).1.length ≤ l.length := by
  unfold unframeI
  split
  · simp
  · split
    · simp only [List.length_drop, List.length_take]; omega
    · simp
theorem uI_B {l : List Int} (h : isB l) : isB (unframeI l).1 := by
  unfold unframeI
  split
  · exact isB_nil
  · split
    · exact fun x hx => h x (List.mem_of_mem_take (List.mem_of_mem_drop hx))
    · exact isB_nil
theorem cvV_nil : cvV [] = nilS := rfl
set_option maxHeartbeats 4000000 in
/-- block.Take. -/
theorem K28 (t : Int) (c : Bool) (l : List Int) (hl : l.length ≤ 2 ^ 39) (hB : isB l) : K0 115 [.int .i64 t, .slc c 1 (l.map (.int .u8))] [] = some (.tuple [cvV (takeI t l).1, .int .i64 (takeI t l).2.1, .int .i64 (takeI t l).2.2], []) := by
  obtain ⟨d, hK, hd⟩ := K41 c l (by omega) hB
  have h52 := K52 t
  have hul := uI_len l
  have huB := uI_B hB
  refine K_call k28 (oraG_none (by decide) (by decide)) (by simp [c28]) ?_
  unfold takeI
  generalize unframeI l = u at *
  obtain ⟨data, n, e⟩ := u
  simp only at hK hd hul huB ⊢
  by_cases he : e = 0
  · subst he
    obtain ⟨c', rfl⟩ : ∃ c', d = .slc c' 1 (data.map (.int .u8)) := by
      rcases hd with ⟨_, h⟩ | ⟨h, _⟩
      · exact h
      · exact absurd rfl h
    rw [if_neg (fun h => h rfl)]
    have z0 : neI 0 0 = false := rfl
    cases data with
    | nil =>
      rw [if_pos (.inl rfl), cvV_nil]
      have z1 : eqI 0 0 = true := rfl
      simp at hK
      simp [c28, hK, z0, z1]
    | cons w r =>
      have z1 : eqI ((r.length : Int) + 1) 0 = false := eqI_f (by omega)
      simp at hK
      cases hk : kindI t with
      | false =>
        rw [if_pos (.inr (.inl rfl)), cvV_nil]
        rw [hk] at h52
        simp [c28, hK, h52, z0, z1]
      | true =>
        rw [hk] at h52
        have hw := huB w List.mem_cons_self
        have hww : IntKind.i64.wrap w = w := w64 _ (by omega)
        by_cases hwt : w = t
        · have z2 : neI w t = false := by simp [neI, hwt]
          rw [if_neg (by simp [hwt])]
          simp only [List.tail_cons]
          have h1r : 1 ≤ (r.length : Int) + 1 := by omega
          have h63 := fun c => K63 t c r (by simp at hul; omega) fun x hx => huB x (List.mem_cons_of_mem _ hx)
          have z3 : neI 10 0 = true := rfl
          cases ho : readO t r with
          | none =>
            simp only [ho, V63, cvV_nil] at h63
            simp only [cvV_nil]
            simp [c28, hK, h52, z0, z1, hww, z2, h1r, h63, z3]
          | some v =>
            simp only [ho, V63] at h63
            simp only
            obtain ⟨x, hx⟩ : ∃ x, cvV v = x := ⟨_, rfl⟩
            simp only [hx] at h63 ⊢
            unfold cvV at hx
            by_cases hv : v = []
            · subst hv
              simp at hx
              subst hx
              simp [c28, hK, h52, z0, z1, hww, z2, h1r, h63]
            · rw [if_neg hv] at hx
              subst hx
              simp [c28, hK, h52, z0, z1, hww, z2, h1r, h63]
        · have z2 : neI w t = true := by simp [neI, hwt]
          rw [if_pos (.inr (.inr hwt)), cvV_nil]
          simp [c28, hK, h52, z0, z1, hww, z2]
  · have z0 : neI e 0 = true := by simp [neI, he]
    rcases hd with ⟨h, _⟩ | ⟨_, rfl⟩
    · exact absurd h he
    rw [if_pos he, cvV_nil]
    simp [c28, hK, z0]
end Go.Ab
/- PLAIN WORDS: columns put and taken back; blocks. -/
set_option linter.all false
set_option maxRecDepth 100000
namespace Go.Ab
open Go.Proofs Go.Proofs.YtomomeabfnmncaaGreatH Go.Proofs.YtomomeabfnmncaaGreatH.Crc Go.Proofs.YtomomeabfnmncaaGreatH.Var Go.Proofs.YtomomeabfnmncaaGreatH.Fr
/-! ### Numbers -/
theorem leN_digits : ∀ (n u : Nat), leN ((List.range n).map fun i => ((u / 2 ^ (8 * i) % 256 : Nat) : Int)) = u % 2 ^ (8 * n)
  | 0, u => by simp [leN, Nat.mod_one]
  | n + 1, u => by
    have ih := leN_digits n u
    rw [List.range_succ, List.map_append, leN_append, ih]
    simp only [List.length_map, List.length_range, List.map_cons, List.map_nil, leN, Int.toNat_natCast, Nat.mul_zero, Nat.add_zero]
    rw [show 8 * (n + 1) = 8 * n + 8 by omega, Nat.pow_add, Nat.mod_mul, show (2 : Nat) ^ 8 = 256 by decide]
theorem le8_digits (u : Nat) : (List.range 8).map (by8 (u : Int)) = (List.range 8).map fun i => ((u / 2 ^ (8 * i) % 256 : Nat) : Int) := by
  refine List.map_congr_left fun i hi => ?_
  have h8 : i < 8 := List.mem_range.1 hi
  rw [by8_eq _ _ h8 (by omega)]
  have e : ((2 : Int) ^ (8 * i)) = ((2 ^ (8 * i) : Nat) : Int) := by simp
  rw [e, ← Int.natCast_ediv]
  exact (Int.natCast_emod _ _).symm
theorem fixed_cons (x : Int) (l : List Int) : fixedI (x :: l) = (List.range 8).map (by8 (IntKind.u64.wrap x)) ++ fixedI l := by
  unfold fixedI
  rw [List.length_cons, show 8 * (l.length + 1) = 8 + 8 * l.length by omega, List.range_add, List.map_append, List.map_map]
  have h1 : (List.range 8).map (fixB (x :: l)) = (List.range 8).map (by8 (IntKind.u64.wrap x)) := by
    refine List.map_congr_left fun i hi => ?_
    have h8 : i < 8 := List.mem_range.1 hi
    unfold fixB
    rw [Nat.div_eq_of_lt h8, Nat.mod_eq_of_lt h8]
    rfl
  have h2 : (List.range (8 * l.length)).map (fixB (x :: l) ∘ (8 + ·)) = (List.range (8 * l.length)).map (fixB l) := by
    refine List.map_congr_left fun i _ => ?_
    show fixB (x :: l) (8 + i) = fixB l i
    unfold fixB
    rw [show (8 + i) / 8 = i / 8 + 1 by omega, show (8 + i) % 8 = i % 8 by omega]
    simp
  rw [h1, h2]
theorem wide_fixed : ∀ l : List Int, (∀ x ∈ l, i64R x) → wideI l.length (fixedI l) = some l
  | [], _ => rfl
  | x :: l, h => by
    have hx := h x List.mem_cons_self
    have ih := wide_fixed l fun y hy => h y (List.mem_cons_of_mem _ hy)
    rw [fixed_cons]
    obtain ⟨u, hu⟩ : ∃ u : Nat, IntKind.u64.wrap x = u := ⟨(IntKind.u64.wrap x).toNat, by rw [IntKind.wrap_u64]; omega⟩
    have hu64 : u < 2 ^ 64 := by rw [IntKind.wrap_u64] at hu; omega
    rw [hu, le8_digits]
    have hd := leN_digits 8 u
    rw [Nat.mod_eq_of_lt (by simpa using hu64)] at hd
    generalize hD : ((List.range 8).map fun i => ((u / 2 ^ (8 * i) % 256 : Nat) : Int)) = D8 at *
    have hDl : D8.length = 8 := by rw [← hD]; simp
    rw [List.length_cons]
    simp only [wideI]
    rw [if_neg (by simp [hDl]), List.drop_left' hDl, List.take_left' hDl, ih, hd]
    simp only [Option.map_some, Option.some.injEq, List.cons.injEq, and_true]
    unfold i64R at hx
    rw [IntKind.wrap_u64] at hu
    rw [IntKind.wrap_i64]
    omega
theorem add_sub_I {w n : Int} (hw : i64R w) (hn : i64R n) : addI w (subI n w) = n := by
  unfold addI subI i64R at *
  rw [IntKind.wrap_i64, IntKind.wrap_i64]
  omega
theorem steps_delta : ∀ (l : List Int) (w : Int), (∀ x ∈ l, i64R x) → i64R w → stepsI l.length w (deltaI w l) = some l
  | [], _, _, _ => rfl
  | n :: l, w, h, hw => by
    have hn := h n List.mem_cons_self
    have ih := steps_delta l n (fun y hy => h y (List.mem_cons_of_mem _ hy)) hn
    have hz := zig_range _ (subI_range n w)
    unfold u64R at hz
    have hv := varI_put (zigI (subI n w)) hz.1 (by omega) (deltaI n l)
    have hp := putI_pos (zigI (subI n w))
    rw [List.length_cons, show deltaI w (n :: l) = putI (zigI (subI n w)) ++ deltaI n l from rfl]
    simp only [stepsI]
    rw [hv]
    simp only [zag_zig, add_sub_I hw hn]
    rw [if_neg (by omega), List.drop_left' (by simp), ih]
    rfl
theorem raw_put (n : Nat) (hn : n ≤ 2000) (w : Int) (r : List Int) : rawI (putI n ++ (w :: r)) = if w = 1 then stepsI n 0 r else wideI n r := by
  have hv := varI_put (n : Int) (by omega) (by omega) (w :: r)
  have hp := putI_pos (n : Int)
  unfold rawI
  rw [hv]
  generalize putI (n : Int) = p at *
  have e : Int.toNat (p.length : Int) = p.length := by omega
  have e1 : (p ++ (w :: r)).getD p.length 0 = w := by simp
  have e2 : (p ++ (w :: r)).drop (p.length + 1) = r := by simp
  rw [if_neg (by simp only [List.length_append, List.length_cons]; omega)]
  simp only [e, e1, e2, Int.toNat_natCast]
theorem intsT_put (l : List Int) (hl : l.length ≤ 2000) (h : ∀ x ∈ l, i64R x) : intsT (intsI l) = some l := by
  have hr : rawI (intsI l) = some l := by
    unfold intsI
    split
    · rw [raw_put _ hl, if_pos rfl]; exact steps_delta l 0 h (by unfold i64R; omega)
    · rw [raw_put _ hl, if_neg (by omega)]; exact wide_fixed l h
  unfold intsT
  rw [hr]
  simp
/-! ### Texts -/
theorem numT_put {b n : Nat} (h : n < b) (hn : n ≤ 2 ^ 60) (r : List Int) : numT b (putI n ++ r) false = ((n : Int), r, false) := by
  have hv := varI_put (n : Int) (by omega) (by omega) r
  have hp := putI_pos (n : Int)
  unfold numT
  rw [hv]
  rw [if_neg (by simp only [Bool.false_eq_true, false_or]; omega)]
  simp
theorem u8_bs (s : Tx) : (bsI s).map u8I = s := by
  unfold bsI
  rw [List.map_map]
  conv => rhs; rw [← List.map_id s]
  refine List.map_congr_left fun b _ => ?_
  show UInt8.ofNat ((b.toNat : Int)).toNat = b
  simp
theorem textT_put (s : Tx) (hs : s.length ≤ 60) (r : List Int) : textT (putI s.length ++ (bsI s ++ r)) false = (s, r, false) := by
  unfold textT
  rw [numT_put (by omega) (by omega)]
  dsimp only
  rw [if_neg (by simp only [Bool.false_eq_true, false_or, List.length_append, bsI_len]; omega)]
  have e : Int.toNat (s.length : Int) = (bsI s).length := by rw [bsI_len]; omega
  rw [e, List.take_left' rfl, List.drop_left' rfl, u8_bs]
theorem some_each : ∀ (l : List Tx) (r : List Int), (∀ s ∈ l, s.length ≤ 60) → someT textT l.length (eachI l ++ r) false = (l, r, false)
  | [], r, _ => by simp [someT, eachI]
  | s :: l, r, h => by
    have ih := some_each l r fun y hy => h y (List.mem_cons_of_mem _ hy)
    rw [List.length_cons, each_cons, List.append_assoc, List.append_assoc]
    simp only [someT]
    rw [textT_put s (h s List.mem_cons_self), ih]
def wd : List Tx → List Tx → List Tx
  | W, [] => W
  | W, s :: l => if s ∈ W then wd W l else wd (W ++ [s]) l
def pl : List Tx → List Tx → List Int
  | _, [] => []
  | W, s :: l => if s ∈ W then putI (W.idxOf s) ++ pl W l else putI W.length ++ pl (W ++ [s]) l
theorem dict_eq : ∀ (l : List Tx) (q : List Tx × List Int), l.foldl dictS q = (wd q.1 l, q.2 ++ pl q.1 l)
  | [], q => by simp [wd, pl]
  | s :: l, q => by
    rw [List.foldl_cons, dict_eq l]
    unfold dictS
    by_cases h : s ∈ q.1
    · simp only [if_pos h, wd, pl, List.append_assoc]
    · simp only [if_neg h, wd, pl, List.append_assoc]
theorem wd_pre : ∀ (l W : List Tx), ∃ T, wd W l = W ++ T
  | [], W => ⟨[], by simp [wd]⟩
  | s :: l, W => by
    unfold wd
    split
    · exact wd_pre l W
    · obtain ⟨T, hT⟩ := wd_pre l (W ++ [s])
      exact ⟨s :: T, by rw [hT]; simp⟩
theorem wordT_put (W : List Tx) (k : Nat) (s : Tx) (hk : W[k]? = some s) (hW : W.length ≤ 2 ^ 40) (r : List Int) : wordT W (putI k ++ r) false = (s, r, false) := by
  have hkl : k < W.length := (List.getElem?_eq_some_iff.1 hk).1
  unfold wordT
  rw [numT_put hkl (by omega)]
  dsimp only
  rw [if_neg (by simp), List.getD_eq_getElem?_getD, Int.toNat_natCast, hk]
  rfl
theorem some_words : ∀ (l W : List Tx) (r : List Int), (wd W l).length ≤ 2 ^ 40 → someT (wordT (wd W l)) l.length (pl W l ++ r) false = (l, r, false)
  | [], W, r, _ => by simp [someT, pl]
  | s :: l, W, r, hW => by
    rw [List.length_cons]
    unfold wd at hW ⊢
    unfold pl
    by_cases h : s ∈ W
    · simp only [if_pos h] at hW ⊢
      have ih := some_words l W r hW
      obtain ⟨T, hT⟩ := wd_pre l W
      have hi : W.idxOf s < W.length := List.idxOf_lt_length_of_mem h
      have hk : (wd W l)[W.idxOf s]? = some s := by
        rw [hT, List.getElem?_append_left hi, List.getElem?_eq_getElem hi, List.getElem_idxOf hi]
      rw [List.append_assoc]
      simp only [someT]
      rw [wordT_put _ _ s hk hW, ih]
    · simp only [if_neg h] at hW ⊢
      have ih := some_words l (W ++ [s]) r hW
      obtain ⟨T, hT⟩ := wd_pre l (W ++ [s])
      have hk : (wd (W ++ [s]) l)[W.length]? = some s := by rw [hT]; simp
      rw [List.append_assoc]
      simp only [someT]
      rw [wordT_put _ _ s hk hW, ih]
theorem wd_len : ∀ (l W : List Tx), (wd W l).length ≤ W.length + l.length
  | [], W => by simp [wd]
  | s :: l, W => by
    unfold wd
    split
    · have := wd_len l W; simp only [List.length_cons]; omega
    · have := wd_len l (W ++ [s]); simp only [List.length_append, List.length_cons, List.length_nil] at this ⊢; omega
theorem wd_mem : ∀ (l W : List Tx), ∀ s ∈ wd W l, s ∈ W ∨ s ∈ l
  | [], W, s, h => .inl (by simpa [wd] using h)
  | x :: l, W, s, h => by
    unfold wd at h
    split at h
    · rcases wd_mem l W s h with h | h
      · exact .inl h
      · exact .inr (List.mem_cons_of_mem _ h)
    · rcases wd_mem l (W ++ [x]) s h with h | h
      · rcases List.mem_append.1 h with h | h
        · exact .inl h
        · exact .inr (by simp at h; simp [h])
      · exact .inr (List.mem_cons_of_mem _ h)
theorem rawT_dict (l : List Tx) (hl : l.length ≤ 2000) (h : ∀ s ∈ l, s.length ≤ 60) : rawT (l.length : Int) 1 (dictI l) = (l, [], false) := by
  unfold rawT
  rw [if_pos rfl]
  have hWl := wd_len l []
  have hWm : ∀ s ∈ wd [] l, s.length ≤ 60 := fun s hs => by
    rcases wd_mem l [] s hs with h' | h'
    · cases h'
    · exact h s h'
  have hd : dictI l = putI (wd [] l).length ++ (eachI (wd [] l) ++ pl [] l) := by unfold dictI; rw [dict_eq]; simp
  have hw := some_words l [] [] (by simp at hWl; omega)
  have he := some_each (wd [] l) (pl [] l) hWm
  have hq : wordsT (l.length : Int) (dictI l) = (wd [] l, pl [] l, false) := by
    unfold wordsT
    have hn := numT_put (b := ((l.length : Int) + 1).toNat) (n := (wd [] l).length) (by simp at hWl; omega) (by simp at hWl; omega) (eachI (wd [] l) ++ pl [] l)
    rw [hd, hn]
    simp only [Int.toNat_natCast]
    exact he
  rw [hq]
  simp only [Int.toNat_natCast]
  simpa using hw
theorem rawT_each (l : List Tx) (h : ∀ s ∈ l, s.length ≤ 60) : rawT (l.length : Int) 0 (eachI l) = (l, [], false) := by
  unfold rawT
  rw [if_neg (by omega)]
  simpa using some_each l [] h
theorem textsT_put (l : List Tx) (hl : l.length ≤ 2000) (h : ∀ s ∈ l, s.length ≤ 60) : textsT (textsI l) = some l := by
  have key : ∀ (w : Int) (r : List Int), rawT (l.length : Int) w r = (l, [], false) → textsI l = putI l.length ++ (w :: r) → textsT (textsI l) = some l := by
    intro w r h1 h2
    have hn := numT_put (b := 2001) (n := l.length) (by omega) (by omega) (w :: r)
    unfold textsT
    rw [h2, hn]
    simp only [List.headD_cons, List.tail_cons, h1]
    rw [if_neg (by simp)]
    unfold okT
    simp [h2]
  by_cases hc : (dictI l).length < (eachI l).length
  · exact key 1 (dictI l) (rawT_dict l hl h) (by unfold textsI; rw [if_pos hc])
  · exact key 0 (eachI l) (rawT_each l h) (by unfold textsI; rw [if_neg hc])
/-! ### Blocks -/
theorem blockOk_eq (t : Int) (l : List Va) : blockOk t l = true ↔ kindI t = true ∧ l.length ≤ 2000 ∧ ∀ p ∈ l, fitsI t p = true := by
  unfold blockOk
  simp only [Bool.and_eq_true, decide_eq_true_eq, List.all_eq_true, and_assoc]
theorem kind_eq (t : Int) : kindI t = true ↔ 1 ≤ t ∧ t ≤ 3 := by
  unfold kindI
  simp [leI]
theorem fits3 {p : Va} (h : fitsI 3 p = true) : p.1 = 0 ∧ p.2.length ≤ 60 := by
  have e : fitsI 3 p = (eqI p.1 0 && leI p.2.length 60) := rfl
  rw [e] at h
  obtain ⟨h1, h2⟩ := Bool.and_eq_true_iff.1 h
  exact ⟨eqI_eq h1, by have := leI_le h2; omega⟩
theorem fits12 {t : Int} {p : Va} (ht : ¬ t = 3) (h : fitsI t p = true) : p.2 = [] := by
  unfold fitsI at h
  split at h
  · simpa using h
  · rw [show eqI t 3 = false from eqI_f ht] at h
    simp at h
theorem fits_s (s : Tx) (h : s.length ≤ 60) : fitsI 3 (sV s) = true := by
  show (eqI 0 0 && leI (s.length : Int) 60) = true
  simp [eqI, leI]; omega
theorem fits_n {t : Int} (ht : ¬ t = 3) (hk : kindI t = true) (n : Int) : fitsI t (nV n) = true := by
  have := (kind_eq t).1 hk
  have h12 : t = 1 ∨ t = 2 := by omega
  rcases h12 with rfl | rfl <;> rfl
theorem read_col (t : Int) (l : List Va) (h : blockOk t l = true) (hr : ∀ p ∈ l, i64R p.1) : readO t (colI t l) = some l := by
  obtain ⟨_, hl, hf⟩ := (blockOk_eq t l).1 h
  unfold readO colI
  by_cases ht : t = 3
  · subst ht
    rw [if_pos rfl, if_pos (by rfl), textsT_put _ (by simpa using hl) (fun s hs => by
      obtain ⟨p, hp, rfl⟩ := List.mem_map.1 hs
      exact (fits3 (hf p hp)).2)]
    simp only [Option.map_some, List.map_map, Option.some.injEq]
    conv => rhs; rw [← List.map_id l]
    refine List.map_congr_left fun p hp => ?_
    show (0, p.2) = p
    rw [← (fits3 (hf p hp)).1]
  · rw [if_neg ht, show eqI t 3 = false from eqI_f ht]
    simp only [Bool.false_eq_true, if_false]
    rw [intsT_put _ (by simpa using hl) (fun s hs => by
      obtain ⟨p, hp, rfl⟩ := List.mem_map.1 hs
      exact hr p hp)]
    simp only [Option.map_some, List.map_map, Option.some.injEq]
    conv => rhs; rw [← List.map_id l]
    refine List.map_congr_left fun p hp => ?_
    show (p.1, []) = p
    rw [← fits12 ht (hf p hp)]
theorem data_len {t : Int} {l : List Va} (h : blockOk t l = true) : (t :: colI t l).length ≤ 200001 := by
  obtain ⟨_, hl, hf⟩ := (blockOk_eq t l).1 h
  have := col_len t l (fun p hp => fits60 (hf p hp)) hl
  simp only [List.length_cons]; omega
theorem take_put (t : Int) (l : List Va) (h : blockOk t l = true) (hr : ∀ p ∈ l, i64R p.1) (rest : List Int) : takeI t (blockI t l ++ rest) = (l, ((blockI t l).length : Int), 0) := by
  have hu := unframe_frame (t :: colI t l) rest (by have := data_len h; omega)
  have hk := ((blockOk_eq t l).1 h).1
  unfold takeI blockI
  rw [hu]
  simp only
  rw [if_neg (by simp), if_neg (by simp [hk])]
  simp only [List.tail_cons, read_col t l h hr]
theorem take_other (t t' : Int) (l : List Va) (h : blockOk t l = true) (ht : ¬ t = t') : takeI t' (blockI t l) = ([], 0, 10) := by
  have hu := unframe_frame (t :: colI t l) [] (by have := data_len h; omega)
  rw [List.append_nil] at hu
  unfold takeI blockI
  rw [hu]
  simp only
  rw [if_neg (by simp), if_pos (by simp [ht])]
theorem take_part (t t' : Int) (l : List Va) (h : blockOk t l = true) (k : Nat) (hk : k < (blockI t l).length) : takeI t' ((blockI t l).take k) = ([], 0, 10) := by
  have hu := unframe_part (t :: colI t l) (by have := data_len h; omega) k hk
  unfold takeI blockI
  rw [hu]
  simp
theorem take_nil (t : Int) : takeI t (frameI []) = ([], 0, 10) := by
  have hu := unframe_frame [] [] (by simp)
  rw [List.append_nil] at hu
  unfold takeI
  rw [hu]
  simp
theorem take_short (t : Int) (ht : i64R t) : takeI t (frameI [IntKind.u8.wrap t, 0]) = ([], 0, 10) := by
  have hu := unframe_frame [IntKind.u8.wrap t, 0] [] (by simp)
  rw [List.append_nil] at hu
  have h1 : readO t [0] = none := by
    unfold readO
    split
    · have : textsT [0] = none := by
        have hn : numT 2001 [0] false = (0, [], false) := by decide +kernel
        unfold textsT
        rw [hn]
        simp
      rw [this]; rfl
    · have : intsT [0] = none := by
        have hv : varI [0] = (0, 1) := by decide +kernel
        unfold intsT rawI
        rw [hv]
        simp
      rw [this]; rfl
  unfold takeI
  rw [hu]
  simp only [List.tail_cons, h1]
  rw [if_neg (by simp)]
  split <;> rfl
theorem take_err (t : Int) (l : List Int) : (takeI t l).2.2 = 0 ∨ ((takeI t l).1 = [] ∧ (takeI t l).2.1 = 0) := by
  unfold takeI
  split
  · exact .inr ⟨rfl, rfl⟩
  · split
    · exact .inr ⟨rfl, rfl⟩
    · split
      · exact .inr ⟨rfl, rfl⟩
      · exact .inl rfl
theorem read_some {t : Int} (hk : kindI t = true) {r : List Int} {v : List Va} (h : readO t r = some v) : blockOk t v = true ∧ colI t v = r := by
  unfold readO at h
  rw [blockOk_eq]
  unfold colI
  by_cases ht : t = 3
  · subst ht
    rw [if_pos rfl] at h
    obtain ⟨s, hs, rfl⟩ := Option.map_eq_some_iff.1 h
    obtain ⟨h1, h2, h3⟩ := textsT_some hs
    refine ⟨⟨hk, by simpa using h1, fun p hp => ?_⟩, ?_⟩
    · obtain ⟨x, hx, rfl⟩ := List.mem_map.1 hp
      exact fits_s x (h2 x hx)
    · rw [if_pos (by rfl), List.map_map]
      rw [show (s.map ((fun p : Va => p.2) ∘ sV)) = s from (List.map_congr_left fun x _ => rfl).trans (List.map_id s)]
      exact h3
  · rw [if_neg ht] at h
    obtain ⟨s, hs, rfl⟩ := Option.map_eq_some_iff.1 h
    obtain ⟨h1, h3⟩ := intsT_some hs
    refine ⟨⟨hk, by simpa using h1, fun p hp => ?_⟩, ?_⟩
    · obtain ⟨x, hx, rfl⟩ := List.mem_map.1 hp
      exact fits_n ht hk x
    · rw [show eqI t 3 = false from eqI_f ht]
      simp only [Bool.false_eq_true, if_false]
      rw [List.map_map, show (s.map ((fun p : Va => p.1) ∘ nV)) = s from (List.map_congr_left fun x _ => rfl).trans (List.map_id s)]
      exact h3
theorem take_some (t : Int) (l : List Int) (hB : isB l) (h : (takeI t l).2.2 = 0) : blockOk t (takeI t l).1 = true ∧ l.take (takeI t l).2.1.toNat = blockI t (takeI t l).1 ∧ (takeI t l).2.1 = (blockI t (takeI t l).1).length ∧ (takeI t l).2.1 ≤ l.length := by
  have hus : (unframeI l).2.2 = 0 → _ := fun e => unframe_some l hB (unframeI l).1 (unframeI l).2.1 (Prod.ext rfl (Prod.ext rfl e))
  unfold takeI at h ⊢
  by_cases h0 : (unframeI l).2.2 = 0
  case neg => rw [if_pos h0] at h; exact absurd h h0
  rw [if_neg (fun h => h h0)] at h ⊢
  have hus := hus h0
  generalize unframeI l = u at *
  obtain ⟨d, n, e⟩ := u
  simp only at h hus ⊢
  by_cases h1 : d = [] ∨ kindI t = false ∨ ¬ d.headD 0 = t
  · rw [if_pos h1] at h; exact absurd h (by decide)
  rw [if_neg h1] at h ⊢
  cases hr : readO t d.tail with
  | none => rw [hr] at h; exact absurd h (by simp)
  | some v =>
    simp only
    obtain ⟨w, r, rfl⟩ : ∃ w r, d = w :: r := by
      cases d with
      | nil => exact absurd (.inl rfl) h1
      | cons w r => exact ⟨w, r, rfl⟩
    have hk : kindI t = true := by
      cases hk : kindI t with
      | true => rfl
      | false => exact absurd (.inr (.inl hk)) h1
    have hw : w = t := by
      by_cases hw : w = t
      · exact hw
      · exact absurd (.inr (.inr hw)) h1
    obtain ⟨b1, b2⟩ := read_some hk hr
    simp only [List.tail_cons] at b2
    unfold blockI
    rw [b2, ← hw]
    exact ⟨by rw [hw]; exact b1, hus.1, hus.2.1, hus.2.2.1⟩
/-! ### Bits turned -/
theorem unframe_two (s d : List Int) (hs : s.length = 4) (hd : d.length ≤ 1048576) (h : ¬ sum4 (crcI d) = s) : unframeI (putI d.length ++ (s ++ d)) = ([], 0, 11) := by
  have hv := varI_put (d.length : Int) (by omega) (by omega) (s ++ d)
  have hp := putI_pos (d.length : Int)
  unfold unframeI
  rw [hv]
  generalize putI (d.length : Int) = p at *
  simp only
  have e1 : (((p.length : Int) + 4 + d.length).toNat) = p.length + 4 + d.length := by omega
  have e2 : (((p.length : Int) + 4).toNat) = p.length + 4 := by omega
  have m1 : (p ++ (s ++ d)).take (p.length + 4 + d.length) = p ++ (s ++ d) := List.take_of_length_le (by simp; omega)
  have m2 : (p ++ (s ++ d)).drop (p.length + 4) = d := by rw [← List.append_assoc]; exact List.drop_left' (by simp [hs])
  have m3 : (p ++ (s ++ d)).take (p.length + 4) = p ++ s := by rw [← List.append_assoc]; exact List.take_left' (by simp [hs])
  rw [if_neg (by simp only [List.length_append]; omega), e1, e2, m1, m2, m3, Int.toNat_natCast, List.drop_left' rfl, if_neg h]
theorem crc_other {a b : List Int} {x y : Int} (ha : isB a) (hb : isB b) (hx : 0 ≤ x ∧ x < 256) (hy : 0 ≤ y ∧ y < 256) (h : crcI (a ++ x :: b) = crcI (a ++ y :: b)) : x = y := Rec.crc_other ha hb hx hy h
theorem unframe_turn (d : List Int) (hd : d.length ≤ 1048576) (hB : isB d) (j : Nat) (h1 : (putI d.length).length ≤ j) (h2 : j < (frameI d).length) (x : Int) (hx : 0 ≤ x ∧ x < 256) (hne : ¬ (frameI d)[j]'h2 = x) :
    unframeI ((frameI d).set j x) = ([], 0, 11) := by
  have hfl := frameI_len d
  have hc := crcI_range hB
  obtain ⟨i, rfl⟩ : ∃ i, j = (putI d.length).length + i := ⟨j - (putI d.length).length, by omega⟩
  have hget : ∀ (hh : i < (sum4 (crcI d) ++ d).length), (frameI d)[(putI d.length).length + i]'h2 = (sum4 (crcI d) ++ d)[i]'hh := fun hh => by
    have e : (frameI d)[(putI d.length).length + i]? = (sum4 (crcI d) ++ d)[i]? := by
      unfold frameI
      rw [List.getElem?_append_right (Nat.le_add_right _ _)]
      simp
    rw [List.getElem?_eq_getElem h2, List.getElem?_eq_getElem hh] at e
    exact Option.some.inj e
  have hset : (frameI d).set ((putI d.length).length + i) x = putI d.length ++ (sum4 (crcI d) ++ d).set i x := by
    unfold frameI
    rw [List.set_append_right _ _ (by omega)]
    simp
  rw [hset]
  have hsl := sum4_len (crcI d)
  have hi : i < (sum4 (crcI d) ++ d).length := by rw [List.length_append, hsl]; omega
  rw [hget hi] at hne
  by_cases h4 : i < 4
  · rw [List.set_append_left _ _ (by omega)]
    refine unframe_two _ d (by simp [hsl]) hd fun e => hne ?_
    rw [List.getElem_append_left (by omega)]
    have e2 : (sum4 (crcI d))[i]'(by omega) = ((sum4 (crcI d)).set i x)[i]'(by simp [hsl]; omega) := by congr 1
    rw [e2, List.getElem_set_self]
  · rw [List.set_append_right _ _ (by omega), hsl]
    have hj : i - 4 < d.length := by rw [List.length_append, hsl] at hi; omega
    have hg : (sum4 (crcI d) ++ d)[i]'hi = d[i - 4]'hj := by
      rw [List.getElem_append_right (by omega)]
      congr 1
    rw [hg] at hne
    have hl2 : (d.set (i - 4) x).length = d.length := List.length_set
    have hk := unframe_two (sum4 (crcI d)) (d.set (i - 4) x) hsl (by omega)
    rw [hl2] at hk
    refine hk fun e => hne ?_
    have hB2 : isB (d.set (i - 4) x) := fun y hy => by
      rcases List.mem_or_eq_of_mem_set hy with h | h
      · exact hB y h
      · rw [h]; exact hx
    have e3 := sum4_inj (crcI_range hB2) hc e
    have hsplit : d = d.take (i - 4) ++ d[i - 4] :: d.drop (i - 4 + 1) := by
      rw [← List.drop_eq_getElem_cons hj, List.take_append_drop]
    have hset2 : d.set (i - 4) x = d.take (i - 4) ++ x :: d.drop (i - 4 + 1) := by
      rw [List.set_eq_take_append_cons_drop, if_pos hj]
    rw [hset2] at e3
    conv at e3 => rhs; rw [hsplit]
    exact (crc_other (isB_take hB _) (isB_drop hB _) hx (hB _ (List.getElem_mem hj)) e3).symm
theorem take_turn (t : Int) (l : List Va) (h : blockOk t l = true) (j : Nat) (h1 : (putI (t :: colI t l).length).length ≤ j) (h2 : j < (blockI t l).length) (x : Int) (hx : 0 ≤ x ∧ x < 256) (hne : ¬ (blockI t l)[j]'h2 = x) (t' : Int) :
    takeI t' ((blockI t l).set j x) = ([], 0, 11) := by
  have hk := (kind_eq t).1 ((blockOk_eq t l).1 h).1
  have hu := unframe_turn (t :: colI t l) (by have := data_len h; omega) (isB_cons' (by omega) (isB_col t l)) j h1 h2 x hx hne
  unfold takeI blockI
  rw [hu]
  simp
end Go.Ab
