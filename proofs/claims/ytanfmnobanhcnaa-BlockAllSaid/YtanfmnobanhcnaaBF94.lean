/- THE FUNCTIONS' EQUATIONS: block: each, read. -/
import Derived.Test.YtanfmnobanhcnaaBF114
import Derived.Test.YtanfmnobanhcnaaBF53
set_option linter.all false
set_option maxRecDepth 100000
namespace Go.Ab
open Go.Proofs Go.Proofs.YtanfmnobanhcnaaH Go.Proofs.YtanfmnobanhcnaaH.Crc Go.Proofs.YtanfmnobanhcnaaH.Var Go.Proofs.YtanfmnobanhcnaaH.Fr
def b94_0 : C := (.seq (.reg none [⟨(some 11), none, (.bin .lss [] (.t 10) (.t 9))⟩]) (.seq (.cond (.t 11) .skip (.exit 0)) (.seq (.block 1 (.seq (.reg none [⟨(some 12), none, (.ia none 1 false (.t 8) (.t 10))⟩, ⟨(some 13), none, (.ld none (.t 12))⟩, ⟨(some 7), none, (.mv (.t 13))⟩]) (.reg none [⟨(some 14), none, (.mv (.t 5))⟩, ⟨(some 15), none, (.mv (.t 1))⟩, ⟨(some 16), none, (.mv (.t 7))⟩, ⟨(some 17), none, (.call (.t 15) [(.t 16)])⟩, ⟨(some 18), none, (.bsl false 2 1 [(.int .i64 0), (.str [])] [(0, (.t 17))])⟩, ⟨(some 19), none, (.app 2 24 (.t 14) (.t 18))⟩, ⟨(some 5), none, (.mv (.t 19))⟩]))) (.reg none [⟨(some 20), none, (.bin .add [] (.t 10) (.k (.int .i64 1)))⟩, ⟨(some 10), none, (.mv (.t 20))⟩]))))
def c94 : Fn' := ⟨22, [(.tmp 4)], (.seq (.reg none [⟨(some 4), none, (.mv (.k nilS))⟩]) (.seq (.reg none [⟨(some 5), none, .nilrow⟩]) (.seq (.seq (.reg none [⟨(some 8), none, (.mv (.t 0))⟩, ⟨(some 9), none, (.len 1 (.t 8))⟩, ⟨(some 10), none, (.mv (.k (.int .i64 0)))⟩]) (.block 0 (.loop b94_0))) (.seq (.reg none [⟨(some 21), none, (.mv (.t 5))⟩, ⟨(some 4), none, (.mv (.t 21))⟩]) .ret))))⟩
theorem k94 : compF Try.prog 94 = some c94 := by kernel_rfl
def c95 : Fn' := ⟨5, [(.cell 2 (some 2))], (.seq (.reg none [⟨(some 2), none, (.alloc false [(.int .i64 0), (.str [])])⟩]) (.seq (.reg none [⟨(some 3), none, (.mv (.t 0))⟩, ⟨(some 4), none, (.bld [(.int .i64 0), (.str [])] [(1, (1, (.t 3)))])⟩, ⟨none, none, (.st 2 (.t 2) (.t 4))⟩]) .ret))⟩
theorem k95 : compF Try.prog 95 = some c95 := by kernel_rfl
def b97_0 : C := (.seq (.reg none [⟨(some 11), none, (.bin .lss [] (.t 10) (.t 9))⟩]) (.seq (.cond (.t 11) .skip (.exit 0)) (.seq (.block 1 (.seq (.reg none [⟨(some 12), none, (.ia none 1 false (.t 8) (.t 10))⟩, ⟨(some 13), none, (.ld none (.t 12))⟩, ⟨(some 7), none, (.mv (.t 13))⟩]) (.reg none [⟨(some 14), none, (.mv (.t 5))⟩, ⟨(some 15), none, (.mv (.t 1))⟩, ⟨(some 16), none, (.mv (.t 7))⟩, ⟨(some 17), none, (.call (.t 15) [(.t 16)])⟩, ⟨(some 18), none, (.bsl false 2 1 [(.int .i64 0), (.str [])] [(0, (.t 17))])⟩, ⟨(some 19), none, (.app 2 24 (.t 14) (.t 18))⟩, ⟨(some 5), none, (.mv (.t 19))⟩]))) (.reg none [⟨(some 20), none, (.bin .add [] (.t 10) (.k (.int .i64 1)))⟩, ⟨(some 10), none, (.mv (.t 20))⟩]))))
def c97 : Fn' := ⟨22, [(.tmp 4)], (.seq (.reg none [⟨(some 4), none, (.mv (.k nilS))⟩]) (.seq (.reg none [⟨(some 5), none, .nilrow⟩]) (.seq (.seq (.reg none [⟨(some 8), none, (.mv (.t 0))⟩, ⟨(some 9), none, (.len 1 (.t 8))⟩, ⟨(some 10), none, (.mv (.k (.int .i64 0)))⟩]) (.block 0 (.loop b97_0))) (.seq (.reg none [⟨(some 21), none, (.mv (.t 5))⟩, ⟨(some 4), none, (.mv (.t 21))⟩]) .ret))))⟩
theorem k97 : compF Try.prog 97 = some c97 := by kernel_rfl
def c98 : Fn' := ⟨5, [(.cell 2 (some 2))], (.seq (.reg none [⟨(some 2), none, (.alloc false [(.int .i64 0), (.str [])])⟩]) (.seq (.reg none [⟨(some 3), none, (.mv (.t 0))⟩, ⟨(some 4), none, (.bld [(.int .i64 0), (.str [])] [(0, (1, (.t 3)))])⟩, ⟨none, none, (.st 2 (.t 2) (.t 4))⟩]) .ret))⟩
theorem k98 : compF Try.prog 98 = some c98 := by kernel_rfl
def c63 : Fn' := ⟨28, [(.tmp 4), (.tmp 5)], (.seq (.reg none [⟨(some 4), none, (.mv (.k nilS))⟩, ⟨(some 5), none, (.mv (.k (.int .i64 0)))⟩]) (.seq (.seq (.reg none [⟨(some 10), none, (.mv (.t 0))⟩, ⟨(some 11), none, (.bin .eql [] (.t 10) (.k (.int .i64 3)))⟩]) (.cond (.t 11) (.seq (.reg none [⟨(some 13), none, (.mv (.t 1))⟩, ⟨(some 14), none, (.call (.f 93) [(.t 13)])⟩, ⟨(some 12), none, (.mv (.t 14))⟩, ⟨(some 15), none, (.ext (.t 12) 0)⟩, ⟨(some 16), none, (.ext (.t 12) 1)⟩, ⟨(some 6), none, (.mv (.t 15))⟩, ⟨(some 7), none, (.mv (.t 16))⟩]) (.seq (.reg none [⟨(some 17), none, (.mv (.t 6))⟩, ⟨(some 18), none, (.call (.f 94) [(.t 17), (.f 95)])⟩, ⟨(some 19), none, (.mv (.t 7))⟩, ⟨(some 4), none, (.mv (.t 18))⟩, ⟨(some 5), none, (.mv (.t 19))⟩]) .ret)) .skip)) (.seq (.reg none [⟨(some 21), none, (.mv (.t 1))⟩, ⟨(some 22), none, (.call (.f 96) [(.t 21)])⟩, ⟨(some 20), none, (.mv (.t 22))⟩, ⟨(some 23), none, (.ext (.t 20) 0)⟩, ⟨(some 24), none, (.ext (.t 20) 1)⟩, ⟨(some 8), none, (.mv (.t 23))⟩, ⟨(some 9), none, (.mv (.t 24))⟩]) (.seq (.reg none [⟨(some 25), none, (.mv (.t 8))⟩, ⟨(some 26), none, (.call (.f 97) [(.t 25), (.f 98)])⟩, ⟨(some 27), none, (.mv (.t 9))⟩, ⟨(some 4), none, (.mv (.t 26))⟩, ⟨(some 5), none, (.mv (.t 27))⟩]) .ret))))⟩
theorem k63 : compF Try.prog 63 = some c63 := by kernel_rfl
attribute [local simp] op_or op_an op_add op_sub op_mul oq_eql oq_neq oq_lss oq_gtr oq_leq oq_geq
attribute [-simp] intOp bin_shl bin_shr
def rowV (l : List Va) : Obj := .row (if l = [] then 0 else 2) (l.map Va.d) 0
def cvV (t : List Va) : D := if t = [] then .slc true 0 [] else .slc false 2 (t.map Va.d)
def sV (s : Tx) : Va := (0, s)
def nV (n : Int) : Va := (n, [])
set_option maxHeartbeats 2000000 in
theorem K95 (s : Tx) : K0 95 [.str s] [] = some ((sV s).d, []) := by
  refine K_call k95 (oraG_none (by decide) (by decide)) (by simp [c95]) ?_
  simp [c95, sV, Va.d]
set_option maxHeartbeats 2000000 in
theorem K98 (n : Int) : K0 98 [.int .i64 n] [] = some ((nV n).d, []) := by
  refine K_call k98 (oraG_none (by decide) (by decide)) (by simp [c98]) ?_
  simp [c98, nV, Va.d]
def t94 (c : Bool) (l : List Tx) (a i : Nat) (v : D) : List D := [.slc c 1 (l.map D.str), .func 95 [] [], .undef, .undef, nilS, .sl 0 0 a a, .undef, .undef, .slc c 1 (l.map D.str), .int .i64 l.length, .int .i64 i, .undef, .undef, .undef, .undef, .undef, .undef, .undef, .undef, .undef, .undef, .undef]
set_option maxHeartbeats 4000000 in
theorem L94 (c : Bool) (l : List Tx) (hl : l.length ≤ 2 ^ 30) : ∀ (t pre : List Tx) (acc : List Va) (a i : Nat), l = pre ++ t → i = pre.length → a = acc.length → acc.length = i →
    LpB cf0 K0 b94_0 (t94 c l 0 0 .undef) 1 ⟨t94 c l a i .undef, [rowV acc]⟩ = some (.exit 0, ⟨t94 c l (acc ++ t.map sV).length l.length .undef, [rowV (acc ++ t.map sV)]⟩)
  | [], pre, acc, a, i, h, hi, ha, hai => by
    have : l = pre := by simpa using h
    subst this
    have z1 : ltI (i : Int) l.length = false := ltI_f (by omega)
    rw [LpB_eq]
    simp only [t94, rowV]
    conv => lhs; arg 6; simp [b94_0, z1]
    simp [hi, ha]
  | s :: t, pre, acc, a, i, h, hi, ha, hai => by
    have hll : i < l.length := by rw [h, hi]; simp
    have z1 : ltI (i : Int) l.length = true := ltI_t (by omega)
    have hget : l[i]? = some s := by rw [h, hi]; simp
    have hgi : l[i]'hll = s := by rw [List.getElem?_eq_getElem hll] at hget; exact Option.some.inj hget
    have hw := w64 (i + 1) (by omega)
    have hK := K95 s
    have ih := L94 c l hl t (pre ++ [s]) (acc ++ [sV s]) (acc ++ [sV s]).length (i + 1) (by rw [h]; simp) (by simp [hi]) rfl (by simp [hai])
    rw [show acc ++ (s :: t).map sV = acc ++ [sV s] ++ t.map sV by simp]
    have hd : (sV s).d = .agg [.int .i64 (sV s).1, .str (sV s).2] := rfl
    rw [hd] at hK
    have hb1 : (acc.length + 1) * 24 ≤ 70368744177664 := by omega
    generalize List.map sV t = M at *
    generalize sV s = y at *
    rw [LpB_eq]
    simp only [t94, rowV] at ih ⊢
    by_cases hacc : acc = []
    · subst hacc
      subst ha
      conv => lhs; arg 6; simp [b94_0, z1, hll, hgi, hK, hw]
      simp [hd] at ih ⊢
      exact ih
    · conv => lhs; arg 6; simp [b94_0, z1, hll, hgi, hK, hw, hacc, ha, hb1]
      simp [hd, hacc] at ih ⊢
      exact ih
set_option maxHeartbeats 4000000 in
theorem K94 (c : Bool) (s : Nat) (l : List Tx) (hs : s = 1 ∨ l = []) (hl : l.length ≤ 2 ^ 30) : K0 94 [.slc c s (l.map D.str), .func 95 [] []] [] = some (cvV (l.map sV), []) := by
  unfold cvV
  by_cases hn : l = []
  · subst hn
    have z1 : ltI 0 0 = false := rfl
    refine K_call k94 (oraG_none (by decide) (by decide)) (by simp [c94]) ?_
    simp [c94]
    rw [LpB_eq]
    simp [b94_0, z1]
  · obtain rfl := hs.resolve_right hn
    have h := L94 c l hl l [] [] 0 0 rfl rfl rfl rfl
    have he : ¬ l.map sV = [] := by simpa using hn
    refine K_call k94 (oraG_none (by decide) (by decide)) (by simp [c94]) ?_
    generalize List.map sV l = E at *
    simp only [t94, rowV] at h
    simp [c94]
    simp [he] at h
    rw [h]
    simp [he, List.take_of_length_le]
def t97 (c : Bool) (l : List Int) (a i : Nat) (v : D) : List D := [.slc c 1 (l.map (.int .i64)), .func 98 [] [], .undef, .undef, nilS, .sl 0 0 a a, .undef, .undef, .slc c 1 (l.map (.int .i64)), .int .i64 l.length, .int .i64 i, .undef, .undef, .undef, .undef, .undef, .undef, .undef, .undef, .undef, .undef, .undef]
set_option maxHeartbeats 4000000 in
theorem L97 (c : Bool) (l : List Int) (hl : l.length ≤ 2 ^ 30) : ∀ (t pre : List Int) (acc : List Va) (a i : Nat), l = pre ++ t → i = pre.length → a = acc.length → acc.length = i →
    LpB cf0 K0 b97_0 (t97 c l 0 0 .undef) 1 ⟨t97 c l a i .undef, [rowV acc]⟩ = some (.exit 0, ⟨t97 c l (acc ++ t.map nV).length l.length .undef, [rowV (acc ++ t.map nV)]⟩)
  | [], pre, acc, a, i, h, hi, ha, hai => by
    have : l = pre := by simpa using h
    subst this
    have z1 : ltI (i : Int) l.length = false := ltI_f (by omega)
    rw [LpB_eq]
    simp only [t97, rowV]
    conv => lhs; arg 6; simp [b97_0, z1]
    simp [hi, ha]
  | s :: t, pre, acc, a, i, h, hi, ha, hai => by
    have hll : i < l.length := by rw [h, hi]; simp
    have z1 : ltI (i : Int) l.length = true := ltI_t (by omega)
    have hget : l[i]? = some s := by rw [h, hi]; simp
    have hgi : l[i]'hll = s := by rw [List.getElem?_eq_getElem hll] at hget; exact Option.some.inj hget
    have hw := w64 (i + 1) (by omega)
    have hK := K98 s
    have ih := L97 c l hl t (pre ++ [s]) (acc ++ [nV s]) (acc ++ [nV s]).length (i + 1) (by rw [h]; simp) (by simp [hi]) rfl (by simp [hai])
    rw [show acc ++ (s :: t).map nV = acc ++ [nV s] ++ t.map nV by simp]
    have hd : (nV s).d = .agg [.int .i64 (nV s).1, .str (nV s).2] := rfl
    rw [hd] at hK
    have hb1 : (acc.length + 1) * 24 ≤ 70368744177664 := by omega
    generalize List.map nV t = M at *
    generalize nV s = y at *
    rw [LpB_eq]
    simp only [t97, rowV] at ih ⊢
    by_cases hacc : acc = []
    · subst hacc
      subst ha
      conv => lhs; arg 6; simp [b97_0, z1, hll, hgi, hK, hw]
      simp [hd] at ih ⊢
      exact ih
    · conv => lhs; arg 6; simp [b97_0, z1, hll, hgi, hK, hw, hacc, ha, hb1]
      simp [hd, hacc] at ih ⊢
      exact ih
set_option maxHeartbeats 4000000 in
theorem K97 (c : Bool) (s : Nat) (l : List Int) (hs : s = 1 ∨ l = []) (hl : l.length ≤ 2 ^ 30) : K0 97 [.slc c s (l.map (.int .i64)), .func 98 [] []] [] = some (cvV (l.map nV), []) := by
  unfold cvV
  by_cases hn : l = []
  · subst hn
    have z1 : ltI 0 0 = false := rfl
    refine K_call k97 (oraG_none (by decide) (by decide)) (by simp [c97]) ?_
    simp [c97]
    rw [LpB_eq]
    simp [b97_0, z1]
  · obtain rfl := hs.resolve_right hn
    have h := L97 c l hl l [] [] 0 0 rfl rfl rfl rfl
    have he : ¬ l.map nV = [] := by simpa using hn
    refine K_call k97 (oraG_none (by decide) (by decide)) (by simp [c97]) ?_
    generalize List.map nV l = E at *
    simp only [t97, rowV] at h
    simp [c97]
    simp [he] at h
    rw [h]
    simp [he, List.take_of_length_le]
/-- What a block's bytes say. -/
def readO (t : Int) (b : List Int) : Option (List Va) := if t = 3 then (textsT b).map (·.map sV) else (intsT b).map (·.map nV)
def V63 : Option (List Va) → D
  | none => .tuple [cvV [], .int .i64 10]
  | some l => .tuple [cvV l, .int .i64 0]
theorem okT_some {l : List Int} {s : List Tx × List Int × Bool} {t : List Tx} (h : okT l s = some t) : s.1 = t ∧ textsI t = l := by
  unfold okT at h
  split at h
  · cases h
  · split at h
    · rename_i h1
      obtain rfl := Option.some.inj h
      exact ⟨rfl, h1⟩
    · cases h
theorem textsT_some {l : List Int} {t : List Tx} (h : textsT l = some t) : t.length ≤ 2000 ∧ (∀ s ∈ t, s.length ≤ 60) ∧ textsI t = l := by
  have hq := numT_range 2001 l false
  unfold textsT at h
  split at h
  · cases h
  · rename_i h1
    obtain ⟨h2, h3⟩ := okT_some h
    have h4 := hq.2.resolve_right fun e => h1 (.inl e)
    rw [← h2]
    refine ⟨Nat.le_trans (rawT_len _ _ _) (by omega), raw60 _ _ _, ?_⟩
    rw [h2]; exact h3
theorem intsT_some {l t : List Int} (h : intsT l = some t) : t.length ≤ 2000 ∧ intsI t = l := by
  have hr := varI_range l
  unfold intsT at h
  cases h1 : rawI l with
  | none => rw [h1] at h; cases h
  | some u =>
    rw [h1] at h
    simp only at h
    split at h
    · rename_i h2
      obtain rfl := Option.some.inj h
      exact ⟨raw_len l u h1 hr.1, h2⟩
    · cases h
set_option maxHeartbeats 2000000 in
/-- read. -/
theorem K63 (t : Int) (c : Bool) (l : List Int) (hl : l.length ≤ 2 ^ 40) (hB : isB l) : K0 63 [.int .i64 t, .slc c 1 (l.map (.int .u8))] [] = some (V63 (readO t l), []) := by
  refine K_call k63 (oraG_none (by decide) (by decide)) (by simp [c63]) ?_
  unfold readO
  by_cases ht : t = 3
  · have z1 : eqI t 3 = true := eqI_t ht
    rw [if_pos ht]
    have h := K93 c l hl hB
    cases ho : textsT l with
    | none =>
      rw [ho] at h
      simp only [V93] at h
      have h2 := K94 true 0 [] (.inr rfl) (by simp)
      simp [cvV] at h2
      simp [c63, z1, h, V63, h2, cvV]
    | some s =>
      rw [ho] at h
      simp only [V93] at h
      obtain ⟨cc, ss, hss, hcv⟩ := cvT_slc s
      rw [hcv] at h
      have h2 := K94 cc ss s hss (by have := (textsT_some ho).1; omega)
      simp only [Option.map_some]
      generalize s.map sV = v at *
      obtain ⟨d, hd⟩ : ∃ d, cvV v = d := ⟨_, rfl⟩
      rw [hd] at h2
      unfold cvV at hd
      by_cases hv : v = []
      · subst hv; simp at hd; subst hd; simp [c63, z1, h, V63, h2, cvV]
      · rw [if_neg hv] at hd; subst hd; simp [c63, z1, h, V63, h2, cvV, hv]
  · have z1 : eqI t 3 = false := eqI_f ht
    rw [if_neg ht]
    have h := K96 c l hl hB
    cases ho : intsT l with
    | none =>
      rw [ho] at h
      simp only [V96] at h
      have h2 := K97 true 0 [] (.inr rfl) (by simp)
      simp [cvV] at h2
      simp [c63, z1, h, V63, h2, cvV]
    | some s =>
      rw [ho] at h
      simp only [V96] at h
      obtain ⟨cc, ss, hss, hcv⟩ := cvI_slc s
      rw [hcv] at h
      have h2 := K97 cc ss s hss (by have := (intsT_some ho).1; omega)
      simp only [Option.map_some]
      generalize s.map nV = v at *
      obtain ⟨d, hd⟩ : ∃ d, cvV v = d := ⟨_, rfl⟩
      rw [hd] at h2
      unfold cvV at hd
      by_cases hv : v = []
      · subst hv; simp at hd; subst hd; simp [c63, z1, h, V63, h2, cvV]
      · rw [if_neg hv] at hd; subst hd; simp [c63, z1, h, V63, h2, cvV, hv]
end Go.Ab
/- THE FUNCTIONS' EQUATIONS: block.Take. -/
set_option linter.all false
set_option maxRecDepth 100000
namespace Go.Ab
open Go.Proofs Go.Proofs.YtanfmnobanhcnaaH Go.Proofs.YtanfmnobanhcnaaH.Crc Go.Proofs.YtanfmnobanhcnaaH.Var Go.Proofs.YtanfmnobanhcnaaH.Fr
def c28 : Fn' := ⟨50, [(.tmp 4), (.tmp 5), (.tmp 6)], (.seq (.reg none [⟨(some 4), none, (.mv (.k nilS))⟩, ⟨(some 5), none, (.mv (.k (.int .i64 0)))⟩, ⟨(some 6), none, (.mv (.k (.int .i64 0)))⟩]) (.seq (.reg none [⟨(some 12), none, (.mv (.t 1))⟩, ⟨(some 13), none, (.call (.f 41) [(.t 12)])⟩, ⟨(some 11), none, (.mv (.t 13))⟩, ⟨(some 14), none, (.ext (.t 11) 0)⟩, ⟨(some 15), none, (.ext (.t 11) 1)⟩, ⟨(some 16), none, (.ext (.t 11) 2)⟩, ⟨(some 7), none, (.mv (.t 14))⟩, ⟨(some 8), none, (.mv (.t 15))⟩, ⟨(some 9), none, (.mv (.t 16))⟩]) (.seq (.block 0 (.seq (.reg none [⟨(some 18), none, (.mv (.t 9))⟩, ⟨(some 19), none, (.bin .neq [] (.t 18) (.k (.int .i64 0)))⟩, ⟨(some 17), none, (.mv (.t 19))⟩]) (.cond (.t 17) (.seq (.reg none [⟨(some 20), none, (.mv (.t 9))⟩, ⟨(some 4), none, (.mv (.k nilS))⟩, ⟨(some 5), none, (.mv (.k (.int .i64 0)))⟩, ⟨(some 6), none, (.mv (.t 20))⟩]) .ret) (.seq (.reg none [⟨(some 22), none, (.mv (.t 7))⟩, ⟨(some 23), none, (.len 1 (.t 22))⟩, ⟨(some 24), none, (.bin .eql [] (.t 23) (.k (.int .i64 0)))⟩, ⟨(some 25), none, (.mv (.t 24))⟩, ⟨(some 26), (some ((some 25), false)), (.mv (.t 0))⟩, ⟨(some 27), (some ((some 25), false)), (.call (.f 52) [(.t 26)])⟩, ⟨(some 28), (some ((some 25), false)), (.un .not (.t 27))⟩, ⟨(some 29), none, (.pick (.t 25) (.k (.bool true)) (.t 28))⟩, ⟨(some 30), none, (.mv (.t 29))⟩, ⟨(some 31), (some ((some 30), false)), (.mv (.t 7))⟩, ⟨(some 32), (some ((some 30), false)), (.ia none 1 false (.t 31) (.k (.int .i64 0)))⟩, ⟨(some 33), (some ((some 30), false)), (.ld none (.t 32))⟩, ⟨(some 34), (some ((some 30), false)), (.cvt (.int .i64) (.t 33))⟩, ⟨(some 35), (some ((some 30), false)), (.mv (.t 0))⟩, ⟨(some 36), (some ((some 30), false)), (.bin .neq [] (.t 34) (.t 35))⟩, ⟨(some 37), none, (.pick (.t 30) (.k (.bool true)) (.t 36))⟩, ⟨(some 21), none, (.mv (.t 37))⟩]) (.cond (.t 21) (.seq (.reg none [⟨(some 4), none, (.mv (.k nilS))⟩, ⟨(some 5), none, (.mv (.k (.int .i64 0)))⟩, ⟨(some 6), none, (.mv (.k (.int .i64 10)))⟩]) .ret) .skip))))) (.seq (.reg none [⟨(some 39), none, (.mv (.t 0))⟩, ⟨(some 40), none, (.mv (.t 7))⟩, ⟨(some 41), none, (.sub 1 1 (.t 40) (some (.k (.int .i64 1))) none none)⟩, ⟨(some 42), none, (.call (.f 63) [(.t 39), (.t 41)])⟩, ⟨(some 38), none, (.mv (.t 42))⟩, ⟨(some 43), none, (.ext (.t 38) 0)⟩, ⟨(some 44), none, (.ext (.t 38) 1)⟩, ⟨(some 10), none, (.mv (.t 43))⟩, ⟨(some 9), none, (.mv (.t 44))⟩]) (.seq (.seq (.reg none [⟨(some 45), none, (.mv (.t 9))⟩, ⟨(some 46), none, (.bin .neq [] (.t 45) (.k (.int .i64 0)))⟩]) (.cond (.t 46) (.seq (.reg none [⟨(some 47), none, (.mv (.t 9))⟩, ⟨(some 4), none, (.mv (.k nilS))⟩, ⟨(some 5), none, (.mv (.k (.int .i64 0)))⟩, ⟨(some 6), none, (.mv (.t 47))⟩]) .ret) .skip)) (.seq (.reg none [⟨(some 48), none, (.mv (.t 10))⟩, ⟨(some 49), none, (.mv (.t 8))⟩, ⟨(some 4), none, (.mv (.t 48))⟩, ⟨(some 5), none, (.mv (.t 49))⟩, ⟨(some 6), none, (.mv (.k (.int .i64 0)))⟩]) .ret))))))⟩
theorem k28 : compF Try.prog 28 = some c28 := by kernel_rfl
attribute [local simp] op_or op_an op_add op_sub op_mul oq_eql oq_neq oq_lss oq_gtr oq_leq oq_geq
attribute [-simp] intOp bin_shl bin_shr
/-- What block.Take answers: the values, how many bytes, and why not. -/
def takeI (t : Int) (l : List Int) : List Va × Int × Int :=
  if ¬ (unframeI l).2.2 = 0 then ([], 0, (unframeI l).2.2)
  else if (unframeI l).1 = [] ∨ kindI t = false ∨ ¬ (unframeI l).1.headD 0 = t then ([], 0, 10)
  else match readO t (unframeI l).1.tail with
    | none => ([], 0, 10)
    | some v => (v, (unframeI l).2.1, 0)
theorem uI_len (l : List Int) : (unframeI l).1.length ≤ l.length := by
  unfold unframeI
  split
  · simp
  · split
    · simp only [List.length_drop, List.length_take]; omega
    · simp
theorem uI_B {l : List Int} (h : isB l) : isB (unframeI l).1 := by
  unfold unframeI
  split
  · exact isB_nil
  · split
    · exact fun x hx => h x (List.mem_of_mem_take (List.mem_of_mem_drop hx))
    · exact isB_nil
theorem cvV_nil : cvV [] = nilS := rfl
set_option maxHeartbeats 4000000 in
/-- block.Take. -/
theorem K28 (t : Int) (c : Bool) (l : List Int) (hl : l.length ≤ 2 ^ 39) (hB : isB l) : K0 28 [.int .i64 t, .slc c 1 (l.map (.int .u8))] [] = some (.tuple [cvV (takeI t l).1, .int .i64 (takeI t l).2.1, .int .i64 (takeI t l).2.2], []) := by
  obtain ⟨d, hK, hd⟩ := K41 c l (by omega) hB
  have h52 := K52 t
  have hul := uI_len l
  have huB := uI_B hB
  refine K_call k28 (oraG_none (by decide) (by decide)) (by simp [c28]) ?_
  unfold takeI
  generalize unframeI l = u at *
  obtain ⟨data, n, e⟩ := u
  simp only at hK hd hul huB ⊢
  by_cases he : e = 0
  · subst he
    obtain ⟨c', rfl⟩ : ∃ c', d = .slc c' 1 (data.map (.int .u8)) := by
      rcases hd with ⟨_, h⟩ | ⟨h, _⟩
      · exact h
      · exact absurd rfl h
    rw [if_neg (fun h => h rfl)]
    have z0 : neI 0 0 = false := rfl
    cases data with
    | nil =>
      rw [if_pos (.inl rfl), cvV_nil]
      have z1 : eqI 0 0 = true := rfl
      simp at hK
      simp [c28, hK, z0, z1]
    | cons w r =>
      have z1 : eqI ((r.length : Int) + 1) 0 = false := eqI_f (by omega)
      simp at hK
      cases hk : kindI t with
      | false =>
        rw [if_pos (.inr (.inl rfl)), cvV_nil]
        rw [hk] at h52
        simp [c28, hK, h52, z0, z1]
      | true =>
        rw [hk] at h52
        have hw := huB w List.mem_cons_self
        have hww : IntKind.i64.wrap w = w := w64 _ (by omega)
        by_cases hwt : w = t
        · have z2 : neI w t = false := by simp [neI, hwt]
          rw [if_neg (by simp [hwt])]
          simp only [List.tail_cons]
          have h1r : 1 ≤ (r.length : Int) + 1 := by omega
          have h63 := fun c => K63 t c r (by simp at hul; omega) fun x hx => huB x (List.mem_cons_of_mem _ hx)
          have z3 : neI 10 0 = true := rfl
          cases ho : readO t r with
          | none =>
            simp only [ho, V63, cvV_nil] at h63
            simp only [cvV_nil]
            simp [c28, hK, h52, z0, z1, hww, z2, h1r, h63, z3]
          | some v =>
            simp only [ho, V63] at h63
            simp only
            obtain ⟨x, hx⟩ : ∃ x, cvV v = x := ⟨_, rfl⟩
            simp only [hx] at h63 ⊢
            unfold cvV at hx
            by_cases hv : v = []
            · subst hv
              simp at hx
              subst hx
              simp [c28, hK, h52, z0, z1, hww, z2, h1r, h63]
            · rw [if_neg hv] at hx
              subst hx
              simp [c28, hK, h52, z0, z1, hww, z2, h1r, h63]
        · have z2 : neI w t = true := by simp [neI, hwt]
          rw [if_pos (.inr (.inr hwt)), cvV_nil]
          simp [c28, hK, h52, z0, z1, hww, z2]
  · have z0 : neI e 0 = true := by simp [neI, he]
    rcases hd with ⟨h, _⟩ | ⟨_, rfl⟩
    · exact absurd h he
    rw [if_pos he, cvV_nil]
    simp [c28, hK, z0]
end Go.Ab
