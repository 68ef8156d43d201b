/- THE FUNCTIONS' EQUATIONS: thresherref01: Zig, Zag, Get64; thresherref05: Fixed, Delta. -/
import Derived.Test.YtanfmnobanhcnaaBPBlk
import Derived.Test.YtanfmnobanhcnaaBF75
import Derived.Test.YtanfmnobanhcnaaBCel
import Derived.Test.YtanfmnobanhcnaaBF79
set_option linter.all false
set_option maxRecDepth 100000
namespace Go.Ab
open Go.Proofs Go.Proofs.YtanfmnobanhcnaaH Go.Proofs.YtanfmnobanhcnaaH.Crc Go.Proofs.YtanfmnobanhcnaaH.Var Go.Proofs.YtanfmnobanhcnaaH.Fr
def c113 : Fn' := ⟨14, [(.tmp 2)], (.seq (.reg none [⟨(some 2), none, (.mv (.k (.int .u64 0)))⟩]) (.seq (.seq (.reg none [⟨(some 3), none, (.mv (.t 0))⟩, ⟨(some 4), none, (.bin .lss [] (.t 3) (.k (.int .i64 0)))⟩]) (.cond (.t 4) (.seq (.reg none [⟨(some 5), none, (.mv (.t 0))⟩, ⟨(some 6), none, (.bin .add [] (.t 5) (.k (.int .i64 1)))⟩, ⟨(some 7), none, (.un .neg (.t 6))⟩, ⟨(some 8), none, (.cvt (.int .u64) (.t 7))⟩, ⟨(some 9), none, (.bin .mul [] (.k (.int .u64 2)) (.t 8))⟩, ⟨(some 10), none, (.bin .add [] (.t 9) (.k (.int .u64 1)))⟩, ⟨(some 2), none, (.mv (.t 10))⟩]) .ret) .skip)) (.seq (.reg none [⟨(some 11), none, (.mv (.t 0))⟩, ⟨(some 12), none, (.cvt (.int .u64) (.t 11))⟩, ⟨(some 13), none, (.bin .mul [] (.k (.int .u64 2)) (.t 12))⟩, ⟨(some 2), none, (.mv (.t 13))⟩]) .ret)))⟩
theorem k113 : compF Try.prog 113 = some c113 := by kernel_rfl
def c102 : Fn' := ⟨14, [(.tmp 2)], (.seq (.reg none [⟨(some 2), none, (.mv (.k (.int .i64 0)))⟩]) (.seq (.seq (.reg none [⟨(some 3), none, (.mv (.t 0))⟩, ⟨(some 4), none, (.bin .rem [] (.t 3) (.k (.int .u64 2)))⟩, ⟨(some 5), none, (.bin .eql [] (.t 4) (.k (.int .u64 1)))⟩]) (.cond (.t 5) (.seq (.reg none [⟨(some 6), none, (.mv (.t 0))⟩, ⟨(some 7), none, (.bin .quo [] (.t 6) (.k (.int .u64 2)))⟩, ⟨(some 8), none, (.cvt (.int .i64) (.t 7))⟩, ⟨(some 9), none, (.un .neg (.t 8))⟩, ⟨(some 10), none, (.bin .sub [] (.t 9) (.k (.int .i64 1)))⟩, ⟨(some 2), none, (.mv (.t 10))⟩]) .ret) .skip)) (.seq (.reg none [⟨(some 11), none, (.mv (.t 0))⟩, ⟨(some 12), none, (.bin .quo [] (.t 11) (.k (.int .u64 2)))⟩, ⟨(some 13), none, (.cvt (.int .i64) (.t 12))⟩, ⟨(some 2), none, (.mv (.t 13))⟩]) .ret)))⟩
theorem k102 : compF Try.prog 102 = some c102 := by kernel_rfl
def b101_0 : C := (.seq (.seq (.reg none [⟨(some 9), none, (.mv (.t 5))⟩, ⟨(some 10), none, (.bin .geq [] (.t 9) (.k (.int .i64 0)))⟩]) (.cond (.t 10) .skip (.exit 0))) (.seq (.block 1 (.reg none [⟨(some 13), none, (.mv (.t 4))⟩, ⟨(some 14), none, (.bin .mul [] (.t 13) (.k (.int .u64 256)))⟩, ⟨(some 15), none, (.mv (.t 0))⟩, ⟨(some 16), none, (.mv (.t 5))⟩, ⟨(some 17), none, (.ia none 1 false (.t 15) (.t 16))⟩, ⟨(some 18), none, (.ld none (.t 17))⟩, ⟨(some 19), none, (.cvt (.int .u64) (.t 18))⟩, ⟨(some 20), none, (.bin .add [] (.t 14) (.t 19))⟩, ⟨(some 4), none, (.mv (.t 20))⟩])) (.reg none [⟨(some 11), none, (.mv (.t 5))⟩, ⟨(some 12), none, (.bin .sub [] (.t 11) (.k (.int .i64 1)))⟩, ⟨(some 5), none, (.mv (.t 12))⟩])))
def c101 : Fn' := ⟨22, [(.tmp 2), (.tmp 3)], (.seq (.reg none [⟨(some 2), none, (.mv (.k (.int .u64 0)))⟩, ⟨(some 3), none, (.mv (.k (.bool false)))⟩]) (.seq (.seq (.reg none [⟨(some 6), none, (.mv (.t 0))⟩, ⟨(some 7), none, (.len 1 (.t 6))⟩, ⟨(some 8), none, (.bin .lss [] (.t 7) (.k (.int .i64 8)))⟩]) (.cond (.t 8) (.seq (.reg none [⟨(some 2), none, (.mv (.k (.int .u64 0)))⟩, ⟨(some 3), none, (.mv (.k (.bool false)))⟩]) .ret) .skip)) (.seq (.reg none [⟨(some 4), none, (.mv (.k (.int .u64 0)))⟩]) (.seq (.seq (.reg none [⟨(some 5), none, (.mv (.k (.int .i64 7)))⟩]) (.block 0 (.loop b101_0))) (.seq (.reg none [⟨(some 21), none, (.mv (.t 4))⟩, ⟨(some 2), none, (.mv (.t 21))⟩, ⟨(some 3), none, (.mv (.k (.bool true)))⟩]) .ret)))))⟩
theorem k101 : compF Try.prog 101 = some c101 := by kernel_rfl
def b92_0 : C := (.seq (.seq (.reg none [⟨(some 6), none, (.mv (.t 4))⟩, ⟨(some 7), none, (.mv (.t 0))⟩, ⟨(some 8), none, (.len 1 (.t 7))⟩, ⟨(some 9), none, (.bin .lss [] (.t 6) (.t 8))⟩]) (.cond (.t 9) .skip (.exit 0))) (.seq (.block 1 (.reg none [⟨(some 12), none, (.mv (.t 3))⟩, ⟨(some 13), none, (.mv (.t 0))⟩, ⟨(some 14), none, (.mv (.t 4))⟩, ⟨(some 15), none, (.ia none 1 false (.t 13) (.t 14))⟩, ⟨(some 16), none, (.ld none (.t 15))⟩, ⟨(some 17), none, (.cvt (.int .u64) (.t 16))⟩, ⟨(some 18), none, (.call (.f 82) [(.t 17)])⟩, ⟨(some 19), none, (.app 1 1 (.t 12) (.t 18))⟩, ⟨(some 3), none, (.mv (.t 19))⟩])) (.reg none [⟨(some 10), none, (.mv (.t 4))⟩, ⟨(some 11), none, (.bin .add [] (.t 10) (.k (.int .i64 1)))⟩, ⟨(some 4), none, (.mv (.t 11))⟩])))
def c92 : Fn' := ⟨21, [(.tmp 2)], (.seq (.reg none [⟨(some 2), none, (.mv (.k nilS))⟩]) (.seq (.reg none [⟨(some 5), none, (.bsl true 1 0 [(.int .u8 0)] [])⟩, ⟨(some 3), none, (.mv (.t 5))⟩]) (.seq (.seq (.reg none [⟨(some 4), none, (.mv (.k (.int .i64 0)))⟩]) (.block 0 (.loop b92_0))) (.seq (.reg none [⟨(some 20), none, (.mv (.t 3))⟩, ⟨(some 2), none, (.mv (.t 20))⟩]) .ret))))⟩
theorem k92 : compF Try.prog 92 = some c92 := by kernel_rfl
def b91_0 : C := (.seq (.seq (.reg none [⟨(some 7), none, (.mv (.t 5))⟩, ⟨(some 8), none, (.mv (.t 0))⟩, ⟨(some 9), none, (.len 1 (.t 8))⟩, ⟨(some 10), none, (.bin .lss [] (.t 7) (.t 9))⟩]) (.cond (.t 10) .skip (.exit 0))) (.seq (.block 1 (.seq (.reg none [⟨(some 13), none, (.mv (.t 3))⟩, ⟨(some 14), none, (.mv (.t 0))⟩, ⟨(some 15), none, (.mv (.t 5))⟩, ⟨(some 16), none, (.ia none 1 false (.t 14) (.t 15))⟩, ⟨(some 17), none, (.ld none (.t 16))⟩, ⟨(some 18), none, (.mv (.t 4))⟩, ⟨(some 19), none, (.bin .sub [] (.t 17) (.t 18))⟩, ⟨(some 20), none, (.call (.f 113) [(.t 19)])⟩, ⟨(some 21), none, (.call (.f 39) [(.t 20)])⟩, ⟨(some 22), none, (.app 1 1 (.t 13) (.t 21))⟩, ⟨(some 3), none, (.mv (.t 22))⟩]) (.reg none [⟨(some 23), none, (.mv (.t 0))⟩, ⟨(some 24), none, (.mv (.t 5))⟩, ⟨(some 25), none, (.ia none 1 false (.t 23) (.t 24))⟩, ⟨(some 26), none, (.ld none (.t 25))⟩, ⟨(some 4), none, (.mv (.t 26))⟩]))) (.reg none [⟨(some 11), none, (.mv (.t 5))⟩, ⟨(some 12), none, (.bin .add [] (.t 11) (.k (.int .i64 1)))⟩, ⟨(some 5), none, (.mv (.t 12))⟩])))
def c91 : Fn' := ⟨28, [(.tmp 2)], (.seq (.reg none [⟨(some 2), none, (.mv (.k nilS))⟩]) (.seq (.reg none [⟨(some 6), none, (.bsl true 1 0 [(.int .u8 0)] [])⟩, ⟨(some 3), none, (.mv (.t 6))⟩]) (.seq (.reg none [⟨(some 4), none, (.mv (.k (.int .i64 0)))⟩]) (.seq (.seq (.reg none [⟨(some 5), none, (.mv (.k (.int .i64 0)))⟩]) (.block 0 (.loop b91_0))) (.seq (.reg none [⟨(some 27), none, (.mv (.t 3))⟩, ⟨(some 2), none, (.mv (.t 27))⟩]) .ret)))))⟩
theorem k91 : compF Try.prog 91 = some c91 := by kernel_rfl
attribute [local simp] op_or op_an op_add op_sub op_mul oq_eql oq_neq oq_lss oq_gtr oq_leq oq_geq op_rm op_qu
attribute [-simp] intOp bin_shl bin_shr
set_option maxHeartbeats 2000000 in
/-- Zig. -/
theorem K113 (n : Int) (h : i64R n) : K0 113 [.int .i64 n] [] = some (.int .u64 (zigI n), []) := by
  refine K_call k113 (oraG_none (by decide) (by decide)) (by simp [c113]) ?_
  unfold i64R at h
  by_cases hn : n < 0
  · have z1 : ltI n 0 = true := ltI_t hn
    have e1 : IntKind.i64.wrap (n + 1) = n + 1 := by rw [IntKind.wrap_i64]; omega
    have e2 : IntKind.i64.wrap (0 - (n + 1)) = -n - 1 := by rw [IntKind.wrap_i64]; omega
    have e2' : IntKind.i64.wrap (-(n + 1)) = -n - 1 := by rw [IntKind.wrap_i64]; omega
    have e3 : IntKind.u64.wrap (-n - 1) = -n - 1 := by rw [IntKind.wrap_u64]; omega
    have e4 : IntKind.u64.wrap (2 * (-n - 1)) = 2 * (-n - 1) := by rw [IntKind.wrap_u64]; omega
    have e5 : IntKind.u64.wrap (2 * (-n - 1) + 1) = zigI n := by unfold zigI; rw [IntKind.wrap_u64, if_neg (by omega)]; omega
    simp only [c113]
    simp [z1, e1, e2, e2', e3, e4, e5]
  · have z1 : ltI n 0 = false := ltI_f (by omega)
    have e3 : IntKind.u64.wrap n = n := by rw [IntKind.wrap_u64]; omega
    have e4 : IntKind.u64.wrap (2 * n) = zigI n := by unfold zigI; rw [IntKind.wrap_u64, if_pos (by omega)]; omega
    simp [c113, z1, e3, e4]
set_option maxHeartbeats 2000000 in
/-- Zag. -/
theorem K102 (u : Int) (h : u64R u) : K0 102 [.int .u64 u] [] = some (.int .i64 (zagI u), []) := by
  refine K_call k102 (oraG_none (by decide) (by decide)) (by simp [c102]) ?_
  unfold u64R at h
  have hm : u.tmod 2 = u % 2 := Int.tmod_eq_emod_of_nonneg h.1
  have hd : u.tdiv 2 = u / 2 := Int.tdiv_eq_ediv_of_nonneg h.1
  have e1 : IntKind.u64.wrap (u / 2) = u / 2 := by rw [IntKind.wrap_u64]; omega
  have e2 : IntKind.i64.wrap (u / 2) = u / 2 := by rw [IntKind.wrap_i64]; omega
  by_cases hu : u % 2 = 1
  · have z1 : eqI (u % 2) 1 = true := eqI_t hu
    have e3 : IntKind.i64.wrap (0 - u / 2) = -(u / 2) := by rw [IntKind.wrap_i64]; omega
    have e3' : IntKind.i64.wrap (-(u / 2)) = -(u / 2) := by rw [IntKind.wrap_i64]; omega
    have e4 : IntKind.i64.wrap (-(u / 2) - 1) = zagI u := by unfold zagI; rw [IntKind.wrap_i64, if_neg (by omega)]; omega
    simp [c102, hm, hd, z1, e1, e2, e3, e3', e4]
  · have z1 : eqI (u % 2) 1 = false := eqI_f hu
    have e4 : u / 2 = zagI u := by unfold zagI; rw [if_pos (by omega)]
    simp [c102, hm, hd, z1, e1, e2]
    exact e4
def t101 (c : Bool) (l : List Int) (x i : Int) : List D := [.slc c 1 (l.map (.int .u8)), .undef, .int .u64 0, .bool false, .int .u64 x, .int .i64 i, .slc c 1 (l.map (.int .u8)), .int .i64 l.length, .bool false, .undef, .undef, .undef, .undef, .undef, .undef, .undef, .undef, .undef, .undef, .undef, .undef, .undef]
set_option maxHeartbeats 4000000 in
theorem L101 (c : Bool) (l : List Int) (hl : 8 ≤ l.length) (hll : l.length ≤ 2 ^ 47) (hB : isB l) : ∀ (j : Nat) (hj : j ≤ 8) (x i : Int), x = (leN ((l.take 8).drop j) : Nat) → i = (j : Int) - 1 →
    LpB cf0 K0 b101_0 (t101 c l 0 7) 0 ⟨t101 c l x i, []⟩ = some (.exit 0, ⟨t101 c l (leN (l.take 8) : Nat) (-1), []⟩)
  | 0, hj, x, i, hx, hi => by
    have z1 : leI 0 i = false := leI_f (by omega)
    rw [LpB_eq]
    simp only [t101]
    conv => lhs; arg 6; simp [b101_0, z1]
    simp [hx, hi]
  | j + 1, hj, x, i, hx, hi => by
    have z1 : leI 0 i = true := leI_t (by omega)
    obtain rfl : i = (j : Int) := by omega
    have hjl : j < l.length := by omega
    obtain ⟨b, hb⟩ : ∃ b, l[j]'hjl = b := ⟨_, rfl⟩
    have hbB := hB b (by rw [← hb]; exact List.getElem_mem hjl)
    have hjt : j < (l.take 8).length := by simp; omega
    have hd : (l.take 8).drop j = b :: (l.take 8).drop (j + 1) := by
      rw [List.drop_eq_getElem_cons hjt, List.getElem_take, hb]
    have hlt := leN_lt ((l.take 8).drop (j + 1)) (isB_drop (isB_take hB 8) _)
    have hlen : ((l.take 8).drop (j + 1)).length ≤ 7 := by simp; omega
    have hpow : 2 ^ (8 * ((l.take 8).drop (j + 1)).length) ≤ 2 ^ 56 := Nat.pow_le_pow_right (by omega) (by omega)
    have ih := L101 c l hl hll hB j (by omega) (leN ((l.take 8).drop j) : Nat) ((j : Int) - 1) rfl rfl
    have hv : (leN ((l.take 8).drop j) : Int) = x * 256 + b := by rw [hd, hx]; simp only [leN]; omega
    rw [hv] at ih
    have hx2 : 0 ≤ x ∧ x < 72057594037927936 := by
      rw [hx]
      have : (2 : Nat) ^ 56 = 72057594037927936 := by decide
      omega
    have e1 : IntKind.u64.wrap (x * 256) = x * 256 := by rw [IntKind.wrap_u64]; omega
    have e2 : IntKind.u64.wrap b = b := by rw [IntKind.wrap_u64]; omega
    have e3 : IntKind.u64.wrap (x * 256 + b) = x * 256 + b := by rw [IntKind.wrap_u64]; omega
    have e4 : IntKind.i64.wrap ((j : Int) - 1) = (j : Int) - 1 := by rw [IntKind.wrap_i64]; omega
    clear hv hd hlt hpow hx hlen
    rw [LpB_eq]
    simp only [t101] at ih ⊢
    conv => lhs; arg 6; simp [b101_0, z1, hjl, hb, e1, e2, e3, e4]
    simp at ih ⊢
    exact ih
set_option maxHeartbeats 4000000 in
/-- Get64. -/
theorem K101 (c : Bool) (l : List Int) (hl : l.length ≤ 2 ^ 47) (hB : isB l) : K0 101 [.slc c 1 (l.map (.int .u8))] [] = some (.tuple (if l.length < 8 then [.int .u64 0, .bool false] else [.int .u64 (leN (l.take 8) : Nat), .bool true]), []) := by
  refine K_call k101 (oraG_none (by decide) (by decide)) (by simp [c101]) ?_
  by_cases h8 : l.length < 8
  · have z1 : ltI (l.length : Int) 8 = true := ltI_t (by omega)
    rw [if_pos h8]
    simp [c101, z1]
  · have z1 : ltI (l.length : Int) 8 = false := ltI_f (by omega)
    rw [if_neg h8]
    have h := L101 c l (by omega) hl hB 8 (by omega) 0 7 (by rw [List.drop_eq_nil_of_le (by simp; omega)]; rfl) rfl
    simp only [t101] at h
    generalize leN (l.take 8) = N at *
    simp [c101, z1]
    try simp at h
    rw [h]
    simp
theorem fixed_cons8 (x : Int) (l : List Int) : fixedI (x :: l) = Fr.le8 (IntKind.u64.wrap x) ++ fixedI l := by
  rw [fixed_cons]
  congr 1
  refine List.map_congr_left fun i hi => ?_
  exact by8_eq _ _ (List.mem_range.1 hi) (by rw [IntKind.wrap_u64]; omega)
def t92 (c : Bool) (s : Nat) (l : List Int) (a i : Nat) : List D := [.slc c s (l.map (.int .i64)), .undef, nilS, .sl 0 0 a a, .int .i64 i, .sl 0 0 0 0, .undef, .undef, .undef, .undef, .undef, .undef, .undef, .undef, .undef, .undef, .undef, .undef, .undef, .undef, .undef]
set_option maxHeartbeats 4000000 in
theorem L92 (c : Bool) (s : Nat) (l : List Int) (hs : s = 1 ∨ l = []) (hl : l.length ≤ 2 ^ 30) : ∀ (t pre acc : List Int) (a i : Nat), l = pre ++ t → i = pre.length → a = acc.length → acc.length ≤ 8 * i →
    LpB cf0 K0 b92_0 (t92 c s l 0 0) 1 ⟨t92 c s l a i, [.row 1 (acc.map (.int .u8)) 0]⟩ = some (.exit 0, ⟨t92 c s l (acc ++ fixedI t).length l.length, [.row 1 ((acc ++ fixedI t).map (.int .u8)) 0]⟩)
  | [], pre, acc, a, i, h, hi, ha, hb => by
    have : l = pre := by simpa using h
    subst this
    have z1 : ltI (i : Int) l.length = false := ltI_f (by omega)
    have e : fixedI [] = [] := rfl
    rw [LpB_eq]
    simp only [t92, e]
    conv => lhs; arg 6; simp [b92_0, z1]
    simp [hi, ha]
  | n :: t, pre, acc, a, i, h, hi, ha, hb => by
    have hil : i < 2 ^ 30 := by have : l.length = pre.length + (t.length + 1) := by rw [h]; simp
                                omega
    have hll : i < l.length := by rw [h, hi]; simp
    have z1 : ltI (i : Int) l.length = true := ltI_t (by omega)
    have hget : l[i]? = some n := by rw [h, hi]; simp
    have hgi : l[i]'hll = n := by rw [List.getElem?_eq_getElem hll] at hget; exact Option.some.inj hget
    have hw := w64 (i + 1) (by omega)
    obtain rfl : s = 1 := hs.resolve_right (by intro e; subst e; simp at hll)
    have hK := K82 (IntKind.u64.wrap n) (by rw [IntKind.wrap_u64]; omega) (by rw [IntKind.wrap_u64]; omega)
    rw [fixed_cons8]
    have h8 := Fr.le8_len (IntKind.u64.wrap n)
    generalize Fr.le8 (IntKind.u64.wrap n) = p at *
    have hpn : ¬ p = [] := by intro e; subst e; simp at h8
    have ih := L92 c 1 l hs hl t (pre ++ [n]) (acc ++ p) (acc ++ p).length (i + 1) (by rw [h]; simp) (by simp [hi]) rfl (by simp; omega)
    rw [show acc ++ (p ++ fixedI t) = acc ++ p ++ fixedI t by simp]
    have b1 : acc.length + p.length ≤ 70368744177664 := by omega
    clear h8
    rw [LpB_eq]
    simp only [t92] at ih ⊢
    conv => lhs; arg 6; simp [b92_0, z1, hll, hgi, hK, hw, hpn, ha, b1, List.take_of_length_le]
    simp at ih ⊢
    exact ih
set_option maxHeartbeats 4000000 in
/-- thresherref05.Fixed. -/
theorem K92 (c : Bool) (s : Nat) (l : List Int) (hs : s = 1 ∨ l = []) (hl : l.length ≤ 2 ^ 30) : K0 92 [.slc c s (l.map (.int .i64))] [] = some (.slc false 1 ((fixedI l).map (.int .u8)), []) := by
  have h := L92 c s l hs hl l [] [] 0 0 rfl rfl rfl (by simp)
  refine K_call k92 (oraG_none (by decide) (by decide)) (by simp [c92]) ?_
  rw [List.nil_append] at h
  generalize fixedI l = E at *
  simp only [t92] at h
  simp [c92]
  simp at h
  rw [h]
  simp [List.take_of_length_le]
def t91 (c : Bool) (s : Nat) (l : List Int) (a i : Nat) (w : Int) : List D := [.slc c s (l.map (.int .i64)), .undef, nilS, .sl 0 0 a a, .int .i64 w, .int .i64 i, .sl 0 0 0 0, .undef, .undef, .undef, .undef, .undef, .undef, .undef, .undef, .undef, .undef, .undef, .undef, .undef, .undef, .undef, .undef, .undef, .undef, .undef, .undef, .undef]
set_option maxHeartbeats 4000000 in
theorem L91 (c : Bool) (s : Nat) (l : List Int) (hs : s = 1 ∨ l = []) (hl : l.length ≤ 2 ^ 30) : ∀ (t pre acc : List Int) (w : Int) (a i : Nat), l = pre ++ t → i = pre.length → a = acc.length → acc.length ≤ 10 * i →
    ∃ w', LpB cf0 K0 b91_0 (t91 c s l 0 0 0) 1 ⟨t91 c s l a i w, [.row 1 (acc.map (.int .u8)) 0]⟩ = some (.exit 0, ⟨t91 c s l (acc ++ deltaI w t).length l.length w', [.row 1 ((acc ++ deltaI w t).map (.int .u8)) 0]⟩)
  | [], pre, acc, w, a, i, h, hi, ha, hb => by
    have : l = pre := by simpa using h
    subst this
    have z1 : ltI (i : Int) l.length = false := ltI_f (by omega)
    refine ⟨w, ?_⟩
    rw [LpB_eq]
    simp only [t91, deltaI]
    conv => lhs; arg 6; simp [b91_0, z1]
    simp [hi, ha]
  | n :: t, pre, acc, w, a, i, h, hi, ha, hb => by
    have hil : i < 2 ^ 30 := by have : l.length = pre.length + (t.length + 1) := by rw [h]; simp
                                omega
    have hll : i < l.length := by rw [h, hi]; simp
    have z1 : ltI (i : Int) l.length = true := ltI_t (by omega)
    have hget : l[i]? = some n := by rw [h, hi]; simp
    have hgi : l[i]'hll = n := by rw [List.getElem?_eq_getElem hll] at hget; exact Option.some.inj hget
    have hw := w64 (i + 1) (by omega)
    obtain rfl : s = 1 := hs.resolve_right (by intro e; subst e; simp at hll)
    have ee : deltaI w (n :: t) = putI (zigI (subI n w)) ++ deltaI n t := rfl
    rw [ee]
    have hs' : IntKind.i64.wrap (n - w) = subI n w := rfl
    have hsr := subI_range n w
    generalize subI n w = d at *
    have hz := zig_range _ hsr
    have hK1 := K113 d hsr
    unfold u64R at hz
    have hK := K39 (zigI d) hz.1 hz.2
    have hpn := putI_ne' (zigI d)
    have hpl := putI_len10 (zigI d) (by omega)
    generalize zigI d = z at *
    generalize putI z = p at *
    obtain ⟨w', ih⟩ := L91 c 1 l hs hl t (pre ++ [n]) (acc ++ p) n (acc ++ p).length (i + 1) (by rw [h]; simp) (by simp [hi]) rfl (by simp; omega)
    refine ⟨w', ?_⟩
    rw [show acc ++ (p ++ deltaI n t) = acc ++ p ++ deltaI n t by simp]
    have b1 : acc.length + p.length ≤ 70368744177664 := by omega
    rw [LpB_eq]
    simp only [t91] at ih ⊢
    conv => lhs; arg 6; simp [b91_0, z1, hll, hgi, hs', hK1, hK, hw, hpn, ha, b1, List.take_of_length_le]
    simp at ih ⊢
    exact ih
set_option maxHeartbeats 4000000 in
/-- thresherref05.Delta. -/
theorem K91 (c : Bool) (s : Nat) (l : List Int) (hs : s = 1 ∨ l = []) (hl : l.length ≤ 2 ^ 30) : K0 91 [.slc c s (l.map (.int .i64))] [] = some (.slc false 1 ((deltaI 0 l).map (.int .u8)), []) := by
  obtain ⟨w', h⟩ := L91 c s l hs hl l [] [] 0 0 0 rfl rfl rfl (by simp)
  refine K_call k91 (oraG_none (by decide) (by decide)) (by simp [c91]) ?_
  rw [List.nil_append] at h
  generalize deltaI 0 l = E at *
  simp only [t91] at h
  simp [c91]
  simp at h
  rw [h]
  simp [List.take_of_length_le]
end Go.Ab
/- THE FUNCTIONS' EQUATIONS: thresherref05: Put, Take. -/
set_option linter.all false
set_option maxRecDepth 100000
namespace Go.Ab
open Go.Proofs Go.Proofs.YtanfmnobanhcnaaH Go.Proofs.YtanfmnobanhcnaaH.Crc Go.Proofs.YtanfmnobanhcnaaH.Var Go.Proofs.YtanfmnobanhcnaaH.Fr
def c62 : Fn' := ⟨28, [(.tmp 2)], (.seq (.reg none [⟨(some 2), none, .nilrow⟩]) (.seq (.reg none [⟨(some 5), none, (.mv (.t 0))⟩, ⟨(some 6), none, (.len 1 (.t 5))⟩, ⟨(some 7), none, (.cvt (.int .u64) (.t 6))⟩, ⟨(some 8), none, (.call (.f 39) [(.t 7)])⟩, ⟨(some 3), none, (.mv (.t 8))⟩]) (.seq (.reg none [⟨(some 9), none, (.mv (.t 0))⟩, ⟨(some 10), none, (.call (.f 91) [(.t 9)])⟩, ⟨(some 4), none, (.mv (.t 10))⟩]) (.seq (.seq (.reg none [⟨(some 11), none, (.mv (.t 4))⟩, ⟨(some 12), none, (.len 1 (.t 11))⟩, ⟨(some 13), none, (.mv (.t 0))⟩, ⟨(some 14), none, (.len 1 (.t 13))⟩, ⟨(some 15), none, (.bin .mul [] (.k (.int .i64 8)) (.t 14))⟩, ⟨(some 16), none, (.bin .lss [] (.t 12) (.t 15))⟩]) (.cond (.t 16) (.seq (.reg none [⟨(some 17), none, (.mv (.t 3))⟩, ⟨(some 18), none, (.bsl false 1 1 [(.int .u8 0)] [(0, (.k (.int .u8 1)))])⟩, ⟨(some 19), none, (.app 1 1 (.t 17) (.t 18))⟩, ⟨(some 20), none, (.mv (.t 4))⟩, ⟨(some 21), none, (.app 1 1 (.t 19) (.t 20))⟩, ⟨(some 2), none, (.mv (.t 21))⟩]) .ret) .skip)) (.seq (.reg none [⟨(some 22), none, (.mv (.t 3))⟩, ⟨(some 23), none, (.bsl false 1 1 [(.int .u8 0)] [(0, (.k (.int .u8 0)))])⟩, ⟨(some 24), none, (.app 1 1 (.t 22) (.t 23))⟩, ⟨(some 25), none, (.mv (.t 0))⟩, ⟨(some 26), none, (.call (.f 92) [(.t 25)])⟩, ⟨(some 27), none, (.app 1 1 (.t 24) (.t 26))⟩, ⟨(some 2), none, (.mv (.t 27))⟩]) .ret)))))⟩
theorem k62 : compF Try.prog 62 = some c62 := by kernel_rfl
def b65_0 : C := (.seq (.seq (.reg none [⟨(some 39), none, (.mv (.t 9))⟩, ⟨(some 40), none, (.mv (.t 4))⟩, ⟨(some 41), none, (.cvt (.int .i64) (.t 40))⟩, ⟨(some 42), none, (.bin .lss [] (.t 39) (.t 41))⟩]) (.cond (.t 42) .skip (.exit 0))) (.seq (.block 1 (.seq (.reg none [⟨(some 46), none, (.mv (.t 0))⟩, ⟨(some 47), none, (.mv (.t 5))⟩, ⟨(some 48), none, (.sub 1 1 (.t 46) (some (.t 47)) none none)⟩, ⟨(some 49), none, (.call (.f 101) [(.t 48)])⟩, ⟨(some 45), none, (.mv (.t 49))⟩, ⟨(some 50), none, (.ext (.t 45) 0)⟩, ⟨(some 51), none, (.ext (.t 45) 1)⟩, ⟨(some 10), none, (.mv (.t 50))⟩, ⟨(some 11), none, (.mv (.t 51))⟩]) (.seq (.reg none [⟨(some 12), none, (.mv (.k (.int .i64 8)))⟩]) (.seq (.seq (.reg none [⟨(some 52), none, (.mv (.t 6))⟩, ⟨(some 53), none, (.bin .eql [] (.t 52) (.k (.int .u8 1)))⟩]) (.cond (.t 53) (.seq (.reg none [⟨(some 55), none, (.mv (.t 0))⟩, ⟨(some 56), none, (.mv (.t 5))⟩, ⟨(some 57), none, (.sub 1 1 (.t 55) (some (.t 56)) none none)⟩, ⟨(some 58), none, (.call (.f 79) [(.t 57)])⟩, ⟨(some 54), none, (.mv (.t 58))⟩, ⟨(some 59), none, (.ext (.t 54) 0)⟩, ⟨(some 60), none, (.ext (.t 54) 1)⟩, ⟨(some 13), none, (.mv (.t 59))⟩, ⟨(some 14), none, (.mv (.t 60))⟩]) (.seq (.reg none [⟨(some 61), none, (.mv (.t 8))⟩, ⟨(some 62), none, (.mv (.t 13))⟩, ⟨(some 63), none, (.call (.f 102) [(.t 62)])⟩, ⟨(some 64), none, (.bin .add [] (.t 61) (.t 63))⟩, ⟨(some 8), none, (.mv (.t 64))⟩]) (.seq (.reg none [⟨(some 65), none, (.mv (.t 8))⟩, ⟨(some 66), none, (.cvt (.int .u64) (.t 65))⟩, ⟨(some 10), none, (.mv (.t 66))⟩]) (.seq (.reg none [⟨(some 67), none, (.mv (.t 14))⟩, ⟨(some 12), none, (.mv (.t 67))⟩]) (.reg none [⟨(some 68), none, (.mv (.t 14))⟩, ⟨(some 69), none, (.bin .gtr [] (.t 68) (.k (.int .i64 0)))⟩, ⟨(some 11), none, (.mv (.t 69))⟩]))))) .skip)) (.seq (.seq (.reg none [⟨(some 70), none, (.mv (.t 11))⟩, ⟨(some 71), none, (.un .not (.t 70))⟩]) (.cond (.t 71) (.seq (.reg none [⟨(some 2), none, (.mv (.k nilS))⟩, ⟨(some 3), none, (.mv (.k (.int .i64 10)))⟩]) .ret) .skip)) (.seq (.reg none [⟨(some 72), none, (.mv (.t 7))⟩, ⟨(some 73), none, (.mv (.t 10))⟩, ⟨(some 74), none, (.cvt (.int .i64) (.t 73))⟩, ⟨(some 75), none, (.bsl false 1 1 [(.int .i64 0)] [(0, (.t 74))])⟩, ⟨(some 76), none, (.app 1 8 (.t 72) (.t 75))⟩, ⟨(some 7), none, (.mv (.t 76))⟩]) (.reg none [⟨(some 77), none, (.mv (.t 5))⟩, ⟨(some 78), none, (.mv (.t 12))⟩, ⟨(some 79), none, (.bin .add [] (.t 77) (.t 78))⟩, ⟨(some 5), none, (.mv (.t 79))⟩]))))))) (.reg none [⟨(some 43), none, (.mv (.t 9))⟩, ⟨(some 44), none, (.bin .add [] (.t 43) (.k (.int .i64 1)))⟩, ⟨(some 9), none, (.mv (.t 44))⟩])))
def r65_8 : C := (.seq (.seq (.reg (some [(1, 4), (2, 4)]) [⟨(some 80), none, (.mv (.t 7))⟩, ⟨(some 81), none, (.call (.f 62) [(.t 80)])⟩, ⟨(some 82), none, (.cvt .b2s (.t 81))⟩, ⟨(some 83), none, (.mv (.t 0))⟩, ⟨(some 84), none, (.cvt .b2s (.t 83))⟩, ⟨(some 85), none, (.bin .neq [] (.t 82) (.t 84))⟩]) (.cond (.t 85) (.seq (.reg none [⟨(some 2), none, (.mv (.k nilS))⟩, ⟨(some 3), none, (.mv (.k (.int .i64 10)))⟩]) .ret) .skip)) (.seq (.reg none [⟨(some 86), none, (.mv (.t 7))⟩, ⟨(some 2), none, (.mv (.t 86))⟩, ⟨(some 3), none, (.mv (.k (.int .i64 0)))⟩]) .ret))
def r65_7 : C := (.seq (.seq (.reg none [⟨(some 9), none, (.mv (.k (.int .i64 0)))⟩]) (.block 0 (.loop b65_0))) r65_8)
def c65 : Fn' := ⟨87, [(.tmp 2), (.tmp 3)], (.seq (.reg none [⟨(some 2), none, (.mv (.k nilS))⟩, ⟨(some 3), none, (.mv (.k (.int .i64 0)))⟩]) (.seq (.reg none [⟨(some 16), none, (.mv (.t 0))⟩, ⟨(some 17), none, (.call (.f 79) [(.t 16)])⟩, ⟨(some 15), none, (.mv (.t 17))⟩, ⟨(some 18), none, (.ext (.t 15) 0)⟩, ⟨(some 19), none, (.ext (.t 15) 1)⟩, ⟨(some 4), none, (.mv (.t 18))⟩, ⟨(some 5), none, (.mv (.t 19))⟩]) (.seq (.seq (.reg none [⟨(some 20), none, (.mv (.t 5))⟩, ⟨(some 21), none, (.bin .eql [] (.t 20) (.k (.int .i64 0)))⟩, ⟨(some 22), none, (.mv (.t 21))⟩, ⟨(some 23), (some ((some 22), false)), (.mv (.t 4))⟩, ⟨(some 24), (some ((some 22), false)), (.bin .gtr [] (.t 23) (.k (.int .u64 2000)))⟩, ⟨(some 25), none, (.pick (.t 22) (.k (.bool true)) (.t 24))⟩, ⟨(some 26), none, (.mv (.t 25))⟩, ⟨(some 27), (some ((some 26), false)), (.mv (.t 5))⟩, ⟨(some 28), (some ((some 26), false)), (.mv (.t 0))⟩, ⟨(some 29), (some ((some 26), false)), (.len 1 (.t 28))⟩, ⟨(some 30), (some ((some 26), false)), (.bin .geq [] (.t 27) (.t 29))⟩, ⟨(some 31), none, (.pick (.t 26) (.k (.bool true)) (.t 30))⟩]) (.cond (.t 31) (.seq (.reg none [⟨(some 2), none, (.mv (.k nilS))⟩, ⟨(some 3), none, (.mv (.k (.int .i64 10)))⟩]) .ret) .skip)) (.seq (.reg none [⟨(some 32), none, (.mv (.t 0))⟩, ⟨(some 33), none, (.mv (.t 5))⟩, ⟨(some 34), none, (.ia none 1 false (.t 32) (.t 33))⟩, ⟨(some 35), none, (.ld none (.t 34))⟩, ⟨(some 6), none, (.mv (.t 35))⟩]) (.seq (.reg none [⟨(some 36), none, (.mv (.t 5))⟩, ⟨(some 37), none, (.bin .add [] (.t 36) (.k (.int .i64 1)))⟩, ⟨(some 5), none, (.mv (.t 37))⟩]) (.seq (.reg none [⟨(some 38), none, (.bsl true 1 0 [(.int .i64 0)] [])⟩, ⟨(some 7), none, (.mv (.t 38))⟩]) (.seq (.reg none [⟨(some 8), none, (.mv (.k (.int .i64 0)))⟩]) r65_7)))))))⟩
theorem k65 : compF Try.prog 65 = some c65 := by kernel_rfl
attribute [local simp] op_or op_an op_add op_sub op_mul oq_eql oq_neq oq_lss oq_gtr oq_leq oq_geq op_rm op_qu
attribute [-simp] intOp bin_shl bin_shr
set_option maxHeartbeats 4000000 in
/-- thresherref05.Put. -/
theorem K62 (c : Bool) (s : Nat) (l : List Int) (hs : s = 1 ∨ l = []) (hl : l.length ≤ 2 ^ 30) : K0 62 [.slc c s (l.map (.int .i64))] [] = some (.slc false 1 ((intsI l).map (.int .u8)), []) := by
  have h86 := K91 c s l hs hl
  have h87 := K92 c s l hs hl
  have hdl := deltaI_len 0 l
  have hfl := fixedI_len l
  have hwx : IntKind.u64.wrap (l.length : Int) = l.length := by rw [IntKind.wrap_u64]; omega
  have hw8 : IntKind.i64.wrap (8 * (l.length : Int)) = 8 * (l.length : Int) := w64 _ (by omega)
  have hK := K39 (l.length : Int) (by omega) (by omega)
  have hpn := putI_ne' (l.length : Int)
  have hpl := putI_len10 (l.length : Int) (by omega)
  unfold intsI
  generalize putI (l.length : Int) = p at *
  generalize fixedI l = E at *
  generalize deltaI 0 l = F at *
  have c1 : F.length + 1 = 1 + F.length := Nat.add_comm _ _
  have c2 : E.length + 1 = 1 + E.length := Nat.add_comm _ _
  have b0 : p.length ≤ 70368744177663 := by omega
  have b1 : p.length + (1 + E.length) ≤ 70368744177664 := by omega
  have b2 : p.length + (1 + F.length) ≤ 70368744177664 := by omega
  refine K_call k62 (oraG_none (by decide) (by decide)) (by simp [c62]) ?_
  by_cases hF : F.length < 8 * l.length
  · rw [if_pos hF]
    have z1 : ltI (F.length : Int) (8 * (l.length : Int)) = true := ltI_t (by omega)
    by_cases hFn : F = []
    · subst hFn
      simp at z1
      simp [c62, h86, hw8, z1, hwx, hK, hpn, c1, b0, b2, List.take_of_length_le, Nat.add_assoc]
    · simp [c62, h86, hw8, z1, hwx, hK, hpn, hFn, c1, b0, b2, List.take_of_length_le, Nat.add_assoc]
  · rw [if_neg hF]
    have z1 : ltI (F.length : Int) (8 * (l.length : Int)) = false := ltI_f (by omega)
    by_cases hEn : E = []
    · subst hEn
      simp [c62, h86, h87, hw8, z1, hwx, hK, hpn, c2, b0, b1, List.take_of_length_le, Nat.add_assoc]
    · simp [c62, h86, h87, hw8, z1, hwx, hK, hpn, hEn, c2, b0, b1, List.take_of_length_le, Nat.add_assoc]
theorem u8_inj : ∀ {a b : List Int}, isB a → isB b → a.map (fun x => UInt8.ofNat x.toNat) = b.map (fun x => UInt8.ofNat x.toNat) → a = b
  | [], [], _, _, _ => rfl
  | [], y :: b, _, _, h => by simp at h
  | x :: a, [], _, _, h => by simp at h
  | x :: a, y :: b, ha, hb, h => by
    simp only [List.map_cons, List.cons.injEq] at h
    have hx := ha x List.mem_cons_self
    have hy := hb y List.mem_cons_self
    have e := congrArg UInt8.toNat h.1
    simp only [UInt8.toNat_ofNat'] at e
    rw [Nat.mod_eq_of_lt (by omega), Nat.mod_eq_of_lt (by omega)] at e
    rw [u8_inj (fun z hz => ha z (List.mem_cons_of_mem _ hz)) (fun z hz => hb z (List.mem_cons_of_mem _ hz)) h.2, show x = y by omega]
theorem u8_ne {a b : List Int} (ha : isB a) (hb : isB b) (h : ¬ a = b) : (a.map (fun x => UInt8.ofNat x.toNat) == b.map (fun x => UInt8.ofNat x.toNat)) = false := by
  rw [beq_eq_false_iff_ne]
  exact fun e => h (u8_inj ha hb e)
def t65 (c : Bool) (b : List Int) (n at0 : Nat) (kd : Int) (at' a : Nat) (w : Int) (i : Nat) : List D := [.slc c 1 (b.map (.int .u8)), .undef, nilS, .int .i64 0, .int .u64 n, .int .i64 at', .int .u8 kd, .sl 0 0 a a, .int .i64 w, .int .i64 i, .undef, .undef, .undef, .undef, .undef, .tuple [.int .u64 n, .int .i64 at0], .slc c 1 (b.map (.int .u8)), .tuple [.int .u64 n, .int .i64 at0], .int .u64 n, .int .i64 at0, .int .i64 at0, .bool false, .bool false, .int .u64 n, .bool false, .bool false, .bool false, .int .i64 at0, .slc c 1 (b.map (.int .u8)), .int .i64 b.length, .bool false, .bool false, .slc c 1 (b.map (.int .u8)), .int .i64 at0, .fptr (.int .u8 kd), .int .u8 kd, .int .i64 at0, .int .i64 (at0 + 1 : Nat), .sl 0 0 0 0, .undef, .undef, .undef, .undef, .undef, .undef, .undef, .undef, .undef, .undef, .undef, .undef, .undef, .undef, .undef, .undef, .undef, .undef, .undef, .undef, .undef, .undef, .undef, .undef, .undef, .undef, .undef, .undef, .undef, .undef, .undef, .undef, .undef, .undef, .undef, .undef, .undef, .undef, .undef, .undef, .undef, .undef, .undef, .undef, .undef, .undef, .undef, .undef]
/-- What is behind: as numbers are taken. -/
def gI (kd : Int) (k : Nat) (w : Int) (l : List Int) : Option (List Int) := if kd = 1 then stepsI k w l else wideI k l
def E65 (b acc : List Int) : Option (List Int) → D
  | none => .tuple [nilS, .int .i64 10]
  | some t => if intsI (acc ++ t) = b then .tuple [.slc false 1 ((acc ++ t).map (.int .i64)), .int .i64 0] else .tuple [nilS, .int .i64 10]
set_option maxHeartbeats 8000000 in
theorem L65 (c : Bool) (b : List Int) (hb : b.length ≤ 2 ^ 40) (hB : isB b) (n at0 : Nat) (kd : Int) (hn : n ≤ 2 ^ 30) : ∀ (k : Nat) (acc : List Int) (at' a : Nat) (w : Int) (i : Nat), i + k = n → a = acc.length → acc.length = i → at' ≤ b.length →
    finK false 0 [.tmp 2, .tmp 3] (loopK cf0 K0 (LpB cf0 K0 b65_0 (t65 c b n at0 kd (at0 + 1) 0 0 0) 1 ⟨t65 c b n at0 kd at' a w i, [.row 1 (acc.map (.int .i64)) 0]⟩) [.blk 0, .c r65_8]) = some (E65 b acc (gI kd k w (b.drop at')), [])
  | 0, acc, at', a, w, i, hi, ha, hai, hat => by
    have z1 : ltI (i : Int) n = false := ltI_f (by omega)
    have hwn : IntKind.i64.wrap (n : Int) = n := w64 _ (by omega)
    have hg : gI kd 0 w (b.drop at') = some [] := by unfold gI; split <;> rfl
    have hK := K62 false 1 acc (.inl rfl) (by omega)
    rw [hg]
    simp only [E65, List.append_nil]
    rw [LpB_eq]
    simp only [t65]
    conv => lhs; arg 4; arg 3; arg 6; simp [b65_0, z1, hwn]
    subst ha
    have hEB := isB_intsI acc
    generalize intsI acc = E at *
    by_cases hE : E = b
    · rw [if_pos hE]
      subst hE
      simp [r65_8, hK, List.take_of_length_le, evOp, evM, wants, Ins.go, X.ev, iaM, ldM, binD, setD, applyW, Ek_ops_nil, allFree, free, callM, callP, appM]
    · rw [if_neg hE]
      have hne := u8_ne hEB hB hE
      simp [r65_8, hK, hne, List.take_of_length_le, evOp, evM, wants, Ins.go, X.ev, iaM, ldM, binD, setD, applyW, Ek_ops_nil, allFree, free, callM, callP, appM]
  | k + 1, acc, at', a, w, i, hi, ha, hai, hat => by
    have z1 : ltI (i : Int) n = true := ltI_t (by omega)
    have hwn : IntKind.i64.wrap (n : Int) = n := w64 _ (by omega)
    have hwi := w64 (i + 1) (by omega)
    obtain ⟨l, hl⟩ : ∃ l, b.drop at' = l := ⟨_, rfl⟩
    have hlB : isB l := by rw [← hl]; exact isB_drop hB _
    have hll : l.length = b.length - at' := by rw [← hl]; simp
    have m1 : List.drop at' (b.map (D.int .u8)) = l.map (.int .u8) := by rw [← hl, List.map_drop]
    have hat' : (at' : Int) ≤ b.length := by omega
    have h101 := fun c => K101 c l (by omega) hlB
    have h79 := fun c => K79 c l (by omega) hlB
    have hvr := varI_range l
    have hb1 : (acc.length + 1) * 8 ≤ 70368744177664 := by omega
    rw [hl]
    subst ha
    unfold gI
    by_cases hk : kd = 1
    · rw [if_pos hk]
      have z2 : eqI kd 1 = true := eqI_t hk
      simp only [stepsI]
      have h102 := K102 (varI l).1 ⟨by omega, by omega⟩
      obtain ⟨u, hu⟩ : ∃ u, (varI l).1 = u := ⟨_, rfl⟩
      obtain ⟨m, hm⟩ : ∃ m : Nat, (varI l).2 = m := ⟨(varI l).2.toNat, by omega⟩
      rw [hu] at h102
      rw [hu, hm] at h79 hvr ⊢
      have ha' : IntKind.i64.wrap (w + zagI u) = addI w (zagI u) := rfl
      have hxr := addI_range w (zagI u)
      generalize addI w (zagI u) = x at *
      have hx2 : IntKind.i64.wrap (IntKind.u64.wrap x) = x := by unfold i64R at hxr; rw [IntKind.wrap_i64, IntKind.wrap_u64]; omega
      obtain ⟨p, q, hpq⟩ : ∃ p q, (if l.length < 8 then [D.int .u64 0, D.bool false] else [D.int .u64 (leN (l.take 8) : Nat), D.bool true]) = [.int .u64 p, .bool q] := by
        split
        · exact ⟨_, _, rfl⟩
        · exact ⟨_, _, rfl⟩
      simp only [hpq] at h101
      by_cases h0 : (m : Int) = 0
      · rw [if_pos h0]
        have z3 : ltI 0 (m : Int) = false := ltI_f (by omega)
        simp only [E65]
        rw [LpB_eq]
        simp only [t65]
        conv => lhs; arg 4; arg 3; arg 6; simp [b65_0, z1, hwn, hat, hat', m1, h101, z2, h79, h102, ha', z3]
        simp [Ks_rt]
      · rw [if_neg h0]
        have z3 : ltI 0 (m : Int) = true := ltI_t (by omega)
        have hwa : IntKind.i64.wrap ((at' : Int) + m) = ((at' + m : Nat) : Int) := by rw [w64 _ (by omega)]; omega
        have ih := L65 c b hb hB n at0 kd hn k (acc ++ [x]) (at' + m) (acc ++ [x]).length x (i + 1) (by omega) rfl (by simp [hai]) (by omega)
        unfold gI at ih
        rw [if_pos hk, ← List.drop_drop, hl] at ih
        have e : (Int.toNat (m : Int)) = m := by omega
        rw [e]
        have eV : E65 b acc ((stepsI k x (l.drop m)).map (x :: ·)) = E65 b (acc ++ [x]) (stepsI k x (l.drop m)) := by
          cases stepsI k x (l.drop m) <;> simp [E65]
        rw [eV]
        generalize E65 b (acc ++ [x]) (stepsI k x (l.drop m)) = V at *
        obtain ⟨A, hA⟩ : ∃ A, at' + m = A := ⟨_, rfl⟩
        rw [hA] at hwa ih
        rw [LpB_eq]
        simp only [t65] at ih ⊢
        conv => lhs; arg 4; arg 3; arg 6; simp [b65_0, z1, hwn, hwi, hat, hat', m1, h101, z2, h79, h102, ha', z3, hwa, hx2, hb1]
        simp at ih ⊢
        exact ih
    · rw [if_neg hk]
      have z2 : eqI kd 1 = false := eqI_f hk
      simp only [wideI]
      by_cases h8 : l.length < 8
      · simp only [if_pos h8] at h101 ⊢
        simp only [E65]
        rw [LpB_eq]
        simp only [t65]
        conv => lhs; arg 4; arg 3; arg 6; simp [b65_0, z1, hwn, hat, hat', m1, h101, z2]
        simp [Ks_rt]
      · simp only [if_neg h8] at h101 ⊢
        obtain ⟨x, hx⟩ : ∃ x : Int, IntKind.i64.wrap (leN (l.take 8) : Nat) = x := ⟨_, rfl⟩
        rw [hx]
        generalize ((leN (l.take 8) : Nat) : Int) = u at *
        have hwa : IntKind.i64.wrap ((at' : Int) + 8) = ((at' + 8 : Nat) : Int) := by rw [w64 _ (by omega)]; omega
        have ih := L65 c b hb hB n at0 kd hn k (acc ++ [x]) (at' + 8) (acc ++ [x]).length w (i + 1) (by omega) rfl (by simp [hai]) (by omega)
        unfold gI at ih
        rw [if_neg hk, ← List.drop_drop, hl] at ih
        have eV : E65 b acc ((wideI k (l.drop 8)).map (x :: ·)) = E65 b (acc ++ [x]) (wideI k (l.drop 8)) := by
          cases wideI k (l.drop 8) <;> simp [E65]
        rw [eV]
        generalize E65 b (acc ++ [x]) (wideI k (l.drop 8)) = V at *
        obtain ⟨A, hA⟩ : ∃ A, at' + 8 = A := ⟨_, rfl⟩
        rw [hA] at hwa ih
        rw [LpB_eq]
        simp only [t65] at ih ⊢
        conv => lhs; arg 4; arg 3; arg 6; simp [b65_0, z1, hwn, hwi, hat, hat', m1, h101, z2, hwa, hx, hb1]
        simp at ih ⊢
        exact ih
def V65 : Option (List Int) → D
  | none => .tuple [nilS, .int .i64 10]
  | some t => .tuple [.slc false 1 (t.map (.int .i64)), .int .i64 0]
set_option maxHeartbeats 4000000 in
/-- thresherref05.Take. -/
theorem K65 (c : Bool) (l : List Int) (hl : l.length ≤ 2 ^ 40) (hB : isB l) : K0 65 [.slc c 1 (l.map (.int .u8))] [] = some (V65 (intsT l), []) := by
  have hr := varI_range l
  have hK := K79 c l (by omega) hB
  have e : intsT l = match rawI l with | none => none | some t => if intsI t = l then some t else none := rfl
  rw [e]
  refine K_call k65 (oraG_none (by decide) (by decide)) (by simp [c65]) ?_
  unfold rawI
  obtain ⟨u, hu⟩ : ∃ u, u = (varI l).1 := ⟨_, rfl⟩
  obtain ⟨m, hm⟩ : ∃ m : Nat, (varI l).2 = m := ⟨(varI l).2.toNat, by omega⟩
  rw [hm, ← hu] at hK hr ⊢
  by_cases h0 : (m : Int) = 0
  · have z1 : eqI (m : Int) 0 = true := eqI_t h0
    rw [if_pos (.inl h0)]
    simp [c65, hK, z1, V65]
  have z1 : eqI (m : Int) 0 = false := eqI_f h0
  by_cases h2 : 2000 < u
  · have z2 : ltI 2000 u = true := ltI_t h2
    rw [if_pos (.inr (.inl h2))]
    simp [c65, hK, z1, z2, V65]
  have z2 : ltI 2000 u = false := ltI_f (by omega)
  by_cases h3 : (l.length : Int) ≤ m
  · have z3 : leI (l.length : Int) m = true := leI_t h3
    rw [if_pos (.inr (.inr h3))]
    simp [c65, hK, z1, z2, z3, V65]
  have z3 : leI (l.length : Int) m = false := leI_f (by omega)
  rw [if_neg (by omega)]
  have h4 : m < l.length := by omega
  have hw := w64 (m + 1) (by omega)
  obtain ⟨x, hx⟩ : ∃ x, l[m]'h4 = x := ⟨_, rfl⟩
  have e2 : l.getD (Int.toNat (m : Int)) 0 = x := by rw [← hx]; simp [h4]
  have e3 : Int.toNat (m : Int) = m := by omega
  rw [e2, e3]
  obtain ⟨n, hn⟩ : ∃ n : Nat, u = n := ⟨u.toNat, by omega⟩
  subst hn
  have e4 : Int.toNat (n : Int) = n := by omega
  rw [e4]
  have h := L65 c l hl hB n m x (by omega) n [] (m + 1) 0 0 0 (by omega) rfl rfl (by omega)
  have hv : E65 l [] (gI x n 0 (l.drop (m + 1))) = V65 (match (if x = 1 then stepsI n 0 (l.drop (m + 1)) else wideI n (l.drop (m + 1))) with | none => none | some t => if intsI t = l then some t else none) := by
    unfold gI
    cases (if x = 1 then stepsI n 0 (l.drop (m + 1)) else wideI n (l.drop (m + 1))) with
    | none => rfl
    | some t =>
      simp only [E65, List.nil_append]
      by_cases ht : intsI t = l
      · rw [if_pos ht, if_pos ht]; rfl
      · rw [if_neg ht, if_neg ht]; rfl
  rw [hv] at h
  generalize V65 _ = V at *
  have hwm : IntKind.i64.wrap ((m : Int) + 1) = (m : Int) + 1 := by have := hw; simpa using this
  simp only [t65] at h
  simp [c65, r65_7, hK, z1, z2, z3, h4, hx, hw, hwm]
  simp at h
  exact h
end Go.Ab
