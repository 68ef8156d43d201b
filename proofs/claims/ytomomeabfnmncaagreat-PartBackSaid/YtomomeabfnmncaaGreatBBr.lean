/- THE FUNCTIONS' EQUATIONS: what num and crc compute, in the plain words. -/
import Derived.Test.YtomomeabfnmncaaGreatBF60
import Derived.Test.YtomomeabfnmncaaGreatBPCrc
import Derived.Laws.BitsAllLaws
set_option linter.all false
namespace Go.Ab
open Go.Proofs Go.Proofs.YtomomeabfnmncaaGreatH Go.Proofs.YtomomeabfnmncaaGreatH.Crc Go.Proofs.YtomomeabfnmncaaGreatH.Var Go.Proofs.YtomomeabfnmncaaGreatH.Fr

theorem part7_eq (x : Nat) : part7 (x : Int) = ((x % 128 + 128 : Nat) : Int) := by
  have hw : IntKind.u8.wrap (x : Int) = ((x % 256 : Nat) : Int) := by rw [IntKind.wrap_u8]; omega
  have h1 := u8_or_nat (x % 256) 128 (by omega) (by decide)
  have e : ∀ n : Fin 256, n.val ||| 128 = n.val % 128 + 128 := by decide +kernel
  rw [e ⟨x % 256, by omega⟩] at h1
  unfold part7
  rw [hw]
  have h2 : (x % 256) % 128 = x % 128 := by omega
  rw [← h2]
  exact h1
theorem pre7_eq : ∀ (n x : Nat), x < 128 ^ (n + 1) → pre7 n (x : Int) ++ [IntKind.u8.wrap (last7 n (x : Int))] = ints (putN x)
  | 0, x, h => by
    have h' : x < 128 := by simpa using h
    rw [putN_small h']
    simp only [pre7, last7, List.nil_append, ints, List.map_cons, List.map_nil]
    rw [IntKind.wrap_u8]
    congr 1
    omega
  | n + 1, x, h => by
    simp only [pre7, last7]
    by_cases h' : x < 128
    · rw [if_neg (by omega), if_neg (by omega), putN_small h']
      simp only [List.nil_append, ints, List.map_cons, List.map_nil]
      rw [IntKind.wrap_u8]
      congr 1
      omega
    · rw [if_pos (by omega), if_pos (by omega), putN_big h', shr7_eq]
      have e : (x : Int) / 128 = ((x / 128 : Nat) : Int) := by omega
      have ih := pre7_eq n (x / 128) (by rw [Nat.pow_succ] at h; omega)
      rw [e, List.cons_append, ih, part7_eq]
      rfl
theorem putW_eq (x : Int) (h0 : 0 ≤ x) (hx : x ≤ 18446744073709551615) : putW x = putI x := by
  obtain ⟨n, rfl⟩ : ∃ n : Nat, x = n := ⟨x.toNat, by omega⟩
  have := pre7_eq 9 n (by have e : (128 : Nat) ^ (9 + 1) = 1180591620717411303424 := by decide
                          omega)
  unfold putW putI
  rw [this]
  simp
theorem xor32 (a b : Nat) (ha : a < 4294967296) (hb : b < 4294967296) : xorI .u32 (a : Int) (b : Int) = ((a ^^^ b : Nat) : Int) := u32_xor_nat a b ha hb
theorem and32 (a b : Nat) (ha : a < 4294967296) (hb : b < 4294967296) : andI .u32 (a : Int) (b : Int) = ((a &&& b : Nat) : Int) := by
  have hx : a &&& b < 2 ^ 32 := Nat.and_lt_two_pow _ (by omega)
  show IntKind.u32.wrap ((BitVec.ofInt 32 (a : Int) &&& BitVec.ofInt 32 (b : Int)).toNat : Int) = _
  rw [BitVec.toNat_and, ofInt_u32 a ha, ofInt_u32 b hb, IntKind.wrap_u32']
  omega
theorem bit1_eq (x : Nat) (hx : x < 4294967296) : bit1 (x : Int) = ((Crc.M x : Nat) : Int) := by
  unfold bit1
  have h1 : andI .u32 (x : Int) 1 = ((x % 2 : Nat) : Int) := by
    have := and32 x 1 hx (by decide)
    rw [Nat.and_one_is_mod] at this
    exact this
  have hm : (min (1 : Int).toNat IntKind.u32.bits) = 1 := by decide
  have hd : ((x : Int).fdiv (2 ^ 1)) = ((x / 2 : Nat) : Int) := by rw [Int.fdiv_eq_ediv_of_nonneg _ (by decide)]; simp
  rw [h1, hm, hd]
  unfold Crc.M
  rcases Nat.mod_two_eq_zero_or_one x with h | h
  · rw [h]
    have e : IntKind.u32.wrap (0 - ((0 : Nat) : Int)) = ((0 : Nat) : Int) := by rw [IntKind.wrap_u32']; decide
    have e2 : (3988292384 : Int) = ((3988292384 : Nat) : Int) := rfl
    rw [e, e2, and32 _ _ (by decide) (by decide), Nat.and_zero, xor32 _ _ (by omega) (by decide)]
    simp
  · rw [h]
    have e : IntKind.u32.wrap (0 - ((1 : Nat) : Int)) = ((4294967295 : Nat) : Int) := by rw [IntKind.wrap_u32']; decide
    have e2 : (3988292384 : Int) = ((3988292384 : Nat) : Int) := rfl
    rw [e, e2, and32 _ _ (by decide) (by decide), xor32 _ _ (by omega) (by decide)]
    have e3 : 3988292384 &&& 4294967295 = 3988292384 := by decide
    rw [e3]
    simp
theorem bits8_eq (x : Nat) (hx : x < 4294967296) : bits8 (x : Int) = ((Mn 8 x : Nat) : Int) := by
  have h1 := M_lt x hx
  have h2 := M_lt _ h1
  have h3 := M_lt _ h2
  have h4 := M_lt _ h3
  have h5 := M_lt _ h4
  have h6 := M_lt _ h5
  have h7 := M_lt _ h6
  unfold bits8
  rw [bit1_eq x hx, bit1_eq _ h1, bit1_eq _ h2, bit1_eq _ h3, bit1_eq _ h4, bit1_eq _ h5, bit1_eq _ h6, bit1_eq _ h7]
  rfl
theorem sum1_eq (r c : Nat) (hr : r < 4294967296) (hc : c < 256) : sum1 (r : Int) (c : Int) = ((Mn 8 (r ^^^ c) : Nat) : Int) := by
  unfold sum1
  have hm : (min (8 : Int).toNat IntKind.u32.bits) = 8 := by decide
  have hd : ((r : Int).fdiv (2 ^ 8)) = ((r / 256 : Nat) : Int) := by rw [Int.fdiv_eq_ediv_of_nonneg _ (by decide)]; simp
  have h8 : IntKind.u8.wrap (r : Int) = ((r % 256 : Nat) : Int) := by rw [IntKind.wrap_u8]; omega
  have hx : xorI .u8 ((r % 256 : Nat) : Int) (c : Int) = ((r % 256 ^^^ c : Nat) : Int) := u8_xor_nat (r % 256) c (by omega) hc
  have hlt : r % 256 ^^^ c < 256 := Nat.xor_lt_two_pow (n := 8) (by omega) (by omega)
  have hw : IntKind.u32.wrap ((r % 256 ^^^ c : Nat) : Int) = ((r % 256 ^^^ c : Nat) : Int) := by rw [IntKind.wrap_u32']; omega
  rw [hm, hd, h8, hx, hw, bits8_eq _ (by omega), xor32 _ _ (by omega) (Mn_lt 8 _ (by omega)), byte_step r c]
theorem fold_eq (l : List Int) (h : isB l) : ∀ r : Nat, r < 4294967296 → l.foldl sum1 (r : Int) = ((crcReg r (nats l) : Nat) : Int) := by
  induction l with
  | nil => intro r _; rfl
  | cons c l ih =>
    intro r hr
    have hc := h c List.mem_cons_self
    obtain ⟨n, rfl⟩ : ∃ n : Nat, c = n := ⟨c.toNat, by omega⟩
    have hlt : Mn 8 (r ^^^ n) < 4294967296 := Mn_lt 8 _ (Nat.xor_lt_two_pow (n := 32) (by omega) (by omega))
    rw [List.foldl_cons, sum1_eq r n hr (by omega), ih (fun x hx => h x (List.mem_cons_of_mem _ hx)) _ hlt]
    rfl
theorem sumW_eq (l : List Int) (h : isB l) : sumW l = crcI l := by
  unfold sumW crcI crcN
  have := fold_eq l h 4294967295 (by decide)
  have e : ((4294967295 : Nat) : Int) = 4294967295 := rfl
  rw [e] at this
  rw [this]
  have hlt := crcReg_lt (nats l) 4294967295 (by decide) (nats_lt h)
  have := xor32 4294967295 _ (by decide) hlt
  rw [e] at this
  rw [this, Nat.xor_comm]
theorem by8_eq (x : Int) (i : Nat) (hi : i < 8) (h0 : 0 ≤ x) : by8 x i = x / 2 ^ (8 * i) % 256 := by
  unfold by8
  have hm : min (8 * (i : Int)).toNat IntKind.u64.bits = 8 * i := by have : IntKind.u64.bits = 64 := rfl; omega
  rw [hm, IntKind.wrap_u8, Int.fdiv_eq_ediv_of_nonneg _ (Int.pow_nonneg (by decide))]
theorem le8_eq (x : Int) (h0 : 0 ≤ x) : le8 x = Fr.le8 x := by
  unfold le8
  rw [by8_eq x 0 (by decide) h0, by8_eq x 1 (by decide) h0, by8_eq x 2 (by decide) h0, by8_eq x 3 (by decide) h0, by8_eq x 4 (by decide) h0, by8_eq x 5 (by decide) h0, by8_eq x 6 (by decide) h0, by8_eq x 7 (by decide) h0]
  rfl
theorem frameW_eq (l : List Int) (h : isB l) (hl : l.length ≤ 2 ^ 45) : frameW l = frameI l := by
  have hr := crcI_range h
  unfold frameW frameI sum4
  rw [putW_eq _ (by omega) (by omega), sumW_eq l h, le8_eq _ hr.1]
/-- num.PutVar. -/
theorem N66 (x : Int) (h0 : 0 ≤ x) (hx : x ≤ 18446744073709551615) : K0 71 [.int .u64 x] [] = some (.sl 0 0 (putI x).length (putI x).length, [.row 1 ((putI x).map (.int .u8)) 0]) := by
  have := K66 x hx
  rwa [putW_eq x h0 hx] at this
theorem N68 (l : List Int) (cl : Bool) (h : isB l) (hl : l.length ≤ 2 ^ 47) : K0 73 [.slc cl 1 (l.map (.int .u8))] [] = some (.int .u32 (crcI l), []) := by
  have := K68 l cl hl
  rwa [sumW_eq l h] at this
theorem N67 (x : Int) (hx : 0 ≤ x ∧ x ≤ 4294967295) : K0 72 [.int .u32 x] [] = some (.slc false 1 ((sum4 x).map (.int .u8)), []) := by
  have := K67 x hx
  rwa [le8_eq x hx.1] at this
theorem N32 (l : List Int) (cl : Bool) (h : isB l) (hl : l.length ≤ 2 ^ 45) : K0 32 [.slc cl 1 (l.map (.int .u8))] [] = some (.slc false 1 ((frameI l).map (.int .u8)), []) := by
  have := K32 l cl hl
  rwa [frameW_eq l h hl] at this
end Go.Ab
/- THE FUNCTIONS' EQUATIONS: num.Var. -/
set_option linter.all false
set_option maxRecDepth 100000
namespace Go.Ab
open Go.Proofs Go.Proofs.YtomomeabfnmncaaGreatH Go.Proofs.YtomomeabfnmncaaGreatH.Crc Go.Proofs.YtomomeabfnmncaaGreatH.Var Go.Proofs.YtomomeabfnmncaaGreatH.Fr
def b74_0 : C := (.seq (.reg none [⟨(some 12), none, (.bin .lss [] (.t 11) (.t 10))⟩]) (.seq (.cond (.t 12) .skip (.exit 0)) (.seq (.block 1 (.seq (.reg none [⟨(some 13), none, (.mv (.t 11))⟩, ⟨(some 14), none, (.ia none 1 false (.t 9) (.t 11))⟩, ⟨(some 15), none, (.ld none (.t 14))⟩, ⟨(some 6), none, (.mv (.t 13))⟩, ⟨(some 7), none, (.mv (.t 15))⟩]) (.seq (.reg none [⟨(some 16), none, (.mv (.t 7))⟩, ⟨(some 17), none, (.bin .andNot [] (.t 16) (.k (.int .u8 128)))⟩, ⟨(some 18), none, (.cvt (.int .u64) (.t 17))⟩, ⟨(some 8), none, (.mv (.t 18))⟩]) (.seq (.block 2 (.seq (.reg none [⟨(some 20), none, (.mv (.t 5))⟩, ⟨(some 21), none, (.mv (.t 8))⟩, ⟨(some 22), none, (.call (.f 114) [(.t 21)])⟩, ⟨(some 23), none, (.bin .add [] (.t 20) (.t 22))⟩, ⟨(some 24), none, (.bin .gtr [] (.t 23) (.k (.int .i64 64)))⟩, ⟨(some 19), none, (.mv (.t 24))⟩]) (.cond (.t 19) (.seq (.reg none [⟨(some 2), none, (.mv (.k (.int .u64 0)))⟩, ⟨(some 3), none, (.mv (.k (.int .i64 0)))⟩]) .ret) (.seq (.reg none [⟨(some 26), none, (.mv (.t 7))⟩, ⟨(some 27), none, (.bin .lss [] (.t 26) (.k (.int .u8 128)))⟩, ⟨(some 28), none, (.mv (.t 27))⟩, ⟨(some 29), (some ((some 28), true)), (.mv (.t 7))⟩, ⟨(some 30), (some ((some 28), true)), (.bin .eql [] (.t 29) (.k (.int .u8 0)))⟩, ⟨(some 31), none, (.pick (.t 28) (.t 30) (.k (.bool false)))⟩, ⟨(some 32), none, (.mv (.t 31))⟩, ⟨(some 33), (some ((some 32), true)), (.mv (.t 6))⟩, ⟨(some 34), (some ((some 32), true)), (.bin .gtr [] (.t 33) (.k (.int .i64 0)))⟩, ⟨(some 35), none, (.pick (.t 32) (.t 34) (.k (.bool false)))⟩, ⟨(some 25), none, (.mv (.t 35))⟩]) (.cond (.t 25) (.seq (.reg none [⟨(some 2), none, (.mv (.k (.int .u64 0)))⟩, ⟨(some 3), none, (.mv (.k (.int .i64 0)))⟩]) .ret) .skip))))) (.seq (.reg none [⟨(some 36), none, (.mv (.t 4))⟩, ⟨(some 37), none, (.mv (.t 8))⟩, ⟨(some 38), none, (.mv (.t 5))⟩, ⟨(some 39), none, (.bin .shl [] (.t 37) (.t 38))⟩, ⟨(some 40), none, (.bin .or [] (.t 36) (.t 39))⟩, ⟨(some 4), none, (.mv (.t 40))⟩]) (.seq (.seq (.reg none [⟨(some 41), none, (.mv (.t 7))⟩, ⟨(some 42), none, (.bin .lss [] (.t 41) (.k (.int .u8 128)))⟩]) (.cond (.t 42) (.seq (.reg none [⟨(some 43), none, (.mv (.t 4))⟩, ⟨(some 44), none, (.mv (.t 6))⟩, ⟨(some 45), none, (.bin .add [] (.t 44) (.k (.int .i64 1)))⟩, ⟨(some 2), none, (.mv (.t 43))⟩, ⟨(some 3), none, (.mv (.t 45))⟩]) .ret) .skip)) (.reg none [⟨(some 46), none, (.mv (.t 5))⟩, ⟨(some 47), none, (.bin .add [] (.t 46) (.k (.int .i64 7)))⟩, ⟨(some 5), none, (.mv (.t 47))⟩]))))))) (.reg none [⟨(some 48), none, (.bin .add [] (.t 11) (.k (.int .i64 1)))⟩, ⟨(some 11), none, (.mv (.t 48))⟩]))))
def c74 : Fn' := ⟨49, [(.tmp 2), (.tmp 3)], (.seq (.reg none [⟨(some 2), none, (.mv (.k (.int .u64 0)))⟩, ⟨(some 3), none, (.mv (.k (.int .i64 0)))⟩]) (.seq (.reg none [⟨(some 4), none, (.mv (.k (.int .u64 0)))⟩, ⟨(some 5), none, (.mv (.k (.int .i64 0)))⟩]) (.seq (.seq (.reg none [⟨(some 9), none, (.mv (.t 0))⟩, ⟨(some 10), none, (.len 1 (.t 9))⟩, ⟨(some 11), none, (.mv (.k (.int .i64 0)))⟩]) (.block 0 (.loop b74_0))) (.seq (.reg none [⟨(some 2), none, (.mv (.k (.int .u64 0)))⟩, ⟨(some 3), none, (.mv (.k (.int .i64 0)))⟩]) .ret))))⟩
theorem k74 : compF Tryz.prog 87 = some c74 := by kernel_rfl
theorem len8_ok : ∀ p, p < 128 → (p = 0 → len8 p = 0) ∧ (p ≠ 0 → 1 ≤ len8 p ∧ len8 p ≤ 7 ∧ 2 ^ (len8 p - 1) ≤ p ∧ p < 2 ^ len8 p) := by
  have h : ∀ p : Fin 128, (p.val = 0 → len8 p.val = 0) ∧ (p.val ≠ 0 → 1 ≤ len8 p.val ∧ len8 p.val ≤ 7 ∧ 2 ^ (len8 p.val - 1) ≤ p.val ∧ p.val < 2 ^ len8 p.val) := by decide +kernel
  intro p hp
  exact h ⟨p, hp⟩
def t74 (c : Bool) (l : List Int) (x sh : Int) (i : Nat) : List D := [.slc c 1 (l.map (.int .u8)), .undef, .int .u64 0, .int .i64 0, .int .u64 x, .int .i64 sh, .undef, .undef, .undef, .slc c 1 (l.map (.int .u8)), .int .i64 l.length, .int .i64 i, .undef, .undef, .undef, .undef, .undef, .undef, .undef, .undef, .undef, .undef, .undef, .undef, .undef, .undef, .undef, .undef, .undef, .undef, .undef, .undef, .undef, .undef, .undef, .undef, .undef, .undef, .undef, .undef, .undef, .undef, .undef, .undef, .undef, .undef, .undef, .undef, .undef]
def kn74 : List Kn := [.blk 0, .c ((C.reg none [⟨some 2, none, .mv (.k (.int .u64 0))⟩, ⟨some 3, none, .mv (.k (.int .i64 0))⟩]).seq C.ret)]
theorem low7 (n : Nat) (h : n < 256) : bits .andNot .u8 (n : Int) 128 = ((n % 128 : Nat) : Int) := by
  have := u8_andNot_nat n 128 h (by decide)
  have e : n &&& (255 - 128) = n % 128 := Nat.and_two_pow_sub_one_eq_mod n 7
  rw [e] at this
  exact this
def orI (k : IntKind) (a b : Int) : Int := k.wrap (BitVec.ofInt k.bits a ||| BitVec.ofInt k.bits b).toNat
def anI (k : IntKind) (a b : Int) : Int := k.wrap (BitVec.ofInt k.bits a &&& ~~~ BitVec.ofInt k.bits b).toNat
def shI (k : IntKind) (a b : Int) : Int := k.wrap (a * 2 ^ (min b.toNat k.bits))
theorem op_or (k : IntKind) (a b : Int) : intOp .or k a b = some (.int k (orI k a b)) := rfl
theorem op_an (k : IntKind) (a b : Int) : intOp .andNot k a b = some (.int k (anI k a b)) := rfl
theorem op_add (k : IntKind) (a b : Int) : intOp .add k a b = some (.int k (k.wrap (a + b))) := rfl
theorem op_eql (k : IntKind) (a b : Int) : intOp .eql k a b = some (.bool (a == b)) := rfl
theorem op_neq (k : IntKind) (a b : Int) : intOp .neq k a b = some (.bool (a != b)) := rfl
theorem op_lss (k : IntKind) (a b : Int) : intOp .lss k a b = some (.bool (a < b)) := rfl
theorem op_gtr (k : IntKind) (a b : Int) : intOp .gtr k a b = some (.bool (a > b)) := rfl
theorem op_leq (k : IntKind) (a b : Int) : intOp .leq k a b = some (.bool (a ≤ b)) := rfl
theorem op_geq (k : IntKind) (a b : Int) : intOp .geq k a b = some (.bool (a ≥ b)) := rfl
theorem op_sub (k : IntKind) (a b : Int) : intOp .sub k a b = some (.int k (k.wrap (a - b))) := rfl
theorem op_mul (k : IntKind) (a b : Int) : intOp .mul k a b = some (.int k (k.wrap (a * b))) := rfl
theorem bin_sh (fl : List Nat) (k k' : IntKind) (a b : Int) (h : ¬ b < 0) : binD .shl fl (.int k a) (.int k' b) = some (.int k (shI k a b)) := if_neg h
theorem an7 (n : Nat) (h : n < 256) : anI .u8 (n : Int) 128 = ((n % 128 : Nat) : Int) := low7 n h
theorem join7 (x p i : Nat) (hx : x < 2 ^ (7 * i)) (h : p * 2 ^ (7 * i) < 18446744073709551616) (h64 : 7 * i ≤ 64) : orI .u64 (x : Int) (shI .u64 (p : Int) ((7 * i : Nat) : Int)) = ((x + p * 2 ^ (7 * i) : Nat) : Int) := by
  have h1 : shI .u64 (p : Int) ((7 * i : Nat) : Int) = ((p * 2 ^ (7 * i) : Nat) : Int) := by
    unfold shI
    have e : min (((7 * i : Nat) : Int).toNat) (IntKind.u64.bits) = 7 * i := by
      have : IntKind.u64.bits = 64 := rfl
      rw [this]
      omega
    rw [e, IntKind.wrap_u64]
    have e2 : ((p : Int) * 2 ^ (7 * i)) = ((p * 2 ^ (7 * i) : Nat) : Int) := by simp
    rw [e2]
    omega
  have hxx : x < 18446744073709551616 := by
    have e : 2 ^ (7 * i) ≤ 2 ^ 64 := Nat.pow_le_pow_right (by decide) h64
    have e64 : (2 : Nat) ^ 64 = 18446744073709551616 := by decide
    omega
  rw [h1]
  refine (u64_or_nat x _ hxx h).trans ?_
  have e := Nat.two_pow_add_eq_or_of_lt (i := 7 * i) (b := x) hx p
  rw [Nat.or_comm, Nat.mul_comm p, ← e]
  congr 1
  omega
attribute [local simp] op_or op_an op_add op_eql op_neq op_lss op_gtr op_leq op_geq op_sub op_mul
attribute [-simp] intOp bin_shl
set_option maxHeartbeats 4000000 in
theorem L74 (c : Bool) (l : List Int) (hl : l.length ≤ 2 ^ 47) (hB : isB l) : ∀ (r pre : List Int) (x i : Nat) (xx sh : Int), l = pre ++ r → i = pre.length → x < 2 ^ (7 * i) → 7 * i ≤ 71 → xx = (x : Nat) → sh = (7 * i : Nat) →
    finK false 0 [Rs.tmp 2, Rs.tmp 3] (loopK cf0 K0 (LpB cf0 K0 b74_0 (t74 c l 0 0 0) 0 ⟨t74 c l xx sh i, []⟩) kn74) = some (.tuple [.int .u64 (res len8 x (7 * i) i (nats r)).1, .int .i64 (res len8 x (7 * i) i (nats r)).2], [])
  | [], pre, x, i, xx, sh, h, hi, hx, h7, exx, esh => by
    have : l = pre := by simpa using h
    subst this
    rw [LpB_eq]
    simp [b74_0, t74, hi, kn74, res, nats]
  | y :: r, pre, x, i, xx, sh, h, hi, hx, h7, exx, esh => by
    have hy := hB y (by rw [h]; simp)
    obtain ⟨n, rfl⟩ : ∃ n : Nat, y = n := ⟨y.toNat, by omega⟩
    have hll : i < l.length := by rw [h, hi]; simp
    have hlt : (i : Int) < l.length := by omega
    have hget : l[i]? = some (n : Int) := by rw [h, hi]; simp
    have hw := w64 (i + 1) (by omega)
    have hp := len8_ok (n % 128) (by omega)
    have hle : len8 (n % 128) ≤ 8 := by
      by_cases h0 : n % 128 = 0
      · rw [hp.1 h0]; omega
      · have := (hp.2 h0).2.1; omega
    obtain ⟨p, ep⟩ : ∃ p : Int, p = ((n % 128 : Nat) : Int) := ⟨_, rfl⟩
    obtain ⟨ln, eln⟩ : ∃ ln : Int, ln = ((len8 (n % 128) : Nat) : Int) := ⟨_, rfl⟩
    obtain ⟨nn, en⟩ : ∃ nn : Int, nn = (n : Int) := ⟨_, rfl⟩
    have han : anI .u8 nn 128 = p := by rw [en, ep]; exact an7 n (by omega)
    have hwp : IntKind.u64.wrap p = p := by rw [IntKind.wrap_u64]; omega
    have hK : K0 114 [.int .u64 p] [] = some (.int .i64 ln, []) := by rw [ep, eln]; exact K109 (n % 128) (by omega)
    have hw7 : IntKind.i64.wrap (sh + ln) = sh + ln := w64 _ (by omega)
    have hw8 : IntKind.i64.wrap (sh + 7) = sh + 7 := w64 _ (by omega)
    have hneg : ¬ sh < 0 := by omega
    have hsh : binD .shl [] (.int .u64 p) (.int .i64 sh) = some (.int .u64 (shI .u64 p sh)) := bin_sh _ _ _ _ _ hneg
    rw [← en] at hget
    have hres : nats ((n : Int) :: r) = n :: nats r := rfl
    rw [hres]
    simp only [res]
    rw [LpB_eq]
    by_cases hgt : 64 < 7 * i + len8 (n % 128)
    · have hgt' : 64 < sh + ln := by omega
      rw [if_pos hgt]
      simp only [t74]
      conv => lhs; arg 4; arg 3; arg 6; simp [b74_0, hlt, hget, han, hwp, hK, hw7, hgt']
      simp [kn74]
    · have hgt' : ¬ 64 < sh + ln := by omega
      rw [if_neg hgt]
      have hp64 : n % 128 * 2 ^ (7 * i) < 18446744073709551616 := by
        by_cases h0 : n % 128 = 0
        · rw [h0]; omega
        · have h1 := (hp.2 h0).2.2.2
          have h2 : n % 128 * 2 ^ (7 * i) < 2 ^ len8 (n % 128) * 2 ^ (7 * i) := Nat.mul_lt_mul_of_pos_right h1 (Nat.two_pow_pos _)
          rw [← Nat.pow_add] at h2
          have h3 : 2 ^ (len8 (n % 128) + 7 * i) ≤ 2 ^ 64 := Nat.pow_le_pow_right (by decide) (by omega)
          have e64 : (2 : Nat) ^ 64 = 18446744073709551616 := by decide
          omega
      have hj : orI .u64 xx (shI .u64 p sh) = ((x + n % 128 * 2 ^ (7 * i) : Nat) : Int) := by
        rw [exx, ep, esh]
        exact join7 x (n % 128) i hx hp64 (by omega)
      by_cases hn : n < 128
      · have hn' : nn < 128 := by omega
        by_cases hz : n = 0 ∧ 0 < i
        · have hz1 : (nn == 0) = true := by simp; omega
          rw [if_pos ⟨hn, hz⟩]
          simp only [t74]
          conv => lhs; arg 4; arg 3; arg 6; simp [b74_0, hlt, hget, han, hwp, hK, hw7, hgt', hn', hz1, hz.2]
          simp [kn74]
        · rw [if_neg (fun h => hz h.2), if_pos hn]
          by_cases hn0 : n = 0
          · have hi0 : i = 0 := by omega
            have hz1 : (nn == 0) = true := by simp; omega
            have hi2 : ¬ 0 < i := by omega
            simp only [t74]
            conv => lhs; arg 4; arg 3; arg 6; simp [b74_0, hlt, hget, han, hwp, hK, hw7, hgt', hn', hz1, hi2, hsh, hw, hj]
            simp [kn74]
          · have hz1 : (nn == 0) = false := by simp; omega
            simp only [t74]
            conv => lhs; arg 4; arg 3; arg 6; simp [b74_0, hlt, hget, han, hwp, hK, hw7, hgt', hn', hz1, hsh, hw, hj]
            simp [kn74]
      · have hn' : ¬ nn < 128 := by omega
        rw [if_neg (fun h => hn h.1), if_neg hn]
        simp only [t74]
        conv => lhs; arg 4; arg 3; arg 6; simp [b74_0, hlt, hget, han, hwp, hK, hw7, hgt', hn', hsh, hw, hw8]
        have hx2 : x + n % 128 * 2 ^ (7 * i) < 2 ^ (7 * (i + 1)) := by
          rw [show 7 * (i + 1) = 7 + 7 * i by omega, Nat.pow_add]
          have h1 : (n % 128 + 1) * 2 ^ (7 * i) ≤ 2 ^ 7 * 2 ^ (7 * i) := Nat.mul_le_mul_right _ (Nat.succ_le_of_lt (Nat.mod_lt n (by decide)))
          rw [Nat.add_mul] at h1
          omega
        have ih := L74 c l hl hB r (pre ++ [(n : Int)]) (x + n % 128 * 2 ^ (7 * i)) (i + 1) _ (sh + 7) (by rw [h]; simp) (by simp [hi]) hx2 (by omega) hj (by omega)
        simp only [t74] at ih
        simp at ih ⊢
        exact ih
set_option maxHeartbeats 2000000 in
/-- num.Var. -/
theorem K74 (c : Bool) (l : List Int) (hl : l.length ≤ 2 ^ 47) (hB : isB l) : K0 87 [.slc c 1 (l.map (.int .u8))] [] = some (.tuple [.int .u64 (varI l).1, .int .i64 (varI l).2], []) := by
  refine K_call k74 (oraG_none (by decide) (by decide)) (by simp [c74]) ?_
  have h := L74 c l hl hB l [] 0 0 0 0 rfl rfl (by decide) (by decide) rfl rfl
  simp only [t74, kn74] at h
  rw [res_var len8 len8_ok (nats l) (nats_lt hB)] at h
  simp [c74]
  simp at h
  rw [h]
  simp [varI]
end Go.Ab
/- THE FUNCTIONS' EQUATIONS: slices.ContainsFunc of numbers, schema.Check. -/
set_option linter.all false
set_option maxRecDepth 100000
namespace Go.Ab
open Go.Proofs Go.Proofs.YtomomeabfnmncaaGreatH Go.Proofs.YtomomeabfnmncaaGreatH.Crc Go.Proofs.YtomomeabfnmncaaGreatH.Var Go.Proofs.YtomomeabfnmncaaGreatH.Fr Go.Proofs.YtomomeabfnmncaaGreatH.Rec
def c107 : Fn' := ⟨15, [(.tmp 6)], (.seq (.reg none [⟨(some 6), none, (.mv (.k (.bool false)))⟩]) (.seq (.reg none [⟨(some 7), none, (.mv (.t 0))⟩, ⟨(some 8), none, (.mv (.t 1))⟩, ⟨(some 9), none, (.bin .geq [] (.t 7) (.t 8))⟩, ⟨(some 10), none, (.mv (.t 9))⟩, ⟨(some 11), (some ((some 10), true)), (.mv (.t 0))⟩, ⟨(some 12), (some ((some 10), true)), (.mv (.t 2))⟩, ⟨(some 13), (some ((some 10), true)), (.bin .leq [] (.t 11) (.t 12))⟩, ⟨(some 14), none, (.pick (.t 10) (.t 13) (.k (.bool false)))⟩, ⟨(some 6), none, (.mv (.t 14))⟩]) .ret))⟩
theorem k107 : compF Tryz.prog 65 = some c107 := by kernel_rfl
def c106 : Fn' := ⟨6, [(.tmp 2)], (.seq (.reg none [⟨(some 2), none, (.mv (.k (.bool false)))⟩]) (.seq (.reg none [⟨(some 3), none, (.mv (.t 0))⟩, ⟨(some 4), none, (.call (.f 65) [(.t 3), (.k (.int .i64 1)), (.k (.int .i64 3))])⟩, ⟨(some 5), none, (.un .not (.t 4))⟩, ⟨(some 2), none, (.mv (.t 5))⟩]) .ret))⟩
theorem k106 : compF Tryz.prog 64 = some c106 := by kernel_rfl
def b105_0 : C := (.seq (.reg none [⟨(some 9), none, (.bin .lss [] (.t 8) (.t 7))⟩]) (.seq (.cond (.t 9) .skip (.exit 0)) (.seq (.block 1 (.seq (.reg none [⟨(some 10), none, (.mv (.t 8))⟩, ⟨(some 5), none, (.mv (.t 10))⟩]) (.seq (.reg none [⟨(some 11), none, (.mv (.t 1))⟩, ⟨(some 12), none, (.mv (.t 0))⟩, ⟨(some 13), none, (.mv (.t 5))⟩, ⟨(some 14), none, (.ia none 1 false (.t 12) (.t 13))⟩, ⟨(some 15), none, (.ld none (.t 14))⟩, ⟨(some 16), none, (.call (.t 11) [(.t 15)])⟩]) (.cond (.t 16) (.seq (.reg none [⟨(some 17), none, (.mv (.t 5))⟩, ⟨(some 4), none, (.mv (.t 17))⟩]) .ret) .skip)))) (.reg none [⟨(some 18), none, (.bin .add [] (.t 8) (.k (.int .i64 1)))⟩, ⟨(some 8), none, (.mv (.t 18))⟩]))))
def c105 : Fn' := ⟨19, [(.tmp 4)], (.seq (.reg none [⟨(some 4), none, (.mv (.k (.int .i64 0)))⟩]) (.seq (.seq (.reg none [⟨(some 6), none, (.mv (.t 0))⟩, ⟨(some 7), none, (.len 1 (.t 6))⟩, ⟨(some 8), none, (.mv (.k (.int .i64 0)))⟩]) (.block 0 (.loop b105_0))) (.seq (.reg none [⟨(some 4), none, (.mv (.k (.int .i64 (-1))))⟩]) .ret)))⟩
theorem k105 : compF Tryz.prog 105 = some c105 := by kernel_rfl
def c70 : Fn' := ⟨9, [(.tmp 4)], (.seq (.reg none [⟨(some 4), none, (.mv (.k (.bool false)))⟩]) (.seq (.reg none [⟨(some 5), none, (.mv (.t 0))⟩, ⟨(some 6), none, (.mv (.t 1))⟩, ⟨(some 7), none, (.call (.f 105) [(.t 5), (.t 6)])⟩, ⟨(some 8), none, (.bin .geq [] (.t 7) (.k (.int .i64 0)))⟩, ⟨(some 4), none, (.mv (.t 8))⟩]) .ret))⟩
theorem k70 : compF Tryz.prog 66 = some c70 := by kernel_rfl
def c71 : Fn' := ⟨36, [(.tmp 2)], (.seq (.reg none [⟨(some 1), none, (.box false (.t 0))⟩, ⟨(some 2), none, (.mv (.k (.int .i64 0)))⟩]) (.seq (.reg none [⟨(some 5), none, (.fa 0 1 false (.t 1))⟩, ⟨(some 6), none, (.ld none (.t 5))⟩, ⟨(some 7), none, (.len 1 (.t 6))⟩, ⟨(some 3), none, (.mv (.t 7))⟩]) (.seq (.reg none [⟨(some 4), none, (.mv (.f 64))⟩]) (.seq (.seq (.reg none [⟨(some 8), none, (.mv (.t 3))⟩, ⟨(some 9), none, (.call (.f 65) [(.t 8), (.k (.int .i64 1)), (.k (.int .i64 64))])⟩, ⟨(some 10), none, (.un .not (.t 9))⟩, ⟨(some 11), none, (.mv (.t 10))⟩, ⟨(some 12), (some ((some 11), false)), (.fa 0 1 false (.t 1))⟩, ⟨(some 13), (some ((some 11), false)), (.ld none (.t 12))⟩, ⟨(some 14), (some ((some 11), false)), (.mv (.t 4))⟩, ⟨(some 15), (some ((some 11), false)), (.call (.f 66) [(.t 13), (.t 14)])⟩, ⟨(some 16), none, (.pick (.t 11) (.k (.bool true)) (.t 15))⟩, ⟨(some 17), none, (.mv (.t 16))⟩, ⟨(some 18), (some ((some 17), false)), (.fa 1 1 false (.t 1))⟩, ⟨(some 19), (some ((some 17), false)), (.ld none (.t 18))⟩, ⟨(some 20), (some ((some 17), false)), (.mv (.t 3))⟩, ⟨(some 21), (some ((some 17), false)), (.call (.f 65) [(.t 19), (.k (.int .i64 1)), (.t 20)])⟩, ⟨(some 22), (some ((some 17), false)), (.un .not (.t 21))⟩, ⟨(some 23), none, (.pick (.t 17) (.k (.bool true)) (.t 22))⟩, ⟨(some 24), none, (.mv (.t 23))⟩, ⟨(some 25), (some ((some 24), false)), (.fa 2 1 false (.t 1))⟩, ⟨(some 26), (some ((some 24), false)), (.ld none (.t 25))⟩, ⟨(some 27), (some ((some 24), false)), (.call (.f 65) [(.t 26), (.k (.int .i64 1)), (.k (.int .i64 3))])⟩, ⟨(some 28), (some ((some 24), false)), (.un .not (.t 27))⟩, ⟨(some 29), none, (.pick (.t 24) (.k (.bool true)) (.t 28))⟩, ⟨(some 30), none, (.mv (.t 29))⟩, ⟨(some 31), (some ((some 30), false)), (.fa 3 1 false (.t 1))⟩, ⟨(some 32), (some ((some 30), false)), (.ld none (.t 31))⟩, ⟨(some 33), (some ((some 30), false)), (.call (.f 65) [(.t 32), (.k (.int .i64 1)), (.k (.int .i64 64))])⟩, ⟨(some 34), (some ((some 30), false)), (.un .not (.t 33))⟩, ⟨(some 35), none, (.pick (.t 30) (.k (.bool true)) (.t 34))⟩]) (.cond (.t 35) (.seq (.reg none [⟨(some 2), none, (.mv (.k (.int .i64 20)))⟩]) .ret) .skip)) (.seq (.reg none [⟨(some 2), none, (.mv (.k (.int .i64 0)))⟩]) .ret)))))⟩
theorem k71 : compF Tryz.prog 29 = some c71 := by kernel_rfl
attribute [local simp] op_or op_an op_add op_eql op_neq op_lss op_gtr op_leq op_geq op_sub op_mul
attribute [-simp] intOp bin_shl
set_option maxHeartbeats 2000000 in
theorem K107 (n a b : Int) : K0 65 [.int .i64 n, .int .i64 a, .int .i64 b] [] = some (.bool (within n a b), []) := by
  refine K_call k107 (oraG_none (by decide) (by decide)) (by simp [c107]) ?_
  by_cases h : a ≤ n
  · simp [c107, h, within]
  · simp [c107, h, within]
set_option maxHeartbeats 2000000 in
theorem K106 (n : Int) : K0 64 [.int .i64 n] [] = some (.bool (!within n 1 3), []) := by
  refine K_call k106 (oraG_none (by decide) (by decide)) (by simp [c106]) ?_
  simp [c106, K107]
def t105 (c : Bool) (s : Nat) (l : List Int) (f i : Nat) : List D := [.slc c s (l.map (.int .i64)), .func f [] [], .undef, .undef, .int .i64 0, .undef, .slc c s (l.map (.int .i64)), .int .i64 l.length, .int .i64 i, .undef, .undef, .undef, .undef, .undef, .undef, .undef, .undef, .undef, .undef]
def kn105 : List Kn := [.blk 0, .c ((C.reg none [⟨some 4, none, .mv (.k (.int .i64 (-1)))⟩]).seq C.ret)]
set_option maxHeartbeats 4000000 in
theorem L105 (c : Bool) (l : List Int) (f : Nat) (p : Int → Bool) (hf : ∀ x, K0 f [.int .i64 x] [] = some (.bool (p x), [])) (hl : l.length ≤ 2 ^ 47) : ∀ (t pre : List Int) (i : Nat), l = pre ++ t → i = pre.length →
    finK false 0 [Rs.tmp 4] (loopK cf0 K0 (LpB cf0 K0 b105_0 (t105 c 1 l f 0) 0 ⟨t105 c 1 l f i, []⟩) kn105) = some (.int .i64 (if t.any p then ((i + t.findIdx p : Nat) : Int) else -1), [])
  | [], pre, i, h, hi => by
    have : l = pre := by simpa using h
    subst this
    rw [LpB_eq]
    simp [b105_0, t105, hi, kn105]
  | x :: t, pre, i, h, hi => by
    have hll : i < l.length := by rw [h, hi]; simp
    have hlt : (i : Int) < l.length := by omega
    have hget : l[i]? = some x := by rw [h, hi]; simp
    have hw := w64 (i + 1) (by omega)
    have hfx := hf x
    rw [LpB_eq]
    cases hp : p x with
    | true =>
      rw [hp] at hfx
      have e : (if (x :: t).any p = true then ((i + (x :: t).findIdx p : Nat) : Int) else -1) = i := by simp [hp, List.findIdx_cons]
      rw [e]
      simp only [t105]
      conv => lhs; arg 4; arg 3; arg 6; simp [b105_0, hlt, hget, hfx]
      simp [kn105]
    | false =>
      rw [hp] at hfx
      have e : (if (x :: t).any p = true then ((i + (x :: t).findIdx p : Nat) : Int) else -1) = if t.any p = true then ((i + 1 + t.findIdx p : Nat) : Int) else -1 := by simp [hp, List.findIdx_cons, Nat.add_assoc, Nat.add_comm 1]
      rw [e]
      have ih := L105 c l f p hf hl t (pre ++ [x]) (i + 1) (by rw [h]; simp) (by simp [hi])
      simp only [t105] at ih ⊢
      conv => lhs; arg 4; arg 3; arg 6; simp [b105_0, hlt, hget, hfx, hw]
      simp at ih ⊢
      exact ih
set_option maxHeartbeats 2000000 in
theorem K105 (c : Bool) (s : Nat) (l : List Int) (hs : s = 1 ∨ l = []) (f : Nat) (p : Int → Bool) (hf : ∀ x, K0 f [.int .i64 x] [] = some (.bool (p x), [])) (hl : l.length ≤ 2 ^ 47) :
    K0 105 [.slc c s (l.map (.int .i64)), .func f [] []] [] = some (.int .i64 (if l.any p then ((l.findIdx p : Nat) : Int) else -1), []) := by
  refine K_call k105 (oraG_none (by decide) (by decide)) (by simp [c105]) ?_
  rcases hs with rfl | rfl
  · have h := L105 c l f p hf hl l [] 0 rfl rfl
    simp only [t105, kn105, Nat.zero_add] at h
    simp [c105]
    simp at h
    exact h
  · simp [c105]
    rw [LpB_eq]
    simp [b105_0]
set_option maxHeartbeats 2000000 in
/-- slices.ContainsFunc, of numbers. -/
theorem K70 (c : Bool) (s : Nat) (l : List Int) (hs : s = 1 ∨ l = []) (f : Nat) (p : Int → Bool) (hf : ∀ x, K0 f [.int .i64 x] [] = some (.bool (p x), [])) (hl : l.length ≤ 2 ^ 47) :
    K0 66 [.slc c s (l.map (.int .i64)), .func f [] []] [] = some (.bool (l.any p), []) := by
  refine K_call k70 (oraG_none (by decide) (by decide)) (by simp [c70]) ?_
  have h := K105 c s l hs f p hf hl
  cases ha : l.any p with
  | true =>
    rw [ha] at h
    simp only [if_true] at h
    simp [c70, h]
  | false =>
    rw [ha] at h
    simp only [Bool.false_eq_true, if_false] at h
    simp [c70, h]
/-- A schema. -/
def Sd (c : Bool) (s : Nat) (ts : List Int) (k m g : Int) : D := .agg [.slc c s (ts.map (.int .i64)), .int .i64 k, .int .i64 m, .int .i64 g]
set_option maxHeartbeats 4000000 in
/-- schema.Check. -/
theorem K71 (c : Bool) (s : Nat) (ts : List Int) (hs : s = 1 ∨ ts = []) (k m g : Int) (hl : ts.length ≤ 2 ^ 47) : K0 29 [Sd c s ts k m g] [] = some (.int .i64 (checkI ts k m g), []) := by
  refine K_call k71 (oraG_none (by decide) (by decide)) (by simp [c71, Sd]) ?_
  have h1 := K107 (ts.length : Int) 1 64
  have h2 := K70 c s ts hs 64 (fun t => !within t 1 3) K106 hl
  have h3 := K107 k 1 (ts.length : Int)
  have h4 := K107 m 1 3
  have h5 := K107 g 1 64
  have e : checkI ts k m g = if (within ts.length 1 64 && !(ts.any fun t => !within t 1 3) && within k 1 ts.length && within m 1 3 && within g 1 64) = true then 0 else 20 := by
    have : (!(ts.any fun t => !within t 1 3)) = ts.all (fun t => within t 1 3) := by
      rw [List.not_any_eq_all_not]
      simp
    rw [this]
    rfl
  rw [e]
  generalize within (ts.length : Int) 1 64 = b1 at *
  generalize (ts.any fun t => !within t 1 3) = b2 at *
  generalize within k 1 (ts.length : Int) = b3 at *
  generalize within m 1 3 = b4 at *
  generalize within g 1 64 = b5 at *
  unfold Sd
  cases b1
  · simp [c71, h1]
  obtain rfl | rfl : b2 = true ∨ b2 = false := by cases b2 <;> simp
  · simp [c71, h1, h2]
  cases b3
  · simp [c71, h1, h2, h3]
  cases b4
  · simp [c71, h1, h2, h3, h4]
  cases b5
  · simp [c71, h1, h2, h3, h4, h5]
  · simp [c71, h1, h2, h3, h4, h5]
end Go.Ab
/- COMPARISONS that simp leaves as they are; slices against nil. -/
set_option linter.all false
set_option maxRecDepth 100000
namespace Go.Ab
open Go.Proofs
/-- Comparisons that simp leaves as they are. -/
def eqI (a b : Int) : Bool := a == b
def neI (a b : Int) : Bool := a != b
def ltI (a b : Int) : Bool := decide (a < b)
def leI (a b : Int) : Bool := decide (a ≤ b)
theorem oq_eql (k : IntKind) (a b : Int) : intOp .eql k a b = some (.bool (eqI a b)) := rfl
theorem oq_neq (k : IntKind) (a b : Int) : intOp .neq k a b = some (.bool (neI a b)) := rfl
theorem oq_lss (k : IntKind) (a b : Int) : intOp .lss k a b = some (.bool (ltI a b)) := rfl
theorem oq_gtr (k : IntKind) (a b : Int) : intOp .gtr k a b = some (.bool (ltI b a)) := rfl
theorem oq_leq (k : IntKind) (a b : Int) : intOp .leq k a b = some (.bool (leI a b)) := rfl
theorem oq_geq (k : IntKind) (a b : Int) : intOp .geq k a b = some (.bool (leI b a)) := rfl
theorem eqI_t {a b : Int} (h : a = b) : eqI a b = true := by simpa [eqI] using h
theorem eqI_f {a b : Int} (h : ¬ a = b) : eqI a b = false := by simpa [eqI] using h
theorem neI_t {a b : Int} (h : ¬ a = b) : neI a b = true := by simpa [neI] using h
theorem neI_f {a b : Int} (h : a = b) : neI a b = false := by simpa [neI] using h
theorem ltI_t {a b : Int} (h : a < b) : ltI a b = true := by simpa [ltI] using h
theorem ltI_f {a b : Int} (h : ¬ a < b) : ltI a b = false := by simpa [ltI] using h
theorem leI_t {a b : Int} (h : a ≤ b) : leI a b = true := by simpa [leI] using h
theorem leI_f {a b : Int} (h : ¬ a ≤ b) : leI a b = false := by simpa [leI] using h
theorem nil_or (c : Bool) (s : Nat) (l : List Int) : (c = true ∧ s = 0 ∧ l = []) ∨ D.isNil (.slc c s (l.map (.int .i64))) = false := by
  cases c with
  | false => exact .inr rfl
  | true =>
    cases s with
    | succ n => exact .inr rfl
    | zero => cases l with
      | nil => exact .inl ⟨rfl, rfl, rfl⟩
      | cons x l => exact .inr rfl
theorem isNil_nil : D.isNil (.slc true 0 []) = true := rfl
theorem isNil_int (k : IntKind) (n : Int) : D.isNil (.int k n) = false := rfl
theorem isNil_cons (c : Bool) (s : Nat) (x : D) (l : List D) : D.isNil (.slc c s (x :: l)) = false := by cases c <;> cases s <;> rfl
attribute [simp] isNil_nil isNil_int isNil_cons
end Go.Ab
