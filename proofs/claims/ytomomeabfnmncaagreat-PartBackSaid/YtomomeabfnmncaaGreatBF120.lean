/- THE FUNCTIONS' EQUATIONS: num.Get64. -/
import Derived.Test.YtomomeabfnmncaaGreatBF26
import Derived.Test.YtomomeabfnmncaaGreatBBr
import Derived.Test.YtomomeabfnmncaaGreatBF75
set_option linter.all false
set_option maxRecDepth 100000
namespace Go.Ab
open Go.Proofs Go.Proofs.YtomomeabfnmncaaGreatH Go.Proofs.YtomomeabfnmncaaGreatH.Crc Go.Proofs.YtomomeabfnmncaaGreatH.Var Go.Proofs.YtomomeabfnmncaaGreatH.Fr
def b120_0 : C := (.seq (.reg none [⟨(some 14), none, (.bin .lss [] (.t 13) (.t 12))⟩]) (.seq (.cond (.t 14) .skip (.exit 0)) (.seq (.block 1 (.seq (.reg none [⟨(some 15), none, (.mv (.t 13))⟩, ⟨(some 16), none, (.ia none 1 false (.t 11) (.t 13))⟩, ⟨(some 17), none, (.ld none (.t 16))⟩, ⟨(some 5), none, (.mv (.t 15))⟩, ⟨(some 6), none, (.mv (.t 17))⟩]) (.reg none [⟨(some 18), none, (.mv (.t 4))⟩, ⟨(some 19), none, (.mv (.t 6))⟩, ⟨(some 20), none, (.cvt (.int .u64) (.t 19))⟩, ⟨(some 21), none, (.mv (.t 5))⟩, ⟨(some 22), none, (.bin .mul [] (.k (.int .i64 8)) (.t 21))⟩, ⟨(some 23), none, (.bin .shl [] (.t 20) (.t 22))⟩, ⟨(some 24), none, (.bin .or [] (.t 18) (.t 23))⟩, ⟨(some 4), none, (.mv (.t 24))⟩]))) (.reg none [⟨(some 25), none, (.bin .add [] (.t 13) (.k (.int .i64 1)))⟩, ⟨(some 13), none, (.mv (.t 25))⟩]))))
def c120 : Fn' := ⟨27, [(.tmp 2), (.tmp 3)], (.seq (.reg none [⟨(some 2), none, (.mv (.k (.int .u64 0)))⟩, ⟨(some 3), none, (.mv (.k (.bool false)))⟩]) (.seq (.seq (.reg none [⟨(some 7), none, (.mv (.t 0))⟩, ⟨(some 8), none, (.len 1 (.t 7))⟩, ⟨(some 9), none, (.bin .lss [] (.t 8) (.k (.int .i64 8)))⟩]) (.cond (.t 9) (.seq (.reg none [⟨(some 2), none, (.mv (.k (.int .u64 0)))⟩, ⟨(some 3), none, (.mv (.k (.bool false)))⟩]) .ret) .skip)) (.seq (.reg none [⟨(some 4), none, (.mv (.k (.int .u64 0)))⟩]) (.seq (.seq (.reg none [⟨(some 10), none, (.mv (.t 0))⟩, ⟨(some 11), none, (.sub 1 1 (.t 10) none (some (.k (.int .i64 8))) none)⟩, ⟨(some 12), none, (.len 1 (.t 11))⟩, ⟨(some 13), none, (.mv (.k (.int .i64 0)))⟩]) (.block 0 (.loop b120_0))) (.seq (.reg none [⟨(some 26), none, (.mv (.t 4))⟩, ⟨(some 2), none, (.mv (.t 26))⟩, ⟨(some 3), none, (.mv (.k (.bool true)))⟩]) .ret)))))⟩
theorem k120 : compF Tryz.prog 42 = some c120 := by kernel_rfl
attribute [local simp] op_or op_an op_add op_sub op_mul oq_eql oq_neq oq_lss oq_gtr oq_leq oq_geq
attribute [-simp] intOp bin_shl bin_shr
/-- The number of bytes, the least first. -/
def leN : List Int → Nat
  | [] => 0
  | c :: t => c.toNat + 256 * leN t
theorem leN_lt : ∀ l : List Int, isB l → leN l < 2 ^ (8 * l.length)
  | [], _ => by simp [leN]
  | c :: t, h => by
    obtain ⟨hc, ht⟩ := isB_cons h
    have := leN_lt t ht
    simp only [leN, List.length_cons]
    have e : 2 ^ (8 * (t.length + 1)) = 256 * 2 ^ (8 * t.length) := by rw [Nat.mul_add, Nat.pow_add]; omega
    rw [e]
    omega
theorem leN_append : ∀ (a b : List Int), leN (a ++ b) = leN a + 2 ^ (8 * a.length) * leN b
  | [], b => by simp [leN]
  | c :: t, b => by
    have := leN_append t b
    have e : 2 ^ (8 * (t.length + 1)) = 256 * 2 ^ (8 * t.length) := by rw [Nat.mul_add, Nat.pow_add]; omega
    show c.toNat + 256 * leN (t ++ b) = c.toNat + 256 * leN t + 2 ^ (8 * (t.length + 1)) * leN b
    rw [this, e, Nat.mul_add, Nat.mul_assoc]
    omega
theorem join8 (x c i : Nat) (hx : x < 2 ^ (8 * i)) (hc : c < 256) (hi : i < 8) : orI .u64 (x : Int) (shI .u64 (c : Int) (8 * (i : Int))) = ((x + 2 ^ (8 * i) * c : Nat) : Int) := by
  have hp : c * 2 ^ (8 * i) < 18446744073709551616 := by
    have e : 2 ^ (8 * i) ≤ 2 ^ 56 := Nat.pow_le_pow_right (by decide) (by omega)
    have : c * 2 ^ (8 * i) ≤ 255 * 2 ^ 56 := Nat.mul_le_mul (by omega) e
    have e2 : 255 * 2 ^ 56 < 18446744073709551616 := by decide
    omega
  have h1 : shI .u64 (c : Int) (8 * (i : Int)) = ((c * 2 ^ (8 * i) : Nat) : Int) := by
    unfold shI
    have e : min ((8 * (i : Int)).toNat) (IntKind.u64.bits) = 8 * i := by
      have : IntKind.u64.bits = 64 := rfl
      rw [this]
      omega
    rw [e, IntKind.wrap_u64]
    have e2 : ((c : Int) * 2 ^ (8 * i)) = ((c * 2 ^ (8 * i) : Nat) : Int) := by simp
    rw [e2]
    omega
  have hxx : x < 18446744073709551616 := by
    have e : 2 ^ (8 * i) ≤ 2 ^ 64 := Nat.pow_le_pow_right (by decide) (by omega)
    have e64 : (2 : Nat) ^ 64 = 18446744073709551616 := by decide
    omega
  rw [h1]
  refine (u64_or_nat x _ hxx hp).trans ?_
  have e := Nat.two_pow_add_eq_or_of_lt (i := 8 * i) (b := x) hx c
  rw [Nat.or_comm, Nat.mul_comm c, ← e]
  congr 1
  omega
def t120 (c cl : Bool) (l R : List Int) (x : Int) (i : Nat) : List D := [.slc c 1 (l.map (.int .u8)), .undef, .int .u64 0, .bool false, .int .u64 x, .undef, .undef, .slc c 1 (l.map (.int .u8)), .int .i64 l.length, .bool false, .slc c 1 (l.map (.int .u8)), .slc cl 1 (R.map (.int .u8)), .int .i64 R.length, .int .i64 i, .undef, .undef, .undef, .undef, .undef, .undef, .undef, .undef, .undef, .undef, .undef, .undef, .undef]
set_option maxHeartbeats 4000000 in
theorem L120 (c cl : Bool) (l R : List Int) (hR : R.length = 8) (hB : isB R) : ∀ (t pre : List Int) (x : Int) (i : Nat), R = pre ++ t → i = pre.length → x = (leN pre : Nat) →
    LpB cf0 K0 b120_0 (t120 c cl l R 0 0) 0 ⟨t120 c cl l R x i, []⟩ = some (.exit 0, ⟨t120 c cl l R (leN R : Nat) R.length, []⟩)
  | [], pre, x, i, h, hi, hx => by
    have : R = pre := by simpa using h
    subst this
    have z1 : ltI (i : Int) R.length = false := ltI_f (by omega)
    rw [LpB_eq]
    simp only [t120]
    conv => lhs; arg 6; simp [b120_0, z1]
    simp [hi, hx]
  | n :: t, pre, x, i, h, hi, hx => by
    have hi8 : i < 8 := by have : R.length = pre.length + (t.length + 1) := by rw [h]; simp
                           omega
    have hll : i < R.length := by omega
    have z1 : ltI (i : Int) R.length = true := ltI_t (by omega)
    have hget : R[i]? = some n := by rw [h, hi]; simp
    have hgi : R[i]'hll = n := by rw [List.getElem?_eq_getElem hll] at hget; exact Option.some.inj hget
    have hn : 0 ≤ n ∧ n < 256 := hB n (by rw [h]; simp)
    have hpB : isB pre := fun y hy => hB y (by rw [h]; simp [hy])
    have hw := w64 (i + 1) (by omega)
    have hw8 : IntKind.i64.wrap (8 * (i : Int)) = 8 * (i : Int) := w64 _ (by omega)
    have hwn : IntKind.u64.wrap n = n := by rw [IntKind.wrap_u64]; omega
    have hsh : binD .shl [] (.int .u64 n) (.int .i64 (8 * (i : Int))) = some (.int .u64 (shI .u64 n (8 * (i : Int)))) := bin_sh _ _ _ _ _ (by omega)
    have hlt := leN_lt pre hpB
    rw [← hi] at hlt
    have hj := join8 (leN pre) n.toNat i hlt (by omega) hi8
    have en : ((n.toNat : Nat) : Int) = n := by omega
    rw [en] at hj
    have ea : leN pre + 2 ^ (8 * i) * n.toNat = leN (pre ++ [n]) := by rw [leN_append, hi]; simp [leN]
    rw [ea, ← hx] at hj
    have ih := L120 c cl l R hR hB t (pre ++ [n]) _ (i + 1) (by rw [h]; simp) (by simp [hi]) rfl
    generalize leN (pre ++ [n]) = x' at *
    generalize leN R = XX at *
    rw [LpB_eq]
    simp only [t120] at ih ⊢
    conv => lhs; arg 6; simp [b120_0, z1, hll, hgi, hw, hw8, hwn, hsh, hj]
    exact ih
/-- num.Get64. -/
theorem K120 (c : Bool) (l : List Int) (hl : l.length ≤ 2 ^ 47) (hB : isB l) : K0 42 [.slc c 1 (l.map (.int .u8))] [] = some (.tuple (if l.length < 8 then [.int .u64 0, .bool false] else [.int .u64 (leN (l.take 8) : Nat), .bool true]), []) := by
  refine K_call k120 (oraG_none (by decide) (by decide)) (by simp [c120]) ?_
  by_cases h8 : l.length < 8
  · have z1 : ltI (l.length : Int) 8 = true := ltI_t (by omega)
    simp [c120, z1, h8]
  · have z1 : ltI (l.length : Int) 8 = false := ltI_f (by omega)
    have h8' : 8 ≤ l.length := by omega
    obtain ⟨R, hR⟩ : ∃ R, R = l.take 8 := ⟨_, rfl⟩
    have hRl : R.length = 8 := by rw [hR]; simp; omega
    have m1 : List.take 8 (l.map (D.int .u8)) = R.map (.int .u8) := by rw [hR, List.map_take]
    rw [← hR]
    have h9 : (8 : Int) ≤ (l.length : Int) := by omega
    have h := L120 c (c && 8 == l.length) l R hRl (by rw [hR]; exact isB_take hB 8) R [] 0 0 rfl rfl rfl
    generalize leN R = X at *
    simp only [t120, hRl] at h
    simp [c120, z1, h8, h8', h9, m1, hRl]
    simp at h
    rw [h]
    simp
end Go.Ab
/- THE FUNCTIONS' EQUATIONS: ints' wide. -/
set_option linter.all false
set_option maxRecDepth 100000
namespace Go.Ab
open Go.Proofs Go.Proofs.YtomomeabfnmncaaGreatH Go.Proofs.YtomomeabfnmncaaGreatH.Crc Go.Proofs.YtomomeabfnmncaaGreatH.Var Go.Proofs.YtomomeabfnmncaaGreatH.Fr
def b118_0 : C := (.seq (.reg none [⟨(some 11), none, (.bin .lss [] (.t 10) (.t 9))⟩]) (.seq (.cond (.t 11) .skip (.exit 0)) (.seq (.block 1 (.seq (.reg none [⟨(some 13), none, (.mv (.t 0))⟩, ⟨(some 14), none, (.call (.f 42) [(.t 13)])⟩, ⟨(some 12), none, (.mv (.t 14))⟩, ⟨(some 15), none, (.ext (.t 12) 0)⟩, ⟨(some 16), none, (.ext (.t 12) 1)⟩, ⟨(some 7), none, (.mv (.t 15))⟩, ⟨(some 8), none, (.mv (.t 16))⟩]) (.seq (.seq (.reg none [⟨(some 17), none, (.mv (.t 8))⟩, ⟨(some 18), none, (.un .not (.t 17))⟩]) (.cond (.t 18) (.seq (.reg none [⟨(some 4), none, (.mv (.k nilS))⟩, ⟨(some 5), none, (.mv (.k (.bool false)))⟩]) .ret) .skip)) (.reg (some [(3, 6), (4, 6)]) [⟨(some 19), none, (.mv (.t 6))⟩, ⟨(some 20), none, (.mv (.t 7))⟩, ⟨(some 21), none, (.cvt (.int .i64) (.t 20))⟩, ⟨(some 22), none, (.bsl false 1 1 [(.int .i64 0)] [(0, (.t 21))])⟩, ⟨(some 23), none, (.app 1 8 (.t 19) (.t 22))⟩, ⟨(some 24), none, (.mv (.t 0))⟩, ⟨(some 25), none, (.sub 1 1 (.t 24) (some (.k (.int .i64 8))) none none)⟩, ⟨(some 6), none, (.mv (.t 23))⟩, ⟨(some 0), none, (.mv (.t 25))⟩])))) (.reg none [⟨(some 26), none, (.bin .add [] (.t 10) (.k (.int .i64 1)))⟩, ⟨(some 10), none, (.mv (.t 26))⟩]))))
def c118 : Fn' := ⟨28, [(.tmp 4), (.tmp 5)], (.seq (.reg none [⟨(some 4), none, (.mv (.k nilS))⟩, ⟨(some 5), none, (.mv (.k (.bool false)))⟩]) (.seq (.reg none [⟨(some 6), none, .nilrow⟩]) (.seq (.seq (.reg none [⟨(some 9), none, (.mv (.t 1))⟩, ⟨(some 10), none, (.mv (.k (.int .i64 0)))⟩]) (.block 0 (.loop b118_0))) (.seq (.reg none [⟨(some 27), none, (.mv (.t 6))⟩, ⟨(some 4), none, (.mv (.t 27))⟩, ⟨(some 5), none, (.mv (.k (.bool true)))⟩]) .ret))))⟩
theorem k118 : compF Tryz.prog 149 = some c118 := by kernel_rfl
attribute [local simp] op_or op_an op_add op_sub op_mul oq_eql oq_neq oq_lss oq_gtr oq_leq oq_geq
attribute [-simp] intOp bin_shl bin_shr
/-- So many numbers of 8 bytes. -/
def wideI : Nat → List Int → Option (List Int)
  | 0, _ => some []
  | n + 1, l => if l.length < 8 then none else (wideI n (l.drop 8)).map (IntKind.i64.wrap (leN (l.take 8) : Nat) :: ·)
theorem Ks_rt {cf : Cfg} {call : CallFn} (k : List Kn) (s : St) : Ks cf call k .ret s = some (.ret, s) := by
  induction k with
  | nil => rfl
  | cons x k ih => cases x <;> simpa [Ks] using ih
def rowN (l : List Int) : Obj := .row (if l = [] then 0 else 1) (l.map (.int .i64)) 0
def t118 (c : Bool) (l : List Int) (n : Nat) (a i : Nat) : List D := [.slc c 1 (l.map (.int .u8)), .int .i64 n, .undef, .undef, nilS, .bool false, .sl 0 0 a a, .undef, .undef, .int .i64 n, .int .i64 i, .undef, .undef, .undef, .undef, .undef, .undef, .undef, .undef, .undef, .undef, .undef, .undef, .undef, .undef, .undef, .undef, .undef]
def kn118 : List Kn := [.blk 0, .c ((C.reg none [⟨some 27, none, .mv (.t 6)⟩, ⟨some 4, none, .mv (.t 27)⟩, ⟨some 5, none, .mv (.k (.bool true))⟩]).seq C.ret)]
def V118 (acc : List Int) : Option (List Int) → D
  | none => .tuple [nilS, .bool false]
  | some t => .tuple [if acc ++ t = [] then .slc true 0 [] else .slc false 1 ((acc ++ t).map (.int .i64)), .bool true]
set_option maxHeartbeats 4000000 in
theorem L118 (c : Bool) (y : List Int) (n : Nat) (hn : n ≤ 2 ^ 30) : ∀ (k : Nat) (l acc : List Int) (a i : Nat), l.length ≤ 2 ^ 40 → i + k = n → a = acc.length → acc.length = i → isB l →
    finK false 0 [.tmp 4, .tmp 5] (loopK cf0 K0 (LpB cf0 K0 b118_0 (t118 c y n 0 0) 1 ⟨t118 c l n a i, [rowN acc]⟩) kn118) = some (V118 acc (wideI k l), [])
  | 0, l, acc, a, i, hl, hi, ha, hai, hB => by
    have z1 : ltI (i : Int) n = false := ltI_f (by omega)
    rw [LpB_eq]
    simp only [t118, rowN, wideI, V118]
    conv => lhs; arg 4; arg 3; arg 6; simp [b118_0, z1]
    by_cases hacc : acc = []
    · subst hacc
      subst ha
      simp [kn118]
    · simp [kn118, hacc, ha, List.take_of_length_le]
  | k + 1, l, acc, a, i, hl, hi, ha, hai, hB => by
    have z1 : ltI (i : Int) n = true := ltI_t (by omega)
    have hw := w64 (i + 1) (by omega)
    have hK := fun c => K120 c l (by omega) hB
    rw [LpB_eq]
    simp only [wideI]
    by_cases h8 : l.length < 8
    · simp only [if_pos h8] at hK ⊢
      simp only [t118, rowN, V118]
      conv => lhs; arg 4; arg 3; arg 6; simp [b118_0, z1, hK]
      simp [Ks_rt]
    · simp only [if_neg h8] at hK ⊢
      obtain ⟨r, hr⟩ : ∃ r, r = l.drop 8 := ⟨_, rfl⟩
      have m1 : List.drop 8 (l.map (D.int .u8)) = r.map (.int .u8) := by rw [hr, List.map_drop]
      rw [← hr]
      obtain ⟨x, hx⟩ : ∃ x : Int, x = IntKind.i64.wrap (leN (l.take 8) : Nat) := ⟨_, rfl⟩
      have hx' := hx.symm
      rw [hx']
      generalize ((leN (l.take 8) : Nat) : Int) = u at *
      have ih := L118 c y n hn k r (acc ++ [x]) (acc ++ [x]).length (i + 1) (by rw [hr]; simp; omega) (by omega) rfl (by simp [hai]) (by rw [hr]; exact isB_drop hB 8)
      have eV : V118 acc ((wideI k r).map (x :: ·)) = V118 (acc ++ [x]) (wideI k r) := by
        cases wideI k r <;> simp [V118]
      rw [eV]
      generalize V118 (acc ++ [x]) (wideI k r) = V at *
      have h9 : 8 ≤ l.length := by omega
      have h9' : (8 : Int) ≤ (l.length : Int) := by omega
      have hb1 : (acc.length + 1) * 8 ≤ 70368744177664 := by omega
      simp only [t118, rowN] at ih ⊢
      by_cases hacc : acc = []
      · subst hacc
        subst ha
        conv => lhs; arg 4; arg 3; arg 6; simp [b118_0, z1, hK, hx', hw, h9, h9', m1, evOp, evM, wants, Ins.go, X.ev, iaM, ldM, binD, setD, applyW, Ek_ops_nil, allFree, free, callM, callP, appM]
        simp at ih ⊢
        exact ih
      · conv => lhs; arg 4; arg 3; arg 6; simp [b118_0, z1, hK, hx', hw, h9, h9', m1, hacc, ha, hb1, evOp, evM, wants, Ins.go, X.ev, iaM, ldM, binD, setD, applyW, Ek_ops_nil, allFree, free, callM, callP, appM]
        simp [hacc] at ih ⊢
        exact ih
theorem K118 (c : Bool) (l : List Int) (n : Nat) (hn : n ≤ 2 ^ 30) (hl : l.length ≤ 2 ^ 40) (hB : isB l) : K0 149 [.slc c 1 (l.map (.int .u8)), .int .i64 n] [] = some (V118 [] (wideI n l), []) := by
  have h := L118 c l n hn n l [] 0 0 hl (by omega) rfl rfl hB
  refine K_call k118 (oraG_none (by decide) (by decide)) (by simp [c118]) ?_
  simp only [t118, kn118, rowN] at h
  simp [c118]
  simp at h
  exact h
end Go.Ab
/- THE FUNCTIONS' EQUATIONS: ints' steps. -/
set_option linter.all false
set_option maxRecDepth 100000
namespace Go.Ab
open Go.Proofs Go.Proofs.YtomomeabfnmncaaGreatH Go.Proofs.YtomomeabfnmncaaGreatH.Crc Go.Proofs.YtomomeabfnmncaaGreatH.Var Go.Proofs.YtomomeabfnmncaaGreatH.Fr
def b119_0 : C := (.seq (.reg none [⟨(some 12), none, (.bin .lss [] (.t 11) (.t 10))⟩]) (.seq (.cond (.t 12) .skip (.exit 0)) (.seq (.block 1 (.seq (.reg none [⟨(some 14), none, (.mv (.t 0))⟩, ⟨(some 15), none, (.call (.f 87) [(.t 14)])⟩, ⟨(some 13), none, (.mv (.t 15))⟩, ⟨(some 16), none, (.ext (.t 13) 0)⟩, ⟨(some 17), none, (.ext (.t 13) 1)⟩, ⟨(some 8), none, (.mv (.t 16))⟩, ⟨(some 9), none, (.mv (.t 17))⟩]) (.seq (.seq (.reg none [⟨(some 18), none, (.mv (.t 9))⟩, ⟨(some 19), none, (.bin .eql [] (.t 18) (.k (.int .i64 0)))⟩]) (.cond (.t 19) (.seq (.reg none [⟨(some 4), none, (.mv (.k nilS))⟩, ⟨(some 5), none, (.mv (.k (.bool false)))⟩]) .ret) .skip)) (.seq (.reg none [⟨(some 20), none, (.mv (.t 7))⟩, ⟨(some 21), none, (.mv (.t 8))⟩, ⟨(some 22), none, (.call (.f 151) [(.t 21)])⟩, ⟨(some 23), none, (.bin .add [] (.t 20) (.t 22))⟩, ⟨(some 7), none, (.mv (.t 23))⟩]) (.reg (some [(2, 6), (3, 6)]) [⟨(some 24), none, (.mv (.t 6))⟩, ⟨(some 25), none, (.mv (.t 7))⟩, ⟨(some 26), none, (.bsl false 1 1 [(.int .i64 0)] [(0, (.t 25))])⟩, ⟨(some 27), none, (.app 1 8 (.t 24) (.t 26))⟩, ⟨(some 28), none, (.mv (.t 0))⟩, ⟨(some 29), none, (.mv (.t 9))⟩, ⟨(some 30), none, (.sub 1 1 (.t 28) (some (.t 29)) none none)⟩, ⟨(some 6), none, (.mv (.t 27))⟩, ⟨(some 0), none, (.mv (.t 30))⟩]))))) (.reg none [⟨(some 31), none, (.bin .add [] (.t 11) (.k (.int .i64 1)))⟩, ⟨(some 11), none, (.mv (.t 31))⟩]))))
def c119 : Fn' := ⟨33, [(.tmp 4), (.tmp 5)], (.seq (.reg none [⟨(some 4), none, (.mv (.k nilS))⟩, ⟨(some 5), none, (.mv (.k (.bool false)))⟩]) (.seq (.reg none [⟨(some 6), none, .nilrow⟩]) (.seq (.reg none [⟨(some 7), none, (.mv (.k (.int .i64 0)))⟩]) (.seq (.seq (.reg none [⟨(some 10), none, (.mv (.t 1))⟩, ⟨(some 11), none, (.mv (.k (.int .i64 0)))⟩]) (.block 0 (.loop b119_0))) (.seq (.reg none [⟨(some 32), none, (.mv (.t 6))⟩, ⟨(some 4), none, (.mv (.t 32))⟩, ⟨(some 5), none, (.mv (.k (.bool true)))⟩]) .ret)))))⟩
theorem k119 : compF Tryz.prog 150 = some c119 := by kernel_rfl
attribute [local simp] op_or op_an op_add op_sub op_mul oq_eql oq_neq oq_lss oq_gtr oq_leq oq_geq
attribute [-simp] intOp bin_shl bin_shr
def addI (a b : Int) : Int := IntKind.i64.wrap (a + b)
theorem addI_range (a b : Int) : i64R (addI a b) := by unfold addI i64R; rw [IntKind.wrap_i64]; omega
/-- So many numbers, each a step from the one ahead. -/
def stepsI : Nat → Int → List Int → Option (List Int)
  | 0, _, _ => some []
  | n + 1, w, l => if (varI l).2 = 0 then none else (stepsI n (addI w (zagI (varI l).1)) (l.drop (varI l).2.toNat)).map (addI w (zagI (varI l).1) :: ·)
def t119 (c : Bool) (l : List Int) (n : Nat) (a i : Nat) (w : Int) : List D := [.slc c 1 (l.map (.int .u8)), .int .i64 n, .undef, .undef, nilS, .bool false, .sl 0 0 a a, .int .i64 w, .undef, .undef, .int .i64 n, .int .i64 i, .undef, .undef, .undef, .undef, .undef, .undef, .undef, .undef, .undef, .undef, .undef, .undef, .undef, .undef, .undef, .undef, .undef, .undef, .undef, .undef, .undef]
def kn119 : List Kn := [.blk 0, .c ((C.reg none [⟨some 32, none, .mv (.t 6)⟩, ⟨some 4, none, .mv (.t 32)⟩, ⟨some 5, none, .mv (.k (.bool true))⟩]).seq C.ret)]
set_option maxHeartbeats 4000000 in
theorem L119 (c : Bool) (y : List Int) (n : Nat) (hn : n ≤ 2 ^ 30) : ∀ (k : Nat) (l acc : List Int) (a i : Nat) (w : Int), l.length ≤ 2 ^ 40 → i + k = n → a = acc.length → acc.length = i → isB l →
    finK false 0 [.tmp 4, .tmp 5] (loopK cf0 K0 (LpB cf0 K0 b119_0 (t119 c y n 0 0 0) 1 ⟨t119 c l n a i w, [rowN acc]⟩) kn119) = some (V118 acc (stepsI k w l), [])
  | 0, l, acc, a, i, w, hl, hi, ha, hai, hB => by
    have z1 : ltI (i : Int) n = false := ltI_f (by omega)
    rw [LpB_eq]
    simp only [t119, rowN, stepsI, V118]
    conv => lhs; arg 4; arg 3; arg 6; simp [b119_0, z1]
    by_cases hacc : acc = []
    · subst hacc
      subst ha
      simp [kn119]
    · simp [kn119, hacc, ha, List.take_of_length_le]
  | k + 1, l, acc, a, i, w, hl, hi, ha, hai, hB => by
    have z1 : ltI (i : Int) n = true := ltI_t (by omega)
    have hw := w64 (i + 1) (by omega)
    have hr := varI_range l
    have hK := fun cl => K74 cl l (by omega) hB
    rw [LpB_eq]
    simp only [stepsI]
    obtain ⟨u, hu⟩ : ∃ u, u = (varI l).1 := ⟨_, rfl⟩
    obtain ⟨m, hm⟩ : ∃ m : Nat, (varI l).2 = m := ⟨(varI l).2.toNat, by omega⟩
    rw [hm, ← hu] at hK hr ⊢
    by_cases h0 : (m : Int) = 0
    · simp only [if_pos h0]
      have z2 : eqI (m : Int) 0 = true := eqI_t h0
      simp only [t119, rowN, V118]
      conv => lhs; arg 4; arg 3; arg 6; simp [b119_0, z1, z2, hK]
      simp [Ks_rt]
    · simp only [if_neg h0]
      have z2 : eqI (m : Int) 0 = false := eqI_f h0
      have hz := K121 u ⟨by omega, by omega⟩
      have ha' : IntKind.i64.wrap (w + zagI u) = addI w (zagI u) := rfl
      generalize addI w (zagI u) = x at *
      generalize zagI u = z at *
      have e : (Int.toNat (m : Int)) = m := by omega
      rw [e]
      obtain ⟨r, hr'⟩ : ∃ r, r = l.drop m := ⟨_, rfl⟩
      have m1 : List.drop m (l.map (D.int .u8)) = r.map (.int .u8) := by rw [hr', List.map_drop]
      rw [← hr']
      have ih := L119 c y n hn k r (acc ++ [x]) (acc ++ [x]).length (i + 1) x (by rw [hr']; simp; omega) (by omega) rfl (by simp [hai]) (by rw [hr']; exact isB_drop hB m)
      have eV : V118 acc ((stepsI k x r).map (x :: ·)) = V118 (acc ++ [x]) (stepsI k x r) := by
        cases stepsI k x r <;> simp [V118]
      rw [eV]
      generalize V118 (acc ++ [x]) (stepsI k x r) = V at *
      have h9 : m ≤ l.length := by omega
      have h9' : (m : Int) ≤ (l.length : Int) := by omega
      have hb1 : (acc.length + 1) * 8 ≤ 70368744177664 := by omega
      simp only [t119, rowN] at ih ⊢
      by_cases hacc : acc = []
      · subst hacc
        subst ha
        conv => lhs; arg 4; arg 3; arg 6; simp [b119_0, z1, z2, hK, hz, ha', hw, h9, h9', m1, evOp, evM, wants, Ins.go, X.ev, iaM, ldM, binD, setD, applyW, Ek_ops_nil, allFree, free, callM, callP, appM]
        simp at ih ⊢
        exact ih
      · conv => lhs; arg 4; arg 3; arg 6; simp [b119_0, z1, z2, hK, hz, ha', hw, h9, h9', m1, hacc, ha, hb1, evOp, evM, wants, Ins.go, X.ev, iaM, ldM, binD, setD, applyW, Ek_ops_nil, allFree, free, callM, callP, appM]
        simp [hacc] at ih ⊢
        exact ih
theorem K119 (c : Bool) (l : List Int) (n : Nat) (hn : n ≤ 2 ^ 30) (hl : l.length ≤ 2 ^ 40) (hB : isB l) : K0 150 [.slc c 1 (l.map (.int .u8)), .int .i64 n] [] = some (V118 [] (stepsI n 0 l), []) := by
  have h := L119 c l n hn n l [] 0 0 0 hl (by omega) rfl rfl hB
  refine K_call k119 (oraG_none (by decide) (by decide)) (by simp [c119]) ?_
  simp only [t119, kn119, rowN] at h
  simp [c119]
  simp at h
  exact h
end Go.Ab
/- THE FUNCTIONS' EQUATIONS: ints.Take. -/
set_option linter.all false
set_option maxRecDepth 100000
namespace Go.Ab
open Go.Proofs Go.Proofs.YtomomeabfnmncaaGreatH Go.Proofs.YtomomeabfnmncaaGreatH.Crc Go.Proofs.YtomomeabfnmncaaGreatH.Var Go.Proofs.YtomomeabfnmncaaGreatH.Fr
def c96 : Fn' := ⟨52, [(.tmp 2), (.tmp 3)], (.seq (.reg none [⟨(some 2), none, (.mv (.k nilS))⟩, ⟨(some 3), none, (.mv (.k (.int .i64 0)))⟩]) (.seq (.reg none [⟨(some 10), none, (.mv (.t 0))⟩, ⟨(some 11), none, (.call (.f 87) [(.t 10)])⟩, ⟨(some 9), none, (.mv (.t 11))⟩, ⟨(some 12), none, (.ext (.t 9) 0)⟩, ⟨(some 13), none, (.ext (.t 9) 1)⟩, ⟨(some 4), none, (.mv (.t 12))⟩, ⟨(some 5), none, (.mv (.t 13))⟩]) (.seq (.seq (.reg none [⟨(some 14), none, (.mv (.t 5))⟩, ⟨(some 15), none, (.bin .eql [] (.t 14) (.k (.int .i64 0)))⟩, ⟨(some 16), none, (.mv (.t 15))⟩, ⟨(some 17), (some ((some 16), false)), (.mv (.t 4))⟩, ⟨(some 18), (some ((some 16), false)), (.bin .gtr [] (.t 17) (.k (.int .u64 2000)))⟩, ⟨(some 19), none, (.pick (.t 16) (.k (.bool true)) (.t 18))⟩, ⟨(some 20), none, (.mv (.t 19))⟩, ⟨(some 21), (some ((some 20), false)), (.mv (.t 5))⟩, ⟨(some 22), (some ((some 20), false)), (.mv (.t 0))⟩, ⟨(some 23), (some ((some 20), false)), (.len 1 (.t 22))⟩, ⟨(some 24), (some ((some 20), false)), (.bin .geq [] (.t 21) (.t 23))⟩, ⟨(some 25), none, (.pick (.t 20) (.k (.bool true)) (.t 24))⟩]) (.cond (.t 25) (.seq (.reg none [⟨(some 2), none, (.mv (.k nilS))⟩, ⟨(some 3), none, (.mv (.k (.int .i64 10)))⟩]) .ret) .skip)) (.seq (.reg none [⟨(some 6), none, (.mv (.f 149))⟩]) (.seq (.seq (.reg none [⟨(some 26), none, (.mv (.t 0))⟩, ⟨(some 27), none, (.mv (.t 5))⟩, ⟨(some 28), none, (.ia none 1 false (.t 26) (.t 27))⟩, ⟨(some 29), none, (.ld none (.t 28))⟩, ⟨(some 30), none, (.bin .eql [] (.t 29) (.k (.int .u8 1)))⟩]) (.cond (.t 30) (.reg none [⟨(some 6), none, (.mv (.f 150))⟩]) .skip)) (.seq (.reg none [⟨(some 32), none, (.mv (.t 6))⟩, ⟨(some 33), none, (.mv (.t 0))⟩, ⟨(some 34), none, (.mv (.t 5))⟩, ⟨(some 35), none, (.bin .add [] (.t 34) (.k (.int .i64 1)))⟩, ⟨(some 36), none, (.sub 1 1 (.t 33) (some (.t 35)) none none)⟩, ⟨(some 37), none, (.mv (.t 4))⟩, ⟨(some 38), none, (.cvt (.int .i64) (.t 37))⟩, ⟨(some 39), none, (.call (.t 32) [(.t 36), (.t 38)])⟩, ⟨(some 31), none, (.mv (.t 39))⟩, ⟨(some 40), none, (.ext (.t 31) 0)⟩, ⟨(some 41), none, (.ext (.t 31) 1)⟩, ⟨(some 7), none, (.mv (.t 40))⟩, ⟨(some 8), none, (.mv (.t 41))⟩]) (.seq (.seq (.reg none [⟨(some 42), none, (.mv (.t 8))⟩, ⟨(some 43), none, (.un .not (.t 42))⟩, ⟨(some 44), none, (.mv (.t 43))⟩, ⟨(some 45), (some ((some 44), false)), (.mv (.t 7))⟩, ⟨(some 46), (some ((some 44), false)), (.call (.f 82) [(.t 45)])⟩, ⟨(some 47), (some ((some 44), false)), (.mv (.t 0))⟩, ⟨(some 48), (some ((some 44), false)), (.call (.f 44) [(.t 46), (.t 47)])⟩, ⟨(some 49), (some ((some 44), false)), (.un .not (.t 48))⟩, ⟨(some 50), none, (.pick (.t 44) (.k (.bool true)) (.t 49))⟩]) (.cond (.t 50) (.seq (.reg none [⟨(some 2), none, (.mv (.k nilS))⟩, ⟨(some 3), none, (.mv (.k (.int .i64 10)))⟩]) .ret) .skip)) (.seq (.reg none [⟨(some 51), none, (.mv (.t 7))⟩, ⟨(some 2), none, (.mv (.t 51))⟩, ⟨(some 3), none, (.mv (.k (.int .i64 0)))⟩]) .ret))))))))⟩
theorem k96 : compF Tryz.prog 138 = some c96 := by kernel_rfl
attribute [local simp] op_or op_an op_add op_sub op_mul oq_eql oq_neq oq_lss oq_gtr oq_leq oq_geq
attribute [-simp] intOp bin_shl bin_shr
theorem wide_len : ∀ (n : Nat) (l t : List Int), wideI n l = some t → t.length = n
  | 0, l, t, h => by simp only [wideI, Option.some.injEq] at h; rw [← h]; rfl
  | n + 1, l, t, h => by
    simp only [wideI] at h
    split at h
    · cases h
    · obtain ⟨u, hu, rfl⟩ := Option.map_eq_some_iff.1 h
      rw [List.length_cons, wide_len n _ u hu]
theorem steps_len : ∀ (n : Nat) (w : Int) (l t : List Int), stepsI n w l = some t → t.length = n
  | 0, w, l, t, h => by simp only [stepsI, Option.some.injEq] at h; rw [← h]; rfl
  | n + 1, w, l, t, h => by
    simp only [stepsI] at h
    split at h
    · cases h
    · obtain ⟨u, hu, rfl⟩ := Option.map_eq_some_iff.1 h
      rw [List.length_cons, steps_len n _ _ u hu]
/-- The numbers behind a length and a form's byte. -/
def rawI (l : List Int) : Option (List Int) :=
  if (varI l).2 = 0 ∨ 2000 < (varI l).1 ∨ (l.length : Int) ≤ (varI l).2 then none
  else if l.getD (varI l).2.toNat 0 = 1 then stepsI (varI l).1.toNat 0 (l.drop ((varI l).2.toNat + 1))
  else wideI (varI l).1.toNat (l.drop ((varI l).2.toNat + 1))
/-- Numbers taken: only what putting them gives. -/
def intsT (l : List Int) : Option (List Int) :=
  match rawI l with
  | none => none
  | some t => if intsI t = l then some t else none
def cvI (t : List Int) : D := if t = [] then .slc true 0 [] else .slc false 1 (t.map (.int .i64))
def V96 : Option (List Int) → D
  | none => .tuple [nilS, .int .i64 10]
  | some t => .tuple [cvI t, .int .i64 0]
theorem V118_n : V118 [] none = .tuple [nilS, .bool false] := rfl
theorem V118_s (t : List Int) : V118 [] (some t) = .tuple [cvI t, .bool true] := rfl
theorem cvI_slc (t : List Int) : ∃ cc ss, (ss = 1 ∨ t = []) ∧ cvI t = .slc cc ss (t.map (.int .i64)) := by
  unfold cvI
  by_cases h : t = []
  · subst h; exact ⟨true, 0, .inr rfl, rfl⟩
  · rw [if_neg h]; exact ⟨false, 1, .inl rfl, rfl⟩
theorem raw_len (l t : List Int) (h : rawI l = some t) (hr : 0 ≤ (varI l).1) : t.length ≤ 2000 := by
  unfold rawI at h
  split at h
  · cases h
  · rename_i h1
    split at h
    · rw [steps_len _ _ _ _ h]; omega
    · rw [wide_len _ _ _ h]; omega
set_option maxHeartbeats 4000000 in
/-- ints.Take. -/
theorem K96 (c : Bool) (l : List Int) (hl : l.length ≤ 2 ^ 40) (hB : isB l) : K0 138 [.slc c 1 (l.map (.int .u8))] [] = some (V96 (intsT l), []) := by
  have hr := varI_range l
  have hK := K74 c l (by omega) hB
  have hraw := fun t h => raw_len l t h hr.1
  have e : intsT l = match rawI l with | none => none | some t => if intsI t = l then some t else none := rfl
  rw [e]
  refine K_call k96 (oraG_none (by decide) (by decide)) (by simp [c96]) ?_
  unfold rawI at hraw ⊢
  obtain ⟨u, hu⟩ : ∃ u, u = (varI l).1 := ⟨_, rfl⟩
  obtain ⟨m, hm⟩ : ∃ m : Nat, (varI l).2 = m := ⟨(varI l).2.toNat, by omega⟩
  rw [hm, ← hu] at hK hr hraw ⊢
  by_cases h0 : (m : Int) = 0
  · have z1 : eqI (m : Int) 0 = true := eqI_t h0
    rw [if_pos (.inl h0)]
    simp [c96, hK, z1, V96]
  have z1 : eqI (m : Int) 0 = false := eqI_f h0
  by_cases h2 : 2000 < u
  · have z2 : ltI 2000 u = true := ltI_t h2
    rw [if_pos (.inr (.inl h2))]
    simp [c96, hK, z1, z2, V96]
  have z2 : ltI 2000 u = false := ltI_f (by omega)
  by_cases h3 : (l.length : Int) ≤ m
  · have z3 : leI (l.length : Int) m = true := leI_t h3
    rw [if_pos (.inr (.inr h3))]
    simp [c96, hK, z1, z2, z3, V96]
  have z3 : leI (l.length : Int) m = false := leI_f (by omega)
  rw [if_neg (by omega)] at hraw ⊢
  have h4 : m < l.length := by omega
  have h5 : m + 1 ≤ l.length := by omega
  have h5' : (m : Int) + 1 ≤ l.length := by omega
  have h50 : 0 ≤ (m : Int) + 1 := by omega
  have hw := w64 (m + 1) (by omega)
  obtain ⟨x, hx⟩ : ∃ x, l[m]'h4 = x := ⟨_, rfl⟩
  have e2 : l.getD (Int.toNat (m : Int)) 0 = x := by rw [← hx]; simp [h4]
  rw [e2] at hraw ⊢
  have e3 : Int.toNat (m : Int) = m := by omega
  rw [e3] at hraw ⊢
  obtain ⟨n, hn⟩ : ∃ n : Nat, u = n := ⟨u.toNat, by omega⟩
  subst hn
  have e4 : Int.toNat (n : Int) = n := by omega
  rw [e4] at hraw ⊢
  obtain ⟨r, hr'⟩ : ∃ r, r = l.drop (m + 1) := ⟨_, rfl⟩
  have m1 : List.drop (m + 1) (l.map (D.int .u8)) = r.map (.int .u8) := by rw [hr', List.map_drop]
  have hBr : isB r := by rw [hr']; exact isB_drop hB _
  have hlr : r.length ≤ 2 ^ 40 := by rw [hr']; simp; omega
  have hwn : IntKind.i64.wrap (n : Int) = n := w64 n (by omega)
  have hcx : IntKind.i64.wrap ((m : Int) + 1) = (m : Int) + 1 := by have := hw; simpa using this
  rw [← hr'] at hraw ⊢
  have hn30 : n ≤ 2 ^ 30 := by omega
  by_cases h6 : x = 1
  · have z6 : eqI x 1 = true := eqI_t h6
    rw [if_pos h6] at hraw ⊢
    have hS := fun c => K119 c r n hn30 hlr hBr
    cases ho : stepsI n 0 r with
    | none =>
      simp only [ho, V118_n] at hS
      simp [c96, hK, z1, z2, z3, h4, hx, z6, h5, h5', h50, m1, hcx, hwn, hw, hS, V96]
    | some t =>
      simp only [ho, V118_s] at hS
      rw [ho] at hraw
      have ht := hraw t rfl
      obtain ⟨cc, ss, hss, hcv⟩ := cvI_slc t
      have h57 := K57 cc ss t hss (by omega)
      have hEq := K43 false c (intsI t) l (isB_intsI t) hB
      dsimp only
      generalize intsI t = E at *
      rw [hcv] at hS
      by_cases hE : E = l
      · have hEE : (E == l) = true := by simp [hE]
        rw [hEE] at hEq
        simp only [if_pos hE]
        simp [c96, hK, z1, z2, z3, h4, hx, z6, h5, h5', h50, m1, hcx, hwn, hw, hS, h57, hEq, hcv, V96]
      · have hEE : (E == l) = false := by simp [hE]
        rw [hEE] at hEq
        simp only [if_neg hE]
        simp [c96, hK, z1, z2, z3, h4, hx, z6, h5, h5', h50, m1, hcx, hwn, hw, hS, h57, hEq, V96]
  · have z6 : eqI x 1 = false := eqI_f h6
    rw [if_neg h6] at hraw ⊢
    have hS := fun c => K118 c r n hn30 hlr hBr
    cases ho : wideI n r with
    | none =>
      simp only [ho, V118_n] at hS
      simp [c96, hK, z1, z2, z3, h4, hx, z6, h5, h5', h50, m1, hcx, hwn, hw, hS, V96]
    | some t =>
      simp only [ho, V118_s] at hS
      rw [ho] at hraw
      have ht := hraw t rfl
      obtain ⟨cc, ss, hss, hcv⟩ := cvI_slc t
      have h57 := K57 cc ss t hss (by omega)
      have hEq := K43 false c (intsI t) l (isB_intsI t) hB
      dsimp only
      generalize intsI t = E at *
      rw [hcv] at hS
      by_cases hE : E = l
      · have hEE : (E == l) = true := by simp [hE]
        rw [hEE] at hEq
        simp only [if_pos hE]
        simp [c96, hK, z1, z2, z3, h4, hx, z6, h5, h5', h50, m1, hcx, hwn, hw, hS, h57, hEq, hcv, V96]
      · have hEE : (E == l) = false := by simp [hE]
        rw [hEE] at hEq
        simp only [if_neg hE]
        simp [c96, hK, z1, z2, z3, h4, hx, z6, h5, h5', h50, m1, hcx, hwn, hw, hS, h57, hEq, V96]
end Go.Ab
