/- THE FUNCTIONS' EQUATIONS: what num and crc compute, in the plain words. -/
import Derived.Test.YtdopbfjebjnpkaaBF60
import Derived.Test.YtdopbfjebjnpkaaBPCrc
import Derived.Laws.BitsAllLaws
set_option linter.all false
namespace Go.Ab
open Go.Proofs Go.Proofs.YtdopbfjebjnpkaaH Go.Proofs.YtdopbfjebjnpkaaH.Crc Go.Proofs.YtdopbfjebjnpkaaH.Var Go.Proofs.YtdopbfjebjnpkaaH.Fr

theorem part7_eq (x : Nat) : part7 (x : Int) = ((x % 128 + 128 : Nat) : Int) := by
  have hw : IntKind.u8.wrap (x : Int) = ((x % 256 : Nat) : Int) := by rw [IntKind.wrap_u8]; omega
  have h1 := u8_or_nat (x % 256) 128 (by omega) (by decide)
  have e : ∀ n : Fin 256, n.val ||| 128 = n.val % 128 + 128 := by decide +kernel
  rw [e ⟨x % 256, by omega⟩] at h1
  unfold part7
  rw [hw]
  have h2 : (x % 256) % 128 = x % 128 := by omega
  rw [← h2]
  exact h1
theorem pre7_eq : ∀ (n x : Nat), x < 128 ^ (n + 1) → pre7 n (x : Int) ++ [IntKind.u8.wrap (last7 n (x : Int))] = ints (putN x)
  | 0, x, h => by
    have h' : x < 128 := by simpa using h
    rw [putN_small h']
    simp only [pre7, last7, List.nil_append, ints, List.map_cons, List.map_nil]
    rw [IntKind.wrap_u8]
    congr 1
    omega
  | n + 1, x, h => by
    simp only [pre7, last7]
    by_cases h' : x < 128
    · rw [if_neg (by omega), if_neg (by omega), putN_small h']
      simp only [List.nil_append, ints, List.map_cons, List.map_nil]
      rw [IntKind.wrap_u8]
      congr 1
      omega
    · rw [if_pos (by omega), if_pos (by omega), putN_big h', shr7_eq]
      have e : (x : Int) / 128 = ((x / 128 : Nat) : Int) := by omega
      have ih := pre7_eq n (x / 128) (by rw [Nat.pow_succ] at h; omega)
      rw [e, List.cons_append, ih, part7_eq]
      rfl
theorem putW_eq (x : Int) (h0 : 0 ≤ x) (hx : x ≤ 18446744073709551615) : putW x = putI x := by
  obtain ⟨n, rfl⟩ : ∃ n : Nat, x = n := ⟨x.toNat, by omega⟩
  have := pre7_eq 9 n (by have e : (128 : Nat) ^ (9 + 1) = 1180591620717411303424 := by decide
                          omega)
  unfold putW putI
  rw [this]
  simp
theorem xor32 (a b : Nat) (ha : a < 4294967296) (hb : b < 4294967296) : xorI .u32 (a : Int) (b : Int) = ((a ^^^ b : Nat) : Int) := u32_xor_nat a b ha hb
theorem and32 (a b : Nat) (ha : a < 4294967296) (hb : b < 4294967296) : andI .u32 (a : Int) (b : Int) = ((a &&& b : Nat) : Int) := by
  have hx : a &&& b < 2 ^ 32 := Nat.and_lt_two_pow _ (by omega)
  show IntKind.u32.wrap ((BitVec.ofInt 32 (a : Int) &&& BitVec.ofInt 32 (b : Int)).toNat : Int) = _
  rw [BitVec.toNat_and, ofInt_u32 a ha, ofInt_u32 b hb, IntKind.wrap_u32']
  omega
theorem bit1_eq (x : Nat) (hx : x < 4294967296) : bit1 (x : Int) = ((Crc.M x : Nat) : Int) := by
  unfold bit1
  have h1 : andI .u32 (x : Int) 1 = ((x % 2 : Nat) : Int) := by
    have := and32 x 1 hx (by decide)
    rw [Nat.and_one_is_mod] at this
    exact this
  have hm : (min (1 : Int).toNat IntKind.u32.bits) = 1 := by decide
  have hd : ((x : Int).fdiv (2 ^ 1)) = ((x / 2 : Nat) : Int) := by rw [Int.fdiv_eq_ediv_of_nonneg _ (by decide)]; simp
  rw [h1, hm, hd]
  unfold Crc.M
  rcases Nat.mod_two_eq_zero_or_one x with h | h
  · rw [h]
    have e : IntKind.u32.wrap (0 - ((0 : Nat) : Int)) = ((0 : Nat) : Int) := by rw [IntKind.wrap_u32']; decide
    have e2 : (3988292384 : Int) = ((3988292384 : Nat) : Int) := rfl
    rw [e, e2, and32 _ _ (by decide) (by decide), Nat.and_zero, xor32 _ _ (by omega) (by decide)]
    simp
  · rw [h]
    have e : IntKind.u32.wrap (0 - ((1 : Nat) : Int)) = ((4294967295 : Nat) : Int) := by rw [IntKind.wrap_u32']; decide
    have e2 : (3988292384 : Int) = ((3988292384 : Nat) : Int) := rfl
    rw [e, e2, and32 _ _ (by decide) (by decide), xor32 _ _ (by omega) (by decide)]
    have e3 : 3988292384 &&& 4294967295 = 3988292384 := by decide
    rw [e3]
    simp
theorem bits8_eq (x : Nat) (hx : x < 4294967296) : bits8 (x : Int) = ((Mn 8 x : Nat) : Int) := by
  have h1 := M_lt x hx
  have h2 := M_lt _ h1
  have h3 := M_lt _ h2
  have h4 := M_lt _ h3
  have h5 := M_lt _ h4
  have h6 := M_lt _ h5
  have h7 := M_lt _ h6
  unfold bits8
  rw [bit1_eq x hx, bit1_eq _ h1, bit1_eq _ h2, bit1_eq _ h3, bit1_eq _ h4, bit1_eq _ h5, bit1_eq _ h6, bit1_eq _ h7]
  rfl
theorem sum1_eq (r c : Nat) (hr : r < 4294967296) (hc : c < 256) : sum1 (r : Int) (c : Int) = ((Mn 8 (r ^^^ c) : Nat) : Int) := by
  unfold sum1
  have hm : (min (8 : Int).toNat IntKind.u32.bits) = 8 := by decide
  have hd : ((r : Int).fdiv (2 ^ 8)) = ((r / 256 : Nat) : Int) := by rw [Int.fdiv_eq_ediv_of_nonneg _ (by decide)]; simp
  have h8 : IntKind.u8.wrap (r : Int) = ((r % 256 : Nat) : Int) := by rw [IntKind.wrap_u8]; omega
  have hx : xorI .u8 ((r % 256 : Nat) : Int) (c : Int) = ((r % 256 ^^^ c : Nat) : Int) := u8_xor_nat (r % 256) c (by omega) hc
  have hlt : r % 256 ^^^ c < 256 := Nat.xor_lt_two_pow (n := 8) (by omega) (by omega)
  have hw : IntKind.u32.wrap ((r % 256 ^^^ c : Nat) : Int) = ((r % 256 ^^^ c : Nat) : Int) := by rw [IntKind.wrap_u32']; omega
  rw [hm, hd, h8, hx, hw, bits8_eq _ (by omega), xor32 _ _ (by omega) (Mn_lt 8 _ (by omega)), byte_step r c]
theorem fold_eq (l : List Int) (h : isB l) : ∀ r : Nat, r < 4294967296 → l.foldl sum1 (r : Int) = ((crcReg r (nats l) : Nat) : Int) := by
  induction l with
  | nil => intro r _; rfl
  | cons c l ih =>
    intro r hr
    have hc := h c List.mem_cons_self
    obtain ⟨n, rfl⟩ : ∃ n : Nat, c = n := ⟨c.toNat, by omega⟩
    have hlt : Mn 8 (r ^^^ n) < 4294967296 := Mn_lt 8 _ (Nat.xor_lt_two_pow (n := 32) (by omega) (by omega))
    rw [List.foldl_cons, sum1_eq r n hr (by omega), ih (fun x hx => h x (List.mem_cons_of_mem _ hx)) _ hlt]
    rfl
theorem sumW_eq (l : List Int) (h : isB l) : sumW l = crcI l := by
  unfold sumW crcI crcN
  have := fold_eq l h 4294967295 (by decide)
  have e : ((4294967295 : Nat) : Int) = 4294967295 := rfl
  rw [e] at this
  rw [this]
  have hlt := crcReg_lt (nats l) 4294967295 (by decide) (nats_lt h)
  have := xor32 4294967295 _ (by decide) hlt
  rw [e] at this
  rw [this, Nat.xor_comm]
theorem by8_eq (x : Int) (i : Nat) (hi : i < 8) (h0 : 0 ≤ x) : by8 x i = x / 2 ^ (8 * i) % 256 := by
  unfold by8
  have hm : min (8 * (i : Int)).toNat IntKind.u64.bits = 8 * i := by have : IntKind.u64.bits = 64 := rfl; omega
  rw [hm, IntKind.wrap_u8, Int.fdiv_eq_ediv_of_nonneg _ (Int.pow_nonneg (by decide))]
theorem le8_eq (x : Int) (h0 : 0 ≤ x) : le8 x = Fr.le8 x := by
  unfold le8
  rw [by8_eq x 0 (by decide) h0, by8_eq x 1 (by decide) h0, by8_eq x 2 (by decide) h0, by8_eq x 3 (by decide) h0, by8_eq x 4 (by decide) h0, by8_eq x 5 (by decide) h0, by8_eq x 6 (by decide) h0, by8_eq x 7 (by decide) h0]
  rfl
theorem frameW_eq (l : List Int) (h : isB l) (hl : l.length ≤ 2 ^ 45) : frameW l = frameI l := by
  have hr := crcI_range h
  unfold frameW frameI sum4
  rw [putW_eq _ (by omega) (by omega), sumW_eq l h, le8_eq _ hr.1]
/-- num.PutVar. -/
theorem N66 (x : Int) (h0 : 0 ≤ x) (hx : x ≤ 18446744073709551615) : K0 70 [.int .u64 x] [] = some (.sl 0 0 (putI x).length (putI x).length, [.row 1 ((putI x).map (.int .u8)) 0]) := by
  have := K66 x hx
  rwa [putW_eq x h0 hx] at this
theorem N68 (l : List Int) (cl : Bool) (h : isB l) (hl : l.length ≤ 2 ^ 47) : K0 62 [.slc cl 1 (l.map (.int .u8))] [] = some (.int .u32 (crcI l), []) := by
  have := K68 l cl hl
  rwa [sumW_eq l h] at this
theorem N67 (x : Int) (hx : 0 ≤ x ∧ x ≤ 4294967295) : K0 61 [.int .u32 x] [] = some (.slc false 1 ((sum4 x).map (.int .u8)), []) := by
  have := K67 x hx
  rwa [le8_eq x hx.1] at this
theorem N32 (l : List Int) (cl : Bool) (h : isB l) (hl : l.length ≤ 2 ^ 45) : K0 50 [.slc cl 1 (l.map (.int .u8))] [] = some (.slc false 1 ((frameI l).map (.int .u8)), []) := by
  have := K32 l cl hl
  rwa [frameW_eq l h hl] at this
end Go.Ab
