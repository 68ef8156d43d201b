import Derived.Laws.BitsAllLaws
import Derived.RowKit
import Derived.Laws.Bits64
set_option linter.unusedVariables false
set_option linter.unusedSimpArgs false
namespace Go.Proofs.YtanfmnobanhcnaaH.Crc
open Go.RowKit
/-- One bit of the sum's register. -/
def M (x : Nat) : Nat := (x / 2) ^^^ (if x % 2 = 1 then 3988292384 else 0)
def Mn : Nat → Nat → Nat
  | 0, x => x
  | n + 1, x => Mn n (M x)
def crcReg (r : Nat) (l : List Nat) : Nat := l.foldl (fun r c => Mn 8 (r ^^^ c)) r
def crcN (l : List Nat) : Nat := crcReg 4294967295 l ^^^ 4294967295

theorem xlc (x y z : Nat) : x ^^^ (y ^^^ z) = y ^^^ (x ^^^ z) := by rw [← Nat.xor_assoc, Nat.xor_comm x y, Nat.xor_assoc]
theorem xcan (x y : Nat) : x ^^^ (x ^^^ y) = y := by rw [← Nat.xor_assoc, Nat.xor_self, Nat.zero_xor]
theorem xor_mod_two (x y : Nat) : (x ^^^ y) % 2 = (x % 2 + y % 2) % 2 := by
  have := Nat.xor_mod_two_pow (a := x) (b := y) (n := 1)
  simp at this
  rw [this]
  rcases Nat.mod_two_eq_zero_or_one x with h | h <;> rcases Nat.mod_two_eq_zero_or_one y with h' | h' <;> simp [h, h']
theorem xor_div_two (x y : Nat) : (x ^^^ y) / 2 = x / 2 ^^^ y / 2 := by
  have := Nat.shiftRight_xor_distrib (a := x) (b := y) (i := 1)
  simpa [Nat.shiftRight_eq_div_pow] using this
theorem M_xor (x y : Nat) : M (x ^^^ y) = M x ^^^ M y := by
  unfold M
  rw [xor_div_two, xor_mod_two]
  rcases Nat.mod_two_eq_zero_or_one x with h | h <;> rcases Nat.mod_two_eq_zero_or_one y with h' | h' <;> simp [h, h', Nat.xor_assoc]
  · ac_rfl
  · have e : ∀ a b p : Nat, a ^^^ (p ^^^ (b ^^^ p)) = p ^^^ (p ^^^ (a ^^^ b)) := fun a b p => by ac_rfl
    rw [e, xcan]
theorem M_zero : M 0 = 0 := by decide
theorem Mn_xor (n : Nat) : ∀ x y, Mn n (x ^^^ y) = Mn n x ^^^ Mn n y := by
  induction n with
  | zero => intro x y; rfl
  | succ n ih => intro x y; simp only [Mn]; rw [M_xor, ih]
theorem Mn_zero (n : Nat) : Mn n 0 = 0 := by
  induction n with
  | zero => rfl
  | succ n ih => simp only [Mn]; rw [M_zero, ih]
theorem Mn_add (a b x : Nat) : Mn (a + b) x = Mn b (Mn a x) := by
  induction a generalizing x with
  | zero => simp [Mn]
  | succ a ih => rw [Nat.succ_add]; simp only [Mn]; rw [ih]
theorem M_double (y : Nat) : M (2 * y) = y := by
  unfold M
  have h1 : 2 * y / 2 = y := by omega
  have h2 : ¬ (2 * y % 2 = 1) := by omega
  rw [h1, if_neg h2, Nat.xor_zero]
theorem Mn_shift (n y : Nat) : Mn n (y * 2 ^ n) = y := by
  induction n generalizing y with
  | zero => simp [Mn]
  | succ n ih =>
    simp only [Mn]
    have : y * 2 ^ (n + 1) = 2 * (y * 2 ^ n) := by rw [Nat.pow_succ]; ac_rfl
    rw [this, M_double, ih]
theorem M_lt (x : Nat) (h : x < 4294967296) : M x < 4294967296 := by
  unfold M
  refine Nat.xor_lt_two_pow (n := 32) (by omega) ?_
  split <;> decide
theorem Mn_lt (n x : Nat) (h : x < 4294967296) : Mn n x < 4294967296 := by
  induction n generalizing x with
  | zero => exact h
  | succ n ih => exact ih _ (M_lt x h)
theorem M_eq_zero (x : Nat) (hx : x < 4294967296) (h : M x = 0) : x = 0 := by
  unfold M at h
  by_cases h1 : x % 2 = 1
  · rw [if_pos h1] at h
    have h2 : x / 2 = 3988292384 := by
      have := congrArg (· ^^^ 3988292384) h
      simpa [Nat.xor_assoc] using this
    omega
  · rw [if_neg h1, Nat.xor_zero] at h
    omega
theorem Mn_eq_zero (n x : Nat) (hx : x < 4294967296) (h : Mn n x = 0) : x = 0 := by
  induction n generalizing x with
  | zero => exact h
  | succ n ih => exact M_eq_zero x hx (ih _ (M_lt x hx) h)
theorem xor_eq_zero {x y : Nat} (h : x ^^^ y = 0) : x = y := by
  have := congrArg (· ^^^ y) h
  simpa [Nat.xor_assoc] using this
theorem Mn_inj (n x y : Nat) (hx : x < 4294967296) (hy : y < 4294967296) (h : Mn n x = Mn n y) : x = y := by
  refine xor_eq_zero (Mn_eq_zero n _ (Nat.xor_lt_two_pow (n := 32) hx hy) ?_)
  rw [Mn_xor, h, Nat.xor_self]

/-- A byte at once: what the program does. -/
theorem byte_step (r c : Nat) : Mn 8 (r ^^^ c) = r / 256 ^^^ Mn 8 ((r % 256) ^^^ c) := by
  have h : r = (r / 256 * 2 ^ 8) ^^^ (r % 256) := by
    apply Nat.eq_of_testBit_eq
    intro i
    rw [Nat.testBit_xor]
    have e : r = 2 ^ 8 * (r / 256) + r % 256 := by omega
    rw [Nat.mul_comm]
    conv => lhs; rw [e]
    rw [Nat.testBit_two_pow_mul_add _ (by omega)]
    rw [Nat.testBit_two_pow_mul]
    by_cases hi : i < 8
    · have h8 : ¬ (8 ≤ i) := by omega
      simp [hi, h8]
    · rw [if_neg hi]
      have : (r % 256).testBit i = false := Nat.testBit_lt_two_pow (Nat.lt_of_lt_of_le (Nat.mod_lt _ (by decide)) (by show 2 ^ 8 ≤ 2 ^ i; exact Nat.pow_le_pow_right (by decide) (by omega)))
      rw [this]
      have h8 : 8 ≤ i := by omega
      simp [h8]
  conv => lhs; rw [h, Nat.xor_assoc, Mn_xor, Mn_shift]
theorem crcReg_cons (r c : Nat) (l : List Nat) : crcReg r (c :: l) = crcReg (Mn 8 (r ^^^ c)) l := rfl
theorem crcReg_append (r : Nat) (l m : List Nat) : crcReg r (l ++ m) = crcReg (crcReg r l) m := by
  unfold crcReg
  rw [List.foldl_append]
theorem crcReg_lt (l : List Nat) : ∀ (r : Nat), r < 4294967296 → (∀ x ∈ l, x < 256) → crcReg r l < 4294967296 := by
  induction l with
  | nil => intro r h _; exact h
  | cons c l ih =>
    intro r h hl
    rw [crcReg_cons]
    exact ih _ (Mn_lt _ _ (Nat.xor_lt_two_pow (n := 32) h (Nat.lt_trans (hl c List.mem_cons_self) (by decide)))) (fun x hx => hl x (List.mem_cons_of_mem _ hx))
theorem crcN_lt (l : List Nat) (hl : ∀ x ∈ l, x < 256) : crcN l < 4294967296 := Nat.xor_lt_two_pow (n := 32) (crcReg_lt l _ (by decide) hl) (by decide)
/-- The register is linear. -/
theorem crcReg_xor (a b : List Nat) (h : a.length = b.length) : ∀ r s, crcReg (r ^^^ s) (List.zipWith (· ^^^ ·) a b) = crcReg r a ^^^ crcReg s b := by
  induction a generalizing b with
  | nil =>
    intro r s
    rcases b with _ | ⟨y, b⟩
    · rfl
    · simp at h
  | cons x a ih =>
    rcases b with _ | ⟨y, b⟩
    · simp at h
    · intro r s
      rw [List.zipWith_cons_cons, crcReg_cons, crcReg_cons, crcReg_cons, ← ih b (by simpa using h)]
      congr 1
      rw [← Mn_xor]
      congr 1
      ac_rfl
theorem crcReg_inj (l : List Nat) (hl : ∀ x ∈ l, x < 256) : ∀ r s, r < 4294967296 → s < 4294967296 → crcReg r l = crcReg s l → r = s := by
  induction l with
  | nil => intro r s _ _ h; exact h
  | cons c l ih =>
    intro r s hr hs h
    rw [crcReg_cons, crcReg_cons] at h
    have hc : c < 4294967296 := Nat.lt_trans (hl c List.mem_cons_self) (by decide)
    have h1 := ih (fun x hx => hl x (List.mem_cons_of_mem _ hx)) _ _ (Mn_lt _ _ (Nat.xor_lt_two_pow (n := 32) hr hc)) (Mn_lt _ _ (Nat.xor_lt_two_pow (n := 32) hs hc)) h
    have h2 := Mn_inj _ _ _ (Nat.xor_lt_two_pow (n := 32) hr hc) (Nat.xor_lt_two_pow (n := 32) hs hc) h1
    have := congrArg (· ^^^ c) h2
    simpa [Nat.xor_assoc] using this
theorem crcN_three (a b c : List Nat) (h1 : a.length = b.length) (h2 : b.length = c.length) :
    crcN (List.zipWith (· ^^^ ·) (List.zipWith (· ^^^ ·) a b) c) = crcN a ^^^ crcN b ^^^ crcN c := by
  unfold crcN
  have e : (4294967295 : Nat) = (4294967295 ^^^ 4294967295) ^^^ 4294967295 := by decide
  conv => lhs; lhs; arg 1; rw [e]
  rw [crcReg_xor _ _ (by rw [List.length_zipWith]; omega), crcReg_xor _ _ h1]
  generalize crcReg 4294967295 a = x
  generalize crcReg 4294967295 b = y
  generalize crcReg 4294967295 c = z
  have e3 : ∀ i : Nat, x ^^^ y ^^^ z ^^^ i = x ^^^ i ^^^ (y ^^^ i) ^^^ (z ^^^ i) := fun i => by
    have h1 : x ^^^ i ^^^ (y ^^^ i) ^^^ (z ^^^ i) = (i ^^^ (i ^^^ (x ^^^ y ^^^ z ^^^ i))) := by ac_rfl
    rw [h1, xcan]
  exact e3 _
/-- No byte but 0 is what it becomes. -/
theorem no_fix : ∀ z : Fin 256, Mn 8 z.val = z.val → z.val = 0 := by decide +kernel
theorem two_swapped (r x y : Nat) (hr : r < 4294967296) (hx : x < 256) (hy : y < 256) (h : crcReg r [x, y] = crcReg r [y, x]) : x = y := by
  simp only [crcReg, List.foldl_cons, List.foldl_nil] at h
  have hxx : x < 4294967296 := by omega
  have hyy : y < 4294967296 := by omega
  have h1 := Mn_inj 8 _ _ (Nat.xor_lt_two_pow (n := 32) (Mn_lt _ _ (Nat.xor_lt_two_pow (n := 32) hr hxx)) hyy) (Nat.xor_lt_two_pow (n := 32) (Mn_lt _ _ (Nat.xor_lt_two_pow (n := 32) hr hyy)) hxx) h
  rw [Mn_xor, Mn_xor] at h1
  have h2 : Mn 8 x ^^^ y = Mn 8 y ^^^ x := by
    have := congrArg (Mn 8 r ^^^ ·) h1
    simpa [← Nat.xor_assoc] using this
  have h3 : Mn 8 (x ^^^ y) = x ^^^ y := by
    rw [Mn_xor]
    generalize Mn 8 x = u at h2 ⊢
    generalize Mn 8 y = v at h2 ⊢
    have h4 : u = v ^^^ x ^^^ y := by rw [← h2, Nat.xor_assoc, Nat.xor_self, Nat.xor_zero]
    rw [h4]
    have h5 : v ^^^ x ^^^ y ^^^ v = v ^^^ (v ^^^ (x ^^^ y)) := by ac_rfl
    rw [h5, xcan]
  have hz : x ^^^ y < 256 := Nat.xor_lt_two_pow (n := 8) hx hy
  exact xor_eq_zero (no_fix ⟨x ^^^ y, hz⟩ h3)
/-- Bytes as one number, the first ones the least. -/
def numLE : List Nat → Nat
  | [] => 0
  | c :: l => c + 256 * numLE l
theorem add_eq_xor (c a : Nat) (hc : c < 256) : c + 256 * a = c ^^^ (a * 2 ^ 8) := by
  apply Nat.eq_of_testBit_eq
  intro i
  have e : c + 256 * a = 2 ^ 8 * a + c := by omega
  rw [e, Nat.testBit_two_pow_mul_add _ (by simpa using hc), Nat.testBit_xor, Nat.mul_comm a, Nat.testBit_two_pow_mul]
  by_cases hi : i < 8
  · have h8 : ¬ (8 ≤ i) := by omega
    simp [hi, h8]
  · have : c.testBit i = false := Nat.testBit_lt_two_pow (Nat.lt_of_lt_of_le hc (by show 2 ^ 8 ≤ 2 ^ i; exact Nat.pow_le_pow_right (by decide) (by omega)))
    have h8 : 8 ≤ i := by omega
    simp [hi, h8, this]
theorem crcReg_num (l : List Nat) (hl : ∀ x ∈ l, x < 256) : ∀ r, crcReg r l = Mn (8 * l.length) (r ^^^ numLE l) := by
  induction l with
  | nil => intro r; simp [crcReg, numLE, Mn]
  | cons c l ih =>
    intro r
    rw [crcReg_cons, ih (fun x hx => hl x (List.mem_cons_of_mem _ hx)), List.length_cons, Nat.mul_succ, Nat.add_comm (8 * l.length) 8, Mn_add]
    congr 1
    conv => lhs; arg 2; rw [← Mn_shift 8 (numLE l)]
    rw [← Mn_xor]
    congr 1
    simp only [numLE]
    rw [add_eq_xor c _ (hl c List.mem_cons_self), Nat.xor_assoc]
/-- Up to 32 bits in a row that are turned, of bytes of one length, turn the sum. -/
theorem burst (a b : List Nat) (ha : ∀ x ∈ a, x < 256) (hb : ∀ x ∈ b, x < 256) (h : a.length = b.length) (p W : Nat) (hp : p ≤ 8 * a.length) (hW : W < 4294967296) (h0 : W ≠ 0) (he : numLE b = numLE a ^^^ (W * 2 ^ p)) : crcN a ≠ crcN b := by
  intro hc
  have h1 : crcReg 4294967295 a = crcReg 4294967295 b := by
    unfold crcN at hc
    have := congrArg (· ^^^ 4294967295) hc
    simpa [Nat.xor_assoc] using this
  rw [crcReg_num a ha, crcReg_num b hb, ← h, he, ← Nat.xor_assoc, Mn_xor _ (4294967295 ^^^ numLE a) (W * 2 ^ p)] at h1
  generalize Mn (8 * a.length) (4294967295 ^^^ numLE a) = Z at h1
  have h2 : Mn (8 * a.length) (W * 2 ^ p) = 0 := by
    have := congrArg (Z ^^^ ·) h1
    simp only [xcan, Nat.xor_self] at this
    exact this.symm
  have h3 : 8 * a.length = p + (8 * a.length - p) := by omega
  rw [h3, Mn_add, Mn_shift] at h2
  exact h0 (Mn_eq_zero _ _ hW h2)
theorem numLE_lt (l : List Nat) (hl : ∀ x ∈ l, x < 256) : numLE l < 256 ^ l.length := by
  induction l with
  | nil => simp [numLE]
  | cons c l ih =>
    have h1 := ih (fun x hx => hl x (List.mem_cons_of_mem _ hx))
    have h2 := hl c List.mem_cons_self
    simp only [numLE, List.length_cons, Nat.pow_succ]
    omega
theorem numLE_set (l : List Nat) (hl : ∀ x ∈ l, x < 256) (j b : Nat) (hj : j < l.length) (hb : b < 8) : numLE (l.set j (l[j] ^^^ 2 ^ b)) = numLE l ^^^ 2 ^ (8 * j + b) := by
  induction l generalizing j with
  | nil => simp at hj
  | cons c l ih =>
    have hc := hl c List.mem_cons_self
    have h2b : 2 ^ b < 256 := by
      have : 2 ^ b < 2 ^ 8 := Nat.pow_lt_pow_right (by decide) hb
      simpa using this
    cases j with
    | zero =>
      simp only [List.set_cons_zero, List.getElem_cons_zero, numLE, Nat.mul_zero, Nat.zero_add]
      rw [add_eq_xor _ _ (Nat.xor_lt_two_pow (n := 8) hc h2b), add_eq_xor _ _ hc]
      ac_rfl
    | succ j =>
      have hjl : j < l.length := by simpa using hj
      simp only [List.set_cons_succ, List.getElem_cons_succ, numLE]
      rw [ih (fun x hx => hl x (List.mem_cons_of_mem _ hx)) j hjl, add_eq_xor _ _ hc, add_eq_xor _ _ hc]
      have e : 2 ^ (8 * (j + 1) + b) = 2 ^ (8 * j + b) * 2 ^ 8 := by rw [← Nat.pow_add]; congr 1; omega
      have e2 : ∀ x y : Nat, (x ^^^ y) * 2 ^ 8 = x * 2 ^ 8 ^^^ y * 2 ^ 8 := fun x y => by
        have := Nat.shiftLeft_xor_distrib (a := x) (b := y) (i := 8)
        simpa [Nat.shiftLeft_eq] using this
      rw [e, e2, Nat.xor_assoc]

/-! the same in the numbers of the program -/
theorem ofInt_u32 (a : Nat) (ha : a < 4294967296) : (BitVec.ofInt 32 (a : Int)).toNat = a := by
  rw [BitVec.ofInt_natCast, BitVec.toNat_ofNat]; exact Nat.mod_eq_of_lt (by omega)
theorem u32_xor (a b : Nat) (ha : a < 4294967296) (hb : b < 4294967296) : Go.bits .xor .u32 (a : Int) (b : Int) = ((a ^^^ b : Nat) : Int) := by
  have hx : a ^^^ b < 2 ^ 32 := Nat.xor_lt_two_pow (by omega) (by omega)
  show IntKind.u32.wrap ((BitVec.ofInt 32 (a : Int) ^^^ BitVec.ofInt 32 (b : Int)).toNat : Int) = _
  rw [BitVec.toNat_xor, ofInt_u32 a ha, ofInt_u32 b hb, IntKind.wrap_u32']
  omega
theorem u32_and (a b : Nat) (ha : a < 4294967296) (hb : b < 4294967296) : Go.bits .and .u32 (a : Int) (b : Int) = ((a &&& b : Nat) : Int) := by
  have hx : a &&& b < 2 ^ 32 := Nat.and_lt_two_pow _ (by omega)
  show IntKind.u32.wrap ((BitVec.ofInt 32 (a : Int) &&& BitVec.ofInt 32 (b : Int)).toNat : Int) = _
  rw [BitVec.toNat_and, ofInt_u32 a ha, ofInt_u32 b hb, IntKind.wrap_u32']
  omega
theorem bits_step (x : Nat) (hx : x < 4294967296) : Go.bits .xor .u32 ((x : Int) / 2) (Go.bits .and .u32 3988292384 ((-(Go.bits .and .u32 (x : Int) 1)) % 4294967296)) = ((M x : Nat) : Int) := by
  have h1 : Go.bits .and .u32 (x : Int) 1 = ((x % 2 : Nat) : Int) := by
    have := u32_and x 1 hx (by decide)
    rw [Nat.and_one_is_mod] at this
    exact this
  rw [h1]
  have hd : ((x : Int) / 2) = ((x / 2 : Nat) : Int) := by omega
  rw [hd]
  unfold M
  rcases Nat.mod_two_eq_zero_or_one x with h | h
  · rw [h]
    have e : (-((0 : Nat) : Int)) % 4294967296 = ((0 : Nat) : Int) := by decide
    have e2 : (3988292384 : Int) = ((3988292384 : Nat) : Int) := rfl
    rw [e, e2, u32_and _ _ (by decide) (by decide), Nat.and_zero, u32_xor _ _ (by omega) (by decide)]
    simp
  · rw [h]
    have e : (-((1 : Nat) : Int)) % 4294967296 = ((4294967295 : Nat) : Int) := by decide
    have e2 : (3988292384 : Int) = ((3988292384 : Nat) : Int) := rfl
    rw [e, e2, u32_and _ _ (by decide) (by decide), u32_xor _ _ (by omega) (by decide)]
    have e3 : 3988292384 &&& 4294967295 = 3988292384 := by decide
    rw [e3]
    simp
theorem wrap64_in (x : Int) (h0 : 0 ≤ x) (h1 : x ≤ 9223372036854775807) : wrap64 x = x := by
  unfold wrap64
  omega
theorem not32 (r : Nat) (hr : r < 4294967296) : r ^^^ 4294967295 = 4294967295 - r := by
  have h := BitVec.toNat_not (x := BitVec.ofNat 32 r)
  have e : (~~~(BitVec.ofNat 32 r)) = BitVec.ofNat 32 r ^^^ BitVec.allOnes 32 := by rw [BitVec.xor_allOnes]
  rw [e, BitVec.toNat_xor, BitVec.toNat_allOnes, BitVec.toNat_ofNat, Nat.mod_eq_of_lt (by omega)] at h
  simpa using h
theorem bit_step (r c d : Nat) (hc : c < 2 ^ (d + 1)) : Mn (d + 1) (r ^^^ c) = Mn d ((r / 2 ^^^ (if r % 2 = c % 2 then 0 else 3988292384)) ^^^ c / 2) := by
  simp only [Mn]
  congr 1
  unfold M
  rw [xor_div_two, xor_mod_two]
  rcases Nat.mod_two_eq_zero_or_one r with h | h <;> rcases Nat.mod_two_eq_zero_or_one c with h' | h' <;> simp [h, h'] <;> ac_rfl
theorem tmod2 (n : Nat) : Int.tmod (n : Int) 2 = ((n % 2 : Nat) : Int) := by
  rw [Int.tmod_eq_emod_of_nonneg (by omega)]
  omega
theorem tdiv_nat (n m : Nat) : Int.tdiv (n : Int) (m : Int) = ((n / m : Nat) : Int) := by
  rw [Int.tdiv_eq_ediv_of_nonneg (by omega)]
  exact (Int.natCast_ediv n m).symm
theorem tmod_nat (n m : Nat) : Int.tmod (n : Int) (m : Int) = ((n % m : Nat) : Int) := by
  rw [Int.tmod_eq_emod_of_nonneg (by omega)]
  exact (Int.natCast_emod n m).symm
/-- Bytes: numbers below 256. -/
def isB (l : List Int) : Prop := ∀ x ∈ l, 0 ≤ x ∧ x < 256
instance (l : List Int) : Decidable (isB l) := inferInstanceAs (Decidable (∀ x ∈ l, 0 ≤ x ∧ x < 256))
theorem wf_u8 {x : Int} (h : (Lit.int .u8 x).wf = true) : 0 ≤ x ∧ x < 256 := by
  simp only [Lit.wf, Bool.and_eq_true, decide_eq_true_eq] at h
  have e1 : IntKind.u8.min = 0 := rfl
  have e2 : IntKind.u8.max = 255 := rfl
  omega
theorem wf_u16 {x : Int} (h : (Lit.int .u16 x).wf = true) : 0 ≤ x ∧ x < 65536 := by
  simp only [Lit.wf, Bool.and_eq_true, decide_eq_true_eq] at h
  have e1 : IntKind.u16.min = 0 := rfl
  have e2 : IntKind.u16.max = 65535 := rfl
  omega
theorem wf_u32 {x : Int} (h : (Lit.int .u32 x).wf = true) : 0 ≤ x ∧ x < 4294967296 := by
  simp only [Lit.wf, Bool.and_eq_true, decide_eq_true_eq] at h
  have e1 : IntKind.u32.min = 0 := rfl
  have e2 : IntKind.u32.max = 4294967295 := rfl
  omega
theorem wf_i64 {x : Int} (h : (Lit.int .i64 x).wf = true) : -9223372036854775808 ≤ x ∧ x ≤ 9223372036854775807 := by
  simp only [Lit.wf, Bool.and_eq_true, decide_eq_true_eq] at h
  have e1 : IntKind.i64.min = -9223372036854775808 := rfl
  have e2 : IntKind.i64.max = 9223372036854775807 := rfl
  omega
theorem isB_wf {l : List Int} (h : ∀ x ∈ l, (Lit.int .u8 x).wf = true) : isB l := fun x hx => wf_u8 (h x hx)
def nats (l : List Int) : List Nat := l.map Int.toNat
theorem nats_lt {l : List Int} (h : isB l) : ∀ x ∈ nats l, x < 256 := by
  intro x hx
  obtain ⟨y, hy, rfl⟩ := List.mem_map.1 hx
  have := h y hy
  omega
theorem isB_append' {a b : List Int} (ha : isB a) (hb : isB b) : isB (a ++ b) := fun x hx => (List.mem_append.1 hx).elim (ha x) (hb x)
theorem isB_two {x y : Int} (hx : 0 ≤ x ∧ x < 256) (hy : 0 ≤ y ∧ y < 256) : isB [x, y] := by
  intro z hz
  rcases List.mem_cons.1 hz with rfl | hz
  · exact hx
  · rw [List.mem_singleton.1 hz]; exact hy
/-- The sum of bytes. -/
def crcI (l : List Int) : Int := (crcN (nats l) : Nat)
theorem crcI_range {l : List Int} (h : isB l) : 0 ≤ crcI l ∧ crcI l < 4294967296 := by
  have := crcN_lt (nats l) (nats_lt h)
  unfold crcI
  omega

theorem crcI_cast (l : List Int) : crcI l = ((crcN (nats l) : Nat) : Int) := rfl
theorem crcI_inj_iff {a b : List Int} : crcI a = crcI b ↔ crcN (nats a) = crcN (nats b) := by unfold crcI; omega
theorem nats_app (a b : List Int) : nats (a ++ b) = nats a ++ nats b := by simp [nats]
theorem swapped_front (x y : Int) (hx : 0 ≤ x ∧ x < 256) (hy : 0 ≤ y ∧ y < 256) (b : List Int) (hb : isB b) : crcI ([x, y] ++ b) = crcI ([y, x] ++ b) ↔ x = y := by
  constructor
  · intro h
    rw [crcI_inj_iff, nats_app, nats_app] at h
    unfold crcN at h
    have h1 := congrArg (· ^^^ 4294967295) h
    simp only [Nat.xor_assoc, Nat.xor_self, Nat.xor_zero] at h1
    rw [crcReg_append, crcReg_append] at h1
    have hN : ∀ u v : Int, (0 ≤ u ∧ u < 256) → (0 ≤ v ∧ v < 256) → crcReg 4294967295 (nats [u, v]) < 4294967296 := fun u v hu hv => crcReg_lt _ _ (by decide) (nats_lt (isB_two hu hv))
    have h2 := crcReg_inj (nats b) (nats_lt hb) _ _ (hN x y hx hy) (hN y x hy hx) h1
    have h3 := two_swapped 4294967295 x.toNat y.toNat (by decide) (by omega) (by omega) h2
    omega
  · rintro rfl
    rfl
theorem swapped_back (x y : Int) (hx : 0 ≤ x ∧ x < 256) (hy : 0 ≤ y ∧ y < 256) (b : List Int) (hb : isB b) : crcI (b ++ [x, y]) = crcI (b ++ [y, x]) ↔ x = y := by
  constructor
  · intro h
    rw [crcI_inj_iff, nats_app, nats_app] at h
    unfold crcN at h
    have h1 := congrArg (· ^^^ 4294967295) h
    simp only [Nat.xor_assoc, Nat.xor_self, Nat.xor_zero] at h1
    rw [crcReg_append, crcReg_append] at h1
    have h3 := two_swapped _ x.toNat y.toNat (crcReg_lt _ _ (by decide) (nats_lt hb)) (by omega) (by omega) h1
    omega
  · rintro rfl
    rfl
theorem crc_shown : crcI [49, 50, 51, 52, 53, 54, 55, 56, 57] = 3421780262 := by decide +kernel

end Go.Proofs.YtanfmnobanhcnaaH.Crc
