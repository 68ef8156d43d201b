import Derived.RowKit
set_option linter.unusedVariables false
set_option linter.unusedSimpArgs false
namespace Go.Proofs.YtomomeabfnmncaaGreatH.Crc
open Go.RowKit
/-- One bit of the sum's register. -/
def M (x : Nat) : Nat := (x / 2) ^^^ (if x % 2 = 1 then 3988292384 else 0)
def Mn : Nat → Nat → Nat
  | 0, x => x
  | n + 1, x => Mn n (M x)
def crcReg (r : Nat) (l : List Nat) : Nat := l.foldl (fun r c => Mn 8 (r ^^^ c)) r
def crcN (l : List Nat) : Nat := crcReg 4294967295 l ^^^ 4294967295

theorem xlc (x y z : Nat) : x ^^^ (y ^^^ z) = y ^^^ (x ^^^ z) := by rw [← Nat.xor_assoc, Nat.xor_comm x y, Nat.xor_assoc]
theorem xcan (x y : Nat) : x ^^^ (x ^^^ y) = y := by rw [← Nat.xor_assoc, Nat.xor_self, Nat.zero_xor]
theorem xor_mod_two (x y : Nat) : (x ^^^ y) % 2 = (x % 2 + y % 2) % 2 := by
  have := Nat.xor_mod_two_pow (a := x) (b := y) (n := 1)
  simp at this
  rw [this]
  rcases Nat.mod_two_eq_zero_or_one x with h | h <;> rcases Nat.mod_two_eq_zero_or_one y with h' | h' <;> simp [h, h']
theorem xor_div_two (x y : Nat) : (x ^^^ y) / 2 = x / 2 ^^^ y / 2 := by
  have := Nat.shiftRight_xor_distrib (a := x) (b := y) (i := 1)
  simpa [Nat.shiftRight_eq_div_pow] using this
theorem M_xor (x y : Nat) : M (x ^^^ y) = M x ^^^ M y := by
  unfold M
  rw [xor_div_two, xor_mod_two]
  rcases Nat.mod_two_eq_zero_or_one x with h | h <;> rcases Nat.mod_two_eq_zero_or_one y with h' | h' <;> simp [h, h', Nat.xor_assoc]
  · ac_rfl
  · have e : ∀ a b p : Nat, a ^^^ (p ^^^ (b ^^^ p)) = p ^^^ (p ^^^ (a ^^^ b)) := fun a b p => by ac_rfl
    rw [e, xcan]
theorem M_zero : M 0 = 0 := by decide
theorem Mn_xor (n : Nat) : ∀ x y, Mn n (x ^^^ y) = Mn n x ^^^ Mn n y := by
  induction n with
  | zero => intro x y; rfl
  | succ n ih => intro x y; simp only [Mn]; rw [M_xor, ih]
theorem Mn_zero (n : Nat) : Mn n 0 = 0 := by
  induction n with
  | zero => rfl
  | succ n ih => simp only [Mn]; rw [M_zero, ih]
theorem Mn_add (a b x : Nat) : Mn (a + b) x = Mn b (Mn a x) := by
  induction a generalizing x with
  | zero => simp [Mn]
  | succ a ih => rw [Nat.succ_add]; simp only [Mn]; rw [ih]
theorem M_double (y : Nat) : M (2 * y) = y := by
  unfold M
  have h1 : 2 * y / 2 = y := by omega
  have h2 : ¬ (2 * y % 2 = 1) := by omega
  rw [h1, if_neg h2, Nat.xor_zero]
theorem Mn_shift (n y : Nat) : Mn n (y * 2 ^ n) = y := by
  induction n generalizing y with
  | zero => simp [Mn]
  | succ n ih =>
    simp only [Mn]
    have : y * 2 ^ (n + 1) = 2 * (y * 2 ^ n) := by rw [Nat.pow_succ]; ac_rfl
    rw [this, M_double, ih]
theorem M_lt (x : Nat) (h : x < 4294967296) : M x < 4294967296 := by
  unfold M
  refine Nat.xor_lt_two_pow (n := 32) (by omega) ?_
  split <;> decide
theorem Mn_lt (n x : Nat) (h : x < 4294967296) : Mn n x < 4294967296 := by
  induction n generalizing x with
  | zero => exact h
  | succ n ih => exact ih _ (M_lt x h)
theorem M_eq_zero (x : Nat) (hx : x < 4294967296) (h : M x = 0) : x = 0 := by
  unfold M at h
  by_cases h1 : x % 2 = 1
  · rw [if_pos h1] at h
    have h2 : x / 2 = 3988292384 := by
      have := congrArg (· ^^^ 3988292384) h
      simpa [Nat.xor_assoc] using this
    omega
  · rw [if_neg h1, Nat.xor_zero] at h
    omega
theorem Mn_eq_zero (n x : Nat) (hx : x < 4294967296) (h : Mn n x = 0) : x = 0 := by
  induction n generalizing x with
  | zero => exact h
  | succ n ih => exact M_eq_zero x hx (ih _ (M_lt x hx) h)
theorem xor_eq_zero {x y : Nat} (h : x ^^^ y = 0) : x = y := by
  have := congrArg (· ^^^ y) h
  simpa [Nat.xor_assoc] using this
theorem Mn_inj (n x y : Nat) (hx : x < 4294967296) (hy : y < 4294967296) (h : Mn n x = Mn n y) : x = y := by
  refine xor_eq_zero (Mn_eq_zero n _ (Nat.xor_lt_two_pow (n := 32) hx hy) ?_)
  rw [Mn_xor, h, Nat.xor_self]

/-- A byte at once: what the program does. -/
theorem byte_step (r c : Nat) : Mn 8 (r ^^^ c) = r / 256 ^^^ Mn 8 ((r % 256) ^^^ c) := by
  have h : r = (r / 256 * 2 ^ 8) ^^^ (r % 256) := by
    apply Nat.eq_of_testBit_eq
    intro i
    rw [Nat.testBit_xor]
    have e : r = 2 ^ 8 * (r / 256) + r % 256 := by omega
    rw [Nat.mul_comm]
    conv => lhs; rw [e]
    rw [Nat.testBit_two_pow_mul_add _ (by omega)]
    rw [Nat.testBit_two_pow_mul]
    by_cases hi : i < 8
    · have h8 : ¬ (8 ≤ i) := by omega
      simp [hi, h8]
    · rw [if_neg hi]
      have : (r % 256).testBit i = false := Nat.testBit_lt_two_pow (Nat.lt_of_lt_of_le (Nat.mod_lt _ (by decide)) (by show 2 ^ 8 ≤ 2 ^ i; exact Nat.pow_le_pow_right (by decide) (by omega)))
      rw [this]
      have h8 : 8 ≤ i := by omega
      simp [h8]
  conv => lhs; rw [h, Nat.xor_assoc, Mn_xor, Mn_shift]
theorem crcReg_cons (r c : Nat) (l : List Nat) : crcReg r (c :: l) = crcReg (Mn 8 (r ^^^ c)) l := rfl
theorem crcReg_append (r : Nat) (l m : List Nat) : crcReg r (l ++ m) = crcReg (crcReg r l) m := by
  unfold crcReg
  rw [List.foldl_append]
theorem crcReg_lt (l : List Nat) : ∀ (r : Nat), r < 4294967296 → (∀ x ∈ l, x < 256) → crcReg r l < 4294967296 := by
  induction l with
  | nil => intro r h _; exact h
  | cons c l ih =>
    intro r h hl
    rw [crcReg_cons]
    exact ih _ (Mn_lt _ _ (Nat.xor_lt_two_pow (n := 32) h (Nat.lt_trans (hl c List.mem_cons_self) (by decide)))) (fun x hx => hl x (List.mem_cons_of_mem _ hx))
theorem crcN_lt (l : List Nat) (hl : ∀ x ∈ l, x < 256) : crcN l < 4294967296 := Nat.xor_lt_two_pow (n := 32) (crcReg_lt l _ (by decide) hl) (by decide)
/-- The register is linear. -/
theorem crcReg_xor (a b : List Nat) (h : a.length = b.length) : ∀ r s, crcReg (r ^^^ s) (List.zipWith (· ^^^ ·) a b) = crcReg r a ^^^ crcReg s b := by
  induction a generalizing b with
  | nil =>
    intro r s
    rcases b with _ | ⟨y, b⟩
    · rfl
    · simp at h
  | cons x a ih =>
    rcases b with _ | ⟨y, b⟩
    · simp at h
    · intro r s
      rw [List.zipWith_cons_cons, crcReg_cons, crcReg_cons, crcReg_cons, ← ih b (by simpa using h)]
      congr 1
      rw [← Mn_xor]
      congr 1
      ac_rfl
theorem crcReg_inj (l : List Nat) (hl : ∀ x ∈ l, x < 256) : ∀ r s, r < 4294967296 → s < 4294967296 → crcReg r l = crcReg s l → r = s := by
  induction l with
  | nil => intro r s _ _ h; exact h
  | cons c l ih =>
    intro r s hr hs h
    rw [crcReg_cons, crcReg_cons] at h
    have hc : c < 4294967296 := Nat.lt_trans (hl c List.mem_cons_self) (by decide)
    have h1 := ih (fun x hx => hl x (List.mem_cons_of_mem _ hx)) _ _ (Mn_lt _ _ (Nat.xor_lt_two_pow (n := 32) hr hc)) (Mn_lt _ _ (Nat.xor_lt_two_pow (n := 32) hs hc)) h
    have h2 := Mn_inj _ _ _ (Nat.xor_lt_two_pow (n := 32) hr hc) (Nat.xor_lt_two_pow (n := 32) hs hc) h1
    have := congrArg (· ^^^ c) h2
    simpa [Nat.xor_assoc] using this
theorem crcN_three (a b c : List Nat) (h1 : a.length = b.length) (h2 : b.length = c.length) :
    crcN (List.zipWith (· ^^^ ·) (List.zipWith (· ^^^ ·) a b) c) = crcN a ^^^ crcN b ^^^ crcN c := by
  unfold crcN
  have e : (4294967295 : Nat) = (4294967295 ^^^ 4294967295) ^^^ 4294967295 := by decide
  conv => lhs; lhs; arg 1; rw [e]
  rw [crcReg_xor _ _ (by rw [List.length_zipWith]; omega), crcReg_xor _ _ h1]
  generalize crcReg 4294967295 a = x
  generalize crcReg 4294967295 b = y
  generalize crcReg 4294967295 c = z
  have e3 : ∀ i : Nat, x ^^^ y ^^^ z ^^^ i = x ^^^ i ^^^ (y ^^^ i) ^^^ (z ^^^ i) := fun i => by
    have h1 : x ^^^ i ^^^ (y ^^^ i) ^^^ (z ^^^ i) = (i ^^^ (i ^^^ (x ^^^ y ^^^ z ^^^ i))) := by ac_rfl
    rw [h1, xcan]
  exact e3 _
/-- No byte but 0 is what it becomes. -/
theorem no_fix : ∀ z : Fin 256, Mn 8 z.val = z.val → z.val = 0 := by decide +kernel
theorem two_swapped (r x y : Nat) (hr : r < 4294967296) (hx : x < 256) (hy : y < 256) (h : crcReg r [x, y] = crcReg r [y, x]) : x = y := by
  simp only [crcReg, List.foldl_cons, List.foldl_nil] at h
  have hxx : x < 4294967296 := by omega
  have hyy : y < 4294967296 := by omega
  have h1 := Mn_inj 8 _ _ (Nat.xor_lt_two_pow (n := 32) (Mn_lt _ _ (Nat.xor_lt_two_pow (n := 32) hr hxx)) hyy) (Nat.xor_lt_two_pow (n := 32) (Mn_lt _ _ (Nat.xor_lt_two_pow (n := 32) hr hyy)) hxx) h
  rw [Mn_xor, Mn_xor] at h1
  have h2 : Mn 8 x ^^^ y = Mn 8 y ^^^ x := by
    have := congrArg (Mn 8 r ^^^ ·) h1
    simpa [← Nat.xor_assoc] using this
  have h3 : Mn 8 (x ^^^ y) = x ^^^ y := by
    rw [Mn_xor]
    generalize Mn 8 x = u at h2 ⊢
    generalize Mn 8 y = v at h2 ⊢
    have h4 : u = v ^^^ x ^^^ y := by rw [← h2, Nat.xor_assoc, Nat.xor_self, Nat.xor_zero]
    rw [h4]
    have h5 : v ^^^ x ^^^ y ^^^ v = v ^^^ (v ^^^ (x ^^^ y)) := by ac_rfl
    rw [h5, xcan]
  have hz : x ^^^ y < 256 := Nat.xor_lt_two_pow (n := 8) hx hy
  exact xor_eq_zero (no_fix ⟨x ^^^ y, hz⟩ h3)
/-- Bytes as one number, the first ones the least. -/
def numLE : List Nat → Nat
  | [] => 0
  | c :: l => c + 256 * numLE l
theorem add_eq_xor (c a : Nat) (hc : c < 256) : c + 256 * a = c ^^^ (a * 2 ^ 8) := by
  apply Nat.eq_of_testBit_eq
  intro i
  have e : c + 256 * a = 2 ^ 8 * a + c := by omega
  rw [e, Nat.testBit_two_pow_mul_add _ (by simpa using hc), Nat.testBit_xor, Nat.mul_comm a, Nat.testBit_two_pow_mul]
  by_cases hi : i < 8
  · have h8 : ¬ (8 ≤ i) := by omega
    simp [hi, h8]
  · have : c.testBit i = false := Nat.testBit_lt_two_pow (Nat.lt_of_lt_of_le hc (by show 2 ^ 8 ≤ 2 ^ i; exact Nat.pow_le_pow_right (by decide) (by omega)))
    have h8 : 8 ≤ i := by omega
    simp [hi, h8, this]
theorem crcReg_num (l : List Nat) (hl : ∀ x ∈ l, x < 256) : ∀ r, crcReg r l = Mn (8 * l.length) (r ^^^ numLE l) := by
  induction l with
  | nil => intro r; simp [crcReg, numLE, Mn]
  | cons c l ih =>
    intro r
    rw [crcReg_cons, ih (fun x hx => hl x (List.mem_cons_of_mem _ hx)), List.length_cons, Nat.mul_succ, Nat.add_comm (8 * l.length) 8, Mn_add]
    congr 1
    conv => lhs; arg 2; rw [← Mn_shift 8 (numLE l)]
    rw [← Mn_xor]
    congr 1
    simp only [numLE]
    rw [add_eq_xor c _ (hl c List.mem_cons_self), Nat.xor_assoc]
/-- Up to 32 bits in a row that are turned, of bytes of one length, turn the sum. -/
theorem burst (a b : List Nat) (ha : ∀ x ∈ a, x < 256) (hb : ∀ x ∈ b, x < 256) (h : a.length = b.length) (p W : Nat) (hp : p ≤ 8 * a.length) (hW : W < 4294967296) (h0 : W ≠ 0) (he : numLE b = numLE a ^^^ (W * 2 ^ p)) : crcN a ≠ crcN b := by
  intro hc
  have h1 : crcReg 4294967295 a = crcReg 4294967295 b := by
    unfold crcN at hc
    have := congrArg (· ^^^ 4294967295) hc
    simpa [Nat.xor_assoc] using this
  rw [crcReg_num a ha, crcReg_num b hb, ← h, he, ← Nat.xor_assoc, Mn_xor _ (4294967295 ^^^ numLE a) (W * 2 ^ p)] at h1
  generalize Mn (8 * a.length) (4294967295 ^^^ numLE a) = Z at h1
  have h2 : Mn (8 * a.length) (W * 2 ^ p) = 0 := by
    have := congrArg (Z ^^^ ·) h1
    simp only [xcan, Nat.xor_self] at this
    exact this.symm
  have h3 : 8 * a.length = p + (8 * a.length - p) := by omega
  rw [h3, Mn_add, Mn_shift] at h2
  exact h0 (Mn_eq_zero _ _ hW h2)
theorem numLE_lt (l : List Nat) (hl : ∀ x ∈ l, x < 256) : numLE l < 256 ^ l.length := by
  induction l with
  | nil => simp [numLE]
  | cons c l ih =>
    have h1 := ih (fun x hx => hl x (List.mem_cons_of_mem _ hx))
    have h2 := hl c List.mem_cons_self
    simp only [numLE, List.length_cons, Nat.pow_succ]
    omega
theorem numLE_set (l : List Nat) (hl : ∀ x ∈ l, x < 256) (j b : Nat) (hj : j < l.length) (hb : b < 8) : numLE (l.set j (l[j] ^^^ 2 ^ b)) = numLE l ^^^ 2 ^ (8 * j + b) := by
  induction l generalizing j with
  | nil => simp at hj
  | cons c l ih =>
    have hc := hl c List.mem_cons_self
    have h2b : 2 ^ b < 256 := by
      have : 2 ^ b < 2 ^ 8 := Nat.pow_lt_pow_right (by decide) hb
      simpa using this
    cases j with
    | zero =>
      simp only [List.set_cons_zero, List.getElem_cons_zero, numLE, Nat.mul_zero, Nat.zero_add]
      rw [add_eq_xor _ _ (Nat.xor_lt_two_pow (n := 8) hc h2b), add_eq_xor _ _ hc]
      ac_rfl
    | succ j =>
      have hjl : j < l.length := by simpa using hj
      simp only [List.set_cons_succ, List.getElem_cons_succ, numLE]
      rw [ih (fun x hx => hl x (List.mem_cons_of_mem _ hx)) j hjl, add_eq_xor _ _ hc, add_eq_xor _ _ hc]
      have e : 2 ^ (8 * (j + 1) + b) = 2 ^ (8 * j + b) * 2 ^ 8 := by rw [← Nat.pow_add]; congr 1; omega
      have e2 : ∀ x y : Nat, (x ^^^ y) * 2 ^ 8 = x * 2 ^ 8 ^^^ y * 2 ^ 8 := fun x y => by
        have := Nat.shiftLeft_xor_distrib (a := x) (b := y) (i := 8)
        simpa [Nat.shiftLeft_eq] using this
      rw [e, e2, Nat.xor_assoc]

/-! the same in the numbers of the program -/
theorem ofInt_u32 (a : Nat) (ha : a < 4294967296) : (BitVec.ofInt 32 (a : Int)).toNat = a := by
  rw [BitVec.ofInt_natCast, BitVec.toNat_ofNat]; exact Nat.mod_eq_of_lt (by omega)
theorem not32 (r : Nat) (hr : r < 4294967296) : r ^^^ 4294967295 = 4294967295 - r := by
  have h := BitVec.toNat_not (x := BitVec.ofNat 32 r)
  have e : (~~~(BitVec.ofNat 32 r)) = BitVec.ofNat 32 r ^^^ BitVec.allOnes 32 := by rw [BitVec.xor_allOnes]
  rw [e, BitVec.toNat_xor, BitVec.toNat_allOnes, BitVec.toNat_ofNat, Nat.mod_eq_of_lt (by omega)] at h
  simpa using h
theorem bit_step (r c d : Nat) (hc : c < 2 ^ (d + 1)) : Mn (d + 1) (r ^^^ c) = Mn d ((r / 2 ^^^ (if r % 2 = c % 2 then 0 else 3988292384)) ^^^ c / 2) := by
  simp only [Mn]
  congr 1
  unfold M
  rw [xor_div_two, xor_mod_two]
  rcases Nat.mod_two_eq_zero_or_one r with h | h <;> rcases Nat.mod_two_eq_zero_or_one c with h' | h' <;> simp [h, h'] <;> ac_rfl
/-- Bytes: numbers below 256. -/
def isB (l : List Int) : Prop := ∀ x ∈ l, 0 ≤ x ∧ x < 256
instance (l : List Int) : Decidable (isB l) := inferInstanceAs (Decidable (∀ x ∈ l, 0 ≤ x ∧ x < 256))
theorem wf_u8 {x : Int} (h : (Lit.int .u8 x).wf = true) : 0 ≤ x ∧ x < 256 := by
  simp only [Lit.wf, Bool.and_eq_true, decide_eq_true_eq] at h
  have e1 : IntKind.u8.min = 0 := rfl
  have e2 : IntKind.u8.max = 255 := rfl
  omega
theorem wf_u16 {x : Int} (h : (Lit.int .u16 x).wf = true) : 0 ≤ x ∧ x < 65536 := by
  simp only [Lit.wf, Bool.and_eq_true, decide_eq_true_eq] at h
  have e1 : IntKind.u16.min = 0 := rfl
  have e2 : IntKind.u16.max = 65535 := rfl
  omega
theorem wf_u32 {x : Int} (h : (Lit.int .u32 x).wf = true) : 0 ≤ x ∧ x < 4294967296 := by
  simp only [Lit.wf, Bool.and_eq_true, decide_eq_true_eq] at h
  have e1 : IntKind.u32.min = 0 := rfl
  have e2 : IntKind.u32.max = 4294967295 := rfl
  omega
theorem wf_i64 {x : Int} (h : (Lit.int .i64 x).wf = true) : -9223372036854775808 ≤ x ∧ x ≤ 9223372036854775807 := by
  simp only [Lit.wf, Bool.and_eq_true, decide_eq_true_eq] at h
  have e1 : IntKind.i64.min = -9223372036854775808 := rfl
  have e2 : IntKind.i64.max = 9223372036854775807 := rfl
  omega
theorem isB_wf {l : List Int} (h : ∀ x ∈ l, (Lit.int .u8 x).wf = true) : isB l := fun x hx => wf_u8 (h x hx)
def nats (l : List Int) : List Nat := l.map Int.toNat
theorem nats_lt {l : List Int} (h : isB l) : ∀ x ∈ nats l, x < 256 := by
  intro x hx
  obtain ⟨y, hy, rfl⟩ := List.mem_map.1 hx
  have := h y hy
  omega
theorem isB_append' {a b : List Int} (ha : isB a) (hb : isB b) : isB (a ++ b) := fun x hx => (List.mem_append.1 hx).elim (ha x) (hb x)
theorem isB_two {x y : Int} (hx : 0 ≤ x ∧ x < 256) (hy : 0 ≤ y ∧ y < 256) : isB [x, y] := by
  intro z hz
  rcases List.mem_cons.1 hz with rfl | hz
  · exact hx
  · rw [List.mem_singleton.1 hz]; exact hy
/-- The sum of bytes. -/
def crcI (l : List Int) : Int := (crcN (nats l) : Nat)
theorem crcI_range {l : List Int} (h : isB l) : 0 ≤ crcI l ∧ crcI l < 4294967296 := by
  have := crcN_lt (nats l) (nats_lt h)
  unfold crcI
  omega

theorem crcI_cast (l : List Int) : crcI l = ((crcN (nats l) : Nat) : Int) := rfl
theorem crcI_inj_iff {a b : List Int} : crcI a = crcI b ↔ crcN (nats a) = crcN (nats b) := by unfold crcI; omega
theorem nats_app (a b : List Int) : nats (a ++ b) = nats a ++ nats b := by simp [nats]
theorem swapped_front (x y : Int) (hx : 0 ≤ x ∧ x < 256) (hy : 0 ≤ y ∧ y < 256) (b : List Int) (hb : isB b) : crcI ([x, y] ++ b) = crcI ([y, x] ++ b) ↔ x = y := by
  constructor
  · intro h
    rw [crcI_inj_iff, nats_app, nats_app] at h
    unfold crcN at h
    have h1 := congrArg (· ^^^ 4294967295) h
    simp only [Nat.xor_assoc, Nat.xor_self, Nat.xor_zero] at h1
    rw [crcReg_append, crcReg_append] at h1
    have hN : ∀ u v : Int, (0 ≤ u ∧ u < 256) → (0 ≤ v ∧ v < 256) → crcReg 4294967295 (nats [u, v]) < 4294967296 := fun u v hu hv => crcReg_lt _ _ (by decide) (nats_lt (isB_two hu hv))
    have h2 := crcReg_inj (nats b) (nats_lt hb) _ _ (hN x y hx hy) (hN y x hy hx) h1
    have h3 := two_swapped 4294967295 x.toNat y.toNat (by decide) (by omega) (by omega) h2
    omega
  · rintro rfl
    rfl
theorem swapped_back (x y : Int) (hx : 0 ≤ x ∧ x < 256) (hy : 0 ≤ y ∧ y < 256) (b : List Int) (hb : isB b) : crcI (b ++ [x, y]) = crcI (b ++ [y, x]) ↔ x = y := by
  constructor
  · intro h
    rw [crcI_inj_iff, nats_app, nats_app] at h
    unfold crcN at h
    have h1 := congrArg (· ^^^ 4294967295) h
    simp only [Nat.xor_assoc, Nat.xor_self, Nat.xor_zero] at h1
    rw [crcReg_append, crcReg_append] at h1
    have h3 := two_swapped _ x.toNat y.toNat (crcReg_lt _ _ (by decide) (nats_lt hb)) (by omega) (by omega) h1
    omega
  · rintro rfl
    rfl
theorem crc_shown : crcI [49, 50, 51, 52, 53, 54, 55, 56, 57] = 3421780262 := by decide +kernel

end Go.Proofs.YtomomeabfnmncaaGreatH.Crc
set_option linter.unusedVariables false
set_option linter.unusedSimpArgs false
namespace Go.Proofs.YtomomeabfnmncaaGreatH.Var
open Go.RowKit
open Go.Proofs.YtomomeabfnmncaaGreatH.Crc (isB nats nats_lt)
/-- A number in parts of seven bits. -/
def putN (x : Nat) : List Nat := if h : x < 128 then [x] else (x % 128 + 128) :: putN (x / 128)
termination_by x
decreasing_by omega
/-- What the first bytes say, put as they are (of any size): the number, and how many bytes. -/
def dec : List Nat → Option (Nat × Nat)
  | [] => none
  | c :: t => if c < 128 then some (c, 1) else match dec t with
    | none => none
    | some (z, n) => if z = 0 then none else some (z * 128 + (c - 128), n + 1)
theorem dec_small {c : Nat} (t : List Nat) (h : c < 128) : dec (c :: t) = some (c, 1) := by simp only [dec]; rw [if_pos h]
theorem dec_none {c : Nat} {t : List Nat} (h : ¬ c < 128) (hd : dec t = none) : dec (c :: t) = none := by simp only [dec]; rw [if_neg h, hd]
theorem dec_big {c z n : Nat} {t : List Nat} (h : ¬ c < 128) (hd : dec t = some (z, n)) : dec (c :: t) = if z = 0 then none else some (z * 128 + (c - 128), n + 1) := by simp only [dec]; rw [if_neg h, hd]
theorem putN_small {x : Nat} (h : x < 128) : putN x = [x] := by rw [putN, dif_pos h]
theorem putN_big {x : Nat} (h : ¬ x < 128) : putN x = (x % 128 + 128) :: putN (x / 128) := by rw [putN, dif_neg h]
theorem putN_pos (x : Nat) : 0 < (putN x).length := by
  by_cases h : x < 128
  · rw [putN_small h]; simp
  · rw [putN_big h]; simp
theorem putN_byte (x : Nat) : ∀ c ∈ putN x, c < 256 := by
  induction x using Nat.strongRecOn with
  | _ x ih =>
    by_cases h : x < 128
    · rw [putN_small h]; intro c hc; simp at hc; omega
    · rw [putN_big h]
      intro c hc
      rcases List.mem_cons.1 hc with rfl | hc
      · omega
      · exact ih (x / 128) (by omega) c hc
theorem dec_put (x : Nat) (r : List Nat) : dec (putN x ++ r) = some (x, (putN x).length) := by
  induction x using Nat.strongRecOn with
  | _ x ih =>
    by_cases h : x < 128
    · rw [putN_small h]; simp [dec, h]
    · rw [putN_big h, List.cons_append]
      simp only [dec]
      rw [if_neg (by omega), ih (x / 128) (by omega)]
      simp only
      rw [if_neg (by omega)]
      simp only [List.length_cons, Option.some.injEq, Prod.mk.injEq, and_true]
      omega
theorem dec_some (l : List Nat) (hl : ∀ c ∈ l, c < 256) : ∀ x n, dec l = some (x, n) → l.take n = putN x ∧ n = (putN x).length := by
  induction l with
  | nil => intro x n h; simp [dec] at h
  | cons c t ih =>
    intro x n h
    simp only [dec] at h
    by_cases hc : c < 128
    · rw [if_pos hc] at h
      simp only [Option.some.injEq, Prod.mk.injEq] at h
      obtain ⟨rfl, rfl⟩ := h
      rw [putN_small hc]
      simp
    · rw [if_neg hc] at h
      cases hd : dec t with
      | none => rw [hd] at h; simp at h
      | some p =>
        obtain ⟨z, m⟩ := p
        rw [hd] at h
        simp only at h
        by_cases hz : z = 0
        · rw [if_pos hz] at h; cases h
        · rw [if_neg hz] at h
          simp only [Option.some.injEq, Prod.mk.injEq] at h
          obtain ⟨rfl, rfl⟩ := h
          obtain ⟨h1, h2⟩ := ih (fun c hc => hl c (List.mem_cons_of_mem _ hc)) z m hd
          have hcb := hl c List.mem_cons_self
          have hb : ¬ z * 128 + (c - 128) < 128 := by omega
          rw [putN_big hb]
          have e1 : (z * 128 + (c - 128)) / 128 = z := by omega
          have e2 : (z * 128 + (c - 128)) % 128 + 128 = c := by omega
          rw [e1, e2, List.take_succ_cons, h1]
          exact ⟨rfl, by simp [h2]⟩
theorem dec_le (l : List Nat) (x n : Nat) (h : dec l = some (x, n)) : 1 ≤ n ∧ n ≤ l.length := by
  induction l generalizing x n with
  | nil => simp [dec] at h
  | cons c t ih =>
    simp only [dec] at h
    by_cases hc : c < 128
    · rw [if_pos hc] at h
      simp only [Option.some.injEq, Prod.mk.injEq] at h
      obtain ⟨_, rfl⟩ := h
      simp
    · rw [if_neg hc] at h
      cases hd : dec t with
      | none => rw [hd] at h; simp at h
      | some p =>
        obtain ⟨z, m⟩ := p
        rw [hd] at h
        simp only at h
        by_cases hz : z = 0
        · rw [if_pos hz] at h; cases h
        · rw [if_neg hz] at h
          simp only [Option.some.injEq, Prod.mk.injEq] at h
          obtain ⟨_, rfl⟩ := h
          have := ih z m hd
          simp
          omega
/-- A part of a number's bytes says none. -/
theorem dec_part (x : Nat) : ∀ k, k < (putN x).length → dec ((putN x).take k) = none := by
  induction x using Nat.strongRecOn with
  | _ x ih =>
    intro k hk
    by_cases h : x < 128
    · rw [putN_small h] at hk ⊢
      have : k = 0 := by simp at hk; omega
      subst this
      simp [dec]
    · rw [putN_big h] at hk ⊢
      cases k with
      | zero => simp [dec]
      | succ k =>
        rw [List.take_succ_cons]
        simp only [dec]
        rw [if_neg (by omega), ih (x / 128) (by omega) k (by simpa using hk)]
theorem putN_inj {x y : Nat} (h : putN x = putN y) : x = y := by
  have h1 := dec_put x []
  have h2 := dec_put y []
  rw [h, h2] at h1
  simp only [Option.some.injEq, Prod.mk.injEq] at h1
  exact h1.1.symm
/-- How long a number is. -/
theorem putN_len (x d : Nat) (h : x < 128 ^ (d + 1)) : (putN x).length ≤ d + 1 := by
  induction d generalizing x with
  | zero => rw [putN_small (by simpa using h)]; simp
  | succ d ih =>
    by_cases hs : x < 128
    · rw [putN_small hs]; simp
    · rw [putN_big hs]
      have : x / 128 < 128 ^ (d + 1) := by
        rw [Nat.pow_succ] at h
        exact Nat.div_lt_of_lt_mul (by omega)
      have := ih _ this
      simp
      omega
theorem putN_len10 (x : Nat) (h : x < 18446744073709551616) : (putN x).length ≤ 10 := putN_len x 9 (Nat.lt_of_lt_of_le h (by decide))
/-- The number that the first bytes say, below 2^64; (0, 0): none. -/
def varN (l : List Nat) : Nat × Nat := match dec l with
  | some (x, n) => if x < 18446744073709551616 then (x, n) else (0, 0)
  | none => (0, 0)
theorem varN_put (x : Nat) (h : x < 18446744073709551616) (r : List Nat) : varN (putN x ++ r) = (x, (putN x).length) := by
  unfold varN
  rw [dec_put]
  simp [h]
theorem varN_part (x k : Nat) (h : k < (putN x).length) : varN ((putN x).take k) = (0, 0) := by
  unfold varN
  rw [dec_part x k h]
theorem varN_some (l : List Nat) (hl : ∀ c ∈ l, c < 256) (x n : Nat) (h : varN l = (x, n)) (h0 : n ≠ 0) : l.take n = putN x ∧ n = (putN x).length ∧ n ≤ l.length ∧ x < 18446744073709551616 := by
  unfold varN at h
  cases hd : dec l with
  | none => rw [hd] at h; simp only [Prod.mk.injEq] at h; omega
  | some p =>
    obtain ⟨y, m⟩ := p
    rw [hd] at h
    simp only at h
    by_cases hy : y < 18446744073709551616
    · rw [if_pos hy] at h
      simp only [Prod.mk.injEq] at h
      obtain ⟨rfl, rfl⟩ := h
      obtain ⟨h1, h2⟩ := dec_some l hl _ _ hd
      exact ⟨h1, h2, (dec_le l _ _ hd).2, hy⟩
    · rw [if_neg hy] at h
      simp only [Prod.mk.injEq] at h
      omega
theorem varN_range (l : List Nat) : (varN l).1 < 18446744073709551616 ∧ (varN l).2 ≤ l.length := by
  unfold varN
  cases hd : dec l with
  | none => simp
  | some p =>
    obtain ⟨y, m⟩ := p
    simp only
    have := dec_le l y m hd
    split
    · simp; omega
    · simp
/-- The same read from the front: the number so far, its bits so far. -/
def res (bl : Nat → Nat) : Nat → Nat → Nat → List Nat → Nat × Nat
  | _, _, _, [] => (0, 0)
  | x, sh, i, c :: t => if 64 < sh + bl (c % 128) then (0, 0) else if c < 128 ∧ c = 0 ∧ 0 < i then (0, 0) else if c < 128 then (x + c % 128 * 2 ^ sh, i + 1) else res bl (x + c % 128 * 2 ^ sh) (sh + 7) (i + 1) t
theorem res_dec (bl : Nat → Nat) (hbl : ∀ p, p < 128 → (p = 0 → bl p = 0) ∧ (p ≠ 0 → 1 ≤ bl p ∧ bl p ≤ 7 ∧ 2 ^ (bl p - 1) ≤ p ∧ p < 2 ^ bl p)) (t : List Nat) (ht : ∀ c ∈ t, c < 256) : ∀ (x i : Nat), x < 2 ^ (7 * i) →
    res bl x (7 * i) i t = match dec t with
      | some (y, n) => if (0 < i → y ≠ 0) ∧ x + y * 2 ^ (7 * i) < 18446744073709551616 then (x + y * 2 ^ (7 * i), i + n) else (0, 0)
      | none => (0, 0) := by
  have big : ∀ (p sh : Nat), p < 128 → p ≠ 0 → (64 < sh + bl p ↔ 18446744073709551616 ≤ p * 2 ^ sh) := by
    intro p sh hp h0
    obtain ⟨h1, h2, h3, h4⟩ := (hbl p hp).2 h0
    constructor
    · intro h
      have e : 2 ^ 64 ≤ 2 ^ ((bl p - 1) + sh) := Nat.pow_le_pow_right (by decide) (by omega)
      rw [Nat.pow_add] at e
      have : 2 ^ (bl p - 1) * 2 ^ sh ≤ p * 2 ^ sh := Nat.mul_le_mul_right _ h3
      have e64 : (2 : Nat) ^ 64 = 18446744073709551616 := by decide
      omega
    · intro h
      refine Classical.byContradiction fun hc => ?_
      have e : 2 ^ (bl p + sh) ≤ 2 ^ 64 := Nat.pow_le_pow_right (by decide) (by omega)
      rw [Nat.pow_add] at e
      have hpos : 0 < 2 ^ sh := Nat.pow_pos (by decide)
      have : p * 2 ^ sh < 2 ^ bl p * 2 ^ sh := Nat.mul_lt_mul_of_pos_right h4 hpos
      have e64 : (2 : Nat) ^ 64 = 18446744073709551616 := by decide
      omega
  induction t with
  | nil => intro x i hx; simp [res, dec]
  | cons c t ih =>
    intro x i hx
    have hc := ht c List.mem_cons_self
    have hpos : 0 < 2 ^ (7 * i) := Nat.pow_pos (by decide)
    by_cases hs : c < 128
    · have em : c % 128 = c := Nat.mod_eq_of_lt hs
      rw [dec_small t hs]
      simp only [res]
      rw [em]
      by_cases h0 : c = 0
      · subst h0
        have e0 : bl 0 = 0 := (hbl 0 (by decide)).1 rfl
        rw [e0]
        by_cases hi : 0 < i
        · have hR : ¬ ((0 < i → (0 : Nat) ≠ 0) ∧ x + 0 * 2 ^ (7 * i) < 18446744073709551616) := fun h => h.1 hi rfl
          rw [if_neg hR]
          by_cases h64 : 64 < 7 * i + 0
          · rw [if_pos h64]
          · rw [if_neg h64, if_pos ⟨by decide, rfl, hi⟩]
        · have : i = 0 := by omega
          subst this
          have hx0 : x = 0 := by simpa using hx
          subst hx0
          simp
      · by_cases h64 : 64 < 7 * i + bl c
        · rw [if_pos h64]
          have := (big c (7 * i) hs h0).1 h64
          rw [if_neg (by omega)]
        · rw [if_neg h64, if_neg (by omega), if_pos hs]
          have h1 : c * 2 ^ (7 * i) < 18446744073709551616 := by
            refine Classical.byContradiction fun h => h64 ((big c (7 * i) hs h0).2 (by omega))
          have h2 : x + c * 2 ^ (7 * i) < 18446744073709551616 := by
            -- x is below 2^(7i), and 2^64 is a multiple of it
            have hle : 7 * i ≤ 64 := by omega
            have e64 : (2 : Nat) ^ 64 = 18446744073709551616 := by decide
            have ed : 2 ^ 64 = 2 ^ (64 - 7 * i) * 2 ^ (7 * i) := by rw [← Nat.pow_add]; congr 1; omega
            have : c < 2 ^ (64 - 7 * i) := by
              refine Classical.byContradiction fun h => ?_
              have := Nat.mul_le_mul_right (2 ^ (7 * i)) (Nat.le_of_not_lt h)
              omega
            have := Nat.mul_le_mul_right (2 ^ (7 * i)) this
            rw [← ed, e64, Nat.succ_mul] at this
            omega
          rw [if_pos ⟨fun _ => h0, h2⟩]
    · have em : c % 128 = c - 128 := by omega
      simp only [res]
      rw [em]
      by_cases h64 : 64 < 7 * i + bl (c - 128)
      · rw [if_pos h64]
        cases hd : dec t with
        | none => rw [dec_none hs hd]
        | some p =>
          obtain ⟨z, m⟩ := p
          rw [dec_big hs hd]
          by_cases hz : z = 0
          · rw [if_pos hz]
          · rw [if_neg hz]
            simp only
            rw [if_neg]
            intro hcon
            have h2 := hcon.2
            by_cases hp : c - 128 = 0
            · have e0 : bl (c - 128) = 0 := by rw [hp]; exact (hbl 0 (by decide)).1 rfl
              rw [e0] at h64
              have e : 2 ^ 64 ≤ 2 ^ (7 * i) := Nat.pow_le_pow_right (by decide) (by omega)
              have e64 : (2 : Nat) ^ 64 = 18446744073709551616 := by decide
              have : 1 * 2 ^ (7 * i) ≤ (z * 128 + (c - 128)) * 2 ^ (7 * i) := Nat.mul_le_mul_right _ (by omega)
              omega
            · have hb := (big (c - 128) (7 * i) (by omega) hp).1 h64
              have : (c - 128) * 2 ^ (7 * i) ≤ (z * 128 + (c - 128)) * 2 ^ (7 * i) := Nat.mul_le_mul_right _ (by omega)
              omega
      · rw [if_neg h64, if_neg (by omega), if_neg hs]
        have e7 : 7 * i + 7 = 7 * (i + 1) := by omega
        have ep : 2 ^ (7 * (i + 1)) = 128 * 2 ^ (7 * i) := by rw [← e7, Nat.pow_add]; omega
        have hx' : x + (c - 128) * 2 ^ (7 * i) < 2 ^ (7 * (i + 1)) := by
          have : (c - 128 + 1) * 2 ^ (7 * i) ≤ 128 * 2 ^ (7 * i) := Nat.mul_le_mul_right _ (by omega)
          rw [Nat.add_mul] at this
          omega
        rw [e7, ih (fun c hc => ht c (List.mem_cons_of_mem _ hc)) _ _ hx']
        cases hd : dec t with
        | none => rw [dec_none hs hd]
        | some p =>
          obtain ⟨z, m⟩ := p
          rw [dec_big hs hd]
          simp only
          have es : x + (c - 128) * 2 ^ (7 * i) + z * 2 ^ (7 * (i + 1)) = x + (z * 128 + (c - 128)) * 2 ^ (7 * i) := by
            rw [ep, Nat.add_mul, ← Nat.mul_assoc]
            omega
          rw [es]
          by_cases hz : z = 0
          · rw [if_pos hz]
            rw [if_neg (fun h => h.1 (by omega) hz)]
          · rw [if_neg hz]
            simp only
            by_cases hlt : x + (z * 128 + (c - 128)) * 2 ^ (7 * i) < 18446744073709551616
            · rw [if_pos ⟨fun _ => hz, hlt⟩, if_pos ⟨fun _ => by omega, hlt⟩]
              congr 1
              omega
            · rw [if_neg (fun h => hlt h.2), if_neg (fun h => hlt h.2)]
theorem res_var (bl : Nat → Nat) (hbl : ∀ p, p < 128 → (p = 0 → bl p = 0) ∧ (p ≠ 0 → 1 ≤ bl p ∧ bl p ≤ 7 ∧ 2 ^ (bl p - 1) ≤ p ∧ p < 2 ^ bl p)) (l : List Nat) (hl : ∀ c ∈ l, c < 256) : res bl 0 0 0 l = varN l := by
  have := res_dec bl hbl l hl 0 0 (by simp)
  rw [this]
  unfold varN
  cases dec l with
  | none => rfl
  | some p => obtain ⟨y, n⟩ := p; simp
/-! the same in the numbers of the program -/
theorem ofInt_u64 (a : Nat) (ha : a < 18446744073709551616) : (BitVec.ofInt 64 (a : Int)).toNat = a := by
  rw [BitVec.ofInt_natCast, BitVec.toNat_ofNat]; exact Nat.mod_eq_of_lt (by omega)
def varI (l : List Int) : Int × Int := (((varN (nats l)).1 : Nat), ((varN (nats l)).2 : Nat))
def ints (l : List Nat) : List Int := l.map fun (x : Nat) => (x : Int)
def putI (x : Int) : List Int := ints (putN x.toNat)
theorem nats_ints (l : List Nat) : nats (ints l) = l := by
  unfold nats ints
  rw [List.map_map]
  conv => rhs; rw [← List.map_id l]
  apply List.map_congr_left
  intro x _
  simp
theorem ints_nats {l : List Int} (h : isB l) : ints (nats l) = l := by
  unfold nats ints
  rw [List.map_map]
  conv => rhs; rw [← List.map_id l]
  apply List.map_congr_left
  intro x hx
  have := h x hx
  simp
  omega
theorem isB_ints {l : List Nat} (h : ∀ x ∈ l, x < 256) : isB (ints l) := by
  intro x hx
  obtain ⟨y, hy, rfl⟩ := List.mem_map.1 hx
  have := h y hy
  omega
theorem isB_put (x : Int) : isB (putI x) := isB_ints (putN_byte _)
theorem isB_append {a b : List Int} (ha : isB a) (hb : isB b) : isB (a ++ b) := fun x hx => (List.mem_append.1 hx).elim (ha x) (hb x)
theorem isB_take {a : List Int} (ha : isB a) (n : Nat) : isB (a.take n) := fun x hx => ha x (List.mem_of_mem_take hx)
theorem isB_drop {a : List Int} (ha : isB a) (n : Nat) : isB (a.drop n) := fun x hx => ha x (List.mem_of_mem_drop hx)
theorem isB_cons {c : Int} {a : List Int} (h : isB (c :: a)) : (0 ≤ c ∧ c < 256) ∧ isB a := ⟨h c List.mem_cons_self, fun x hx => h x (List.mem_cons_of_mem _ hx)⟩
theorem nats_append (a b : List Int) : nats (a ++ b) = nats a ++ nats b := by simp [nats]
theorem nats_take (a : List Int) (n : Nat) : nats (a.take n) = (nats a).take n := by simp [nats, List.map_take]
theorem nats_drop (a : List Int) (n : Nat) : nats (a.drop n) = (nats a).drop n := by simp [nats, List.map_drop]
theorem nats_len (a : List Int) : (nats a).length = a.length := by simp [nats]
theorem ints_len (a : List Nat) : (ints a).length = a.length := by simp [ints]
theorem nats_inj {a b : List Int} (ha : isB a) (hb : isB b) (h : nats a = nats b) : a = b := by rw [← ints_nats ha, ← ints_nats hb, h]
theorem nats_put (x : Int) : nats (putI x) = putN x.toNat := nats_ints _
theorem putI_len (x : Int) : (putI x).length = (putN x.toNat).length := ints_len _
theorem putI_pos (x : Int) : 0 < (putI x).length := by rw [putI_len]; exact putN_pos _
theorem putI_len10 (x : Int) (h : x < 18446744073709551616) : (putI x).length ≤ 10 := by rw [putI_len]; exact putN_len10 _ (by omega)
theorem varI_put (x : Int) (h0 : 0 ≤ x) (h : x < 18446744073709551616) (r : List Int) : varI (putI x ++ r) = (x, ((putI x).length : Int)) := by
  unfold varI
  rw [nats_append, nats_put, varN_put _ (by omega), putI_len]
  simp only [Prod.mk.injEq, and_true]
  omega
theorem varI_part (x : Int) (k : Nat) (h : k < (putI x).length) : varI ((putI x).take k) = (0, 0) := by
  unfold varI
  rw [nats_take, nats_put, varN_part _ _ (by rw [← putI_len]; exact h)]
  rfl
theorem varI_some (l : List Int) (hl : isB l) (x n : Int) (h : varI l = (x, n)) (h0 : n ≠ 0) : l.take n.toNat = putI x ∧ n = (putI x).length ∧ 0 < n ∧ n ≤ l.length ∧ 0 ≤ x ∧ x < 18446744073709551616 := by
  unfold varI at h
  simp only [Prod.mk.injEq] at h
  obtain ⟨h1, h2⟩ := h
  obtain ⟨a, b, c, d⟩ := varN_some (nats l) (nats_lt hl) (varN (nats l)).1 (varN (nats l)).2 rfl (by omega)
  have ex : x.toNat = (varN (nats l)).1 := by omega
  have en : n.toNat = (varN (nats l)).2 := by omega
  refine ⟨?_, ?_, by omega, by rw [nats_len] at c; omega, by omega, by omega⟩
  · refine nats_inj (isB_take hl _) (isB_put x) ?_
    rw [nats_take, nats_put, en, ex, a]
  · rw [putI_len, ex]
    omega
theorem varI_range (l : List Int) : 0 ≤ (varI l).1 ∧ (varI l).1 < 18446744073709551616 ∧ 0 ≤ (varI l).2 ∧ (varI l).2 ≤ l.length := by
  have := varN_range (nats l)
  rw [nats_len] at this
  unfold varI
  simp only
  omega

end Go.Proofs.YtomomeabfnmncaaGreatH.Var
set_option linter.unusedVariables false
set_option linter.unusedSimpArgs false
namespace Go.Proofs.YtomomeabfnmncaaGreatH.Fr
open Go.RowKit
/-- A number's eight bytes. -/
def le8 (x : Int) : List Int := (List.range 8).map fun i => x / 2 ^ (8 * i) % 256
open Go.Proofs.YtomomeabfnmncaaGreatH.Crc (isB nats nats_lt crcI crcI_range)
open Go.Proofs.YtomomeabfnmncaaGreatH.Var
/-- A sum's four bytes. -/
def sum4 (x : Int) : List Int := (le8 x).take 4
theorem le8_len (x : Int) : (le8 x).length = 8 := by simp [le8]
theorem sum4_len (x : Int) : (sum4 x).length = 4 := by simp [sum4, le8_len]
theorem isB_le8 (x : Int) : isB (le8 x) := by
  intro y hy
  obtain ⟨i, _, rfl⟩ := List.mem_map.1 hy
  constructor
  · exact Int.emod_nonneg _ (by decide)
  · exact Int.emod_lt_of_pos _ (by decide)
theorem isB_sum4 (x : Int) : isB (sum4 x) := isB_take (isB_le8 x) 4
theorem sum4_eq (x : Int) : sum4 x = [x % 256, x / 256 % 256, x / 65536 % 256, x / 16777216 % 256] := by
  simp [sum4, le8, List.range, List.range.loop]
theorem sum4_inj {x y : Int} (hx : 0 ≤ x ∧ x < 4294967296) (hy : 0 ≤ y ∧ y < 4294967296) (h : sum4 x = sum4 y) : x = y := by
  rw [sum4_eq, sum4_eq] at h
  simp only [List.cons.injEq] at h
  omega
/-- Bytes with their length and their sum ahead. -/
def frameI (l : List Int) : List Int := putI l.length ++ (sum4 (crcI l) ++ l)
theorem frameI_len (l : List Int) : (frameI l).length = (putI l.length).length + 4 + l.length := by
  simp only [frameI, List.length_append, sum4_len]
  omega
theorem isB_frame {l : List Int} (h : isB l) : isB (frameI l) := isB_append (isB_put _) (isB_append (isB_sum4 _) h)
/-- What bytes say as a frame: the bytes within, how many bytes there are of it, the error. -/
def unframeI (l : List Int) : List Int × Int × Int :=
  if (varI l).2 = 0 ∨ (varI l).1 > 1048576 ∨ (l.length : Int) - (varI l).2 < (varI l).1 + 4 then ([], 0, 10)
  else if sum4 (crcI ((l.take ((varI l).2 + 4 + (varI l).1).toNat).drop ((varI l).2 + 4).toNat)) = (l.take ((varI l).2 + 4).toNat).drop (varI l).2.toNat
    then ((l.take ((varI l).2 + 4 + (varI l).1).toNat).drop ((varI l).2 + 4).toNat, (varI l).2 + 4 + (varI l).1, 0)
    else ([], 0, 11)
theorem unframe_frame (b r : List Int) (hb : b.length ≤ 1048576) : unframeI (frameI b ++ r) = (b, ((frameI b).length : Int), 0) := by
  have hv : varI (frameI b ++ r) = ((b.length : Int), ((putI b.length).length : Int)) := by
    unfold frameI
    rw [List.append_assoc]
    exact varI_put _ (by omega) (by omega) _
  have hp := putI_pos (b.length : Int)
  have hl := frameI_len b
  unfold unframeI
  rw [hv]
  simp only
  rw [if_neg (by rw [List.length_append]; omega)]
  have e1 : ((putI b.length).length + 4 + b.length : Int).toNat = (frameI b).length := by omega
  have e2 : ((putI b.length).length + 4 : Int).toNat = (putI b.length).length + 4 := by omega
  have e3 : ((putI b.length).length : Int).toNat = (putI b.length).length := by omega
  rw [e1, e2, e3, List.take_left]
  have d1 : (frameI b).drop ((putI b.length).length + 4) = b := by
    unfold frameI
    rw [← List.append_assoc]
    have : (putI b.length ++ sum4 (crcI b)).length = (putI b.length).length + 4 := by rw [List.length_append, sum4_len]
    rw [← this, List.drop_left]
  have d2 : ((frameI b ++ r).take ((putI b.length).length + 4)).drop (putI b.length).length = sum4 (crcI b) := by
    have : frameI b ++ r = (putI b.length ++ sum4 (crcI b)) ++ (b ++ r) := by unfold frameI; simp [List.append_assoc]
    rw [this]
    have h4 : (putI b.length).length + 4 = (putI b.length ++ sum4 (crcI b)).length := by rw [List.length_append, sum4_len]
    rw [h4, List.take_left, List.drop_left]
  rw [d1, d2, if_pos rfl]
  simp only [Prod.mk.injEq, and_true, true_and]
  omega
theorem unframe_part (b : List Int) (hb : b.length ≤ 1048576) (k : Nat) (hk : k < (frameI b).length) : unframeI ((frameI b).take k) = ([], 0, 10) := by
  have hl := frameI_len b
  by_cases h : k < (putI b.length).length
  · have : (frameI b).take k = (putI b.length).take k := by
      unfold frameI
      rw [List.take_append_of_le_length (by omega)]
    rw [this]
    unfold unframeI
    rw [varI_part _ k h, if_pos (Or.inl rfl)]
  · have : (frameI b).take k = putI b.length ++ (sum4 (crcI b) ++ b).take (k - (putI b.length).length) := by
      unfold frameI
      rw [List.take_append, List.take_of_length_le (by omega)]
    have hlen : ((frameI b).take k).length = k := by rw [List.length_take]; omega
    unfold unframeI
    rw [hlen]
    rw [this, varI_put _ (by omega) (by omega)]
    simp only
    rw [if_pos (Or.inr (Or.inr (by omega)))]
theorem unframe_some (l : List Int) (hl : isB l) (d : List Int) (n : Int) (h : unframeI l = (d, n, 0)) : l.take n.toNat = frameI d ∧ n = (frameI d).length ∧ n ≤ l.length ∧ 0 < n ∧ d.length ≤ 1048576 ∧ isB d := by
  unfold unframeI at h
  split at h
  · simp only [Prod.mk.injEq] at h
    exact absurd h.2.2 (by decide)
  · rename_i hc
    split at h
    · rename_i hs
      simp only [Prod.mk.injEq, and_true] at h
      obtain ⟨rfl, rfl⟩ := h
      have hv0 : (varI l).2 ≠ 0 := fun h => hc (Or.inl h)
      obtain ⟨v1, v2, v3, v4, v5, v6⟩ := varI_some l hl (varI l).1 (varI l).2 rfl hv0
      generalize (varI l).1 = x at *
      generalize (varI l).2 = k at *
      have hx : x ≤ 1048576 := by
        refine Classical.byContradiction fun h => hc (Or.inr (Or.inl (by omega)))
      have hll : x + 4 ≤ l.length - k := by
        refine Classical.byContradiction fun h => hc (Or.inr (Or.inr (by omega)))
      have hdl : ((l.take (k + 4 + x).toNat).drop (k + 4).toNat).length = x.toNat := by
        rw [List.length_drop, List.length_take]
        omega
      have hdl' : (((l.take (k + 4 + x).toNat).drop (k + 4).toNat).length : Int) = x := by omega
      refine ⟨?_, ?_, by omega, by omega, by omega, isB_drop (isB_take hl _) _⟩
      · unfold frameI
        rw [hs, hdl', ← v1]
        have a1 : l.take (k + 4).toNat = l.take k.toNat ++ (l.take (k + 4).toNat).drop k.toNat := by
          conv => lhs; rw [← List.take_append_drop k.toNat (l.take (k + 4).toNat)]
          rw [List.take_take, Nat.min_eq_left (by omega)]
        have a2 : l.take (k + 4 + x).toNat = l.take (k + 4).toNat ++ (l.take (k + 4 + x).toNat).drop (k + 4).toNat := by
          conv => lhs; rw [← List.take_append_drop (k + 4).toNat (l.take (k + 4 + x).toNat)]
          rw [List.take_take, Nat.min_eq_left (by omega)]
        conv => lhs; rw [a2, a1]
        rw [List.append_assoc]
      · rw [frameI_len, hdl']
        omega
    · simp only [Prod.mk.injEq] at h
      exact absurd h.2.2 (by decide)
theorem unframe_err (l : List Int) : (unframeI l).2.2 = 0 ∨ ((unframeI l).1 = [] ∧ (unframeI l).2.1 = 0 ∧ ((unframeI l).2.2 = 10 ∨ (unframeI l).2.2 = 11)) := by
  unfold unframeI
  split
  · exact .inr ⟨rfl, rfl, .inl rfl⟩
  · split
    · exact .inl rfl
    · exact .inr ⟨rfl, rfl, .inr rfl⟩
theorem isB_unframe {l : List Int} (h : isB l) : isB (unframeI l).1 := by
  unfold unframeI
  split
  · intro x hx; cases hx
  · split
    · exact isB_drop (isB_take h _) _
    · intro x hx; cases hx
theorem cast_mod (M m : Nat) : ((m : Nat) : Int) % (M : Int) = ((m % M : Nat) : Int) := (Int.natCast_emod m M).symm
theorem mac_mod (M x p q : Nat) : (x % M + p * (q % M) % M) % M = (x + p * q) % M := by
  rw [← Nat.add_mod, Nat.add_mod x, Nat.mul_mod, Nat.mod_mod, ← Nat.mul_mod, ← Nat.add_mod]
/-! #### a number read by its definition: the first byte below 128 ends it -/
def raw : List Nat → Option (Nat × Nat)
  | [] => none
  | c :: t => if c < 128 then some (c, 1) else match raw t with
    | none => none
    | some (z, n) => some (c % 128 + 128 * z, n + 1)
theorem raw_small {c : Nat} (t : List Nat) (h : c < 128) : raw (c :: t) = some (c, 1) := by simp only [raw]; rw [if_pos h]
theorem raw_big {c : Nat} (t : List Nat) (h : ¬ c < 128) : raw (c :: t) = match raw t with
    | none => none
    | some (z, n) => some (c % 128 + 128 * z, n + 1) := by simp only [raw]; rw [if_neg h]
theorem dec_raw (l : List Nat) (hl : ∀ c ∈ l, c < 256) : ∀ y n, dec l = some (y, n) → raw l = some (y, n) := by
  induction l with
  | nil => intro y n h; simp [dec] at h
  | cons c t ih =>
    intro y n h
    have hc := hl c List.mem_cons_self
    by_cases hs : c < 128
    · rw [dec_small t hs] at h
      rw [raw_small t hs]
      exact h
    · cases hd : dec t with
      | none => rw [dec_none hs hd] at h; cases h
      | some p =>
        obtain ⟨z, m⟩ := p
        rw [dec_big hs hd] at h
        split at h
        · cases h
        · rw [raw_big t hs, ih (fun c hc => hl c (List.mem_cons_of_mem _ hc)) z m hd]
          simp only [Option.some.injEq, Prod.mk.injEq] at h ⊢
          omega
theorem raw_le (l : List Nat) : ∀ y n, raw l = some (y, n) → 1 ≤ n ∧ n ≤ l.length := by
  induction l with
  | nil => intro y n h; simp [raw] at h
  | cons c t ih =>
    intro y n h
    by_cases hs : c < 128
    · rw [raw_small t hs] at h
      simp only [Option.some.injEq, Prod.mk.injEq] at h
      simp
      omega
    · rw [raw_big t hs] at h
      cases hr : raw t with
      | none => rw [hr] at h; cases h
      | some p =>
        obtain ⟨z, m⟩ := p
        rw [hr] at h
        simp only [Option.some.injEq, Prod.mk.injEq] at h
        have := ih z m hr
        simp
        omega
theorem varN_raw (l : List Nat) (hl : ∀ c ∈ l, c < 256) : varN l = match raw l with
    | some (y, n) => if putN y = l.take n ∧ y < 18446744073709551616 then (y, n) else (0, 0)
    | none => (0, 0) := by
  unfold varN
  cases hr : raw l with
  | none =>
    cases hd : dec l with
    | none => rfl
    | some p =>
      obtain ⟨z, m⟩ := p
      rw [dec_raw l hl z m hd] at hr
      cases hr
  | some p =>
    obtain ⟨y, n⟩ := p
    simp only
    by_cases hp : putN y = l.take n
    · have hd : dec l = some (y, n) := by
        have h1 : l = putN y ++ l.drop n := by rw [hp, List.take_append_drop]
        have h2 : dec l = some (y, (putN y).length) := by
          conv => lhs; rw [h1]
          exact dec_put y _
        have h3 := dec_raw l hl _ _ h2
        rw [hr] at h3
        simp only [Option.some.injEq, Prod.mk.injEq] at h3
        rw [h2, ← h3.2]
      rw [hd]
      simp only
      by_cases hy : y < 18446744073709551616
      · rw [if_pos hy, if_pos ⟨hp, hy⟩]
      · rw [if_neg hy, if_neg (fun h => hy h.2)]
    · rw [if_neg (fun h => hp h.1)]
      cases hd : dec l with
      | none => rfl
      | some q =>
        obtain ⟨z, m⟩ := q
        have h1 := dec_raw l hl z m hd
        rw [hr] at h1
        simp only [Option.some.injEq, Prod.mk.injEq] at h1
        obtain ⟨rfl, rfl⟩ := h1
        exact absurd (dec_some l hl _ _ hd).1.symm hp

end Go.Proofs.YtomomeabfnmncaaGreatH.Fr
namespace Go.Proofs.YtomomeabfnmncaaGreatH
/-- Numbers, one behind the other. -/
def putAllI (l : List Int) : List Int := l.flatMap Var.putI
theorem putAllI_succ (l : List Int) (k : Nat) (h : k < l.length) : putAllI (l.take (k + 1)) = putAllI (l.take k) ++ Var.putI l[k] := by
  unfold putAllI
  rw [List.take_succ_eq_append_getElem h, List.flatMap_append]
  simp
theorem putAllI_len : ∀ (l : List Int), (∀ x ∈ l, x < 9223372036854775808) → (putAllI l).length ≤ 10 * l.length
  | [], _ => by simp [putAllI]
  | x :: r, h => by
    have h1 := putAllI_len r (fun y hy => h y (List.mem_cons_of_mem _ hy))
    have h2 := Var.putI_len10 x (by have := h x List.mem_cons_self; omega)
    have e : putAllI (x :: r) = Var.putI x ++ putAllI r := rfl
    rw [e, List.length_append, List.length_cons]
    omega
theorem isB_putAll (l : List Int) : Crc.isB (putAllI l) := by
  intro x hx
  obtain ⟨y, _, hy⟩ := List.mem_flatMap.1 hx
  exact Var.isB_put y x hy
end Go.Proofs.YtomomeabfnmncaaGreatH
set_option linter.unusedVariables false
set_option linter.unusedSimpArgs false
namespace Go.Proofs.YtomomeabfnmncaaGreatH.Rec
open Go.RowKit
open Go.Proofs.YtomomeabfnmncaaGreatH (putAllI)
open Go.Proofs.YtomomeabfnmncaaGreatH.Crc (isB)
open Go.Proofs.YtomomeabfnmncaaGreatH.Var
open Go.Proofs.YtomomeabfnmncaaGreatH.Fr (frameI unframeI)
/-- A number that lies between two. -/
def within (a lo hi : Int) : Bool := decide (lo ≤ a) && decide (a ≤ hi)
/-- Whether a schema may be. -/
def schemaOk (ts : List Int) (k m g : Int) : Bool := within ts.length 1 64 && ts.all (fun t => within t 1 3) && within k 1 ts.length && within m 1 3 && within g 1 64
def checkI (ts : List Int) (k m g : Int) : Int := if schemaOk ts k m g = true then 0 else 20
/-- A schema's bytes. -/
def putS (ts : List Int) (k m g : Int) : List Int := putAllI ((ts.length : Int) :: (ts ++ [k, m, g]))
def odd (n : Int) : Bool := decide (n < 0) || decide (999999 < n)
def bare (ts : List Int) (k m g : Int) : Bool := decide (ts.length = 0) && decide (k = 0) && decide (m = 0) && decide (g = 0)
/-- Whether a record may be put. -/
def mayI (kd : Int) (ts : List Int) (k m g : Int) (ids : List Int) (id : Int) : Bool :=
  !(odd id || decide (40 < ids.length) || ids.any odd) && (if kd = 1 then schemaOk ts k m g else if kd = 2 then bare ts k m g && decide (ids.length = 0) else if kd = 3 then bare ts k m g && decide (1 < ids.length) else false)
/-- A record's bytes, without their frame. -/
def recB (kd : Int) (ts : List Int) (k m g : Int) (ids : List Int) (id : Int) : List Int :=
  [kd] ++ (if kd = 1 then putI (putS ts k m g).length ++ putS ts k m g else []) ++ putI id ++ (if kd = 2 then [] else putI ids.length ++ putAllI ids)
/-- What a record is put as. -/
def recPut (kd : Int) (ts : List Int) (k m g : Int) (ids : List Int) (id : Int) : List Int × Bool :=
  if mayI kd ts k m g ids id = true then (frameI (recB kd ts k m g ids id), true) else ([], false)
theorem schemaOk_iff {ts : List Int} {k m g : Int} : schemaOk ts k m g = true ↔ (1 ≤ ts.length ∧ ts.length ≤ 64) ∧ (∀ t ∈ ts, 1 ≤ t ∧ t ≤ 3) ∧ (1 ≤ k ∧ k ≤ ts.length) ∧ (1 ≤ m ∧ m ≤ 3) ∧ 1 ≤ g ∧ g ≤ 64 := by
  unfold schemaOk within
  simp only [Bool.and_eq_true, decide_eq_true_eq, List.all_eq_true]
  constructor
  · rintro ⟨⟨⟨⟨h1, h2⟩, h3⟩, h4⟩, h5⟩
    exact ⟨⟨by omega, by omega⟩, h2, h3, h4, h5⟩
  · rintro ⟨h1, h2, h3, h4, h5⟩
    exact ⟨⟨⟨⟨⟨by omega, by omega⟩, h2⟩, h3⟩, h4⟩, h5⟩
theorem odd_iff {n : Int} : odd n = false ↔ 0 ≤ n ∧ n ≤ 999999 := by
  unfold odd
  rw [Bool.or_eq_false_iff, decide_eq_false_iff_not, decide_eq_false_iff_not]
  omega
theorem mayI_some {kd : Int} {ts : List Int} {k m g : Int} {ids : List Int} {id : Int} (h : mayI kd ts k m g ids id = true) :
    (kd = 1 ∧ schemaOk ts k m g = true ∨ kd = 2 ∧ bare ts k m g = true ∧ ids.length = 0 ∨ kd = 3 ∧ bare ts k m g = true ∧ 1 < ids.length) ∧ ids.length ≤ 40 ∧ (0 ≤ id ∧ id ≤ 999999) ∧ ∀ x ∈ ids, 0 ≤ x ∧ x ≤ 999999 := by
  unfold mayI at h
  rw [Bool.and_eq_true, Bool.not_eq_true', Bool.or_eq_false_iff, Bool.or_eq_false_iff, odd_iff, decide_eq_false_iff_not] at h
  obtain ⟨⟨⟨h1, h2⟩, h3⟩, h4⟩ := h
  refine ⟨?_, by omega, h1, fun x hx => odd_iff.1 ?_⟩
  · by_cases k1 : kd = 1
    · rw [if_pos k1] at h4
      exact .inl ⟨k1, h4⟩
    · rw [if_neg k1] at h4
      by_cases k2 : kd = 2
      · rw [if_pos k2, Bool.and_eq_true, decide_eq_true_eq] at h4
        exact .inr (.inl ⟨k2, h4⟩)
      · rw [if_neg k2] at h4
        by_cases k3 : kd = 3
        · rw [if_pos k3, Bool.and_eq_true, decide_eq_true_eq] at h4
          exact .inr (.inr ⟨k3, h4⟩)
        · rw [if_neg k3] at h4
          cases h4
  · rw [List.any_eq_false] at h3
    have := h3 x hx
    simpa using this
theorem putS_len (ts : List Int) (k m g : Int) (h : schemaOk ts k m g = true) : (putS ts k m g).length ≤ 680 := by
  rw [schemaOk_iff] at h
  obtain ⟨h1, h2, h3, h4, h5⟩ := h
  have := putAllI_len ((ts.length : Int) :: (ts ++ [k, m, g])) (by
    intro x hx
    rcases List.mem_cons.1 hx with rfl | hx
    · omega
    rcases List.mem_append.1 hx with hx | hx
    · have := h2 x hx; omega
    · simp at hx
      omega)
  unfold putS
  simp at this ⊢
  omega
theorem isB_rec {kd : Int} {ts : List Int} {k m g : Int} {ids : List Int} {id : Int} (h : 0 ≤ kd ∧ kd < 256) : isB (recB kd ts k m g ids id) := by
  unfold recB
  refine isB_append (isB_append (isB_append ?_ ?_) (isB_put _)) ?_
  · intro x hx
    rw [List.mem_singleton.1 hx]
    exact h
  · split
    · exact isB_append (isB_put _) (isB_putAll _)
    · intro x hx; cases hx
  · split
    · intro x hx; cases hx
    · exact isB_append (isB_put _) (isB_putAll _)
theorem recPut_2 (kd : Int) (ts : List Int) (k m g : Int) (ids : List Int) (id : Int) : (recPut kd ts k m g ids id).2 = mayI kd ts k m g ids id := by
  unfold recPut
  cases h : mayI kd ts k m g ids id with
  | true => rw [if_pos rfl]
  | false => rw [if_neg (by decide)]
/-- A number read: it, what is left, whether it is bad. -/
def numR (l : List Int) (bad : Bool) : Int × List Int × Bool :=
  if (varI l).2 = 0 then (0, l, true) else if 999999 < (varI l).1 then (0, l, true) else ((varI l).1, l.drop (varI l).2.toNat, bad)
theorem numR_B {l : List Int} {bad : Bool} (h : isB l) : isB (numR l bad).2.1 := by
  unfold numR
  split
  · exact h
  · split
    · exact h
    · exact isB_drop h _
theorem numR_range (l : List Int) (bad : Bool) : 0 ≤ (numR l bad).1 ∧ (numR l bad).1 ≤ 999999 := by
  have := varI_range l
  unfold numR
  split
  · exact ⟨Int.le_refl 0, (by decide : (0 : Int) ≤ 999999)⟩
  · split
    · exact ⟨Int.le_refl 0, (by decide : (0 : Int) ≤ 999999)⟩
    · exact ⟨this.1, by omega⟩
/-- Numbers read, one behind the other, as many as there are. -/
def numsN : Nat → List Int → Option (List Int)
  | 0, _ => none
  | k + 1, l => if l.length = 0 then some [] else if (varI l).2 = 0 then none else if 1048576 < (varI l).1 then none else (numsN k (l.drop (varI l).2.toNat)).map ((varI l).1 :: ·)
def nums (l : List Int) : Option (List Int) := numsN (l.length + 1) l
theorem numsN_fuel : ∀ (k : Nat) (l : List Int), l.length < k → numsN k l = nums l := by
  intro k
  induction k using Nat.strongRecOn with
  | _ k ih =>
    intro l hl
    obtain ⟨m, rfl⟩ : ∃ m, k = m + 1 := ⟨k - 1, by omega⟩
    unfold nums
    simp only [numsN]
    by_cases h0 : l.length = 0
    · rw [if_pos h0, if_pos h0]
    · rw [if_neg h0, if_neg h0]
      by_cases h1 : (varI l).2 = 0
      · rw [if_pos h1, if_pos h1]
      · rw [if_neg h1, if_neg h1]
        have hr := varI_range l
        have hd : (l.drop (varI l).2.toNat).length < l.length := by rw [List.length_drop]; omega
        rw [ih m (by omega) _ (by omega)]
        by_cases h2 : m = l.length
        · rw [← h2, ih m (by omega) _ (by omega)]
        · rw [ih l.length (by omega) _ (by omega)]
theorem nums_nil {l : List Int} (h : l.length = 0) : nums l = some [] := by
  unfold nums
  simp only [numsN]
  rw [if_pos h]
theorem nums_step {l : List Int} (h : ¬ l.length = 0) : nums l = if (varI l).2 = 0 then none else if 1048576 < (varI l).1 then none else (nums (l.drop (varI l).2.toNat)).map ((varI l).1 :: ·) := by
  have e : nums l = numsN (l.length + 1) l := rfl
  rw [e]
  simp only [numsN]
  rw [if_neg h]
  by_cases h1 : (varI l).2 = 0
  · rw [if_pos h1, if_pos h1]
  · rw [if_neg h1, if_neg h1]
    have hr := varI_range l
    rw [numsN_fuel _ _ (by rw [List.length_drop]; omega)]
def noSch : (List Int × Int × Int × Int) × Int := (([], 0, 0, 0), 10)
/-- What bytes say as a schema. -/
def schT (l : List Int) : (List Int × Int × Int × Int) × Int :=
  match nums l with
  | none => noSch
  | some v => if v.length < 4 then noSch else if (v.length : Int) = v.getD 0 0 + 4 then
      (if schemaOk ((v.drop 1).take (v.getD 0 0).toNat) (v.getD ((v.getD 0 0).toNat + 1) 0) (v.getD ((v.getD 0 0).toNat + 2) 0) (v.getD ((v.getD 0 0).toNat + 3) 0) = true
        then (((v.drop 1).take (v.getD 0 0).toNat, v.getD ((v.getD 0 0).toNat + 1) 0, v.getD ((v.getD 0 0).toNat + 2) 0, v.getD ((v.getD 0 0).toNat + 3) 0), 0) else noSch) else noSch
/-- A schema read: it, what is left, whether it is bad. -/
def schR (l : List Int) (bad : Bool) : (List Int × Int × Int × Int) × List Int × Bool :=
  if (numR l bad).2.2 = true ∨ ((numR l bad).2.1.length : Int) < (numR l bad).1 then (([], 0, 0, 0), (numR l bad).2.1, true)
  else ((schT ((numR l bad).2.1.take (numR l bad).1.toNat)).1, (numR l bad).2.1.drop (numR l bad).1.toNat, (schT ((numR l bad).2.1.take (numR l bad).1.toNat)).2 != 0)
theorem numR_le (l : List Int) (bad : Bool) : (numR l bad).2.1.length ≤ l.length := by
  unfold numR
  split
  · exact Nat.le_refl _
  · split
    · exact Nat.le_refl _
    · show (l.drop _).length ≤ _
      rw [List.length_drop]
      omega
theorem schR_B {l : List Int} {bad : Bool} (h : isB l) : isB (schR l bad).2.1 := by
  unfold schR
  split
  · exact numR_B h
  · exact isB_drop (numR_B h) _
theorem schR_le (l : List Int) (bad : Bool) : (schR l bad).2.1.length ≤ l.length := by
  have := numR_le l bad
  unfold schR
  split
  · exact this
  · show ((numR l bad).2.1.drop _).length ≤ _
    rw [List.length_drop]
    omega
theorem schR_eq (l : List Int) (bad : Bool) : schR l bad = (fun q : Int × List Int × Bool => if q.2.2 = true ∨ (q.2.1.length : Int) < q.1 then (([], 0, 0, 0), q.2.1, true)
  else ((schT (q.2.1.take q.1.toNat)).1, q.2.1.drop q.1.toNat, (schT (q.2.1.take q.1.toNat)).2 != 0)) (numR l bad) := rfl
/-- Numbers read, k of them. -/
def idsN : Nat → List Int → Bool → List Int × List Int × Bool
  | 0, l, b => ([], l, b)
  | k + 1, l, b => ((numR l b).1 :: (idsN k (numR l b).2.1 (numR l b).2.2).1, (idsN k (numR l b).2.1 (numR l b).2.2).2)
theorem idsN_step (k : Nat) (l : List Int) (b : Bool) (acc : List Int) : (acc ++ (idsN (k + 1) l b).1, (idsN (k + 1) l b).2) = (fun q : Int × List Int × Bool => ((acc ++ [q.1]) ++ (idsN k q.2.1 q.2.2).1, (idsN k q.2.1 q.2.2).2)) (numR l b) := by
  simp only [idsN, List.append_assoc, List.singleton_append]
theorem idsN_len : ∀ (k : Nat) (l : List Int) (b : Bool), (idsN k l b).1.length = k
  | 0, _, _ => rfl
  | k + 1, l, b => by simp only [idsN, List.length_cons, idsN_len k]
/-- A record: its kind, its schema, its numbers, its number. -/
abbrev RecV := Int × (List Int × Int × Int × Int) × List Int × Int
/-- What follows a schema in a record. -/
def recR2 (kd : Int) (s : (List Int × Int × Int × Int) × List Int × Bool) : RecV × List Int × Bool :=
  if s.2.2 = true then ((kd, s.1, [], 0), s.2.1, s.2.2)
  else (fun q : Int × List Int × Bool => if kd = 2 ∨ q.2.2 = true then ((kd, s.1, [], q.1), q.2.1, q.2.2)
    else (fun c : Int × List Int × Bool => ((kd, s.1, (idsN (min c.1 40).toNat c.2.1 c.2.2).1, q.1), (idsN (min c.1 40).toNat c.2.1 c.2.2).2)) (numR q.2.1 q.2.2)) (numR s.2.1 s.2.2)
/-- A record read: it, what is left, whether it is bad. -/
def recR (kd : Int) (l : List Int) (bad : Bool) : RecV × List Int × Bool := recR2 kd (if kd = 1 then schR l bad else (([], 0, 0, 0), l, bad))
def noRec : RecV := (0, ([], 0, 0, 0), [], 0)
def putOf (x : RecV) : List Int × Bool := recPut x.1 x.2.1.1 x.2.1.2.1 x.2.1.2.2.1 x.2.1.2.2.2 x.2.2.1 x.2.2.2
/-- What bytes say as a record. -/
def recTake (l : List Int) : RecV × Int × Int :=
  (fun u : List Int × Int × Int => if u.2.2 ≠ 0 then (noRec, 0, u.2.2) else if u.1.length = 0 then (noRec, 0, 10)
    else (fun q : RecV × List Int × Bool => if q.2.2 = true ∨ (putOf q.1).2 = false ∨ (putOf q.1).1 ≠ l.take u.2.1.toNat then (noRec, 0, 10) else (q.1, u.2.1, 0)) (recR (u.1.getD 0 0) (u.1.drop 1) false)) (unframeI l)
end Go.Proofs.YtomomeabfnmncaaGreatH.Rec
set_option linter.unusedVariables false
set_option linter.unusedSimpArgs false
namespace Go.Proofs.YtomomeabfnmncaaGreatH.Rec
open Go.RowKit
open Go.Proofs.YtomomeabfnmncaaGreatH (putAllI putAllI_len)
open Go.Proofs.YtomomeabfnmncaaGreatH.Crc (isB nats nats_lt crcI crcN crcReg crcReg_append crcReg_inj crcReg_lt crcReg_cons Mn_inj Mn_lt xcan crcI_inj_iff nats_app crcI_range)
open Go.Proofs.YtomomeabfnmncaaGreatH.Var
open Go.Proofs.YtomomeabfnmncaaGreatH.Fr (frameI unframeI unframe_frame frameI_len unframe_part sum4 sum4_inj sum4_len)
theorem numR_put {a : Int} (h : 0 ≤ a ∧ a ≤ 999999) (r : List Int) (b : Bool) : numR (putI a ++ r) b = (a, r, b) := by
  unfold numR
  have := putI_pos a
  rw [varI_put a h.1 (by omega) r]
  simp only
  rw [if_neg (by omega), if_neg (by omega), show ((putI a).length : Int).toNat = (putI a).length by omega, List.drop_left]
theorem putAllI_cons (x : Int) (t : List Int) : putAllI (x :: t) = putI x ++ putAllI t := rfl
theorem idsN_put : ∀ (ids : List Int) (r : List Int) (b : Bool), (∀ x ∈ ids, 0 ≤ x ∧ x ≤ 999999) → idsN ids.length (putAllI ids ++ r) b = (ids, r, b)
  | [], r, b, _ => rfl
  | x :: t, r, b, h => by
    rw [putAllI_cons, List.append_assoc, List.length_cons]
    simp only [idsN]
    rw [numR_put (h x List.mem_cons_self), idsN_put t r b (fun y hy => h y (List.mem_cons_of_mem _ hy))]
theorem nums_put : ∀ (v : List Int), (∀ x ∈ v, 0 ≤ x ∧ x ≤ 1048576) → nums (putAllI v) = some v
  | [], _ => nums_nil rfl
  | x :: t, h => by
    have hx := h x List.mem_cons_self
    have := putI_pos x
    rw [putAllI_cons, nums_step (by rw [List.length_append]; omega), varI_put x hx.1 (by omega)]
    simp only
    rw [if_neg (by omega), if_neg (by omega), show ((putI x).length : Int).toNat = (putI x).length by omega, List.drop_left, nums_put t (fun y hy => h y (List.mem_cons_of_mem _ hy))]
    rfl
theorem schT_put {ts : List Int} {k m g : Int} (h : schemaOk ts k m g = true) : schT (putS ts k m g) = ((ts, k, m, g), 0) := by
  have h0 := schemaOk_iff.1 h
  obtain ⟨h1, h2, h3, h4, h5⟩ := h0
  unfold schT putS
  rw [nums_put _ (by
    intro x hx
    rcases List.mem_cons.1 hx with rfl | hx
    · omega
    rcases List.mem_append.1 hx with hx | hx
    · have := h2 x hx; omega
    · simp at hx
      omega)]
  have e0 : ((ts.length : Int) :: (ts ++ [k, m, g])).getD 0 0 = (ts.length : Int) := rfl
  have eg : ∀ j, ((ts.length : Int) :: (ts ++ [k, m, g])).getD (ts.length + (j + 1)) 0 = ([k, m, g] : List Int).getD j 0 := by
    intro j
    rw [show ts.length + (j + 1) = (ts.length + j) + 1 by omega, List.getD_cons_succ, List.getD_eq_getElem?_getD, List.getElem?_append_right (by omega), Nat.add_sub_cancel_left, ← List.getD_eq_getElem?_getD]
  simp only [e0, Int.toNat_natCast]
  rw [if_neg (by simp), if_pos (by simp; omega), eg 0, eg 1, eg 2]
  have et : (((ts.length : Int) :: (ts ++ [k, m, g])).drop 1).take ts.length = ts := by
    rw [List.drop_succ_cons, List.drop_zero, List.take_left]
  rw [et]
  show (if schemaOk ts k m g = true then ((ts, k, m, g), (0 : Int)) else noSch) = _
  rw [if_pos h]
theorem schR_put {ts : List Int} {k m g : Int} (h : schemaOk ts k m g = true) (r : List Int) : schR (putI (putS ts k m g).length ++ (putS ts k m g ++ r)) false = ((ts, k, m, g), r, false) := by
  have hl := putS_len ts k m g h
  rw [schR_eq, numR_put ⟨by omega, by omega⟩]
  simp only
  rw [if_neg (by
    rintro (h | h)
    · cases h
    · rw [List.length_append] at h; omega), Int.toNat_natCast, List.take_left, List.drop_left, schT_put h]
  rfl
/-- A record's bytes behind its kind. -/
def recT (kd : Int) (ts : List Int) (k m g : Int) (ids : List Int) (id : Int) : List Int :=
  (if kd = 1 then putI (putS ts k m g).length ++ putS ts k m g else []) ++ putI id ++ (if kd = 2 then [] else putI ids.length ++ putAllI ids)
theorem recB_eq (kd : Int) (ts : List Int) (k m g : Int) (ids : List Int) (id : Int) : recB kd ts k m g ids id = kd :: recT kd ts k m g ids id := by
  unfold recB recT
  simp [List.append_assoc]
theorem bare_eq {ts : List Int} {k m g : Int} (h : bare ts k m g = true) : ts = [] ∧ k = 0 ∧ m = 0 ∧ g = 0 := by
  unfold bare at h
  simp only [Bool.and_eq_true, decide_eq_true_eq] at h
  exact ⟨List.eq_nil_of_length_eq_zero h.1.1.1, h.1.1.2, h.1.2, h.2⟩
theorem recR2_put {kd : Int} {s : List Int × Int × Int × Int} {ids : List Int} {id : Int} (hid : 0 ≤ id ∧ id ≤ 999999) (hids : ∀ x ∈ ids, 0 ≤ x ∧ x ≤ 999999) (hl : ids.length ≤ 40) (h2 : kd = 2 → ids = []) (r : List Int) :
    recR2 kd (s, putI id ++ (if kd = 2 then [] else putI ids.length ++ putAllI ids) ++ r, false) = ((kd, s, ids, id), r, false) := by
  unfold recR2
  rw [if_neg (by intro h; cases h)]
  simp only [List.append_assoc]
  rw [numR_put hid]
  simp only
  by_cases hk : kd = 2
  · rw [if_pos (.inl hk), if_pos hk, h2 hk]
    rfl
  · rw [if_neg (by rintro (h | h); exact hk h; cases h), if_neg hk, List.append_assoc, numR_put ⟨by omega, by omega⟩]
    simp only
    rw [show (min (ids.length : Int) 40).toNat = ids.length by omega, idsN_put ids r false hids]
theorem recR_put {kd : Int} {ts : List Int} {k m g : Int} {ids : List Int} {id : Int} (h : mayI kd ts k m g ids id = true) (r : List Int) :
    recR kd (recT kd ts k m g ids id ++ r) false = ((kd, (ts, k, m, g), ids, id), r, false) := by
  obtain ⟨hk, hl, hid, hids⟩ := mayI_some h
  unfold recR recT
  by_cases h1 : kd = 1
  · have hs : schemaOk ts k m g = true := by
      rcases hk with ⟨_, h⟩ | ⟨h, _⟩ | ⟨h, _⟩
      · exact h
      · omega
      · omega
    rw [if_pos h1, if_pos h1]
    have e : putI ((putS ts k m g).length : Int) ++ putS ts k m g ++ putI id ++ (if kd = 2 then [] else putI ids.length ++ putAllI ids) ++ r
        = putI ((putS ts k m g).length : Int) ++ (putS ts k m g ++ (putI id ++ (if kd = 2 then [] else putI ids.length ++ putAllI ids) ++ r)) := by simp [List.append_assoc]
    rw [e, schR_put hs]
    exact recR2_put hid hids hl (fun h => by omega) r
  · have hb : (ts = [] ∧ k = 0 ∧ m = 0 ∧ g = 0) ∧ (kd = 2 → ids = []) := by
      rcases hk with ⟨h, _⟩ | ⟨_, h, h0⟩ | ⟨h3, h, _⟩
      · exact absurd h h1
      · exact ⟨bare_eq h, fun _ => List.eq_nil_of_length_eq_zero h0⟩
      · exact ⟨bare_eq h, fun h => by omega⟩
    obtain ⟨⟨rfl, rfl, rfl, rfl⟩, h2⟩ := hb
    rw [if_neg h1, if_neg h1, List.nil_append]
    exact recR2_put hid hids hl h2 r
theorem recB_len {kd : Int} {ts : List Int} {k m g : Int} {ids : List Int} {id : Int} (h : mayI kd ts k m g ids id = true) : (recB kd ts k m g ids id).length ≤ 1111 := by
  obtain ⟨hk, hl, hid, hids⟩ := mayI_some h
  have h1 := putI_len10 id (by omega)
  have h2 := putI_len10 (ids.length : Int) (by omega)
  have h3 := putAllI_len ids (fun x hx => by have := hids x hx; omega)
  have h4 : ((if kd = 1 then putI (putS ts k m g).length ++ putS ts k m g else []) : List Int).length ≤ 690 := by
    split
    · have hs : schemaOk ts k m g = true := by
        rcases hk with ⟨_, h⟩ | ⟨h, _⟩ | ⟨h, _⟩
        · exact h
        · omega
        · omega
      have := putS_len ts k m g hs
      have := putI_len10 ((putS ts k m g).length : Int) (by omega)
      rw [List.length_append]
      omega
    · exact Nat.zero_le _
  have h5 : ((if kd = 2 then [] else putI ids.length ++ putAllI ids) : List Int).length ≤ 410 := by
    split
    · exact Nat.zero_le _
    · rw [List.length_append]; omega
  unfold recB
  simp only [List.length_append, List.length_singleton]
  omega
/-- What was put is taken, whatever is behind. -/
theorem recTake_put {kd : Int} {ts : List Int} {k m g : Int} {ids : List Int} {id : Int} (h : mayI kd ts k m g ids id = true) (r : List Int) :
    recTake (frameI (recB kd ts k m g ids id) ++ r) = ((kd, (ts, k, m, g), ids, id), ((frameI (recB kd ts k m g ids id)).length : Int), 0) := by
  have hl := recB_len h
  unfold recTake
  rw [unframe_frame _ _ (by omega)]
  simp only
  rw [if_neg (by intro h; exact h rfl)]
  have e := recB_eq kd ts k m g ids id
  have hR := recR_put h []
  rw [List.append_nil] at hR
  rw [if_neg (by rw [e]; simp)]
  have e1 : (recB kd ts k m g ids id).getD 0 0 = kd := by rw [e]; rfl
  have e2 : (recB kd ts k m g ids id).drop 1 = recT kd ts k m g ids id := by rw [e]; rfl
  rw [e1, e2, hR]
  have hp : putOf (kd, (ts, k, m, g), ids, id) = (frameI (recB kd ts k m g ids id), true) := by
    show recPut kd ts k m g ids id = _
    unfold recPut
    rw [if_pos h]
  rw [if_neg]
  rintro (h | h | h)
  · cases h
  · rw [hp] at h; cases h
  · rw [hp] at h
    exact h (by rw [show (((frameI (recB kd ts k m g ids id)).length : Int)).toNat = (frameI (recB kd ts k m g ids id)).length by omega, List.take_left])
/-- Of a record's frame a part is none. -/
theorem recTake_part {kd : Int} {ts : List Int} {k m g : Int} {ids : List Int} {id : Int} (h : mayI kd ts k m g ids id = true) (j : Nat) (hj : j < (frameI (recB kd ts k m g ids id)).length) :
    recTake ((frameI (recB kd ts k m g ids id)).take j) = (noRec, 0, 10) := by
  have hl := recB_len h
  unfold recTake
  rw [unframe_part _ (by omega) j hj]
  exact if_pos (by decide)
/-- One byte that is another one makes another sum. -/
theorem crc_other {a b : List Int} {x y : Int} (ha : isB a) (hb : isB b) (hx : 0 ≤ x ∧ x < 256) (hy : 0 ≤ y ∧ y < 256) (h : crcI (a ++ x :: b) = crcI (a ++ y :: b)) : x = y := by
  rw [crcI_inj_iff] at h
  have e : ∀ z, nats (a ++ z :: b) = nats a ++ (z.toNat :: nats b) := fun z => by simp [nats]
  rw [e, e] at h
  unfold crcN at h
  rw [crcReg_append, crcReg_append, crcReg_cons, crcReg_cons] at h
  have h1 : ∀ p q : Nat, p ^^^ 4294967295 = q ^^^ 4294967295 → p = q := fun p q hh => by
    have := congrArg (· ^^^ 4294967295) hh
    simpa [Nat.xor_assoc] using this
  have h2 := h1 _ _ h
  have hr : crcReg 4294967295 (nats a) < 4294967296 := crcReg_lt _ _ (by decide) (nats_lt ha)
  have hz : ∀ z : Int, 0 ≤ z ∧ z < 256 → crcReg 4294967295 (nats a) ^^^ z.toNat < 4294967296 := fun z hz => Nat.xor_lt_two_pow (n := 32) hr (by omega)
  have h3 := crcReg_inj (nats b) (nats_lt hb) _ _ (Mn_lt 8 _ (hz x hx)) (Mn_lt 8 _ (hz y hy)) h2
  have h4 := Mn_inj 8 _ _ (hz x hx) (hz y hy) h3
  have h5 : x.toNat = y.toNat := by
    have := congrArg (fun t => crcReg 4294967295 (nats a) ^^^ t) h4
    simpa [xcan] using this
  omega
theorem unframe_err (l : List Int) : (unframeI l).2.2 = 0 ∨ (unframeI l).2.2 = 10 ∨ (unframeI l).2.2 = 11 := by
  unfold unframeI
  split
  · exact .inr (.inl rfl)
  · split
    · exact .inl rfl
    · exact .inr (.inr rfl)
/-- What is taken is a record's frame; all else is told. -/
theorem recTake_cases (l : List Int) : (∃ kd ts k m g ids id, mayI kd ts k m g ids id = true ∧ ∃ rest, l = frameI (recB kd ts k m g ids id) ++ rest) ∨
    ((recTake l).1 = noRec ∧ (recTake l).2.1 = 0 ∧ ((recTake l).2.2 = 10 ∨ (recTake l).2.2 = 11)) := by
  have he := unframe_err l
  unfold recTake
  generalize unframeI l = u at he ⊢
  simp only []
  by_cases h0 : u.2.2 ≠ 0
  · rw [if_pos h0]
    exact .inr ⟨rfl, rfl, by rcases he with h | h | h; exact absurd h h0; exact .inl h; exact .inr h⟩
  · rw [if_neg h0]
    by_cases h1 : u.1.length = 0
    · rw [if_pos h1]
      exact .inr ⟨rfl, rfl, .inl rfl⟩
    · rw [if_neg h1]
      generalize recR (u.1.getD 0 0) (u.1.drop 1) false = q
      by_cases h2 : q.2.2 = true ∨ (putOf q.1).2 = false ∨ (putOf q.1).1 ≠ l.take u.2.1.toNat
      · rw [if_pos h2]
        exact .inr ⟨rfl, rfl, .inl rfl⟩
      · left
        obtain ⟨⟨kd, ⟨ts, k, m, g⟩, ids, id⟩, l1, b1⟩ := q
        by_cases hm : mayI kd ts k m g ids id = true
        · have hp : putOf (kd, (ts, k, m, g), ids, id) = (frameI (recB kd ts k m g ids id), true) := by
            show recPut kd ts k m g ids id = _
            unfold recPut
            rw [if_pos hm]
          have h4 : (putOf (kd, (ts, k, m, g), ids, id)).1 = l.take u.2.1.toNat := Classical.byContradiction fun h => h2 (.inr (.inr h))
          rw [hp] at h4
          exact ⟨kd, ts, k, m, g, ids, id, hm, l.drop u.2.1.toNat, by rw [show frameI (recB kd ts k m g ids id) = l.take u.2.1.toNat from h4, List.take_append_drop]⟩
        · exfalso
          refine h2 (.inr (.inl ?_))
          show (recPut kd ts k m g ids id).2 = false
          rw [recPut_2]
          simpa using hm
theorem putI_small {n : Nat} (h : n < 128) : putI (n : Int) = [(n : Int)] := by
  unfold putI
  rw [Int.toNat_natCast, putN_small h]
  rfl
theorem recB_inj_pre {kd kd' : Int} {ts ts' : List Int} {k m g k' m' g' : Int} {ids ids' : List Int} {id id' : Int} (h : mayI kd ts k m g ids id = true) (h' : mayI kd' ts' k' m' g' ids' id' = true) {rest : List Int}
    (e : recB kd' ts' k' m' g' ids' id' ++ rest = recB kd ts k m g ids id) : rest = [] := by
  rw [recB_eq, recB_eq, List.cons_append] at e
  obtain ⟨rfl, e2⟩ := List.cons.inj e
  have h1 := recR_put h' rest
  have h2 := recR_put h []
  rw [List.append_nil, ← e2, h1] at h2
  exact congrArg (fun q => q.2.1) h2
theorem isB_recB {kd : Int} {ts : List Int} {k m g : Int} {ids : List Int} {id : Int} (h : mayI kd ts k m g ids id = true) : isB (recB kd ts k m g ids id) := isB_rec (by have := (mayI_some h).1; omega)
/-- One byte of a short record's frame that is another one is told. -/
theorem recTake_turn {kd : Int} {ts : List Int} {k m g : Int} {ids : List Int} {id : Int} (h : mayI kd ts k m g ids id = true) (hN : (recB kd ts k m g ids id).length < 128) (j : Nat) (hj : j < (frameI (recB kd ts k m g ids id)).length)
    (v : Int) (hv : 0 ≤ v ∧ v < 256) (hne : v ≠ (frameI (recB kd ts k m g ids id)).getD j 0) :
    (recTake ((frameI (recB kd ts k m g ids id)).set j v)).2.1 = 0 ∧ ((recTake ((frameI (recB kd ts k m g ids id)).set j v)).2.2 = 10 ∨ (recTake ((frameI (recB kd ts k m g ids id)).set j v)).2.2 = 11) := by
  refine (recTake_cases ((frameI (recB kd ts k m g ids id)).set j v)).elim (fun hx => ?_) (fun h => h.2)
  obtain ⟨kd', ts', k', m', g', ids', id', h', rest, e⟩ := hx
  exfalso
  have hB := isB_recB h
  have hB' := isB_recB h'
  have hpre := fun rest => @recB_inj_pre kd kd' ts ts' k m g k' m' g' ids ids' id id' h h' rest
  generalize recB kd ts k m g ids id = p at hN hj hne e hB hpre
  generalize recB kd' ts' k' m' g' ids' id' = q at e hB' hpre
  have hl := congrArg List.length e
  rw [List.length_set, List.length_append, frameI_len, frameI_len, putI_small hN] at hl
  have hq : q.length < 128 := by
    have := putI_pos (q.length : Int)
    simp at hl
    omega
  rw [putI_small hq] at hl
  simp only [List.length_singleton] at hl
  have hf : ∀ z : List Int, z.length < 128 → frameI z = (z.length : Int) :: (sum4 (crcI z) ++ z) := fun z hz => by
    unfold frameI
    rw [putI_small hz]
    rfl
  rw [hf p hN] at e hne hj
  rw [hf q hq] at e
  cases j with
  | zero =>
    rw [List.set_cons_zero, List.cons_append] at e
    obtain ⟨e1, e2⟩ := List.cons.inj e
    rw [List.append_assoc] at e2
    obtain ⟨_, e4⟩ := List.append_inj e2 (by rw [sum4_len, sum4_len])
    have hr := hpre rest e4.symm
    subst hr
    rw [List.append_nil] at e4
    exact hne (by rw [e1, ← e4]; rfl)
  | succ j =>
    rw [List.set_cons_succ, List.cons_append] at e
    obtain ⟨e1, e2⟩ := List.cons.inj e
    have hr : rest = [] := List.eq_nil_of_length_eq_zero (by omega)
    subst hr
    rw [List.append_nil] at e2
    have hne2 : v ≠ (sum4 (crcI p) ++ p).getD j 0 := hne
    by_cases hj4 : j < 4
    · rw [List.set_append_left _ _ (by rw [sum4_len]; exact hj4)] at e2
      obtain ⟨e3, e4⟩ := List.append_inj e2 (by rw [List.length_set, sum4_len, sum4_len])
      subst e4
      apply hne2
      have e5 := congrArg (fun t => t.getD j 0) e3
      simp only [List.getD_eq_getElem?_getD] at e5 ⊢
      rw [List.getElem?_set_self (by rw [sum4_len]; exact hj4)] at e5
      rw [List.getElem?_append_left (by rw [sum4_len]; exact hj4), ← e5]
      rfl
    · rw [List.set_append_right _ _ (by rw [sum4_len]; omega), sum4_len] at e2
      obtain ⟨e3, e4⟩ := List.append_inj e2 (by rw [sum4_len, sum4_len])
      have hjp : j - 4 < p.length := by simp [sum4_len] at hj; omega
      have hc : crcI p = crcI q := sum4_inj (crcI_range hB) (crcI_range hB') e3
      rw [← e4] at hc
      have hsplit : p = p.take (j - 4) ++ p[j - 4] :: p.drop (j - 4 + 1) := by
        rw [← List.drop_eq_getElem_cons hjp, List.take_append_drop]
      have hset : p.set (j - 4) v = p.take (j - 4) ++ v :: p.drop (j - 4 + 1) := by
        rw [List.set_eq_take_append_cons_drop, if_pos hjp]
      rw [hset] at hc
      have hc2 : crcI (p.take (j - 4) ++ p[j - 4] :: p.drop (j - 4 + 1)) = crcI (p.take (j - 4) ++ v :: p.drop (j - 4 + 1)) := by rw [← hsplit]; exact hc
      have := crc_other (isB_take hB _) (isB_drop hB _) (hB _ (List.getElem_mem hjp)) hv hc2
      apply hne2
      rw [List.getD_eq_getElem?_getD, List.getElem?_append_right (by rw [sum4_len]; omega), sum4_len, List.getElem?_eq_getElem hjp, ← this]
      rfl
end Go.Proofs.YtomomeabfnmncaaGreatH.Rec
