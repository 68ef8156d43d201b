import Derived.Test.YtanfmnobanhcnaaHCrc
import Derived.Test.YtanfmnobanhcnaaWMore
import Derived.Lib.BitFns
set_option linter.unusedVariables false
set_option linter.unusedSimpArgs false
namespace Go.Proofs.YtanfmnobanhcnaaH.Var
open Go.RowKit Go.Proofs.YtanfmnobanhcnaaW.PrintMore Go.Proofs.YtanfmnobanhcnaaW.PrintWords
open Go.Proofs.YtanfmnobanhcnaaH.Crc (isB nats nats_lt wrap64_in)
/-- A number in parts of seven bits. -/
def putN (x : Nat) : List Nat := if h : x < 128 then [x] else (x % 128 + 128) :: putN (x / 128)
termination_by x
decreasing_by omega
/-- What the first bytes say, put as they are (of any size): the number, and how many bytes. -/
def dec : List Nat → Option (Nat × Nat)
  | [] => none
  | c :: t => if c < 128 then some (c, 1) else match dec t with
    | none => none
    | some (z, n) => if z = 0 then none else some (z * 128 + (c - 128), n + 1)
theorem dec_small {c : Nat} (t : List Nat) (h : c < 128) : dec (c :: t) = some (c, 1) := by simp only [dec]; rw [if_pos h]
theorem dec_none {c : Nat} {t : List Nat} (h : ¬ c < 128) (hd : dec t = none) : dec (c :: t) = none := by simp only [dec]; rw [if_neg h, hd]
theorem dec_big {c z n : Nat} {t : List Nat} (h : ¬ c < 128) (hd : dec t = some (z, n)) : dec (c :: t) = if z = 0 then none else some (z * 128 + (c - 128), n + 1) := by simp only [dec]; rw [if_neg h, hd]
theorem putN_small {x : Nat} (h : x < 128) : putN x = [x] := by rw [putN, dif_pos h]
theorem putN_big {x : Nat} (h : ¬ x < 128) : putN x = (x % 128 + 128) :: putN (x / 128) := by rw [putN, dif_neg h]
theorem putN_pos (x : Nat) : 0 < (putN x).length := by
  by_cases h : x < 128
  · rw [putN_small h]; simp
  · rw [putN_big h]; simp
theorem putN_byte (x : Nat) : ∀ c ∈ putN x, c < 256 := by
  induction x using Nat.strongRecOn with
  | _ x ih =>
    by_cases h : x < 128
    · rw [putN_small h]; intro c hc; simp at hc; omega
    · rw [putN_big h]
      intro c hc
      rcases List.mem_cons.1 hc with rfl | hc
      · omega
      · exact ih (x / 128) (by omega) c hc
theorem dec_put (x : Nat) (r : List Nat) : dec (putN x ++ r) = some (x, (putN x).length) := by
  induction x using Nat.strongRecOn with
  | _ x ih =>
    by_cases h : x < 128
    · rw [putN_small h]; simp [dec, h]
    · rw [putN_big h, List.cons_append]
      simp only [dec]
      rw [if_neg (by omega), ih (x / 128) (by omega)]
      simp only
      rw [if_neg (by omega)]
      simp only [List.length_cons, Option.some.injEq, Prod.mk.injEq, and_true]
      omega
theorem dec_some (l : List Nat) (hl : ∀ c ∈ l, c < 256) : ∀ x n, dec l = some (x, n) → l.take n = putN x ∧ n = (putN x).length := by
  induction l with
  | nil => intro x n h; simp [dec] at h
  | cons c t ih =>
    intro x n h
    simp only [dec] at h
    by_cases hc : c < 128
    · rw [if_pos hc] at h
      simp only [Option.some.injEq, Prod.mk.injEq] at h
      obtain ⟨rfl, rfl⟩ := h
      rw [putN_small hc]
      simp
    · rw [if_neg hc] at h
      cases hd : dec t with
      | none => rw [hd] at h; simp at h
      | some p =>
        obtain ⟨z, m⟩ := p
        rw [hd] at h
        simp only at h
        by_cases hz : z = 0
        · rw [if_pos hz] at h; cases h
        · rw [if_neg hz] at h
          simp only [Option.some.injEq, Prod.mk.injEq] at h
          obtain ⟨rfl, rfl⟩ := h
          obtain ⟨h1, h2⟩ := ih (fun c hc => hl c (List.mem_cons_of_mem _ hc)) z m hd
          have hcb := hl c List.mem_cons_self
          have hb : ¬ z * 128 + (c - 128) < 128 := by omega
          rw [putN_big hb]
          have e1 : (z * 128 + (c - 128)) / 128 = z := by omega
          have e2 : (z * 128 + (c - 128)) % 128 + 128 = c := by omega
          rw [e1, e2, List.take_succ_cons, h1]
          exact ⟨rfl, by simp [h2]⟩
theorem dec_le (l : List Nat) (x n : Nat) (h : dec l = some (x, n)) : 1 ≤ n ∧ n ≤ l.length := by
  induction l generalizing x n with
  | nil => simp [dec] at h
  | cons c t ih =>
    simp only [dec] at h
    by_cases hc : c < 128
    · rw [if_pos hc] at h
      simp only [Option.some.injEq, Prod.mk.injEq] at h
      obtain ⟨_, rfl⟩ := h
      simp
    · rw [if_neg hc] at h
      cases hd : dec t with
      | none => rw [hd] at h; simp at h
      | some p =>
        obtain ⟨z, m⟩ := p
        rw [hd] at h
        simp only at h
        by_cases hz : z = 0
        · rw [if_pos hz] at h; cases h
        · rw [if_neg hz] at h
          simp only [Option.some.injEq, Prod.mk.injEq] at h
          obtain ⟨_, rfl⟩ := h
          have := ih z m hd
          simp
          omega
/-- A part of a number's bytes says none. -/
theorem dec_part (x : Nat) : ∀ k, k < (putN x).length → dec ((putN x).take k) = none := by
  induction x using Nat.strongRecOn with
  | _ x ih =>
    intro k hk
    by_cases h : x < 128
    · rw [putN_small h] at hk ⊢
      have : k = 0 := by simp at hk; omega
      subst this
      simp [dec]
    · rw [putN_big h] at hk ⊢
      cases k with
      | zero => simp [dec]
      | succ k =>
        rw [List.take_succ_cons]
        simp only [dec]
        rw [if_neg (by omega), ih (x / 128) (by omega) k (by simpa using hk)]
theorem putN_inj {x y : Nat} (h : putN x = putN y) : x = y := by
  have h1 := dec_put x []
  have h2 := dec_put y []
  rw [h, h2] at h1
  simp only [Option.some.injEq, Prod.mk.injEq] at h1
  exact h1.1.symm
/-- How long a number is. -/
theorem putN_len (x d : Nat) (h : x < 128 ^ (d + 1)) : (putN x).length ≤ d + 1 := by
  induction d generalizing x with
  | zero => rw [putN_small (by simpa using h)]; simp
  | succ d ih =>
    by_cases hs : x < 128
    · rw [putN_small hs]; simp
    · rw [putN_big hs]
      have : x / 128 < 128 ^ (d + 1) := by
        rw [Nat.pow_succ] at h
        exact Nat.div_lt_of_lt_mul (by omega)
      have := ih _ this
      simp
      omega
theorem putN_len10 (x : Nat) (h : x < 18446744073709551616) : (putN x).length ≤ 10 := putN_len x 9 (Nat.lt_of_lt_of_le h (by decide))
/-- The number that the first bytes say, below 2^64; (0, 0): none. -/
def varN (l : List Nat) : Nat × Nat := match dec l with
  | some (x, n) => if x < 18446744073709551616 then (x, n) else (0, 0)
  | none => (0, 0)
theorem varN_put (x : Nat) (h : x < 18446744073709551616) (r : List Nat) : varN (putN x ++ r) = (x, (putN x).length) := by
  unfold varN
  rw [dec_put]
  simp [h]
theorem varN_part (x k : Nat) (h : k < (putN x).length) : varN ((putN x).take k) = (0, 0) := by
  unfold varN
  rw [dec_part x k h]
theorem varN_some (l : List Nat) (hl : ∀ c ∈ l, c < 256) (x n : Nat) (h : varN l = (x, n)) (h0 : n ≠ 0) : l.take n = putN x ∧ n = (putN x).length ∧ n ≤ l.length ∧ x < 18446744073709551616 := by
  unfold varN at h
  cases hd : dec l with
  | none => rw [hd] at h; simp only [Prod.mk.injEq] at h; omega
  | some p =>
    obtain ⟨y, m⟩ := p
    rw [hd] at h
    simp only at h
    by_cases hy : y < 18446744073709551616
    · rw [if_pos hy] at h
      simp only [Prod.mk.injEq] at h
      obtain ⟨rfl, rfl⟩ := h
      obtain ⟨h1, h2⟩ := dec_some l hl _ _ hd
      exact ⟨h1, h2, (dec_le l _ _ hd).2, hy⟩
    · rw [if_neg hy] at h
      simp only [Prod.mk.injEq] at h
      omega
theorem varN_range (l : List Nat) : (varN l).1 < 18446744073709551616 ∧ (varN l).2 ≤ l.length := by
  unfold varN
  cases hd : dec l with
  | none => simp
  | some p =>
    obtain ⟨y, m⟩ := p
    simp only
    have := dec_le l y m hd
    split
    · simp; omega
    · simp
/-- The same read from the front: the number so far, its bits so far. -/
def res (bl : Nat → Nat) : Nat → Nat → Nat → List Nat → Nat × Nat
  | _, _, _, [] => (0, 0)
  | x, sh, i, c :: t => if 64 < sh + bl (c % 128) then (0, 0) else if c < 128 ∧ c = 0 ∧ 0 < i then (0, 0) else if c < 128 then (x + c % 128 * 2 ^ sh, i + 1) else res bl (x + c % 128 * 2 ^ sh) (sh + 7) (i + 1) t
theorem res_dec (bl : Nat → Nat) (hbl : ∀ p, p < 128 → (p = 0 → bl p = 0) ∧ (p ≠ 0 → 1 ≤ bl p ∧ bl p ≤ 7 ∧ 2 ^ (bl p - 1) ≤ p ∧ p < 2 ^ bl p)) (t : List Nat) (ht : ∀ c ∈ t, c < 256) : ∀ (x i : Nat), x < 2 ^ (7 * i) →
    res bl x (7 * i) i t = match dec t with
      | some (y, n) => if (0 < i → y ≠ 0) ∧ x + y * 2 ^ (7 * i) < 18446744073709551616 then (x + y * 2 ^ (7 * i), i + n) else (0, 0)
      | none => (0, 0) := by
  have big : ∀ (p sh : Nat), p < 128 → p ≠ 0 → (64 < sh + bl p ↔ 18446744073709551616 ≤ p * 2 ^ sh) := by
    intro p sh hp h0
    obtain ⟨h1, h2, h3, h4⟩ := (hbl p hp).2 h0
    constructor
    · intro h
      have e : 2 ^ 64 ≤ 2 ^ ((bl p - 1) + sh) := Nat.pow_le_pow_right (by decide) (by omega)
      rw [Nat.pow_add] at e
      have : 2 ^ (bl p - 1) * 2 ^ sh ≤ p * 2 ^ sh := Nat.mul_le_mul_right _ h3
      have e64 : (2 : Nat) ^ 64 = 18446744073709551616 := by decide
      omega
    · intro h
      refine Classical.byContradiction fun hc => ?_
      have e : 2 ^ (bl p + sh) ≤ 2 ^ 64 := Nat.pow_le_pow_right (by decide) (by omega)
      rw [Nat.pow_add] at e
      have hpos : 0 < 2 ^ sh := Nat.pow_pos (by decide)
      have : p * 2 ^ sh < 2 ^ bl p * 2 ^ sh := Nat.mul_lt_mul_of_pos_right h4 hpos
      have e64 : (2 : Nat) ^ 64 = 18446744073709551616 := by decide
      omega
  induction t with
  | nil => intro x i hx; simp [res, dec]
  | cons c t ih =>
    intro x i hx
    have hc := ht c List.mem_cons_self
    have hpos : 0 < 2 ^ (7 * i) := Nat.pow_pos (by decide)
    by_cases hs : c < 128
    · have em : c % 128 = c := Nat.mod_eq_of_lt hs
      rw [dec_small t hs]
      simp only [res]
      rw [em]
      by_cases h0 : c = 0
      · subst h0
        have e0 : bl 0 = 0 := (hbl 0 (by decide)).1 rfl
        rw [e0]
        by_cases hi : 0 < i
        · have hR : ¬ ((0 < i → (0 : Nat) ≠ 0) ∧ x + 0 * 2 ^ (7 * i) < 18446744073709551616) := fun h => h.1 hi rfl
          rw [if_neg hR]
          by_cases h64 : 64 < 7 * i + 0
          · rw [if_pos h64]
          · rw [if_neg h64, if_pos ⟨by decide, rfl, hi⟩]
        · have : i = 0 := by omega
          subst this
          have hx0 : x = 0 := by simpa using hx
          subst hx0
          simp
      · by_cases h64 : 64 < 7 * i + bl c
        · rw [if_pos h64]
          have := (big c (7 * i) hs h0).1 h64
          rw [if_neg (by omega)]
        · rw [if_neg h64, if_neg (by omega), if_pos hs]
          have h1 : c * 2 ^ (7 * i) < 18446744073709551616 := by
            refine Classical.byContradiction fun h => h64 ((big c (7 * i) hs h0).2 (by omega))
          have h2 : x + c * 2 ^ (7 * i) < 18446744073709551616 := by
            -- x is below 2^(7i), and 2^64 is a multiple of it
            have hle : 7 * i ≤ 64 := by omega
            have e64 : (2 : Nat) ^ 64 = 18446744073709551616 := by decide
            have ed : 2 ^ 64 = 2 ^ (64 - 7 * i) * 2 ^ (7 * i) := by rw [← Nat.pow_add]; congr 1; omega
            have : c < 2 ^ (64 - 7 * i) := by
              refine Classical.byContradiction fun h => ?_
              have := Nat.mul_le_mul_right (2 ^ (7 * i)) (Nat.le_of_not_lt h)
              omega
            have := Nat.mul_le_mul_right (2 ^ (7 * i)) this
            rw [← ed, e64, Nat.succ_mul] at this
            omega
          rw [if_pos ⟨fun _ => h0, h2⟩]
    · have em : c % 128 = c - 128 := by omega
      simp only [res]
      rw [em]
      by_cases h64 : 64 < 7 * i + bl (c - 128)
      · rw [if_pos h64]
        cases hd : dec t with
        | none => rw [dec_none hs hd]
        | some p =>
          obtain ⟨z, m⟩ := p
          rw [dec_big hs hd]
          by_cases hz : z = 0
          · rw [if_pos hz]
          · rw [if_neg hz]
            simp only
            rw [if_neg]
            intro hcon
            have h2 := hcon.2
            by_cases hp : c - 128 = 0
            · have e0 : bl (c - 128) = 0 := by rw [hp]; exact (hbl 0 (by decide)).1 rfl
              rw [e0] at h64
              have e : 2 ^ 64 ≤ 2 ^ (7 * i) := Nat.pow_le_pow_right (by decide) (by omega)
              have e64 : (2 : Nat) ^ 64 = 18446744073709551616 := by decide
              have : 1 * 2 ^ (7 * i) ≤ (z * 128 + (c - 128)) * 2 ^ (7 * i) := Nat.mul_le_mul_right _ (by omega)
              omega
            · have hb := (big (c - 128) (7 * i) (by omega) hp).1 h64
              have : (c - 128) * 2 ^ (7 * i) ≤ (z * 128 + (c - 128)) * 2 ^ (7 * i) := Nat.mul_le_mul_right _ (by omega)
              omega
      · rw [if_neg h64, if_neg (by omega), if_neg hs]
        have e7 : 7 * i + 7 = 7 * (i + 1) := by omega
        have ep : 2 ^ (7 * (i + 1)) = 128 * 2 ^ (7 * i) := by rw [← e7, Nat.pow_add]; omega
        have hx' : x + (c - 128) * 2 ^ (7 * i) < 2 ^ (7 * (i + 1)) := by
          have : (c - 128 + 1) * 2 ^ (7 * i) ≤ 128 * 2 ^ (7 * i) := Nat.mul_le_mul_right _ (by omega)
          rw [Nat.add_mul] at this
          omega
        rw [e7, ih (fun c hc => ht c (List.mem_cons_of_mem _ hc)) _ _ hx']
        cases hd : dec t with
        | none => rw [dec_none hs hd]
        | some p =>
          obtain ⟨z, m⟩ := p
          rw [dec_big hs hd]
          simp only
          have es : x + (c - 128) * 2 ^ (7 * i) + z * 2 ^ (7 * (i + 1)) = x + (z * 128 + (c - 128)) * 2 ^ (7 * i) := by
            rw [ep, Nat.add_mul, ← Nat.mul_assoc]
            omega
          rw [es]
          by_cases hz : z = 0
          · rw [if_pos hz]
            rw [if_neg (fun h => h.1 (by omega) hz)]
          · rw [if_neg hz]
            simp only
            by_cases hlt : x + (z * 128 + (c - 128)) * 2 ^ (7 * i) < 18446744073709551616
            · rw [if_pos ⟨fun _ => hz, hlt⟩, if_pos ⟨fun _ => by omega, hlt⟩]
              congr 1
              omega
            · rw [if_neg (fun h => hlt h.2), if_neg (fun h => hlt h.2)]
theorem res_var (bl : Nat → Nat) (hbl : ∀ p, p < 128 → (p = 0 → bl p = 0) ∧ (p ≠ 0 → 1 ≤ bl p ∧ bl p ≤ 7 ∧ 2 ^ (bl p - 1) ≤ p ∧ p < 2 ^ bl p)) (l : List Nat) (hl : ∀ c ∈ l, c < 256) : res bl 0 0 0 l = varN l := by
  have := res_dec bl hbl l hl 0 0 (by simp)
  rw [this]
  unfold varN
  cases dec l with
  | none => rfl
  | some p => obtain ⟨y, n⟩ := p; simp
/-! the same in the numbers of the program -/
theorem bl_ok : ∀ p, p < 128 → (p = 0 → Lib.bitLen p = 0) ∧ (p ≠ 0 → 1 ≤ Lib.bitLen p ∧ Lib.bitLen p ≤ 7 ∧ 2 ^ (Lib.bitLen p - 1) ≤ p ∧ p < 2 ^ Lib.bitLen p) := by
  have h : ∀ p : Fin 128, (p.val = 0 → Lib.bitLen p.val = 0) ∧ (p.val ≠ 0 → 1 ≤ Lib.bitLen p.val ∧ Lib.bitLen p.val ≤ 7 ∧ 2 ^ (Lib.bitLen p.val - 1) ≤ p.val ∧ p.val < 2 ^ Lib.bitLen p.val) := by decide +kernel
  intro p hp
  exact h ⟨p, hp⟩
theorem low7 (n : Nat) (h : n < 256) : Go.bits .andNot .u8 (n : Int) 128 = ((n % 128 : Nat) : Int) := by
  have := u8_andNot_nat n 128 h (by decide)
  have e : n &&& (255 - 128) = n % 128 := Nat.and_two_pow_sub_one_eq_mod n 7
  rw [e] at this
  exact this
theorem high7 (n : Nat) (h : n < 256) : Go.bits .or .u8 ((n % 128 : Nat) : Int) 128 = ((n % 128 + 128 : Nat) : Int) := by
  have := u8_or_nat (n % 128) 128 (by omega) (by decide)
  have e : n % 128 ||| 128 = n % 128 + 128 := by
    have := Nat.two_pow_add_eq_or_of_lt (i := 7) (b := n % 128) (by omega) 1
    rw [Nat.or_comm, Nat.add_comm]
    simpa using this.symm
  rw [e] at this
  exact this
theorem ofInt_u64 (a : Nat) (ha : a < 18446744073709551616) : (BitVec.ofInt 64 (a : Int)).toNat = a := by
  rw [BitVec.ofInt_natCast, BitVec.toNat_ofNat]; exact Nat.mod_eq_of_lt (by omega)
theorem u64_or (a b : Nat) (ha : a < 18446744073709551616) (hb : b < 18446744073709551616) : Go.bits .or .u64 (a : Int) (b : Int) = ((a ||| b : Nat) : Int) := by
  have hx : a ||| b < 2 ^ 64 := Nat.or_lt_two_pow (by omega) (by omega)
  show IntKind.u64.wrap ((BitVec.ofInt 64 (a : Int) ||| BitVec.ofInt 64 (b : Int)).toNat : Int) = _
  rw [BitVec.toNat_or, ofInt_u64 a ha, ofInt_u64 b hb, IntKind.wrap_u64]
  omega
theorem shl_u64 (p sh : Nat) (h : p * 2 ^ sh < 18446744073709551616) (h64 : sh ≤ 64) : shl .u64 (p : Int) (sh : Int) = ((p * 2 ^ sh : Nat) : Int) := by
  unfold shl
  have e : min ((sh : Int).toNat) (IntKind.u64.bits) = sh := by
    have : IntKind.u64.bits = 64 := rfl
    rw [this]
    omega
  rw [e, IntKind.wrap_u64]
  have e2 : ((p : Int) * 2 ^ sh) = ((p * 2 ^ sh : Nat) : Int) := by simp
  rw [e2]
  omega
/-- One part more. -/
theorem join (x p i : Nat) (hx : x < 2 ^ (7 * i)) (h : p * 2 ^ (7 * i) < 18446744073709551616) (h64 : 7 * i ≤ 64) : Go.bits .or .u64 (x : Int) (shl .u64 (p : Int) ((7 * i : Nat) : Int)) = ((x + p * 2 ^ (7 * i) : Nat) : Int) := by
  rw [shl_u64 p _ h h64]
  have hxx : x < 18446744073709551616 := by
    have e : 2 ^ (7 * i) ≤ 2 ^ 64 := Nat.pow_le_pow_right (by decide) h64
    have e64 : (2 : Nat) ^ 64 = 18446744073709551616 := by decide
    omega
  rw [u64_or x _ hxx h]
  have e := Nat.two_pow_add_eq_or_of_lt (i := 7 * i) (b := x) hx p
  rw [Nat.or_comm, Nat.mul_comm p, ← e]
  congr 1
  omega
theorem rd_at {l : List Int} {i : Nat} {c : Int} {t : List Int} (h : l.drop i = c :: t) : rd l (i : Int) = c ∧ i < l.length ∧ l.drop (i + 1) = t ∧ c ∈ l := by
  have hil : i < l.length := by
    refine Classical.byContradiction fun hn => ?_
    rw [List.drop_eq_nil_of_le (by omega)] at h
    cases h
  rw [List.drop_eq_getElem_cons hil] at h
  obtain ⟨h1, h2⟩ := List.cons.inj h
  refine ⟨?_, hil, h2, by rw [← h1]; exact List.getElem_mem hil⟩
  unfold rd
  rw [Int.toNat_natCast, List.getD_eq_getElem?_getD, List.getElem?_eq_getElem hil, h1]
  rfl
def varI (l : List Int) : Int × Int := (((varN (nats l)).1 : Nat), ((varN (nats l)).2 : Nat))
def ints (l : List Nat) : List Int := l.map fun (x : Nat) => (x : Int)
def putI (x : Int) : List Int := ints (putN x.toNat)
theorem nats_ints (l : List Nat) : nats (ints l) = l := by
  unfold nats ints
  rw [List.map_map]
  conv => rhs; rw [← List.map_id l]
  apply List.map_congr_left
  intro x _
  simp
theorem ints_nats {l : List Int} (h : isB l) : ints (nats l) = l := by
  unfold nats ints
  rw [List.map_map]
  conv => rhs; rw [← List.map_id l]
  apply List.map_congr_left
  intro x hx
  have := h x hx
  simp
  omega
theorem isB_ints {l : List Nat} (h : ∀ x ∈ l, x < 256) : isB (ints l) := by
  intro x hx
  obtain ⟨y, hy, rfl⟩ := List.mem_map.1 hx
  have := h y hy
  omega
theorem isB_put (x : Int) : isB (putI x) := isB_ints (putN_byte _)
theorem isB_append {a b : List Int} (ha : isB a) (hb : isB b) : isB (a ++ b) := fun x hx => (List.mem_append.1 hx).elim (ha x) (hb x)
theorem isB_take {a : List Int} (ha : isB a) (n : Nat) : isB (a.take n) := fun x hx => ha x (List.mem_of_mem_take hx)
theorem isB_drop {a : List Int} (ha : isB a) (n : Nat) : isB (a.drop n) := fun x hx => ha x (List.mem_of_mem_drop hx)
theorem isB_cons {c : Int} {a : List Int} (h : isB (c :: a)) : (0 ≤ c ∧ c < 256) ∧ isB a := ⟨h c List.mem_cons_self, fun x hx => h x (List.mem_cons_of_mem _ hx)⟩
theorem nats_append (a b : List Int) : nats (a ++ b) = nats a ++ nats b := by simp [nats]
theorem nats_take (a : List Int) (n : Nat) : nats (a.take n) = (nats a).take n := by simp [nats, List.map_take]
theorem nats_drop (a : List Int) (n : Nat) : nats (a.drop n) = (nats a).drop n := by simp [nats, List.map_drop]
theorem nats_len (a : List Int) : (nats a).length = a.length := by simp [nats]
theorem ints_len (a : List Nat) : (ints a).length = a.length := by simp [ints]
theorem nats_inj {a b : List Int} (ha : isB a) (hb : isB b) (h : nats a = nats b) : a = b := by rw [← ints_nats ha, ← ints_nats hb, h]
theorem nats_put (x : Int) : nats (putI x) = putN x.toNat := nats_ints _
theorem putI_len (x : Int) : (putI x).length = (putN x.toNat).length := ints_len _
theorem putI_pos (x : Int) : 0 < (putI x).length := by rw [putI_len]; exact putN_pos _
theorem putI_len10 (x : Int) (h : x < 18446744073709551616) : (putI x).length ≤ 10 := by rw [putI_len]; exact putN_len10 _ (by omega)
theorem varI_put (x : Int) (h0 : 0 ≤ x) (h : x < 18446744073709551616) (r : List Int) : varI (putI x ++ r) = (x, ((putI x).length : Int)) := by
  unfold varI
  rw [nats_append, nats_put, varN_put _ (by omega), putI_len]
  simp only [Prod.mk.injEq, and_true]
  omega
theorem varI_part (x : Int) (k : Nat) (h : k < (putI x).length) : varI ((putI x).take k) = (0, 0) := by
  unfold varI
  rw [nats_take, nats_put, varN_part _ _ (by rw [← putI_len]; exact h)]
  rfl
theorem varI_some (l : List Int) (hl : isB l) (x n : Int) (h : varI l = (x, n)) (h0 : n ≠ 0) : l.take n.toNat = putI x ∧ n = (putI x).length ∧ 0 < n ∧ n ≤ l.length ∧ 0 ≤ x ∧ x < 18446744073709551616 := by
  unfold varI at h
  simp only [Prod.mk.injEq] at h
  obtain ⟨h1, h2⟩ := h
  obtain ⟨a, b, c, d⟩ := varN_some (nats l) (nats_lt hl) (varN (nats l)).1 (varN (nats l)).2 rfl (by omega)
  have ex : x.toNat = (varN (nats l)).1 := by omega
  have en : n.toNat = (varN (nats l)).2 := by omega
  refine ⟨?_, ?_, by omega, by rw [nats_len] at c; omega, by omega, by omega⟩
  · refine nats_inj (isB_take hl _) (isB_put x) ?_
    rw [nats_take, nats_put, en, ex, a]
  · rw [putI_len, ex]
    omega
theorem varI_range (l : List Int) : 0 ≤ (varI l).1 ∧ (varI l).1 < 18446744073709551616 ∧ 0 ≤ (varI l).2 ∧ (varI l).2 ≤ l.length := by
  have := varN_range (nats l)
  rw [nats_len] at this
  unfold varI
  simp only
  omega

end Go.Proofs.YtanfmnobanhcnaaH.Var
