import Derived.Test.YtanfmnobanhcnaaHBase
import Derived.Test.YtanfmnobanhcnaaHVar
import Derived.Lib.Bytes
set_option linter.unusedVariables false
set_option linter.unusedSimpArgs false
namespace Go.Proofs.YtanfmnobanhcnaaH.Fr
open Go.RowKit Go.Proofs.YtanfmnobanhcnaaW.PrintMore Go.Proofs.YtanfmnobanhcnaaW.PrintWords
open Go.Proofs.YtanfmnobanhcnaaH (le8)
open Go.Proofs.YtanfmnobanhcnaaH.Crc (isB nats nats_lt wrap64_in crcI crcI_range)
open Go.Proofs.YtanfmnobanhcnaaH.Var
/-- A sum's four bytes. -/
def sum4 (x : Int) : List Int := (le8 x).take 4
theorem le8_len (x : Int) : (le8 x).length = 8 := by simp [le8]
theorem sum4_len (x : Int) : (sum4 x).length = 4 := by simp [sum4, le8_len]
theorem isB_le8 (x : Int) : isB (le8 x) := by
  intro y hy
  obtain ⟨i, _, rfl⟩ := List.mem_map.1 hy
  constructor
  · exact Int.emod_nonneg _ (by decide)
  · exact Int.emod_lt_of_pos _ (by decide)
theorem isB_sum4 (x : Int) : isB (sum4 x) := isB_take (isB_le8 x) 4
theorem sum4_eq (x : Int) : sum4 x = [x % 256, x / 256 % 256, x / 65536 % 256, x / 16777216 % 256] := by
  simp [sum4, le8, List.range, List.range.loop]
theorem sum4_inj {x y : Int} (hx : 0 ≤ x ∧ x < 4294967296) (hy : 0 ≤ y ∧ y < 4294967296) (h : sum4 x = sum4 y) : x = y := by
  rw [sum4_eq, sum4_eq] at h
  simp only [List.cons.injEq] at h
  omega
/-- Bytes with their length and their sum ahead. -/
def frameI (l : List Int) : List Int := putI l.length ++ (sum4 (crcI l) ++ l)
theorem frameI_len (l : List Int) : (frameI l).length = (putI l.length).length + 4 + l.length := by
  simp only [frameI, List.length_append, sum4_len]
  omega
theorem isB_frame {l : List Int} (h : isB l) : isB (frameI l) := isB_append (isB_put _) (isB_append (isB_sum4 _) h)
/-- What bytes say as a frame: the bytes within, how many bytes there are of it, the error. -/
def unframeI (l : List Int) : List Int × Int × Int :=
  if (varI l).2 = 0 ∨ (varI l).1 > 1048576 ∨ (l.length : Int) - (varI l).2 < (varI l).1 + 4 then ([], 0, 10)
  else if sum4 (crcI ((l.take ((varI l).2 + 4 + (varI l).1).toNat).drop ((varI l).2 + 4).toNat)) = (l.take ((varI l).2 + 4).toNat).drop (varI l).2.toNat
    then ((l.take ((varI l).2 + 4 + (varI l).1).toNat).drop ((varI l).2 + 4).toNat, (varI l).2 + 4 + (varI l).1, 0)
    else ([], 0, 11)
theorem unframe_frame (b r : List Int) (hb : b.length ≤ 1048576) : unframeI (frameI b ++ r) = (b, ((frameI b).length : Int), 0) := by
  have hv : varI (frameI b ++ r) = ((b.length : Int), ((putI b.length).length : Int)) := by
    unfold frameI
    rw [List.append_assoc]
    exact varI_put _ (by omega) (by omega) _
  have hp := putI_pos (b.length : Int)
  have hl := frameI_len b
  unfold unframeI
  rw [hv]
  simp only
  rw [if_neg (by rw [List.length_append]; omega)]
  have e1 : ((putI b.length).length + 4 + b.length : Int).toNat = (frameI b).length := by omega
  have e2 : ((putI b.length).length + 4 : Int).toNat = (putI b.length).length + 4 := by omega
  have e3 : ((putI b.length).length : Int).toNat = (putI b.length).length := by omega
  rw [e1, e2, e3, List.take_left]
  have d1 : (frameI b).drop ((putI b.length).length + 4) = b := by
    unfold frameI
    rw [← List.append_assoc]
    have : (putI b.length ++ sum4 (crcI b)).length = (putI b.length).length + 4 := by rw [List.length_append, sum4_len]
    rw [← this, List.drop_left]
  have d2 : ((frameI b ++ r).take ((putI b.length).length + 4)).drop (putI b.length).length = sum4 (crcI b) := by
    have : frameI b ++ r = (putI b.length ++ sum4 (crcI b)) ++ (b ++ r) := by unfold frameI; simp [List.append_assoc]
    rw [this]
    have h4 : (putI b.length).length + 4 = (putI b.length ++ sum4 (crcI b)).length := by rw [List.length_append, sum4_len]
    rw [h4, List.take_left, List.drop_left]
  rw [d1, d2, if_pos rfl]
  simp only [Prod.mk.injEq, and_true, true_and]
  omega
theorem unframe_part (b : List Int) (hb : b.length ≤ 1048576) (k : Nat) (hk : k < (frameI b).length) : unframeI ((frameI b).take k) = ([], 0, 10) := by
  have hl := frameI_len b
  by_cases h : k < (putI b.length).length
  · have : (frameI b).take k = (putI b.length).take k := by
      unfold frameI
      rw [List.take_append_of_le_length (by omega)]
    rw [this]
    unfold unframeI
    rw [varI_part _ k h, if_pos (Or.inl rfl)]
  · have : (frameI b).take k = putI b.length ++ (sum4 (crcI b) ++ b).take (k - (putI b.length).length) := by
      unfold frameI
      rw [List.take_append, List.take_of_length_le (by omega)]
    have hlen : ((frameI b).take k).length = k := by rw [List.length_take]; omega
    unfold unframeI
    rw [hlen]
    rw [this, varI_put _ (by omega) (by omega)]
    simp only
    rw [if_pos (Or.inr (Or.inr (by omega)))]
theorem unframe_some (l : List Int) (hl : isB l) (d : List Int) (n : Int) (h : unframeI l = (d, n, 0)) : l.take n.toNat = frameI d ∧ n = (frameI d).length ∧ n ≤ l.length ∧ 0 < n ∧ d.length ≤ 1048576 ∧ isB d := by
  unfold unframeI at h
  split at h
  · simp only [Prod.mk.injEq] at h
    exact absurd h.2.2 (by decide)
  · rename_i hc
    split at h
    · rename_i hs
      simp only [Prod.mk.injEq, and_true] at h
      obtain ⟨rfl, rfl⟩ := h
      have hv0 : (varI l).2 ≠ 0 := fun h => hc (Or.inl h)
      obtain ⟨v1, v2, v3, v4, v5, v6⟩ := varI_some l hl (varI l).1 (varI l).2 rfl hv0
      generalize (varI l).1 = x at *
      generalize (varI l).2 = k at *
      have hx : x ≤ 1048576 := by
        refine Classical.byContradiction fun h => hc (Or.inr (Or.inl (by omega)))
      have hll : x + 4 ≤ l.length - k := by
        refine Classical.byContradiction fun h => hc (Or.inr (Or.inr (by omega)))
      have hdl : ((l.take (k + 4 + x).toNat).drop (k + 4).toNat).length = x.toNat := by
        rw [List.length_drop, List.length_take]
        omega
      have hdl' : (((l.take (k + 4 + x).toNat).drop (k + 4).toNat).length : Int) = x := by omega
      refine ⟨?_, ?_, by omega, by omega, by omega, isB_drop (isB_take hl _) _⟩
      · unfold frameI
        rw [hs, hdl', ← v1]
        have a1 : l.take (k + 4).toNat = l.take k.toNat ++ (l.take (k + 4).toNat).drop k.toNat := by
          conv => lhs; rw [← List.take_append_drop k.toNat (l.take (k + 4).toNat)]
          rw [List.take_take, Nat.min_eq_left (by omega)]
        have a2 : l.take (k + 4 + x).toNat = l.take (k + 4).toNat ++ (l.take (k + 4 + x).toNat).drop (k + 4).toNat := by
          conv => lhs; rw [← List.take_append_drop (k + 4).toNat (l.take (k + 4 + x).toNat)]
          rw [List.take_take, Nat.min_eq_left (by omega)]
        conv => lhs; rw [a2, a1]
        rw [List.append_assoc]
      · rw [frameI_len, hdl']
        omega
    · simp only [Prod.mk.injEq] at h
      exact absurd h.2.2 (by decide)
theorem unframe_err (l : List Int) : (unframeI l).2.2 = 0 ∨ ((unframeI l).1 = [] ∧ (unframeI l).2.1 = 0 ∧ ((unframeI l).2.2 = 10 ∨ (unframeI l).2.2 = 11)) := by
  unfold unframeI
  split
  · exact .inr ⟨rfl, rfl, .inl rfl⟩
  · split
    · exact .inl rfl
    · exact .inr ⟨rfl, rfl, .inr rfl⟩
theorem isB_unframe {l : List Int} (h : isB l) : isB (unframeI l).1 := by
  unfold unframeI
  split
  · intro x hx; cases hx
  · split
    · exact isB_drop (isB_take h _) _
    · intro x hx; cases hx
theorem or128 (n : Nat) (h : n < 256) : Go.bits .or .u8 (n : Int) 128 = ((n % 128 + 128 : Nat) : Int) := by
  have h1 := u8_or_nat n 128 h (by decide)
  have e : ∀ n : Fin 256, n.val ||| 128 = n.val % 128 + 128 := by decide +kernel
  rw [e ⟨n, h⟩] at h1
  exact h1

/-- Strings of bytes are the same where the bytes are. -/
theorem str_eq {a b : List Int} (ha : isB a) (hb : isB b) : (strOfNums a).toList = (strOfNums b).toList ↔ a = b := by
  constructor
  · intro h
    rw [Lib.strOfNums_toList, Lib.strOfNums_toList] at h
    unfold Lib.bytesOf at h
    refine nats_inj ha hb ?_
    have h2 := congrArg (fun l : List UInt8 => l.map UInt8.toNat) h
    simp only [List.map_map] at h2
    have key : ∀ l : List Int, isB l → l.map (UInt8.toNat ∘ fun n => UInt8.ofNat n.toNat) = nats l := by
      intro l hl
      unfold nats
      apply List.map_congr_left
      intro x hx
      have := hl x hx
      show (UInt8.ofNat x.toNat).toNat = x.toNat
      rw [UInt8.toNat_ofNat']
      exact Nat.mod_eq_of_lt (by omega)
    rw [key a ha, key b hb] at h2
    exact h2
  · rintro rfl
    rfl
theorem str_beq {a b : List Int} (ha : isB a) (hb : isB b) : ((strOfNums a).toList == (strOfNums b).toList) = decide (a = b) := by
  rw [Bool.eq_iff_iff, beq_iff_eq, str_eq ha hb, decide_eq_true_iff]
theorem cast_mod (M m : Nat) : ((m : Nat) : Int) % (M : Int) = ((m % M : Nat) : Int) := (Int.natCast_emod m M).symm
theorem mac_mod (M x p q : Nat) : (x % M + p * (q % M) % M) % M = (x + p * q) % M := by
  rw [← Nat.add_mod, Nat.add_mod x, Nat.mul_mod, Nat.mod_mod, ← Nat.mul_mod, ← Nat.add_mod]
theorem u64_wrap (m : Nat) : IntKind.u64.wrap (m : Int) = ((m % 18446744073709551616 : Nat) : Int) := by
  rw [IntKind.wrap_u64]
  exact cast_mod 18446744073709551616 m
/-- A part more, modulo 2^64. -/
theorem u64_mac (x p q : Nat) : IntKind.u64.wrap (((x % 18446744073709551616 : Nat) : Int) + IntKind.u64.wrap ((p : Int) * ((q % 18446744073709551616 : Nat) : Int))) = (((x + p * q) % 18446744073709551616 : Nat) : Int) := by
  rw [← Int.natCast_mul, u64_wrap, ← Int.natCast_add, u64_wrap, mac_mod]
theorem u64_mul (q p : Nat) : IntKind.u64.wrap (((q % 18446744073709551616 : Nat) : Int) * (p : Int)) = ((q * p % 18446744073709551616 : Nat) : Int) := by
  rw [← Int.natCast_mul, u64_wrap, Nat.mul_mod, Nat.mod_mod, ← Nat.mul_mod]
/-! #### a number read by its definition: the first byte below 128 ends it -/
def raw : List Nat → Option (Nat × Nat)
  | [] => none
  | c :: t => if c < 128 then some (c, 1) else match raw t with
    | none => none
    | some (z, n) => some (c % 128 + 128 * z, n + 1)
theorem raw_small {c : Nat} (t : List Nat) (h : c < 128) : raw (c :: t) = some (c, 1) := by simp only [raw]; rw [if_pos h]
theorem raw_big {c : Nat} (t : List Nat) (h : ¬ c < 128) : raw (c :: t) = match raw t with
    | none => none
    | some (z, n) => some (c % 128 + 128 * z, n + 1) := by simp only [raw]; rw [if_neg h]
theorem dec_raw (l : List Nat) (hl : ∀ c ∈ l, c < 256) : ∀ y n, dec l = some (y, n) → raw l = some (y, n) := by
  induction l with
  | nil => intro y n h; simp [dec] at h
  | cons c t ih =>
    intro y n h
    have hc := hl c List.mem_cons_self
    by_cases hs : c < 128
    · rw [dec_small t hs] at h
      rw [raw_small t hs]
      exact h
    · cases hd : dec t with
      | none => rw [dec_none hs hd] at h; cases h
      | some p =>
        obtain ⟨z, m⟩ := p
        rw [dec_big hs hd] at h
        split at h
        · cases h
        · rw [raw_big t hs, ih (fun c hc => hl c (List.mem_cons_of_mem _ hc)) z m hd]
          simp only [Option.some.injEq, Prod.mk.injEq] at h ⊢
          omega
theorem raw_le (l : List Nat) : ∀ y n, raw l = some (y, n) → 1 ≤ n ∧ n ≤ l.length := by
  induction l with
  | nil => intro y n h; simp [raw] at h
  | cons c t ih =>
    intro y n h
    by_cases hs : c < 128
    · rw [raw_small t hs] at h
      simp only [Option.some.injEq, Prod.mk.injEq] at h
      simp
      omega
    · rw [raw_big t hs] at h
      cases hr : raw t with
      | none => rw [hr] at h; cases h
      | some p =>
        obtain ⟨z, m⟩ := p
        rw [hr] at h
        simp only [Option.some.injEq, Prod.mk.injEq] at h
        have := ih z m hr
        simp
        omega
theorem varN_raw (l : List Nat) (hl : ∀ c ∈ l, c < 256) : varN l = match raw l with
    | some (y, n) => if putN y = l.take n ∧ y < 18446744073709551616 then (y, n) else (0, 0)
    | none => (0, 0) := by
  unfold varN
  cases hr : raw l with
  | none =>
    cases hd : dec l with
    | none => rfl
    | some p =>
      obtain ⟨z, m⟩ := p
      rw [dec_raw l hl z m hd] at hr
      cases hr
  | some p =>
    obtain ⟨y, n⟩ := p
    simp only
    by_cases hp : putN y = l.take n
    · have hd : dec l = some (y, n) := by
        have h1 : l = putN y ++ l.drop n := by rw [hp, List.take_append_drop]
        have h2 : dec l = some (y, (putN y).length) := by
          conv => lhs; rw [h1]
          exact dec_put y _
        have h3 := dec_raw l hl _ _ h2
        rw [hr] at h3
        simp only [Option.some.injEq, Prod.mk.injEq] at h3
        rw [h2, ← h3.2]
      rw [hd]
      simp only
      by_cases hy : y < 18446744073709551616
      · rw [if_pos hy, if_pos ⟨hp, hy⟩]
      · rw [if_neg hy, if_neg (fun h => hy h.2)]
    · rw [if_neg (fun h => hp h.1)]
      cases hd : dec l with
      | none => rfl
      | some q =>
        obtain ⟨z, m⟩ := q
        have h1 := dec_raw l hl z m hd
        rw [hr] at h1
        simp only [Option.some.injEq, Prod.mk.injEq] at h1
        obtain ⟨rfl, rfl⟩ := h1
        exact absurd (dec_some l hl _ _ hd).1.symm hp

end Go.Proofs.YtanfmnobanhcnaaH.Fr
namespace Go.Proofs.YtanfmnobanhcnaaH
/-- Numbers, one behind the other. -/
def putAllI (l : List Int) : List Int := l.flatMap Var.putI
theorem putAllI_succ (l : List Int) (k : Nat) (h : k < l.length) : putAllI (l.take (k + 1)) = putAllI (l.take k) ++ Var.putI l[k] := by
  unfold putAllI
  rw [List.take_succ_eq_append_getElem h, List.flatMap_append]
  simp
theorem putAllI_len : ∀ (l : List Int), (∀ x ∈ l, x < 9223372036854775808) → (putAllI l).length ≤ 10 * l.length
  | [], _ => by simp [putAllI]
  | x :: r, h => by
    have h1 := putAllI_len r (fun y hy => h y (List.mem_cons_of_mem _ hy))
    have h2 := Var.putI_len10 x (by have := h x List.mem_cons_self; omega)
    have e : putAllI (x :: r) = Var.putI x ++ putAllI r := rfl
    rw [e, List.length_append, List.length_cons]
    omega
theorem isB_putAll (l : List Int) : Crc.isB (putAllI l) := by
  intro x hx
  obtain ⟨y, _, hy⟩ := List.mem_flatMap.1 hx
  exact Var.isB_put y x hy
end Go.Proofs.YtanfmnobanhcnaaH
