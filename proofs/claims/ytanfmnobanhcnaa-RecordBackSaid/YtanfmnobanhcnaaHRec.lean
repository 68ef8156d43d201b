import Derived.Test.YtanfmnobanhcnaaHFrame
set_option linter.unusedVariables false
set_option linter.unusedSimpArgs false
namespace Go.Proofs.YtanfmnobanhcnaaH.Rec
open Go.RowKit Go.Proofs.YtanfmnobanhcnaaW.PrintMore Go.Proofs.YtanfmnobanhcnaaW.PrintWords
open Go.Proofs.YtanfmnobanhcnaaH (putAllI cellv Mut)
open Go.Proofs.YtanfmnobanhcnaaH.Crc (isB)
open Go.Proofs.YtanfmnobanhcnaaH.Var
open Go.Proofs.YtanfmnobanhcnaaH.Fr (frameI unframeI)
/-- A number that lies between two. -/
def within (a lo hi : Int) : Bool := decide (lo ≤ a) && decide (a ≤ hi)
/-- Whether a schema may be. -/
def schemaOk (ts : List Int) (k m g : Int) : Bool := within ts.length 1 64 && ts.all (fun t => within t 1 3) && within k 1 ts.length && within m 1 3 && within g 1 64
def checkI (ts : List Int) (k m g : Int) : Int := if schemaOk ts k m g = true then 0 else 20
/-- A schema's bytes. -/
def putS (ts : List Int) (k m g : Int) : List Int := putAllI ((ts.length : Int) :: (ts ++ [k, m, g]))
def odd (n : Int) : Bool := decide (n < 0) || decide (999999 < n)
def bare (ts : List Int) (k m g : Int) : Bool := decide (ts.length = 0) && decide (k = 0) && decide (m = 0) && decide (g = 0)
/-- Whether a record may be put. -/
def mayI (kd : Int) (ts : List Int) (k m g : Int) (ids : List Int) (id : Int) : Bool :=
  !(odd id || decide (40 < ids.length) || ids.any odd) && (if kd = 1 then schemaOk ts k m g else if kd = 2 then bare ts k m g && decide (ids.length = 0) else if kd = 3 then bare ts k m g && decide (1 < ids.length) else false)
/-- A record's bytes, without their frame. -/
def recB (kd : Int) (ts : List Int) (k m g : Int) (ids : List Int) (id : Int) : List Int :=
  [kd] ++ (if kd = 1 then putI (putS ts k m g).length ++ putS ts k m g else []) ++ putI id ++ (if kd = 2 then [] else putI ids.length ++ putAllI ids)
/-- What a record is put as. -/
def recPut (kd : Int) (ts : List Int) (k m g : Int) (ids : List Int) (id : Int) : List Int × Bool :=
  if mayI kd ts k m g ids id = true then (frameI (recB kd ts k m g ids id), true) else ([], false)
theorem schemaOk_iff {ts : List Int} {k m g : Int} : schemaOk ts k m g = true ↔ (1 ≤ ts.length ∧ ts.length ≤ 64) ∧ (∀ t ∈ ts, 1 ≤ t ∧ t ≤ 3) ∧ (1 ≤ k ∧ k ≤ ts.length) ∧ (1 ≤ m ∧ m ≤ 3) ∧ 1 ≤ g ∧ g ≤ 64 := by
  unfold schemaOk within
  simp only [Bool.and_eq_true, decide_eq_true_eq, List.all_eq_true]
  constructor
  · rintro ⟨⟨⟨⟨h1, h2⟩, h3⟩, h4⟩, h5⟩
    exact ⟨⟨by omega, by omega⟩, h2, h3, h4, h5⟩
  · rintro ⟨h1, h2, h3, h4, h5⟩
    exact ⟨⟨⟨⟨⟨by omega, by omega⟩, h2⟩, h3⟩, h4⟩, h5⟩
theorem odd_iff {n : Int} : odd n = false ↔ 0 ≤ n ∧ n ≤ 999999 := by
  unfold odd
  rw [Bool.or_eq_false_iff, decide_eq_false_iff_not, decide_eq_false_iff_not]
  omega
theorem mayI_some {kd : Int} {ts : List Int} {k m g : Int} {ids : List Int} {id : Int} (h : mayI kd ts k m g ids id = true) :
    (kd = 1 ∧ schemaOk ts k m g = true ∨ kd = 2 ∧ bare ts k m g = true ∧ ids.length = 0 ∨ kd = 3 ∧ bare ts k m g = true ∧ 1 < ids.length) ∧ ids.length ≤ 40 ∧ (0 ≤ id ∧ id ≤ 999999) ∧ ∀ x ∈ ids, 0 ≤ x ∧ x ≤ 999999 := by
  unfold mayI at h
  rw [Bool.and_eq_true, Bool.not_eq_true', Bool.or_eq_false_iff, Bool.or_eq_false_iff, odd_iff, decide_eq_false_iff_not] at h
  obtain ⟨⟨⟨h1, h2⟩, h3⟩, h4⟩ := h
  refine ⟨?_, by omega, h1, fun x hx => odd_iff.1 ?_⟩
  · by_cases k1 : kd = 1
    · rw [if_pos k1] at h4
      exact .inl ⟨k1, h4⟩
    · rw [if_neg k1] at h4
      by_cases k2 : kd = 2
      · rw [if_pos k2, Bool.and_eq_true, decide_eq_true_eq] at h4
        exact .inr (.inl ⟨k2, h4⟩)
      · rw [if_neg k2] at h4
        by_cases k3 : kd = 3
        · rw [if_pos k3, Bool.and_eq_true, decide_eq_true_eq] at h4
          exact .inr (.inr ⟨k3, h4⟩)
        · rw [if_neg k3] at h4
          cases h4
  · rw [List.any_eq_false] at h3
    have := h3 x hx
    simpa using this
theorem putS_len (ts : List Int) (k m g : Int) (h : schemaOk ts k m g = true) : (putS ts k m g).length ≤ 680 := by
  rw [schemaOk_iff] at h
  obtain ⟨h1, h2, h3, h4, h5⟩ := h
  have := putAllI_len ((ts.length : Int) :: (ts ++ [k, m, g])) (by
    intro x hx
    rcases List.mem_cons.1 hx with rfl | hx
    · omega
    rcases List.mem_append.1 hx with hx | hx
    · have := h2 x hx; omega
    · simp at hx
      omega)
  unfold putS
  simp at this ⊢
  omega
theorem isB_rec {kd : Int} {ts : List Int} {k m g : Int} {ids : List Int} {id : Int} (h : 0 ≤ kd ∧ kd < 256) : isB (recB kd ts k m g ids id) := by
  unfold recB
  refine isB_append (isB_append (isB_append ?_ ?_) (isB_put _)) ?_
  · intro x hx
    rw [List.mem_singleton.1 hx]
    exact h
  · split
    · exact isB_append (isB_put _) (isB_putAll _)
    · intro x hx; cases hx
  · split
    · intro x hx; cases hx
    · exact isB_append (isB_put _) (isB_putAll _)
theorem recPut_2 (kd : Int) (ts : List Int) (k m g : Int) (ids : List Int) (id : Int) : (recPut kd ts k m g ids id).2 = mayI kd ts k m g ids id := by
  unfold recPut
  cases h : mayI kd ts k m g ids id with
  | true => rw [if_pos rfl]
  | false => rw [if_neg (by decide)]
/-- A reader at block g: what is left of the bytes (which were there ahead of it), and whether it is bad. T: the type's number, e: that of a byte. -/
def Rd (T e g : Nat) (w : World) (l : List Int) (bad : Bool) : Prop := ∃ v, w.heap[g]? = some (.cells #[v, .bool bad] T) ∧ Kd.V (Kd.int .u8) e w 0 (fun k => k < g) v l
/-- A number read: it, what is left, whether it is bad. -/
def numR (l : List Int) (bad : Bool) : Int × List Int × Bool :=
  if (varI l).2 = 0 then (0, l, true) else if 999999 < (varI l).1 then (0, l, true) else ((varI l).1, l.drop (varI l).2.toNat, bad)
theorem numR_B {l : List Int} {bad : Bool} (h : isB l) : isB (numR l bad).2.1 := by
  unfold numR
  split
  · exact h
  · split
    · exact h
    · exact isB_drop h _
theorem numR_range (l : List Int) (bad : Bool) : 0 ≤ (numR l bad).1 ∧ (numR l bad).1 ≤ 999999 := by
  have := varI_range l
  unfold numR
  split
  · exact ⟨Int.le_refl 0, (by decide : (0 : Int) ≤ 999999)⟩
  · split
    · exact ⟨Int.le_refl 0, (by decide : (0 : Int) ≤ 999999)⟩
    · exact ⟨this.1, by omega⟩
theorem Rd.below {T e g : Nat} {w w1 : World} {l : List Int} {bad : Bool} (h : Rd T e g w l bad) (hb : Below w.heap.size w w1) : Rd T e g w1 l bad := by
  obtain ⟨v, hg, hv⟩ := h
  exact ⟨v, blk_below hg hb, Kd.V_below hv hb⟩
/-- How long a slice is. -/
def lenOf : Value → Nat
  | .slice _ n _ => n
  | _ => 0
/-- Numbers read, one behind the other, as many as there are. -/
def numsN : Nat → List Int → Option (List Int)
  | 0, _ => none
  | k + 1, l => if l.length = 0 then some [] else if (varI l).2 = 0 then none else if 1048576 < (varI l).1 then none else (numsN k (l.drop (varI l).2.toNat)).map ((varI l).1 :: ·)
def nums (l : List Int) : Option (List Int) := numsN (l.length + 1) l
theorem numsN_fuel : ∀ (k : Nat) (l : List Int), l.length < k → numsN k l = nums l := by
  intro k
  induction k using Nat.strongRecOn with
  | _ k ih =>
    intro l hl
    obtain ⟨m, rfl⟩ : ∃ m, k = m + 1 := ⟨k - 1, by omega⟩
    unfold nums
    simp only [numsN]
    by_cases h0 : l.length = 0
    · rw [if_pos h0, if_pos h0]
    · rw [if_neg h0, if_neg h0]
      by_cases h1 : (varI l).2 = 0
      · rw [if_pos h1, if_pos h1]
      · rw [if_neg h1, if_neg h1]
        have hr := varI_range l
        have hd : (l.drop (varI l).2.toNat).length < l.length := by rw [List.length_drop]; omega
        rw [ih m (by omega) _ (by omega)]
        by_cases h2 : m = l.length
        · rw [← h2, ih m (by omega) _ (by omega)]
        · rw [ih l.length (by omega) _ (by omega)]
theorem nums_nil {l : List Int} (h : l.length = 0) : nums l = some [] := by
  unfold nums
  simp only [numsN]
  rw [if_pos h]
theorem nums_step {l : List Int} (h : ¬ l.length = 0) : nums l = if (varI l).2 = 0 then none else if 1048576 < (varI l).1 then none else (nums (l.drop (varI l).2.toNat)).map ((varI l).1 :: ·) := by
  have e : nums l = numsN (l.length + 1) l := rfl
  rw [e]
  simp only [numsN]
  rw [if_neg h]
  by_cases h1 : (varI l).2 = 0
  · rw [if_pos h1, if_pos h1]
  · rw [if_neg h1, if_neg h1]
    have hr := varI_range l
    rw [numsN_fuel _ _ (by rw [List.length_drop]; omega)]
def noSch : (List Int × Int × Int × Int) × Int := (([], 0, 0, 0), 10)
/-- What bytes say as a schema. -/
def schT (l : List Int) : (List Int × Int × Int × Int) × Int :=
  match nums l with
  | none => noSch
  | some v => if v.length < 4 then noSch else if (v.length : Int) = v.getD 0 0 + 4 then
      (if schemaOk ((v.drop 1).take (v.getD 0 0).toNat) (v.getD ((v.getD 0 0).toNat + 1) 0) (v.getD ((v.getD 0 0).toNat + 2) 0) (v.getD ((v.getD 0 0).toNat + 3) 0) = true
        then (((v.drop 1).take (v.getD 0 0).toNat, v.getD ((v.getD 0 0).toNat + 1) 0, v.getD ((v.getD 0 0).toNat + 2) 0, v.getD ((v.getD 0 0).toNat + 3) 0), 0) else noSch) else noSch
/-- A schema read: it, what is left, whether it is bad. -/
def schR (l : List Int) (bad : Bool) : (List Int × Int × Int × Int) × List Int × Bool :=
  if (numR l bad).2.2 = true ∨ ((numR l bad).2.1.length : Int) < (numR l bad).1 then (([], 0, 0, 0), (numR l bad).2.1, true)
  else ((schT ((numR l bad).2.1.take (numR l bad).1.toNat)).1, (numR l bad).2.1.drop (numR l bad).1.toNat, (schT ((numR l bad).2.1.take (numR l bad).1.toNat)).2 != 0)
theorem numR_le (l : List Int) (bad : Bool) : (numR l bad).2.1.length ≤ l.length := by
  unfold numR
  split
  · exact Nat.le_refl _
  · split
    · exact Nat.le_refl _
    · show (l.drop _).length ≤ _
      rw [List.length_drop]
      omega
theorem schR_B {l : List Int} {bad : Bool} (h : isB l) : isB (schR l bad).2.1 := by
  unfold schR
  split
  · exact numR_B h
  · exact isB_drop (numR_B h) _
theorem schR_le (l : List Int) (bad : Bool) : (schR l bad).2.1.length ≤ l.length := by
  have := numR_le l bad
  unfold schR
  split
  · exact this
  · show ((numR l bad).2.1.drop _).length ≤ _
    rw [List.length_drop]
    omega
theorem schR_eq (l : List Int) (bad : Bool) : schR l bad = (fun q : Int × List Int × Bool => if q.2.2 = true ∨ (q.2.1.length : Int) < q.1 then (([], 0, 0, 0), q.2.1, true)
  else ((schT (q.2.1.take q.1.toNat)).1, q.2.1.drop q.1.toNat, (schT (q.2.1.take q.1.toNat)).2 != 0)) (numR l bad) := rfl
/-- Numbers read, k of them. -/
def idsN : Nat → List Int → Bool → List Int × List Int × Bool
  | 0, l, b => ([], l, b)
  | k + 1, l, b => ((numR l b).1 :: (idsN k (numR l b).2.1 (numR l b).2.2).1, (idsN k (numR l b).2.1 (numR l b).2.2).2)
theorem idsN_step (k : Nat) (l : List Int) (b : Bool) (acc : List Int) : (acc ++ (idsN (k + 1) l b).1, (idsN (k + 1) l b).2) = (fun q : Int × List Int × Bool => ((acc ++ [q.1]) ++ (idsN k q.2.1 q.2.2).1, (idsN k q.2.1 q.2.2).2)) (numR l b) := by
  simp only [idsN, List.append_assoc, List.singleton_append]
theorem idsN_len : ∀ (k : Nat) (l : List Int) (b : Bool), (idsN k l b).1.length = k
  | 0, _, _ => rfl
  | k + 1, l, b => by simp only [idsN, List.length_cons, idsN_len k]
/-- A record: its kind, its schema, its numbers, its number. -/
abbrev RecV := Int × (List Int × Int × Int × Int) × List Int × Int
/-- What follows a schema in a record. -/
def recR2 (kd : Int) (s : (List Int × Int × Int × Int) × List Int × Bool) : RecV × List Int × Bool :=
  if s.2.2 = true then ((kd, s.1, [], 0), s.2.1, s.2.2)
  else (fun q : Int × List Int × Bool => if kd = 2 ∨ q.2.2 = true then ((kd, s.1, [], q.1), q.2.1, q.2.2)
    else (fun c : Int × List Int × Bool => ((kd, s.1, (idsN (min c.1 40).toNat c.2.1 c.2.2).1, q.1), (idsN (min c.1 40).toNat c.2.1 c.2.2).2)) (numR q.2.1 q.2.2)) (numR s.2.1 s.2.2)
/-- A record read: it, what is left, whether it is bad. -/
def recR (kd : Int) (l : List Int) (bad : Bool) : RecV × List Int × Bool := recR2 kd (if kd = 1 then schR l bad else (([], 0, 0, 0), l, bad))
def noRec : RecV := (0, ([], 0, 0, 0), [], 0)
def putOf (x : RecV) : List Int × Bool := recPut x.1 x.2.1.1 x.2.1.2.1 x.2.1.2.2.1 x.2.1.2.2.2 x.2.2.1 x.2.2.2
/-- What bytes say as a record. -/
def recTake (l : List Int) : RecV × Int × Int :=
  (fun u : List Int × Int × Int => if u.2.2 ≠ 0 then (noRec, 0, u.2.2) else if u.1.length = 0 then (noRec, 0, 10)
    else (fun q : RecV × List Int × Bool => if q.2.2 = true ∨ (putOf q.1).2 = false ∨ (putOf q.1).1 ≠ l.take u.2.1.toNat then (noRec, 0, 10) else (q.1, u.2.1, 0)) (recR (u.1.getD 0 0) (u.1.drop 1) false)) (unframeI l)
end Go.Proofs.YtanfmnobanhcnaaH.Rec
