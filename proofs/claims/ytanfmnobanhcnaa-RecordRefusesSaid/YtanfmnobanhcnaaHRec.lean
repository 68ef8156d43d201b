import Derived.Test.YtanfmnobanhcnaaHFrame
set_option linter.unusedVariables false
set_option linter.unusedSimpArgs false
namespace Go.Proofs.YtanfmnobanhcnaaH.Rec
open Go.RowKit Go.Proofs.YtanfmnobanhcnaaW.PrintMore Go.Proofs.YtanfmnobanhcnaaW.PrintWords
open Go.Proofs.YtanfmnobanhcnaaH (putAllI)
open Go.Proofs.YtanfmnobanhcnaaH.Crc (isB)
open Go.Proofs.YtanfmnobanhcnaaH.Var
open Go.Proofs.YtanfmnobanhcnaaH.Fr (frameI)
/-- A number that lies between two. -/
def within (a lo hi : Int) : Bool := decide (lo ≤ a) && decide (a ≤ hi)
/-- Whether a schema may be. -/
def schemaOk (ts : List Int) (k m g : Int) : Bool := within ts.length 1 64 && ts.all (fun t => within t 1 3) && within k 1 ts.length && within m 1 3 && within g 1 64
def checkI (ts : List Int) (k m g : Int) : Int := if schemaOk ts k m g = true then 0 else 20
/-- A schema's bytes. -/
def putS (ts : List Int) (k m g : Int) : List Int := putAllI ((ts.length : Int) :: (ts ++ [k, m, g]))
def odd (n : Int) : Bool := decide (n < 0) || decide (999999 < n)
def bare (ts : List Int) (k m g : Int) : Bool := decide (ts.length = 0) && decide (k = 0) && decide (m = 0) && decide (g = 0)
/-- Whether a record may be put. -/
def mayI (kd : Int) (ts : List Int) (k m g : Int) (ids : List Int) (id : Int) : Bool :=
  !(odd id || decide (40 < ids.length) || ids.any odd) && (if kd = 1 then schemaOk ts k m g else if kd = 2 then bare ts k m g && decide (ids.length = 0) else if kd = 3 then bare ts k m g && decide (1 < ids.length) else false)
/-- A record's bytes, without their frame. -/
def recB (kd : Int) (ts : List Int) (k m g : Int) (ids : List Int) (id : Int) : List Int :=
  [kd] ++ (if kd = 1 then putI (putS ts k m g).length ++ putS ts k m g else []) ++ putI id ++ (if kd = 2 then [] else putI ids.length ++ putAllI ids)
/-- What a record is put as. -/
def recPut (kd : Int) (ts : List Int) (k m g : Int) (ids : List Int) (id : Int) : List Int × Bool :=
  if mayI kd ts k m g ids id = true then (frameI (recB kd ts k m g ids id), true) else ([], false)
theorem schemaOk_iff {ts : List Int} {k m g : Int} : schemaOk ts k m g = true ↔ (1 ≤ ts.length ∧ ts.length ≤ 64) ∧ (∀ t ∈ ts, 1 ≤ t ∧ t ≤ 3) ∧ (1 ≤ k ∧ k ≤ ts.length) ∧ (1 ≤ m ∧ m ≤ 3) ∧ 1 ≤ g ∧ g ≤ 64 := by
  unfold schemaOk within
  simp only [Bool.and_eq_true, decide_eq_true_eq, List.all_eq_true]
  constructor
  · rintro ⟨⟨⟨⟨h1, h2⟩, h3⟩, h4⟩, h5⟩
    exact ⟨⟨by omega, by omega⟩, h2, h3, h4, h5⟩
  · rintro ⟨h1, h2, h3, h4, h5⟩
    exact ⟨⟨⟨⟨⟨by omega, by omega⟩, h2⟩, h3⟩, h4⟩, h5⟩
theorem odd_iff {n : Int} : odd n = false ↔ 0 ≤ n ∧ n ≤ 999999 := by
  unfold odd
  rw [Bool.or_eq_false_iff, decide_eq_false_iff_not, decide_eq_false_iff_not]
  omega
theorem mayI_some {kd : Int} {ts : List Int} {k m g : Int} {ids : List Int} {id : Int} (h : mayI kd ts k m g ids id = true) :
    (kd = 1 ∧ schemaOk ts k m g = true ∨ kd = 2 ∧ bare ts k m g = true ∧ ids.length = 0 ∨ kd = 3 ∧ bare ts k m g = true ∧ 1 < ids.length) ∧ ids.length ≤ 40 ∧ (0 ≤ id ∧ id ≤ 999999) ∧ ∀ x ∈ ids, 0 ≤ x ∧ x ≤ 999999 := by
  unfold mayI at h
  rw [Bool.and_eq_true, Bool.not_eq_true', Bool.or_eq_false_iff, Bool.or_eq_false_iff, odd_iff, decide_eq_false_iff_not] at h
  obtain ⟨⟨⟨h1, h2⟩, h3⟩, h4⟩ := h
  refine ⟨?_, by omega, h1, fun x hx => odd_iff.1 ?_⟩
  · by_cases k1 : kd = 1
    · rw [if_pos k1] at h4
      exact .inl ⟨k1, h4⟩
    · rw [if_neg k1] at h4
      by_cases k2 : kd = 2
      · rw [if_pos k2, Bool.and_eq_true, decide_eq_true_eq] at h4
        exact .inr (.inl ⟨k2, h4⟩)
      · rw [if_neg k2] at h4
        by_cases k3 : kd = 3
        · rw [if_pos k3, Bool.and_eq_true, decide_eq_true_eq] at h4
          exact .inr (.inr ⟨k3, h4⟩)
        · rw [if_neg k3] at h4
          cases h4
  · rw [List.any_eq_false] at h3
    have := h3 x hx
    simpa using this
theorem putS_len (ts : List Int) (k m g : Int) (h : schemaOk ts k m g = true) : (putS ts k m g).length ≤ 680 := by
  rw [schemaOk_iff] at h
  obtain ⟨h1, h2, h3, h4, h5⟩ := h
  have := putAllI_len ((ts.length : Int) :: (ts ++ [k, m, g])) (by
    intro x hx
    rcases List.mem_cons.1 hx with rfl | hx
    · omega
    rcases List.mem_append.1 hx with hx | hx
    · have := h2 x hx; omega
    · simp at hx
      omega)
  unfold putS
  simp at this ⊢
  omega
theorem isB_rec {kd : Int} {ts : List Int} {k m g : Int} {ids : List Int} {id : Int} (h : 0 ≤ kd ∧ kd < 256) : isB (recB kd ts k m g ids id) := by
  unfold recB
  refine isB_append (isB_append (isB_append ?_ ?_) (isB_put _)) ?_
  · intro x hx
    rw [List.mem_singleton.1 hx]
    exact h
  · split
    · exact isB_append (isB_put _) (isB_putAll _)
    · intro x hx; cases hx
  · split
    · intro x hx; cases hx
    · exact isB_append (isB_put _) (isB_putAll _)
theorem recPut_2 (kd : Int) (ts : List Int) (k m g : Int) (ids : List Int) (id : Int) : (recPut kd ts k m g ids id).2 = mayI kd ts k m g ids id := by
  unfold recPut
  cases h : mayI kd ts k m g ids id with
  | true => rw [if_pos rfl]
  | false => rw [if_neg (by decide)]
end Go.Proofs.YtanfmnobanhcnaaH.Rec
