/- PLAIN: numbers that are unlike: sorted, and without runs. -/
import Derived.Lib.SlicesCompact
import Derived.Test.YtdopbfjebjnpkaaAOraU
set_option linter.all false
namespace Go.Ab
open Go.Lib
theorem compact_len_iff (ss : List Int) : (compact ss).length = ss.length ↔ ∀ j, j < ss.length → keeps ss.toArray j = true := by
  unfold compact compactUpTo
  rw [List.length_map]
  have h := List.length_filter_eq_length_iff (p := keeps ss.toArray) (l := List.range ss.length)
  rw [List.length_range] at h
  rw [h]
  simp
theorem adj_nodup (ss : List Int) (hs : ss.Pairwise (· ≤ ·)) : (∀ j, j < ss.length → keeps ss.toArray j = true) ↔ ss.Nodup := by
  constructor
  · intro h
    have key : ∀ (i j : Nat) (hi : i < ss.length) (hj : j < ss.length), i < j → ss[i] < ss[j] := by
      intro i j hi hj hij
      obtain ⟨k, rfl⟩ : ∃ k, j = k + 1 := ⟨j - 1, by omega⟩
      have h1 := h (k + 1) hj
      unfold keeps at h1
      simp [hj, show k < ss.length by omega] at h1
      have h2 := List.pairwise_iff_getElem.1 hs k (k + 1) (by omega) hj (by omega)
      have h3 : ss[i] ≤ ss[k]'(by omega) := by
        by_cases e : i = k
        · subst e; exact Int.le_refl _
        · exact List.pairwise_iff_getElem.1 hs i k hi (by omega) (by omega)
      omega
    exact List.pairwise_iff_getElem.2 (fun i j hi hj hij => by have := key i j hi hj hij; omega)
  · intro h j hj
    cases j with
    | zero => rfl
    | succ k =>
      unfold keeps
      have := List.pairwise_iff_getElem.1 h k (k + 1) (by omega) hj (by omega)
      simp [hj, show k < ss.length by omega]
      intro e; exact this e.symm
theorem unl_sorted (zs : List Int) (n : Int) (ss : List Int) (hss : ss = zs.mergeSort fun x y => decide (x ≤ y)) (hne : zs ≠ []) (hl : 0 < ss.length) :
    unl zs n = (decide ((compact ss).length = ss.length) && decide (ss[ss.length - 1]'(by omega) < n)) := by
  have hp : ss.Perm zs := by rw [hss]; exact List.mergeSort_perm _ _
  have hs : ss.Pairwise (· ≤ ·) := by
    have := List.pairwise_mergeSort (le := fun x y : Int => decide (x ≤ y)) (fun a b c h1 h2 => by simp at *; omega) (fun a b => by simp; omega) zs
    rw [hss]
    exact this.imp (fun h => by simpa using h)
  unfold unl
  rw [Bool.eq_iff_iff]
  simp only [Bool.and_eq_true, decide_eq_true_eq, List.all_eq_true]
  rw [compact_len_iff, adj_nodup ss hs, hp.nodup_iff]
  constructor
  · rintro ⟨h1, h2⟩
    exact ⟨h1, by simpa using h2 _ (hp.mem_iff.1 (List.getElem_mem _))⟩
  · rintro ⟨h1, h2⟩
    refine ⟨h1, fun x hx => ?_⟩
    obtain ⟨i, hi, rfl⟩ := List.getElem_of_mem (hp.mem_iff.2 hx)
    by_cases e : i = ss.length - 1
    · subst e; exact h2
    · have := List.pairwise_iff_getElem.1 hs i (ss.length - 1) hi (by omega) (by omega)
      omega
end Go.Ab
