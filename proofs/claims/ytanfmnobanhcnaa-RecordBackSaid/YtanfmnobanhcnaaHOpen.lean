import Derived.Test.YtanfmnobanhcnaaWWords
import Derived.Deep.Slices
import Derived.SizedLaws
set_option linter.unusedVariables false
set_option linter.unusedSimpArgs false
namespace Go.Proofs.YtanfmnobanhcnaaH
open Go.RowKit Go.Proofs.YtanfmnobanhcnaaW.PrintWords Go.Deep Go.ChangeShapes Go.WideShapes

/-- What a law's argument of type t reads as: a Lean value of the kind d, of which wf is known. -/
def Opens (P : Program) {α : Type} (t : TypeId) (d : Kd α) (wf : α → Prop) : Prop :=
  P.cellsOf t = d.sz ∧ ∀ {H : Type} (enc : TypeId × Value → H) (w : World) (fuel : Nat) (cs : List Value) (x : DataW H × List MemPlace),
    (∀ n ∈ x.1.weights P t, n ≤ reachBytes) → DataW.trod enc P w 0 (fun _ => true) true fuel t cs = some x → ∃ a, d.K w a cs ∧ wf a

theorem Opens.imp {P : Program} {α : Type} {t : TypeId} {d : Kd α} {wf wf' : α → Prop} (h : Opens P t d wf) (hw : ∀ a, wf a → wf' a) : Opens P t d wf' :=
  ⟨h.1, fun enc w fuel cs x hx ht => by
    obtain ⟨a, ha, hb⟩ := h.2 enc w fuel cs x hx ht
    exact ⟨a, ha, hw a hb⟩⟩

theorem opens_int {P : Program} {t : TypeId} {k : IntKind} (hu : P.underlying t = some (.int k)) (hc : P.cellsOf t = 1) : Opens P t (Kd.int k) (fun x => (Lit.int k x).wf = true) := by
  refine ⟨hc, fun enc w fuel cs x _ h => ?_⟩
  cases fuel with
  | zero => simp [DataW.trod] at h
  | succ fuel =>
    unfold DataW.trod at h
    rw [hu] at h
    split at h <;> first | (cases h; done) | skip
    all_goals first
      | (rename_i k' k'' n heq
         injection heq with heq
         injection heq with heq
         split at h
         · rename_i hc2
           exact ⟨n, by rw [hc2.1, ← heq]; rfl, by rw [heq]; exact hc2.2⟩
         · cases h)
      | simp_all

theorem opens_bool {P : Program} {t : TypeId} (hu : P.underlying t = some .bool) (hc : P.cellsOf t = 1) : Opens P t Kd.bool (fun _ => True) := by
  refine ⟨hc, fun enc w fuel cs x _ h => ?_⟩
  cases fuel with
  | zero => simp [DataW.trod] at h
  | succ fuel =>
    unfold DataW.trod at h
    rw [hu] at h
    split at h <;> simp_all
    rename_i b
    cases b
    · exact .inl rfl
    · exact .inr rfl

theorem opens_string {P : Program} {t : TypeId} (hu : P.underlying t = some .string) (hc : P.cellsOf t = 1) : Opens P t Kd.string (fun s => s.size ≤ 140737488351232) := by
  refine ⟨hc, fun enc w fuel cs x hx h => ?_⟩
  cases fuel with
  | zero => simp [DataW.trod] at h
  | succ fuel =>
    unfold DataW.trod at h
    rw [hu] at h
    split at h <;> simp_all
    rename_i s
    obtain ⟨hs, rfl⟩ := h
    refine ⟨s, rfl, ?_⟩
    have := hx s.data.toList.length (by simp [DataW.weights])
    have hr : reachBytes = 140737488351232 := by decide
    rw [hr] at this
    simpa using this

theorem weightsAll_mem {H : Type} {P : Program} {e : TypeId} : ∀ {l : List (DataW H)} {d : DataW H}, d ∈ l → ∀ n ∈ d.weights P e, n ∈ DataW.weightsAll P e l
  | [], d, h => by simp at h
  | y :: r, d, h => by
    intro n hn
    rw [DataW.weightsAll]
    rcases List.mem_cons.1 h with rfl | h
    · exact List.mem_append_left _ hn
    · exact List.mem_append_right _ (weightsAll_mem h n hn)

theorem opens_slice {P : Program} {α : Type} {t e : TypeId} {d : Kd α} {wf : α → Prop} {B : Nat} (hu : P.underlying t = some (.slice e)) (hc : P.cellsOf t = 1) (hB : P.bytesOf e = B) (he : Opens P e d wf) :
    Opens P t (Kd.slice e d) (fun l => l.length * B ≤ 140737488351232 ∧ l.length ≤ maxLen ∧ ∀ x ∈ l, wf x) := by
  refine ⟨hc, fun {H} enc w fuel cs x hx h => ?_⟩
  rcases open_slice hu h with ⟨rfl, rfl⟩ | ⟨a, len, cap, m, n, D, Pl, rfl, _, hl, hm, hmm, rfl, hall⟩
  · refine ⟨[], ⟨none, 0, rfl, Nat.le_refl _, rfl, by simp, fun h => absurd h (by simp)⟩, by simp, by simp, by simp⟩
  · simp only [if_true] at hmm
    obtain rfl := hmm
    have hr : reachBytes = 140737488351232 := by decide
    have hw0 : ∀ i, i < len → ∀ n ∈ (D i).weights P e, n ≤ reachBytes := by
      intro i hi n hn
      refine hx n ?_
      rw [DataW.weights]
      simp only [hu]
      refine List.mem_cons_of_mem _ (List.mem_append_left _ (weightsAll_mem (d := D i) ?_ n hn))
      exact List.mem_map.2 ⟨i, List.mem_range.2 hi, rfl⟩
    have hlen : len * B ≤ 140737488351232 := by
      have := hx ((((List.range len).map D).length + ((List.range (m - len)).map fun j => D (len + j)).length) * P.bytesOf e) (by rw [DataW.weights]; simp only [hu]; exact List.mem_cons_self)
      rw [hB, hr] at this
      simp only [List.length_map, List.length_range] at this
      exact Nat.le_trans (Nat.mul_le_mul_right _ (Nat.le_add_right _ _)) this
    have hex : ∀ i, i < len → ∃ y : Option (α × List Value), ∃ z, y = some z ∧ d.K w z.1 z.2 ∧ wf z.1 ∧ w.cells? 0 (a.add (i * P.cellsOf e)) (P.cellsOf e) = some z.2 := by
      intro i hi
      obtain ⟨cs', h1, h2⟩ := hall i (by omega)
      obtain ⟨b, hb, hwf⟩ := he.2 enc w n cs' (D i, Pl i) (hw0 i hi) h2
      exact ⟨some (b, cs'), (b, cs'), rfl, hb, hwf, h1⟩
    obtain ⟨F, hF⟩ := choose_lt hex
    have hex2 : ∃ l : List (α × List Value), l.length = len ∧ ∀ i z, l[i]? = some z → d.K w z.1 z.2 ∧ wf z.1 ∧ w.cells? 0 (a.add (i * P.cellsOf e)) (P.cellsOf e) = some z.2 := by
      have hF' := hF
      clear hw0 hlen hall hex hx h hl hm hF
      revert hF'
      generalize len = n'
      intro hF
      induction n' with
      | zero => exact ⟨[], rfl, by simp⟩
      | succ k ih =>
        obtain ⟨l, hl, hz⟩ := ih (fun i hi => hF i (by omega))
        obtain ⟨z, _, hk⟩ := hF k (by omega)
        refine ⟨l ++ [z], by simp [hl], fun i z' hi => ?_⟩
        rcases Nat.lt_or_ge i l.length with h1 | h1
        · rw [List.getElem?_append_left h1] at hi
          exact hz i z' hi
        · rw [List.getElem?_append_right h1] at hi
          rcases Nat.eq_or_lt_of_le h1 with h2 | h2
          · obtain rfl : i = k := by omega
            rw [show i - l.length = 0 by omega] at hi
            simp at hi
            subst hi
            exact hk
          · rw [List.getElem?_eq_none (by simp; omega)] at hi
            cases hi
    obtain ⟨l, hll, hz⟩ := hex2
    refine ⟨l.map (·.1), ⟨some a, m, ?_, ?_, ?_⟩, ?_, ?_, ?_⟩
    · simp [hll]
    · simp [hll]; exact hl
    · refine ⟨rfl, ?_, fun _ => ⟨a, rfl, fun j p hj => ?_⟩⟩
      · have hM : maxLen = 9223372036854775807 := by decide
        rw [List.length_map, hll]
        exact Nat.le_trans hl (hM ▸ hm)
      · rw [List.getElem?_map] at hj
        obtain ⟨z, hj', rfl⟩ := Option.map_eq_some_iff.1 hj
        clear hj
        have hj := hj'
        obtain ⟨h1, h2, h3⟩ := hz j z hj
        refine ⟨z.2, d.K_len h1, h1, fun i u hi => ?_⟩
        rw [he.1] at h3
        unfold World.cells? at h3
        split at h3
        · have hi' : i < z.2.length := (List.getElem?_eq_some_iff.1 hi).1
          have hm1 := mapM_some_get h3 i i (by rw [List.getElem?_range (by rw [d.K_len h1] at hi'; exact hi')])
          rw [hi, Deep.add_add] at hm1
          exact hm1
        · cases h3
    · simpa [hll] using hlen
    · simp [hll]; omega
    · intro x hx
      obtain ⟨z, hz1, rfl⟩ := List.mem_map.1 hx
      obtain ⟨j, hj⟩ := List.getElem?_of_mem hz1
      exact (hz j z hj).2.1
end Go.Proofs.YtanfmnobanhcnaaH
