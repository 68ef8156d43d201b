import Derived.Test.YtanfmnobanhcnaaHOpen
set_option linter.unusedVariables false
set_option linter.unusedSimpArgs false
namespace Go.Proofs.YtanfmnobanhcnaaH
open Go.RowKit Go.Proofs.YtanfmnobanhcnaaW.PrintWords Go.Deep Go.ChangeShapes Go.WideShapes
theorem arr_each {H : Type} {enc : TypeId × Value → H} {P : Program} {W : World} {base : Nat} {sp : Nat → Bool} {held : Bool} {e : TypeId} {k : IntKind} (he : P.underlying e = some (.int k)) {m c : Nat} {cs : List Value} :
    ∀ (L : List Nat) (ys : List (DataW H × List MemPlace)), L.mapM (fun i => DataW.trod enc P W base sp held m e ((cs.drop (i * c)).take c)) = some ys → ∀ i ∈ L, ∃ a, (cs.drop (i * c)).take c = [Value.int k a] ∧ (Lit.int k a).wf = true
  | [], _, _ => fun i hi => by cases hi
  | j :: L, ys, h => by
    rw [List.mapM_cons] at h
    simp only [bind, Option.bind_eq_some_iff, pure, Option.some.injEq] at h
    obtain ⟨y, hy, ys', hys, rfl⟩ := h
    intro i hi
    rcases List.mem_cons.1 hi with rfl | hi
    · obtain ⟨a, ea, _, wa⟩ := DataW.trod_int he hy
      exact ⟨a, ea, wa⟩
    · exact arr_each he L ys' hys i hi
theorem ints_of {k : IntKind} : ∀ (cs : List Value), (∀ i, i < cs.length → ∃ a, (cs.drop (i * 1)).take 1 = [Value.int k a] ∧ (Lit.int k a).wf = true) → ∃ xs : List Int, xs.length = cs.length ∧ cs = xs.map (Value.int k) ∧ ∀ x ∈ xs, (Lit.int k x).wf = true
  | [], _ => ⟨[], rfl, rfl, fun x hx => by cases hx⟩
  | c :: t, h => by
    obtain ⟨a, ea, wa⟩ := h 0 (by simp)
    obtain ⟨xs, h1, h2, h3⟩ := ints_of t (fun i hi => by
      obtain ⟨b, eb, wb⟩ := h (i + 1) (by simp; omega)
      refine ⟨b, ?_, wb⟩
      rw [Nat.mul_one] at eb ⊢
      simpa using eb)
    have ec : c = Value.int k a := by simpa using ea
    refine ⟨a :: xs, by simp [h1], by rw [ec, h2]; rfl, fun x hx => ?_⟩
    rcases List.mem_cons.1 hx with rfl | hx
    · exact wa
    · exact h3 x hx
/-- An array of whole numbers: its cells. -/
theorem arr_cells {H : Type} {enc : TypeId × Value → H} {P : Program} {W : World} {base : Nat} {sp : Nat → Bool} {held : Bool} {t e : TypeId} {n : Nat} {k : IntKind} (hu : P.underlying t = some (.array n e)) (he : P.underlying e = some (.int k)) (hce : P.cellsOf e = 1) (hct : P.cellsOf t = n)
    {fuel : Nat} {cs : List Value} {x : DataW H × List MemPlace} (h : DataW.trod enc P W base sp held fuel t cs = some x) : ∃ xs : List Int, xs.length = n ∧ cs = xs.map (Value.int k) ∧ ∀ x ∈ xs, (Lit.int k x).wf = true := by
  cases fuel with
  | zero => simp [DataW.trod] at h
  | succ m =>
    rw [DataW.trod_step] at h
    unfold DataW.trodStep at h
    simp only [hu] at h
    by_cases hl : cs.length = P.cellsOf t
    · rw [if_pos hl] at h
      simp only [Option.map_eq_some_iff] at h
      obtain ⟨ys, hy, _⟩ := h
      rw [hce] at hy
      obtain ⟨xs, h1, h2, h3⟩ := ints_of (k := k) cs (fun i hi => arr_each he _ ys hy i (List.mem_range.2 (by omega)))
      exact ⟨xs, by omega, h2, h3⟩
    · rw [if_neg hl] at h
      cases h
/-- An array of whole numbers that is handed in. -/
theorem arr_open {H : Type} {enc : TypeId × Value → H} {P : Program} {W : World} {sp : Nat → Bool} {held : Bool} {t e : TypeId} {n : Nat} {k : IntKind} {r : Reach} (hu : P.underlying t = some (.array n e)) (he : P.underlying e = some (.int k)) (hce : P.cellsOf e = 1) (hct : P.cellsOf t = n)
    {v : Value} {b0 base : Nat} {d : DataW H} {ps : List MemPlace} (hv : Value.okWide P W r b0 t v) (h : DataW.Trod enc P W base sp held t v d ps) : ∃ xs : List Int, xs.length = n ∧ v = .agg (xs.map (Value.int k)).toArray ∧ ∀ x ∈ xs, (Lit.int k x).wf = true := by
  simp only [Value.okWide, hu] at hv
  obtain ⟨cs, rfl, _, _⟩ := hv
  obtain ⟨fuel, hf⟩ := h
  obtain ⟨xs, h1, h2, h3⟩ := arr_cells hu he hce hct hf
  refine ⟨xs, h1, ?_, h3⟩
  have : cs.toList = xs.map (Value.int k) := h2
  rw [← this]
theorem two_of {α : Type} : ∀ {l : List α}, l.length = 2 → ∃ a b, l = [a, b]
  | [a, b], _ => ⟨a, b, rfl⟩
theorem three_of {α : Type} : ∀ {l : List α}, l.length = 3 → ∃ a b c, l = [a, b, c]
  | [a, b, c], _ => ⟨a, b, c, rfl⟩
/-- An array of two whole numbers in a row. -/
theorem opens_two {P : Program} {t e : TypeId} {k : IntKind} (hu : P.underlying t = some (.array 2 e)) (he : P.underlying e = some (.int k)) (hce : P.cellsOf e = 1) (hct : P.cellsOf t = 2) :
    Opens P t (Kd.pair (Kd.int k) (Kd.int k)) (fun x => (Lit.int k x.1).wf = true ∧ (Lit.int k x.2).wf = true) := by
  refine ⟨hct, fun enc w fuel cs x _ h => ?_⟩
  obtain ⟨xs, h1, h2, h3⟩ := arr_cells hu he hce hct h
  obtain ⟨a, b, rfl⟩ := two_of h1
  exact ⟨(a, b), ⟨[.int k a], [.int k b], h2, rfl, rfl⟩, h3 a (by simp), h3 b (by simp)⟩
end Go.Proofs.YtanfmnobanhcnaaH
