/- THE ABSTRACT MACHINE, sound: operands, constants, parts, loads. -/
import Derived.Test.YtomomeabfnmncaaGreatBRel
import Derived.Test.YtomomeabfnmncaaGreatBDef
import Derived.Test.YtomomeabfnmncaaGreatBLim
set_option linter.all false
namespace Go.Ab

theorem mapO_len {α β : Type} {f : α → Option β} : ∀ {l : List α} {r : List β}, mapO f l = some r → r.length = l.length
  | [], r, h => by simp [mapO] at h; simp [← h]
  | x :: l, r, h => by
    unfold mapO at h
    cases hx : f x with
    | none => simp [hx] at h
    | some y =>
      cases hl : mapO f l with
      | none => simp [hx, hl] at h
      | some ys =>
        simp [hx, hl] at h
        rw [← h]
        simp [mapO_len hl]

theorem mapO_get {α β : Type} {f : α → Option β} : ∀ {l : List α} {r : List β}, mapO f l = some r → ∀ (i : Nat) (x : α), l[i]? = some x → ∃ y, f x = some y ∧ r[i]? = some y
  | [], r, h, i, x, hx => by simp at hx
  | z :: l, r, h, i, x, hx => by
    unfold mapO at h
    cases hz : f z with
    | none => simp [hz] at h
    | some y =>
      cases hl : mapO f l with
      | none => simp [hz, hl] at h
      | some ys =>
        simp [hz, hl] at h
        rw [← h]
        cases i with
        | zero => simp at hx; exact ⟨y, by rw [← hx]; exact hz, rfl⟩
        | succ i => simp at hx ⊢; exact mapO_get hl i x hx

/-- The slots, as data have them. -/
structure RdT (w : World) (F : Fz) (κ : Env) (tmps : Array Value) (T : List D) : Prop where
  len : T.length = tmps.size
  rd : ∀ (i : Nat) (v : Value) (d : D), tmps[i]? = some v → T[i]? = some d → Rd w F κ v d

theorem RdT.mono {w F κ tmps T} (h : RdT w F κ tmps T) {w' F' κ'} (hf : FLe w F w' F') (hk : KLe κ κ') : RdT w' F' κ' tmps T :=
  ⟨h.len, fun i v d h1 h2 => (h.rd i v d h1 h2).mono hf hk⟩

theorem RdT.get {w F κ tmps T} (h : RdT w F κ tmps T) (i : Nat) : Rd w F κ (tmps.getD i undef) (T[i]?.getD .undef) := by
  cases hT : T[i]? with
  | none => simp; exact .undef _ _
  | some d =>
    have hi : i < tmps.size := by rw [← h.len]; exact (List.getElem?_eq_some_iff.1 hT).1
    have := h.rd i tmps[i] d (Array.getElem?_eq_getElem hi) hT
    simpa [Array.getD, hi] using this

theorem ofV1_ok {v : Value} {d : D} (h : ofV1 v = some d) (w F κ) : Rd w F κ v d ∧ v.oneCell' = true := by
  unfold ofV1 at h
  split at h <;> simp only [Option.some.injEq, reduceCtorEq] at h <;> subst h <;> refine ⟨?_, rfl⟩
  · exact .bool _ _
  · exact .int _ _ _
  · exact .str _ _
  · exact .nils _ _ _
  · exact .nilptr _
  · exact .nilfunc _
  · exact .niliface _
  · exact .nilmap _

theorem ofV_ok {v : Value} {d : D} (h : ofV v = some d) (w F κ) : Rd w F κ v d := by
  cases v with
  | agg cs =>
    simp only [ofV, Option.map_eq_some_iff] at h
    obtain ⟨ds, h1, rfl⟩ := h
    have := Rd.agg (w := w) (F := F) κ cs.toList ds (mapO_len h1).symm (fun i v d hv hd => by
      obtain ⟨y, h2, h3⟩ := mapO_get h1 i v hv
      rw [hd] at h3
      injection h3 with h3
      exact h3 ▸ (ofV1_ok h2 w F κ).1)
    simpa using this
  | _ => unfold ofV at h; exact (ofV1_ok h w F κ).1

theorem cX_ok {o : Operand} {x : X} (h : cX o = some x) {w F κ} {a : Act} {T : List D} (hT : RdT w F κ a.tmps T) : Rd w F κ (a.eval o) (x.ev T) := by
  cases o with
  | tmp t => simp [cX] at h; subst h; exact hT.get t
  | const v =>
    simp only [cX, Option.map_eq_some_iff] at h
    obtain ⟨d, h1, rfl⟩ := h
    exact ofV_ok h1 w F κ
  | global g => simp [cX] at h
  | func f =>
    simp [cX] at h; subst h
    exact Rd.func κ f [] [] [] [] rfl rfl (by simp) (by simp)

theorem cXs_ok {l : List Operand} {xs : List X} (h : cXs l = some xs) {w F κ} {a : Act} {T : List D} (hT : RdT w F κ a.tmps T) : RdL w F κ (l.map a.eval) (xs.map (X.ev T)) := by
  refine ⟨by simp [mapO_len h], fun i v d hv hd => ?_⟩
  rw [List.getElem?_map] at hv hd
  obtain ⟨o, ho, rfl⟩ := Option.map_eq_some_iff.1 hv
  obtain ⟨x, hx, rfl⟩ := Option.map_eq_some_iff.1 hd
  obtain ⟨y, h1, h2⟩ := mapO_get h i o ho
  rw [hx] at h2
  injection h2 with h2
  exact cX_ok (h2 ▸ h1) hT

/-! ### Shapes of data -/

theorem Rd.oneC {w F κ v d} (h : Rd w F κ v d) (ho : d.one = true) : v.oneCell' = true := by
  cases h <;> first | rfl | assumption | cases ho

theorem Rd.cellsL {w F κ v d} (h : Rd w F κ v d) (ho : d.cells.all D.one = true) : RdL w F κ v.cells.toList d.cells ∧ ∀ x ∈ v.cells.toList, x.oneCell' = true := by
  by_cases hd : d.one = true
  · have h1 := h.oneC hd
    have hv : v.cells = #[v] := by cases v <;> first | rfl | cases h1
    have hdc : d.cells = [d] := by cases d <;> first | rfl | cases hd
    rw [hv, hdc]
    refine ⟨⟨rfl, fun i x e hx he => ?_⟩, fun x hx => by simp at hx; exact hx ▸ h1⟩
    cases i with
    | zero => simp at hx he; rw [← hx, ← he]; exact h
    | succ i => simp at hx
  · cases h with
    | agg _ vs ds hl h =>
      refine ⟨⟨by simpa [Value.cells, D.cells] using hl, fun i v d hv hd => h i v d (by simpa [Value.cells] using hv) hd⟩, fun x hx => ?_⟩
      simp [Value.cells] at hx
      obtain ⟨i, hi⟩ := List.mem_iff_getElem?.1 hx
      have hi' : i < ds.length := by rw [← hl]; exact (List.getElem?_eq_some_iff.1 hi).1
      exact (h i x ds[i] hi (List.getElem?_eq_getElem hi')).oneC (List.all_eq_true.1 ho _ (List.getElem_mem hi'))
    | tuple _ vs ds hl h => simp [D.cells, D.one] at ho
    | undef => simp [D.cells, D.one] at ho
    | _ => simp [D.one] at hd

theorem RdL.mono {w F κ vs ds} (h : RdL w F κ vs ds) {w' F' κ'} (hf : FLe w F w' F') (hk : KLe κ κ') : RdL w' F' κ' vs ds :=
  ⟨h.1, fun i v d h1 h2 => (h.2 i v d h1 h2).mono hf hk⟩

theorem RdL.nil {w F κ} : RdL w F κ [] [] := ⟨rfl, fun i v d h => by simp at h⟩
theorem RdL.cons {w F κ v vs d ds} (h : Rd w F κ v d) (hs : RdL w F κ vs ds) : RdL w F κ (v :: vs) (d :: ds) :=
  ⟨by simp [hs.1], fun i x e hx he => by
    cases i with
    | zero => simp at hx he; rw [← hx, ← he]; exact h
    | succ i => exact hs.2 i x e (by simpa using hx) (by simpa using he)⟩
theorem RdL.append {w F κ vs ds us es} (h : RdL w F κ vs ds) (hs : RdL w F κ us es) : RdL w F κ (vs ++ us) (ds ++ es) :=
  ⟨by simp [h.1, hs.1], fun i x e hx he => by
    by_cases hi : i < vs.length
    · rw [List.getElem?_append_left hi] at hx
      rw [List.getElem?_append_left (by rw [← h.1]; exact hi)] at he
      exact h.2 i x e hx he
    · rw [List.getElem?_append_right (by omega)] at hx
      rw [List.getElem?_append_right (by rw [← h.1]; omega)] at he
      rw [← h.1] at he
      exact hs.2 _ x e hx he⟩

theorem RdL.take {w F κ vs ds} (h : RdL w F κ vs ds) (n : Nat) : RdL w F κ (vs.take n) (ds.take n) :=
  ⟨by simp [h.1], fun i x e hx he => by
    rw [List.getElem?_take] at hx he
    split at hx
    · rename_i hi
      rw [if_pos hi] at he
      exact h.2 i x e hx he
    · cases hx⟩
theorem RdL.drop {w F κ vs ds} (h : RdL w F κ vs ds) (n : Nat) : RdL w F κ (vs.drop n) (ds.drop n) :=
  ⟨by simp [h.1], fun i x e hx he => by
    rw [List.getElem?_drop] at hx he
    exact h.2 _ x e hx he⟩
theorem RdL.agg {w F κ vs ds} (h : RdL w F κ vs ds) : Rd w F κ (.agg vs.toArray) (.agg ds) := .agg _ vs ds h.1 h.2
theorem RdL.tuple {w F κ vs ds} (h : RdL w F κ vs ds) : Rd w F κ (.tuple vs.toArray) (.tuple ds) := .tuple _ vs ds h.1 h.2

theorem Rd.toAgg {w F κ v ds} (h : Rd w F κ v (.agg ds)) : ∃ vs, v = .agg vs ∧ RdL w F κ vs.toList ds := by
  cases h with
  | agg _ vs _ hl h => exact ⟨vs.toArray, rfl, by simpa using hl, by simpa using h⟩

/-- A part of some cells. -/
theorem part_val {w F κ vs cs} (h : RdL w F κ vs cs) {off sz : Nat} {ag : Bool} {d : D} (hp : partD off sz ag cs = some d) (h1 : ag = false → sz = 1) :
    if ag then Rd w F κ (.agg ((vs.drop off).take sz).toArray) d ∧ off + sz ≤ vs.length else ∃ v, vs[off]? = some v ∧ Rd w F κ v d := by
  unfold partD at hp
  split at hp
  · rename_i hle
    cases ag with
    | true =>
      simp at hp ⊢
      subst hp
      exact ⟨((h.drop off).take sz).agg, by rw [h.1]; exact hle⟩
    | false =>
      simp at hp ⊢
      have := h1 rfl
      have hlt : off < vs.length := by rw [h.1]; omega
      exact ⟨vs[off], List.getElem?_eq_getElem hlt, h.2 off _ d (List.getElem?_eq_getElem hlt) hp⟩
  · cases hp

/-! ### Types -/

theorem run_isAgg {P : Program} {t : TypeId} {n : Nat} {ag : Bool} (h : tyOf P t = some (n, ag)) (w : World) : (isAgg t).run P w = .ok ag w := by
  unfold tyOf at h
  cases hi : P.info? t with
  | none => cases hu : P.underlying t with
    | none => simp [hi, hu] at h
    | some d => cases d <;> simp [hi, hu] at h
  | some i =>
    cases hu : P.underlying t with
    | none => simp [hi, hu] at h
    | some d =>
      have hr := run_underlying hu w
      cases d <;> simp [hi, hu] at h <;> simp [isAgg, Sem.run_bind, hr, ← h.2]

theorem run_sizeOf {P : Program} {t : TypeId} {n : Nat} {ag : Bool} (h : tyOf P t = some (n, ag)) (w : World) : (sizeOf t).run P w = .ok n w := by
  unfold tyOf at h
  cases hi : P.info? t with
  | none => cases hu : P.underlying t with
    | none => simp [hi, hu] at h
    | some d => cases d <;> simp [hi, hu] at h
  | some i =>
    cases hu : P.underlying t with
    | none => simp [hi, hu] at h
    | some d => cases d <;> simp [hi, hu] at h <;> simp [sizeOf, typeInfo, Sem.run_bind, hi, h.1]

theorem tyOf_und {P : Program} {t : TypeId} {n : Nat} {ag : Bool} (h : tyOf P t = some (n, ag)) : ∃ i, P.info? t = some i ∧ i.size = n := by
  unfold tyOf at h
  cases hi : P.info? t with
  | none => cases hu : P.underlying t with
    | none => simp [hi, hu] at h
    | some d => cases d <;> simp [hi, hu] at h
  | some i =>
    cases hu : P.underlying t with
    | none => simp [hi, hu] at h
    | some d => cases d <;> simp [hi, hu] at h <;> exact ⟨i, rfl, h.1⟩

/-- Cells of memory, as data have them. -/
def MemAt (w : World) (F : Fz) (κ : Env) (b o : Nat) (vs : List Value) (cs : List D) : Prop :=
  RdL w F κ vs cs ∧ ∀ (j : Nat) (v : Value), vs[j]? = some v → w.cell? ⟨b, o + j, none⟩ = some v ∧ v.oneCell' = true

theorem MemAt.of {w F κ b o} {cs : List D} (h : ∀ (j : Nat) (d : D), cs[j]? = some d → ∃ v, w.cell? ⟨b, o + j, none⟩ = some v ∧ v.oneCell' = true ∧ Rd w F κ v d) : ∃ vs, MemAt w F κ b o vs cs := by
  induction cs generalizing o with
  | nil => exact ⟨[], RdL.nil, fun j v h => by simp at h⟩
  | cons d r ih =>
    obtain ⟨v, h1, h2, h3⟩ := h 0 d rfl
    obtain ⟨vs, h4, h5⟩ := ih (o := o + 1) (fun j e he => by
      have := h (j + 1) e (by simpa using he)
      rwa [show o + (j + 1) = o + 1 + j by omega] at this)
    refine ⟨v :: vs, RdL.cons h3 h4, fun j x hx => ?_⟩
    cases j with
    | zero => simp at hx; rw [← hx]; exact ⟨h1, h2⟩
    | succ j =>
      have := h5 j x (by simpa using hx)
      rwa [show o + 1 + j = o + (j + 1) by omega] at this

theorem run_loadCells_at {P : Program} {w : World} {b o : Nat} {vs : List Value} (h : ∀ (j : Nat) (v : Value), vs[j]? = some v → w.cell? ⟨b, o + j, none⟩ = some v) :
    (loadCells ⟨b, o, none⟩ vs.length).run P w = .ok vs.toArray w :=
  run_loadCells_list w ⟨b, o, none⟩ vs fun j v hv => by rw [Addr.add_lit]; exact h j v hv

/-- A variable is loaded. -/
theorem run_loadVar {P : Program} {w F κ b o vs cs} (h : MemAt w F κ b o vs cs) {t : TypeId} {n : Nat} {ag : Bool} (ht : tyOf P t = some (n, ag)) {off : Nat} {d : D}
    (hp : partD off (if ag then n else 1) ag cs = some d) : ∃ v, (loadVar t ⟨b, o + off, none⟩).run P w = .ok v w ∧ Rd w F κ v d := by
  have hv := part_val h.1 hp (fun hh => by simp [hh])
  unfold loadVar
  simp only [Sem.run_bind, run_isAgg ht, Result.andThen_ok]
  cases ag with
  | false =>
    simp only [Bool.false_eq_true, if_false] at hv ⊢
    obtain ⟨v, h1, h2⟩ := hv
    exact ⟨v, by rw [run_load, (h.2 off v h1).1], h2⟩
  | true =>
    simp only [if_true] at hv ⊢
    obtain ⟨h1, h2⟩ := hv
    refine ⟨_, ?_, h1⟩
    simp only [Sem.run_bind, run_sizeOf ht, Result.andThen_ok]
    have hl : ((vs.drop off).take n).length = n := by simp; omega
    have := run_loadCells_at (P := P) (w := w) (b := b) (o := o + off) (vs := (vs.drop off).take n) (fun j v hv => by
      rw [List.getElem?_take] at hv
      split at hv
      · rw [List.getElem?_drop] at hv
        have := (h.2 _ v hv).1
        rwa [show o + (off + j) = o + off + j by omega] at this
      · cases hv)
    rw [hl] at this
    rw [this]
    rfl
end Go.Ab
