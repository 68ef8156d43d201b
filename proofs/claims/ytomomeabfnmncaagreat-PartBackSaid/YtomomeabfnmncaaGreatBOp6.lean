/- THE ABSTRACT MACHINE, sound: new objects, objects that are written. -/
import Derived.Test.YtomomeabfnmncaaGreatBOp5
set_option linter.all false
namespace Go.Ab

section
variable {P : Program} {w : World} {F : Fz} {κ : Env}

theorem CellsOk.mono {c : Array Value} {o : Nat} {ds : List D} (h : CellsOk w F κ c o ds) {w' F' κ'} (hf : FLe w F w' F') (hk : KLe κ κ') : CellsOk w' F' κ' c o ds := fun j d hd => by
  obtain ⟨v, a1, a2, a3⟩ := h j d hd
  exact ⟨v, a1, a2, a3.mono hf hk⟩

theorem rowCells_flat {c : Array Value} {s : Nat} {es : List D} (hl : ∀ e ∈ es, e.cells.length = s) (h : CellsOk w F κ c 0 (es.flatMap D.cells)) (i : Nat) (e : D) (he : es[i]? = some e) : CellsOk w F κ c (i * s) e.cells := fun j d hd => by
  have := h (i * s + j) d (flat_at hl he hd)
  rwa [Nat.zero_add] at this

theorem flat_rowCells {c : Array Value} {s : Nat} {es : List D} (hl : ∀ e ∈ es, e.cells.length = s) (h : ∀ (i : Nat) (e : D), es[i]? = some e → CellsOk w F κ c (i * s) e.cells) : CellsOk w F κ c 0 (es.flatMap D.cells) := fun j d hd => by
  obtain ⟨i, e, k, h1, h2, rfl, h4⟩ := flat_get hl hd
  rw [Nat.zero_add]
  exact h i e h1 k d h2

/-- Cells out of values. -/
theorem cellsOk_of {vs : List Value} {ds : List D} (h : RdL w F κ vs ds) (h1 : ∀ v ∈ vs, v.oneCell' = true) {c : Array Value} {o : Nat} (hc : ∀ (j : Nat) (v : Value), vs[j]? = some v → c[o + j]? = some v) : CellsOk w F κ c o ds := fun j d hd => by
  have hlt : j < vs.length := by rw [h.1]; exact (List.getElem?_eq_some_iff.1 hd).1
  exact ⟨vs[j], hc j _ (List.getElem?_eq_getElem hlt), h1 _ (List.getElem_mem hlt), h.2 j _ d (List.getElem?_eq_getElem hlt) hd⟩

/-- A block more. -/
structure Alloc (w w' : World) (o : Go.Obj) : Prop where
  heap : w'.heap = w.heap.push o
  os : w'.os = w.os
  tape : w'.tape = w.tape
  output : w'.output = w.output

theorem Alloc.old {w w' : World} {o : Go.Obj} (h : Alloc w w' o) {b : Nat} (hb : b < w.heap.size) : w'.heap[b]? = w.heap[b]? := by
  rw [h.heap, Array.getElem?_push, if_neg (by omega)]
theorem Alloc.new {w w' : World} {o : Go.Obj} (h : Alloc w w' o) : w'.heap[w.heap.size]? = some o := by
  rw [h.heap, Array.getElem?_push, if_pos rfl]
theorem cell_block {w w' : World} {b o : Nat} (h : w'.heap[b]? = w.heap[b]?) : w'.cell? ⟨b, o, none⟩ = w.cell? ⟨b, o, none⟩ := by
  simp [World.cell?, h]
theorem cell_lt {w : World} {b o : Nat} (h : (w.cell? ⟨b, o, none⟩).isSome = true) : b < w.heap.size := by
  by_cases hb : b < w.heap.size
  · exact hb
  · simp [World.cell?, Array.getElem?_eq_none (Nat.le_of_not_lt hb)] at h

theorem Alloc.stp {w w' : World} {o : Go.Obj} (h : Alloc w w' o) {F : Fz} {Pr : Nat → Prop} (hf : ∀ b o, F b o → (w.cell? ⟨b, o, none⟩).isSome = true) (hp : ∀ b, Pr b → b < w.heap.size) : Stp w F Pr w' F :=
  ⟨h.os, h.tape, h.output, by rw [h.heap]; simp, fun b o hb => ⟨hb, cell_block (h.old (cell_lt (hf b o hb)))⟩, fun b hb => h.old (hp b hb), fun _ _ _ h => h⟩

section
variable {μ : Mu} {H : Hp} {Pr : Nat → Prop}

theorem Rel.block_lt (R : Rel w F μ H Pr) {g b z : Nat} (hg : (H g).isSome = true) (hm : μ g = some (b, z)) : b < w.heap.size := by
  obtain ⟨o, ho⟩ := Option.isSome_iff_exists.1 hg
  have hok := R.ok g o ho
  rw [hm] at hok
  have key : ∀ {x}, w.heap[b]? = some x → b < w.heap.size := fun hx => (Array.getElem?_eq_some_iff.1 hx).1
  cases o with
  | row s es fz =>
    rcases hok.inv_row with ⟨h, _⟩ | ⟨b', sz', c, el, fr, h, hr⟩
    · cases h
    · injection h with h; injection h with h1 h2; subst h1; exact key hr.heap
  | box cs =>
    obtain ⟨b', sz', c, el, fr, h, hr⟩ := hok.inv_box
    injection h with h; injection h with h1 h2; subst h1; exact key hr.heap
  | mp es =>
    obtain ⟨b', sz', ms, ck, h, hr⟩ := hok.inv_mp
    injection h with h; injection h with h1 h2; subst h1; exact key hr.heap

theorem Nx.alloc (R : Rel w F μ H Pr) {w' : World} {c : Array Value} {el : TypeId} {fr : Nat × Nat} (A : Alloc w w' (.cells c el fr)) {g : Nat} (hg : H g = none) {o : Obj}
    (hok : Stp w F Pr w' F → KLe (env μ H) (env (upd μ g (some (w.heap.size, c.size))) (upd H g (some o))) → ObjOk w' F (env (upd μ g (some (w.heap.size, c.size))) (upd H g (some o))) (some (w.heap.size, c.size)) o) :
    Nx Pr w F μ H w' F (upd μ g (some (w.heap.size, c.size))) (upd H g (some o)) := by
  have st := A.stp R.fc R.prlt
  refine Nx.one R st (fun g' b z hne hs hm => ⟨A.old (R.block_lt hs hm), fun _ h => h⟩) (fun o0 ho => by rw [hg] at ho; cases ho) (hok st) (fun b z hbz => ?_) (fun b o hf => ?_)
  · injection hbz with hbz
    injection hbz with h1 h2
    subst h1
    refine ⟨fun hp => absurd (R.prlt _ hp) (by omega), fun g' z' hne hs hm => absurd (R.block_lt hs hm) (by omega), .inr (Nat.le_refl _)⟩
  · rw [(st.fle b o hf).2]; exact R.fc b o hf

/-- A new row. -/
theorem Nx.newRow (R : Rel w F μ H Pr) {w' : World} {c : Array Value} {el : TypeId} {fr : Nat × Nat} (A : Alloc w w' (.cells c el fr)) (hfr : ∀ o, o < c.size → ¬ (fr.1 ≤ o ∧ o < fr.2)) {g : Nat} (hg : H g = none) {s : Nat} {es : List D}
    (hs : 0 < s) (hl : ∀ e ∈ es, e.cells.length = s) (hfit : es.length * s ≤ c.size) (hc : CellsOk w F noEnv c 0 (es.flatMap D.cells)) :
    Nx Pr w F μ H w' F (upd μ g (some (w.heap.size, c.size))) (upd H g (some (.row s es 0))) :=
  Nx.alloc R A hg fun st kle => .row _ _ _ _ _ c el fr ⟨A.new, rfl, hfr, hs, hfit, hl, fun i e he => rowCells_flat hl (hc.mono st.fle (KLe.refl _)) i e he, fun o ho => absurd (cell_lt (R.fc _ _ ho)) (by omega), Nat.zero_le _⟩

/-- A new variable. -/
theorem Nx.newBox (R : Rel w F μ H Pr) {w' : World} {c : Array Value} {el : TypeId} {fr : Nat × Nat} (A : Alloc w w' (.cells c el fr)) (hfr : ∀ o, o < c.size → ¬ (fr.1 ≤ o ∧ o < fr.2)) {g : Nat} (hg : H g = none) {cs : List D}
    (hl : cs.length = c.size) (hc : CellsOk w F (env μ H) c 0 cs) : Nx Pr w F μ H w' F (upd μ g (some (w.heap.size, c.size))) (upd H g (some (.box cs))) :=
  Nx.alloc R A hg fun st kle => .box _ _ _ c el fr ⟨A.new, rfl, hl, hfr, hc.mono st.fle kle, fun o ho => absurd (cell_lt (R.fc _ _ ho)) (by omega)⟩

/-- A row that is none yet. -/
theorem Nx.newV (R : Rel w F μ H Pr) {g : Nat} (hg : H g = none) : Nx Pr w F μ H w F (upd μ g none) (upd H g (some (.row 0 [] 0))) :=
  Nx.one R (Stp.refl _ _ _) (fun g' b z hne hs hm => ⟨rfl, fun _ h => h⟩) (fun o0 ho => by rw [hg] at ho; cases ho) (fun _ => .vrow 0) (fun b z h => by cases h) R.fc

/-- A block that is written. -/
theorem setRow_stp (R : Rel w F μ H Pr) {g b sz : Nat} (hg : (H g).isSome = true) (hm : μ g = some (b, sz)) {c c' : Array Value} {el : TypeId} {fr : Nat × Nat} (hb : w.heap[b]? = some (.cells c el fr)) (hfz : ∀ o, F b o → c'[o]? = c[o]?) : Stp w F Pr (w.setRow b c') F := by
  refine ⟨rfl, rfl, rfl, by simp, fun b' o hf => ⟨hf, ?_⟩, fun b' hp => setRow_other w b b' c' (fun e => R.pr g b sz hg hm (e ▸ hp)), fun _ _ _ h => h⟩
  by_cases h : b' = b
  · subst h
    rw [cell_setRow_same w b' o c c' el fr hb, hfz o hf, cell_of_heap hb]
  · exact cell_setRow_other w b c' _ h

theorem Nx.setRow (R : Rel w F μ H Pr) {g b sz : Nat} {s s' : Nat} {es es' : List D} {fz : Nat} (hg : H g = some (.row s' es fz)) (hm : μ g = some (b, sz)) {c c' : Array Value} {el : TypeId} {fr : Nat × Nat} (hr : RowAt w F b sz s es fz c el fr)
    (hsz : c'.size = sz) (hfz : ∀ o, o < fz * s → c'[o]? = c[o]?) (hlen : es.length = es'.length ∨ es.length < es'.length) (hl : ∀ e ∈ es', e.cells.length = s) (hfit : es'.length * s ≤ sz) (hs : s' = s)
    (hc : CellsOk w F noEnv c' 0 (es'.flatMap D.cells)) : Nx Pr w F μ H (w.setRow b c') F (upd μ g (some (b, sz))) (upd H g (some (.row s es' fz))) := by
  subst hs
  have hsome : (H g).isSome = true := by simp [hg]
  have st := setRow_stp R hsome hm hr.heap (c' := c') (fun o ho => hfz o (hr.free o ho))
  refine Nx.one R st (fun g' b' z hne hs' hm' => ⟨setRow_other w b b' c' (fun e => hne (R.inj g' g b' z sz hs' hsome hm' (e ▸ hm))), fun _ h => h⟩) (fun o0 ho => ?_) (fun kle => ?_) (fun b' z h => ?_) (fun b' o hf => ?_)
  · rw [hg] at ho
    injection ho with ho
    subst ho
    rw [hm]
    rcases hlen with h | h
    · left; simp [kiOf, h]
    · right; exact ⟨b, s', es'.length, sz, rfl, h⟩
  · exact .row _ _ _ _ _ c' el fr ⟨setRow_heap w b c c' el fr hr.heap, hsz, hr.froz, hr.pos, hfit, hl, fun i e he => rowCells_flat hl (hc.mono st.fle (KLe.refl _)) i e he, hr.free, by have := hr.fzle; omega⟩
  · injection h with h
    injection h with h1 h2
    subst h1
    exact ⟨R.pr g b sz hsome hm, fun g' z' hne hs' hm' => hne (R.inj g' g b z' sz hs' hsome hm' hm), .inl ⟨g, sz, hsome, hm⟩⟩
  · rw [(st.fle b' o hf).2]; exact R.fc b' o hf

theorem Nx.setBox (R : Rel w F μ H Pr) {g b sz : Nat} {cs cs' : List D} (hg : H g = some (.box cs)) (hm : μ g = some (b, sz)) {c c' : Array Value} {el : TypeId} {fr : Nat × Nat} (hr : BoxAt w F (env μ H) b sz cs c el fr)
    (hsz : c'.size = sz) (hl : cs'.length = sz) (hc : CellsOk w F (env μ H) c' 0 cs') : Nx Pr w F μ H (w.setRow b c') F (upd μ g (some (b, sz))) (upd H g (some (.box cs'))) := by
  have hsome : (H g).isSome = true := by simp [hg]
  have st := setRow_stp R hsome hm hr.heap (c' := c') (fun o ho => absurd ho (hr.free o))
  refine Nx.one R st (fun g' b' z hne hs' hm' => ⟨setRow_other w b b' c' (fun e => hne (R.inj g' g b' z sz hs' hsome hm' (e ▸ hm))), fun _ h => h⟩) (fun o0 ho => ?_) (fun kle => ?_) (fun b' z h => ?_) (fun b' o hf => ?_)
  · rw [hg] at ho
    injection ho with ho
    subst ho
    rw [hm]
    left; simp [kiOf]
  · exact .box _ _ _ c' el fr ⟨setRow_heap w b c c' el fr hr.heap, hsz, hl, hr.froz, hc.mono st.fle kle, hr.free⟩
  · injection h with h
    injection h with h1 h2
    subst h1
    exact ⟨R.pr g b sz hsome hm, fun g' z' hne hs' hm' => hne (R.inj g' g b z' sz hs' hsome hm' hm), .inl ⟨g, sz, hsome, hm⟩⟩
  · rw [(st.fle b' o hf).2]; exact R.fc b' o hf

/-- A row is frozen, as far as it goes. -/
theorem Nx.freeze (R : Rel w F μ H Pr) {g : Nat} {s fz : Nat} {es : List D} (hg : H g = some (.row s es fz)) (hne : s ≠ 0 ∨ True) :
    ∃ F', Nx Pr w F μ H w F' μ (upd H g (some (.row s es es.length))) ∧ (∀ b sz, μ g = some (b, sz) → ∀ o, o < es.length * s → F' b o) := by
  have hok := R.ok g _ hg
  have hsome : (H g).isSome = true := by simp [hg]
  rcases hok.inv_row with ⟨hm, he⟩ | ⟨b, sz, c, el, fr, hm, hr⟩
  · subst he
    refine ⟨F, ?_, fun b sz h => by rw [hm] at h; cases h⟩
    have := Nx.one R (g := g) (m := none) (o := .row s [] 0) (Stp.refl w F Pr) (fun g' b z hne hs hm => ⟨rfl, fun _ h => h⟩) (fun o0 ho => by
      rw [hg] at ho; injection ho with ho; subst ho; rw [hm]; exact .inl rfl) (fun _ => .vrow s) (fun b z h => by cases h) R.fc
    have e : upd μ g none = μ := by
      funext k
      by_cases h : k = g
      · subst h; simp [hm]
      · simp [h]
    rw [e] at this
    exact this
  · let F' : Fz := fun b' o => F b' o ∨ (b' = b ∧ o < es.length * s)
    have hcell : ∀ o, o < es.length * s → (w.cell? ⟨b, o, none⟩).isSome = true := by
      intro o ho
      rw [cell_of_heap hr.heap]
      have := hr.fits
      have hsz := hr.size
      simp [Array.getElem?_eq_getElem (show o < c.size by omega)]
    have st : Stp w F Pr w F' := ⟨rfl, rfl, rfl, Nat.le_refl _, fun b' o h => ⟨.inl h, rfl⟩, fun _ _ => rfl, fun b' o hp h => by
      rcases h with h | ⟨rfl, _⟩
      · exact h
      · exact absurd hp (R.pr g b' sz hsome hm)⟩
    refine ⟨F', ?_, fun b2 sz2 h o ho => ?_⟩
    · have := Nx.one R (g := g) (m := some (b, sz)) (o := .row s es es.length) st (fun g' b' z hne hs' hm' => ⟨rfl, fun o h => by
          rcases h with h | ⟨rfl, _⟩
          · exact h
          · exact absurd (R.inj g' g b' z sz hs' hsome hm' hm) hne⟩)
        (fun o0 ho => by rw [hg] at ho; injection ho with ho; subst ho; rw [hm]; exact .inl rfl)
        (fun kle => .row _ _ _ _ _ c el fr ⟨hr.heap, hr.size, hr.froz, hr.pos, hr.fits, hr.len, fun i e he j d hd => by
            obtain ⟨v, a1, a2, a3⟩ := hr.cells i e he j d hd
            exact ⟨v, a1, a2, a3.mono st.fle (KLe.refl _)⟩, fun o h => by
            rcases h with h | ⟨_, h⟩
            · exact Nat.lt_of_lt_of_le (hr.free o h) (Nat.mul_le_mul_right _ hr.fzle)
            · exact h, Nat.le_refl _⟩)
        (fun b' z h => by
          injection h with h
          injection h with h1 h2
          subst h1
          exact ⟨R.pr g b sz hsome hm, fun g' z' hne hs' hm' => hne (R.inj g' g b z' sz hs' hsome hm' hm), .inl ⟨g, sz, hsome, hm⟩⟩)
        (fun b' o h => by
          rcases h with h | ⟨rfl, h⟩
          · exact R.fc b' o h
          · exact hcell o h)
      have e : upd μ g (some (b, sz)) = μ := by
        funext k
        by_cases h : k = g
        · subst h; simp [hm]
        · simp [h]
      rw [e] at this
      exact this
    · rw [hm] at h
      injection h with h
      injection h with h1 h2
      subst h1
      exact .inr ⟨rfl, ho⟩
end
end
end Go.Ab
