/- THE ABSTRACT MACHINE, sound: a part of the objects under keys of its own; and back. -/
import Derived.Test.YtomomeabfnmncaaGreatBOpM
set_option linter.all false
namespace Go.Ab

section
variable {P : Program} {w : World} {F : Fz} {κ : Env} {μ : Mu} {Pr : Nat → Prop}

theorem Rd.dom {v : Value} {d : D} (h : Rd w F κ v d) : ∀ g ∈ d.keys, (κ g).isSome = true := by
  induction h with
  | sl κ g b s L sz lo n o cap hk => intro k hk'; simp [D.keys] at hk'; subst hk'; simp [hk]
  | slv κ g hk => intro k hk'; simp [D.keys] at hk'; subst hk'; simp [hk]
  | slo κ g lo n L k a cap hk => intro k' hk'; simp [D.keys] at hk'; subst hk'; simp [hk]
  | ptrr κ g b s L sz i off hk => intro k hk'; simp [D.keys] at hk'; subst hk'; simp [hk]
  | ptrb κ g b off L hk => intro k hk'; simp [D.keys] at hk'; subst hk'; simp [hk]
  | ptro κ g i off L k b o hk => intro k' hk'; simp [D.keys] at hk'; subst hk'; simp [hk]
  | aptr κ g b s L sz hk => intro k hk'; simp [D.keys] at hk'; subst hk'; simp [hk]
  | aptro κ g L k b o hk => intro k' hk'; simp [D.keys] at hk'; subst hk'; simp [hk]
  | map κ g b hk => intro k hk'; simp [D.keys] at hk'; subst hk'; simp [hk]
  | func κ f a c da dc la lc ha hc iha ihc =>
    have key : ∀ {vs : List Value} {ds : List D}, vs.length = ds.length → (∀ (i : Nat) (v : Value) (d : D), vs[i]? = some v → ds[i]? = some d → ∀ g ∈ d.keys, (κ g).isSome = true) → ∀ g ∈ keysL ds, (κ g).isSome = true := by
      intro vs ds hl h g hg
      induction ds generalizing vs with
      | nil => simp [keysL, D.keys.keysL] at hg
      | cons d r ih =>
        cases vs with
        | nil => simp at hl
        | cons v vs =>
          rw [show keysL (d :: r) = d.keys ++ keysL r from rfl, List.mem_append] at hg
          rcases hg with hg | hg
          · exact h 0 v d rfl rfl g hg
          · exact ih (vs := vs) (by simpa using hl) (fun i v d h1 h2 => h (i + 1) v d (by simpa using h1) (by simpa using h2)) hg
    intro g hg
    rcases List.mem_append.1 (show g ∈ keysL da ++ keysL dc from hg) with hg | hg
    · exact key la iha g hg
    · exact key lc ihc g hg
  | iface κ t v d _ ih => exact ih
  | agg κ vs ds hl h ih =>
    intro g hg
    have : ∀ {vs : List Value} {ds : List D}, vs.length = ds.length → (∀ (i : Nat) (v : Value) (d : D), vs[i]? = some v → ds[i]? = some d → ∀ g ∈ d.keys, (κ g).isSome = true) → ∀ g ∈ keysL ds, (κ g).isSome = true := by
      intro vs ds hl h g hg
      induction ds generalizing vs with
      | nil => simp [keysL, D.keys.keysL] at hg
      | cons d r ih =>
        cases vs with
        | nil => simp at hl
        | cons v vs =>
          rw [show keysL (d :: r) = d.keys ++ keysL r from rfl, List.mem_append] at hg
          rcases hg with hg | hg
          · exact h 0 v d rfl rfl g hg
          · exact ih (vs := vs) (by simpa using hl) (fun i v d h1 h2 => h (i + 1) v d (by simpa using h1) (by simpa using h2)) hg
    exact this hl ih g hg
  | tuple κ vs ds hl h ih =>
    intro g hg
    have : ∀ {vs : List Value} {ds : List D}, vs.length = ds.length → (∀ (i : Nat) (v : Value) (d : D), vs[i]? = some v → ds[i]? = some d → ∀ g ∈ d.keys, (κ g).isSome = true) → ∀ g ∈ keysL ds, (κ g).isSome = true := by
      intro vs ds hl h g hg
      induction ds generalizing vs with
      | nil => simp [keysL, D.keys.keysL] at hg
      | cons d r ih =>
        cases vs with
        | nil => simp at hl
        | cons v vs =>
          rw [show keysL (d :: r) = d.keys ++ keysL r from rfl, List.mem_append] at hg
          rcases hg with hg | hg
          · exact h 0 v d rfl rfl g hg
          · exact ih (vs := vs) (by simpa using hl) (fun i v d h1 h2 => h (i + 1) v d (by simpa using h1) (by simpa using h2)) hg
    exact this hl ih g hg
  | _ => intro g hg; simp [D.keys] at hg

theorem RdL.dom {vs : List Value} {ds : List D} (h : RdL w F κ vs ds) : ∀ g ∈ keysL ds, (κ g).isSome = true := fun g hg => h.tuple.dom g hg

theorem RdL.ren {vs : List Value} {ds : List D} (h : RdL w F κ vs ds) {κ' : Env} {f : Nat → Nat} (hk : ∀ g ∈ keysL ds, κ' (f g) = κ g) : RdL w F κ' vs (renL f ds) := by
  refine ⟨by rw [renL_length]; exact h.1, fun i v d h1 h2 => ?_⟩
  rw [renL_get] at h2
  obtain ⟨d0, h3, rfl⟩ := Option.map_eq_some_iff.1 h2
  exact (h.2 i v d0 h1 h3).ren (fun g hg => hk g (keysL_mem h3 hg))

theorem RdL.at {vs : List Value} {ds : List D} (h : RdL w F κ vs ds) {κ' : Env} (hk : ∀ g ∈ keysL ds, κ' g = κ g) : RdL w F κ' vs ds :=
  ⟨h.1, fun i v d h1 h2 => (h.2 i v d h1 h2).at (fun g hg => hk g (keysL_mem h2 hg))⟩

theorem kiOf_ren (m : Option (Nat × Nat)) (o : Obj) (f : Nat → Nat) : kiOf m (o.ren f) = kiOf m o := by cases o <;> rfl

theorem ObjOk.ren {m : Option (Nat × Nat)} {o : Obj} (h : ObjOk w F κ m o) {κ' : Env} {f : Nat → Nat} (hk : ∀ g ∈ o.keys, κ' (f g) = κ g) : ObjOk w F κ' m (o.ren f) := by
  cases h with
  | vrow s => exact .vrow s
  | row b sz s es fz c el fr h => exact .row b sz s es fz c el fr ⟨h.heap, h.size, h.froz, h.pos, h.fits, h.len, h.cells, h.free, h.fzle⟩
  | box b sz cs c el fr h =>
    refine .box b sz (renL f cs) c el fr ⟨h.heap, h.size, by rw [renL_length]; exact h.len, h.froz, fun j d hd => ?_, h.free⟩
    rw [renL_get] at hd
    obtain ⟨d0, h3, rfl⟩ := Option.map_eq_some_iff.1 hd
    obtain ⟨v, a1, a2, a3⟩ := h.cells j d0 h3
    exact ⟨v, a1, a2, a3.ren (fun g hg => hk g (keysL_mem h3 hg))⟩
  | mp b sz es ms ck h => exact .mp b sz es ms ck h

/-- Some objects, with all that they lead to. -/
structure Clo (H : Hp) (os : Wr) : Prop where
  get : ∀ p ∈ os, H p.1 = some p.2
  nodup : (os.map (·.1)).Nodup
  clo : ∀ p ∈ os, ∀ k ∈ p.2.keys, k ∈ os.map (·.1)

def subH (os : Wr) : Hp := fun j => (os[j]?).map fun p => p.2.ren (intoK os)
def subMu (μ : Mu) (os : Wr) : Mu := fun j => (os[j]?).bind fun p => μ p.1

theorem into_get {os : Wr} {k : Nat} (h : k ∈ os.map (·.1)) : ∃ o, os[intoK os k]? = some (k, o) := by
  obtain ⟨p, hp, rfl⟩ := List.mem_map.1 h
  have hlt : intoK os p.1 < os.length := List.findIdx_lt_length_of_exists ⟨p, hp, by simp⟩
  have := List.findIdx_getElem (xs := os) (p := fun (x : Nat × Obj) => x.1 == p.1) (w := hlt)
  simp at this
  refine ⟨(os[intoK os p.1]'hlt).2, ?_⟩
  rw [List.getElem?_eq_getElem hlt]
  congr 1
  exact Prod.ext this rfl

theorem into_at {os : Wr} (hn : (os.map (·.1)).Nodup) {j : Nat} {p : Nat × Obj} (h : os[j]? = some p) : intoK os p.1 = j := by
  obtain ⟨o, ho⟩ := into_get (os := os) (k := p.1) (List.mem_map.2 ⟨p, List.mem_of_getElem? h, rfl⟩)
  have h1 : (os.map (·.1))[intoK os p.1]? = some p.1 := by rw [List.getElem?_map, ho]; rfl
  have h2 : (os.map (·.1))[j]? = some p.1 := by rw [List.getElem?_map, h]; rfl
  have hlt := (List.getElem?_eq_some_iff.1 h1).1
  exact (List.getElem?_inj hlt hn).1 (h1.trans h2.symm)

theorem env_sub {H : Hp} {os : Wr} (hc : Clo H os) {k : Nat} (h : k ∈ os.map (·.1)) : env (subMu μ os) (subH os) (intoK os k) = env μ H k := by
  obtain ⟨o, ho⟩ := into_get h
  have := hc.get _ (List.mem_of_getElem? ho)
  simp only at this
  unfold env subMu subH
  simp [ho, this, kiOf_ren]

/-- What is not handed in. -/
def PrO (Pr : Nat → Prop) (H : Hp) (μ : Mu) (os : Wr) : Nat → Prop := fun b => Pr b ∨ ∃ g z, (H g).isSome = true ∧ g ∉ os.map (·.1) ∧ μ g = some (b, z)

theorem sub_rel {H : Hp} (R : Rel w F μ H Pr) {os : Wr} (hc : Clo H os) : Rel w F (subMu μ os) (subH os) (PrO Pr H μ os) := by
  have hget : ∀ (j : Nat), (subH os j).isSome = true → ∃ p, os[j]? = some p ∧ (H p.1).isSome = true ∧ subMu μ os j = μ p.1 := by
    intro j hj
    unfold subH at hj
    cases h : os[j]? with
    | none => simp [h] at hj
    | some p => exact ⟨p, rfl, by rw [hc.get p (List.mem_of_getElem? h)]; rfl, by simp [subMu, h]⟩
  refine ⟨fun j o ho => ?_, fun j j' b z z' h1 h2 h3 h4 => ?_, fun j b z h1 h2 => ?_, R.fc, fun b hb => ?_⟩
  · unfold subH at ho
    cases h : os[j]? with
    | none => simp [h] at ho
    | some p =>
      simp [h] at ho
      subst ho
      have hm : subMu μ os j = μ p.1 := by simp [subMu, h]
      rw [hm]
      have hp := List.mem_of_getElem? h
      exact (R.ok p.1 p.2 (hc.get p hp)).ren (fun g hg => env_sub hc (hc.clo p hp g hg))
  · obtain ⟨p, a1, a2, a3⟩ := hget j h1
    obtain ⟨q, b1, b2, b3⟩ := hget j' h2
    rw [a3] at h3
    rw [b3] at h4
    have := R.inj p.1 q.1 b z z' a2 b2 h3 h4
    rw [← into_at hc.nodup a1, ← into_at hc.nodup b1, this]
  · obtain ⟨p, a1, a2, a3⟩ := hget j h1
    rw [a3] at h2
    rintro (h | ⟨g, z', g1, g2, g3⟩)
    · exact R.pr p.1 b z a2 h2 h
    · have := R.inj g p.1 b z' z g1 a2 g3 h2
      exact g2 (this ▸ List.mem_map.2 ⟨p, List.mem_of_getElem? a1, rfl⟩)
  · rcases hb with h | ⟨g, z, g1, g2, g3⟩
    · exact R.prlt b h
    · exact R.block_lt g1 g3

theorem nodup_rev {l : List Nat} (h : l.Nodup) : l.reverse.Nodup := by
  unfold List.Nodup at h ⊢
  rw [List.pairwise_reverse]
  exact h.imp (fun h e => h e.symm)

/-! ### What is reached -/

theorem reach_ok {H : Hp} {ov : Wr} : ∀ (n : Nat) {todo : List Nat} {acc os : Wr}, (∀ p ∈ acc, ovH H ov p.1 = some p.2) → (acc.map (·.1)).Nodup → (∀ p ∈ acc, ∀ k ∈ p.2.keys, k ∈ acc.map (·.1) ∨ k ∈ todo) →
    (reach ov n todo acc).run H = some os → Clo (ovH H ov) os ∧ (∀ k ∈ todo, k ∈ os.map (·.1)) ∧ (∀ k ∈ acc.map (·.1), k ∈ os.map (·.1)) ∧ ∃ t, os = acc.reverse ++ t := by
  intro n
  induction n with
  | zero =>
    intro todo acc os h1 h2 h3 h
    cases todo with
    | nil =>
      simp [reach] at h
      subst h
      refine ⟨⟨fun p hp => h1 p (by simpa using hp), ?_, fun p hp k hk => ?_⟩, fun k hk => (by cases hk), fun k hk => (by rw [List.map_reverse, List.mem_reverse]; exact hk), [], by simp⟩
      · rw [List.map_reverse]; exact nodup_rev h2
      · rw [List.map_reverse, List.mem_reverse]
        rcases h3 p (by simpa using hp) k hk with h | h
        · exact h
        · cases h
    | cons g r => simp [reach] at h
  | succ n ih =>
    intro todo acc os h1 h2 h3 h
    cases todo with
    | nil =>
      simp [reach] at h
      subst h
      refine ⟨⟨fun p hp => h1 p (by simpa using hp), ?_, fun p hp k hk => ?_⟩, fun k hk => (by cases hk), fun k hk => (by rw [List.map_reverse, List.mem_reverse]; exact hk), [], by simp⟩
      · rw [List.map_reverse]; exact nodup_rev h2
      · rw [List.map_reverse, List.mem_reverse]
        rcases h3 p (by simpa using hp) k hk with h | h
        · exact h
        · cases h
    | cons g r =>
      unfold reach at h
      split at h
      · rename_i hany
        have hmem : g ∈ acc.map (·.1) := by
          obtain ⟨p, hp, he⟩ := List.any_eq_true.1 hany
          exact List.mem_map.2 ⟨p, hp, by simpa using he⟩
        obtain ⟨a1, a2, a3, a4⟩ := ih h1 h2 (fun p hp k hk => by
          rcases h3 p hp k hk with h | h
          · exact .inl h
          · rcases List.mem_cons.1 h with rfl | h
            · exact .inl hmem
            · exact .inr h) h
        exact ⟨a1, fun k hk => by
          rcases List.mem_cons.1 hk with rfl | hk
          · exact a3 _ hmem
          · exact a2 k hk, a3, a4⟩
      · rename_i hany
        have hnot : g ∉ acc.map (·.1) := fun hm => by
          obtain ⟨p, hp, he⟩ := List.mem_map.1 hm
          exact hany (List.any_eq_true.2 ⟨p, hp, by simpa using he⟩)
        simp only [M.run_bind, run_lookO] at h
        cases hg : ovH H ov g with
        | none => rw [hg] at h; cases h
        | some o =>
          rw [hg] at h
          simp only [Option.bind_some] at h
          obtain ⟨a1, a2, a3, t, a4⟩ := ih (acc := (g, o) :: acc) (todo := r ++ o.keys) (fun p hp => by
            rcases List.mem_cons.1 hp with rfl | hp
            · exact hg
            · exact h1 p hp) (by rw [List.map_cons, List.nodup_cons]; exact ⟨hnot, h2⟩) (fun p hp k hk => by
            rcases List.mem_cons.1 hp with rfl | hp
            · exact .inr (List.mem_append.2 (.inr hk))
            · rcases h3 p hp k hk with h | h
              · exact .inl (by rw [List.map_cons]; exact List.mem_cons_of_mem _ h)
              · rcases List.mem_cons.1 h with rfl | h
                · exact .inl (by simp)
                · exact .inr (List.mem_append.2 (.inl h))) h
          refine ⟨a1, fun k hk => ?_, fun k hk => a3 k (by rw [List.map_cons]; exact List.mem_cons_of_mem _ hk), (g, o) :: t, by rw [a4]; simp⟩
          rcases List.mem_cons.1 hk with rfl | hk
          · exact a3 _ (by simp)
          · exact a2 k (List.mem_append.2 (.inl hk))

/-- What is asked for first comes first. -/
theorem reach_first {H : Hp} {ov : Wr} : ∀ (xs : List Nat) (n : Nat) {ys : List Nat} {acc os : Wr}, (∀ x ∈ xs, x ∉ acc.map (·.1)) → xs.Nodup → (reach ov n (xs ++ ys) acc).run H = some os → ∃ t, os.map (·.1) = (acc.map (·.1)).reverse ++ xs ++ t
  | [], n, ys, acc, os, h1, h2, h => by
    have : ∀ (n : Nat) {todo : List Nat} {acc os : Wr}, (reach ov n todo acc).run H = some os → ∃ t, os = acc.reverse ++ t := by
      intro n
      induction n with
      | zero =>
        intro todo acc os h
        cases todo with
        | nil => simp [reach] at h; exact ⟨[], by simp [h]⟩
        | cons g r => simp [reach] at h
      | succ n ih =>
        intro todo acc os h
        cases todo with
        | nil => simp [reach] at h; exact ⟨[], by simp [h]⟩
        | cons g r =>
          unfold reach at h
          split at h
          · exact ih h
          · simp only [M.run_bind, run_lookO] at h
            cases hg : ovH H ov g with
            | none => rw [hg] at h; cases h
            | some o =>
              rw [hg] at h
              simp only [Option.bind_some] at h
              obtain ⟨t, ht⟩ := ih h
              exact ⟨(g, o) :: t, by rw [ht]; simp⟩
    obtain ⟨t, ht⟩ := this n h
    exact ⟨t.map (·.1), by rw [ht]; simp⟩
  | x :: xs, n, ys, acc, os, h1, h2, h => by
    cases n with
    | zero => simp [reach] at h
    | succ n =>
      rw [List.cons_append] at h
      unfold reach at h
      have hno : acc.any (·.1 == x) = false := by
        rw [Bool.eq_false_iff]
        intro hany
        obtain ⟨p, hp, he⟩ := List.any_eq_true.1 hany
        exact h1 x (by simp) (List.mem_map.2 ⟨p, hp, by simpa using he⟩)
      rw [hno] at h
      simp only [Bool.false_eq_true, if_false, M.run_bind, run_lookO] at h
      cases hg : ovH H ov x with
      | none => rw [hg] at h; cases h
      | some o =>
        rw [hg] at h
        simp only [Option.bind_some, List.append_assoc] at h
        rw [List.nodup_cons] at h2
        obtain ⟨t, ht⟩ := reach_first xs n (acc := (x, o) :: acc) (fun y hy hm => by
          rw [List.map_cons] at hm
          rcases List.mem_cons.1 hm with rfl | hm
          · exact h2.1 hy
          · exact h1 y (by simp [hy]) hm) h2.2 h
        exact ⟨t, by rw [ht]; simp⟩
end
end Go.Ab
