/- THE ABSTRACT MACHINE, sound: what is built, new variables, slices that are made, conversions, copies. -/
import Derived.Test.YtomomeabfnmncaaGreatBOp9
set_option linter.all false
namespace Go.Ab

theorem setF_eq (off : Nat) : ∀ (l : List Value) (n : Nat) (c : Array Value), off + n + l.length ≤ c.size →
    (l.zipIdx n).foldl (fun cs (p : Value × Nat) => cs.setIfInBounds (off + p.2) p.1) c = putA c (off + n) l
  | [], n, c, _ => by simp [putA_nil]
  | v :: l, n, c, h => by
    simp at h
    rw [List.zipIdx_cons, List.foldl_cons, setF_eq off l (n + 1) _ (by simp; omega), show off + (n + 1) = off + n + 1 by omega, putA_cons (by simp; omega)]

section
variable {P : Program} {w : World} {F : Fz} {κ : Env} {μ : Mu} {Pr : Nat → Prop}

/-- Values, each of one cell. -/
def RdC (w : World) (F : Fz) (κ : Env) (c : Array Value) (ds : List D) : Prop := c.size = ds.length ∧ CellsOk w F κ c 0 ds

theorem RdC.toL {c : Array Value} {ds : List D} (h : RdC w F κ c ds) : RdL w F κ c.toList ds := ⟨by simpa using h.1, fun i v d hv hd => by
  obtain ⟨x, a1, a2, a3⟩ := h.2 i d hd
  rw [Nat.zero_add] at a1
  simp at hv
  rw [hv] at a1
  injection a1 with a1
  exact a1 ▸ a3⟩

theorem ofV1_one {v : Value} {d : D} (h : ofV1 v = some d) : d.one = true ∧ d.keys = [] := by
  unfold ofV1 at h
  split at h <;> simp only [Option.some.injEq, reduceCtorEq] at h <;> subst h <;> exact ⟨rfl, rfl⟩

theorem ofV_cells {v : Value} {d : D} (h : ofV v = some d) (w : World) (F : Fz) (κ : Env) : RdC w F κ v.cells d.cells := by
  cases v with
  | agg cs =>
    simp only [ofV, Option.map_eq_some_iff] at h
    obtain ⟨ds, h1, rfl⟩ := h
    refine ⟨by have := mapO_len h1; simpa [Value.cells, D.cells] using this.symm, fun j d hd => ?_⟩
    have hlt : j < cs.size := by have := mapO_len h1; have h2 := (List.getElem?_eq_some_iff.1 hd).1; simp [D.cells] at h2; simp at this; omega
    obtain ⟨y, h2, h3⟩ := mapO_get h1 j cs[j] (by simp [hlt])
    simp [D.cells] at hd
    rw [hd] at h3
    injection h3 with h3
    subst h3
    obtain ⟨h4, h5⟩ := ofV1_ok h2 w F κ
    exact ⟨cs[j], by simp [Value.cells, hlt], h5, h4⟩
  | _ =>
    unfold ofV at h
    obtain ⟨hr, ho⟩ := ofV1_ok h w F κ
    rw [cells_one hr ho]
    refine ⟨rfl, fun j d' hd => ?_⟩
    cases j with
    | zero => simp at hd; subst hd; exact ⟨_, rfl, ho, hr⟩
    | succ j => simp at hd

/-- Parts that are put into cells. -/
theorem fill_ok {place : Nat → Option (Nat × Nat)} : ∀ {ps : List (Nat × Value)} {qs : List (Nat × Nat × D)} {c : Array Value} {cs cs' : List D}, RdC w F κ c cs → ps.length = qs.length →
    (∀ (i : Nat) (p : Nat × Value) (q : Nat × Nat × D), ps[i]? = some p → qs[i]? = some q → place p.1 = some (q.1, q.2.1) ∧ Rd w F κ p.2 q.2.2) → bldD cs qs = some cs' →
    ∃ c', Instr.fill place c ps = some c' ∧ RdC w F κ c' cs'
  | [], [], c, cs, cs', hc, _, _, h => by simp [bldD] at h; subst h; exact ⟨c, rfl, hc⟩
  | p :: ps, (off, sz, d) :: qs, c, cs, cs', hc, hl, hp, h => by
    unfold bldD at h
    split at h
    · rename_i hcc
      obtain ⟨h1, h2, h3⟩ := hcc
      obtain ⟨i, v⟩ := p
      obtain ⟨hpl, hv⟩ := hp 0 (i, v) (off, sz, d) rfl rfl
      have hv : Rd w F κ v d := hv
      obtain ⟨hcl, hone⟩ := hv.cellsL h3
      have hvl : v.cells.size = sz := by rw [← Array.length_toList, hcl.1]; exact h1
      have hcs := hc.1
      unfold Instr.fill
      simp only [hpl]
      rw [if_neg (by simp [hvl]; omega)]
      have e : (v.cells.zipIdx.foldl (fun cs (x : Value × Nat) => cs.setIfInBounds (off + x.2) x.1) c) = putA c off v.cells.toList := by
        rw [← Array.foldl_toList, Array.toList_zipIdx]
        have := setF_eq off v.cells.toList 0 c (by simp; omega)
        rw [Nat.add_zero] at this
        exact this
      rw [e]
      refine fill_ok (cs := putAt off d.cells cs) ⟨by rw [putA_size (by simp; omega), putAt_len (by omega)]; exact hcs, ?_⟩ (by simpa using hl) (fun i p q hp' hq => hp (i + 1) p q (by simpa using hp') (by simpa using hq)) h
      have := cellsOk_put (off := off) hc.2 hcl hone (by omega) (by simp; omega)
      rwa [Nat.zero_add] at this
    · cases h
  | [], _ :: _, _, _, _, _, hl, _, _ => by simp at hl
  | _ :: _, [], _, _, _, _, hl, _, _ => by simp at hl

theorem RdC.agg {c : Array Value} {cs : List D} (h : RdC w F κ c cs) : Rd w F κ (.agg c) (.agg cs) := by simpa using h.toL.agg

/-- A struct, or an array, that is built. -/
theorem bld_ok {t : TypeId} {z cs : List D} (hz : zeroOf P t = some z) {ps : List (Nat × Value)} {qs : List (Nat × Nat × D)} (hl : ps.length = qs.length)
    (hu : (∃ fs : Array Field, P.underlying t = some (.struct fs) ∧ ∀ (i : Nat) (p : Nat × Value) (q : Nat × Nat × D), ps[i]? = some p → qs[i]? = some q → Rd w F κ p.2 q.2.2 ∧ ∃ f ag, fs[p.1]? = some f ∧ tyOf P f.type = some (q.2.1, ag) ∧ q.1 = f.offset) ∨
      (∃ n e s ag, P.underlying t = some (.array n e) ∧ tyOf P e = some (s, ag) ∧ ∀ (i : Nat) (p : Nat × Value) (q : Nat × Nat × D), ps[i]? = some p → qs[i]? = some q → Rd w F κ p.2 q.2.2 ∧ q.1 = p.1 * s ∧ q.2.1 = s))
    (hfs : ∀ fs : Array Field, P.underlying t = some (.struct fs) → ∀ f ∈ fs, (tyOf P f.type).isSome = true)
    (h : bldD z qs = some cs) : ∃ r, (Instr.build t ps.toArray).run P w = .ok r w ∧ Rd w F κ r (.agg cs) := by
  obtain ⟨i, zv, zd, hi, hzv, hzd, rfl⟩ := zeroOf_ok hz
  have hzc := ofV_cells hzd w F κ
  rcases hu with ⟨fs, hu, hp⟩ | ⟨n, e, s, ag, hu, hs, hp⟩
  · obtain ⟨places, hpl⟩ : ∃ places, fs.toList.mapM (fun f => (P.info? f.type).map fun i => (f.offset, i.size)) = some places := by
      have : ∀ l : List Field, (∀ f ∈ l, (tyOf P f.type).isSome = true) → ∃ places, l.mapM (fun f => (P.info? f.type).map fun i => (f.offset, i.size)) = some places := by
        intro l
        induction l with
        | nil => intro _; exact ⟨[], by simp⟩
        | cons f l ih =>
          intro h
          obtain ⟨q, hq⟩ := Option.isSome_iff_exists.1 (h f (by simp))
          obtain ⟨i', h1, h2⟩ := tyOf_und (n := q.1) (ag := q.2) hq
          obtain ⟨pl, h3⟩ := ih (fun x hx => h x (by simp [hx]))
          exact ⟨(f.offset, i'.size) :: pl, by simp [List.mapM_cons, h1, h3]⟩
      exact this fs.toList (fun f hf => hfs fs hu f (by simpa using hf))
    have hget : ∀ (l : List Field) (places : List (Nat × Nat)), l.mapM (fun f => (P.info? f.type).map fun i => (f.offset, i.size)) = some places → ∀ (k : Nat) (f : Field), l[k]? = some f → ∀ sz ag, tyOf P f.type = some (sz, ag) → places[k]? = some (f.offset, sz) := by
      intro l
      induction l with
      | nil => intro _ _ k f hf; simp at hf
      | cons g l ih =>
        intro places hm k f hf sz ag hty
        simp only [List.mapM_cons, Option.bind_eq_bind, Option.pure_def] at hm
        cases hg : P.info? g.type with
        | none => simp [hg] at hm
        | some ig =>
          cases hr : l.mapM (fun f => (P.info? f.type).map fun i => (f.offset, i.size)) with
          | none => simp [hg, hr] at hm
          | some rest =>
            simp [hg, hr] at hm
            subst hm
            cases k with
            | zero =>
              simp at hf
              subst hf
              obtain ⟨i', h1, h2⟩ := tyOf_und hty
              rw [hg] at h1
              injection h1 with h1
              simp [h1, h2]
            | succ k => simpa using ih rest hr k f (by simpa using hf) sz ag hty
    obtain ⟨c', h1, h2⟩ := fill_ok (place := fun x => places.toArray[x]?) hzc hl (fun i p q hp' hq => by
      obtain ⟨a1, f, ag, a2, a3, a4⟩ := hp i p q hp' hq
      refine ⟨?_, a1⟩
      have := hget fs.toList places hpl p.1 f (by simpa using a2) _ ag a3
      simpa [a4] using this) h
    refine ⟨.agg c', run_build w t ps.toArray c' ?_, h2.agg⟩
    simp [Program.built, hi, hu, hzv, hpl]
    simpa using h1
  · obtain ⟨i', hi', hs'⟩ := tyOf_und hs
    obtain ⟨c', h1, h2⟩ := fill_ok (place := fun i => some (i * i'.size, i'.size)) hzc hl (fun i p q hp' hq => by
      obtain ⟨a1, a2, a3⟩ := hp i p q hp' hq
      exact ⟨by rw [a2, a3, hs'], a1⟩) h
    refine ⟨.agg c', run_build w t ps.toArray c' ?_, h2.agg⟩
    simp [Program.built, hi, hu, hzv, hi']
    exact h1

/-! ### New variables -/

theorem isNil_rd {v : Value} {d : D} (h : Rd w F κ v d) (hn : d.isNil = true) : v = .slice none 0 0 := by
  unfold D.isNil at hn
  split at hn
  · cases h with
    | nils => rfl
    | emp _ _ _ _ hs => exact absurd hs (by omega)
    | slc _ b o cap _ _ _ vs hs => exact absurd hs (by omega)
  · cases hn

theorem upd_comm {α : Type} (f : Nat → α) {g k : Nat} (a b : α) (h : g ≠ k) : upd (upd f g a) k b = upd (upd f k b) g a := by
  funext x
  by_cases h1 : x = g <;> by_cases h2 : x = k <;> simp_all [upd]

theorem virt_len (nk : Nat) (cs : List D) : (virt nk cs).1.length = cs.length := by
  induction cs generalizing nk with
  | nil => rfl
  | cons d r ih => unfold virt; split <;> simp [ih]

theorem virt_keys (nk : Nat) (cs : List D) : ∀ p ∈ (virt nk cs).2, nk ≤ p.1 ∧ p.1 < nk + (virt nk cs).2.length := by
  induction cs generalizing nk with
  | nil => intro p hp; cases hp
  | cons d r ih =>
    intro p hp
    unfold virt at hp ⊢
    split at hp
    · rename_i hd
      simp only [hd, if_true]
      simp at hp ⊢
      rcases hp with rfl | hp
      · simp
      · have := ih (nk + 1) p hp; omega
    · rename_i hd
      simp only [hd]
      exact ih nk p hp

/-- nil slices in new cells become rows of their own. -/
theorem virt_ok {H : Hp} : ∀ {cs : List D} {nk : Nat} {μ : Mu} {H : Hp} {c : Array Value} {o : Nat}, Rel w F μ H Pr → (∀ k, nk ≤ k → k < nk + (virt nk cs).2.length → H k = none) → CellsOk w F (env μ H) c o cs →
    ∃ μ', Nx Pr w F μ H w F μ' (H.app (virt nk cs).2) ∧ CellsOk w F (env μ' (H.app (virt nk cs).2)) c o (virt nk cs).1
  | [], nk, μ, H, c, o, R, hf, hc => ⟨μ, Nx.refl R, fun j d hd => by simp [virt] at hd⟩
  | d :: r, nk, μ, H, c, o, R, hf, hc => by
    have htail : CellsOk w F (env μ H) c (o + 1) r := fun j e he => by
      have := hc (j + 1) e (by simpa using he)
      rwa [show o + (j + 1) = o + 1 + j by omega] at this
    obtain ⟨v, a1, a2, a3⟩ := hc 0 d rfl
    unfold virt at hf ⊢
    split
    · rename_i hd
      simp only [hd, if_true] at hf
      simp at hf
      have n1 := Nx.newV R (g := nk) (hf nk (Nat.le_refl _) (by omega))
      obtain ⟨μ', n2, h2⟩ := virt_ok (H := H) (nk := nk + 1) (cs := r) n1.rel (fun k h1 h2 => by
        rw [upd_ne _ _ (by omega)]
        exact hf k (by omega) (by omega)) (htail.mono n1.stp.fle n1.kle)
      refine ⟨μ', ?_, fun j e he => ?_⟩
      · rw [app_upd]; exact n1.trans n2
      · rw [app_upd]
        cases j with
        | zero =>
          simp at he
          subst he
          refine ⟨v, a1, a2, ?_⟩
          rw [isNil_rd a3 hd]
          have : Rd w F (env (upd μ nk none) (upd H nk (some (.row 0 [] 0)))) (.slice none 0 0) (.sl nk 0 0 0) := .slv _ nk (by rw [env_upd_same]; rfl)
          exact this.mono n2.stp.fle n2.kle
        | succ j =>
          have := h2 j e (by simpa using he)
          rwa [show o + 1 + j = o + (j + 1) by omega] at this
    · rename_i hd
      simp only [hd] at hf
      obtain ⟨μ', n2, h2⟩ := virt_ok (H := H) (nk := nk) (cs := r) R hf htail
      refine ⟨μ', n2, fun j e he => ?_⟩
      cases j with
      | zero =>
        simp at he
        subst he
        exact ⟨v, a1, a2, a3.mono n2.stp.fle n2.kle⟩
      | succ j =>
        have := h2 j e (by simpa using he)
        rwa [show o + 1 + j = o + (j + 1) by omega] at this

/-- A new variable of some cells. -/
theorem mkBox_ok {H : Hp} (R : Rel w F μ H Pr) {v : Bool} {nk : Nat} {cs : List D} {c : Array Value} {el : TypeId} (hf : ∀ p ∈ (mkBox v nk cs).2, H p.1 = none) (hc : RdC w F (env μ H) c cs) {w' : World} (A : Alloc w w' (.cells c el)) :
    ∃ F' μ', Nx Pr w F μ H w' F' μ' (H.app (mkBox v nk cs).2) ∧ Rd w' F' (env μ' (H.app (mkBox v nk cs).2)) (.pointer (some ⟨w.heap.size, 0, none⟩)) (mkBox v nk cs).1 := by
  unfold mkBox at hf ⊢
  cases v with
  | false =>
    simp only [Bool.false_eq_true, if_false] at hf ⊢
    refine ⟨F, _, by rw [app_upd, app_nil]; exact Nx.newBox R A (fun o _ h => by simp at h) (hf (nk, .box cs) (by simp)) hc.1.symm hc.2, ?_⟩
    rw [app_upd, app_nil]
    exact .ptrb _ nk w.heap.size 0 0 (by rw [env_upd_same]; rfl)
  | true =>
    simp only [if_true] at hf ⊢
    have hfv : ∀ k, nk ≤ k → k < nk + (virt nk cs).2.length → H k = none := by
      have : ∀ (cs : List D) (nk : Nat) (k : Nat), nk ≤ k → k < nk + (virt nk cs).2.length → ∃ p ∈ (virt nk cs).2, p.1 = k := by
        intro cs
        induction cs with
        | nil => intro nk k h1 h2; simp [virt] at h2; omega
        | cons d r ih =>
          intro nk k h1 h2
          unfold virt at h2 ⊢
          split
          · rename_i hd
            simp only [hd, if_true] at h2
            by_cases hk : k = nk
            · exact ⟨_, List.mem_cons_self, hk.symm⟩
            · obtain ⟨p, hp, e⟩ := ih (nk + 1) k (by omega) (by simp at h2; omega)
              exact ⟨p, List.mem_cons_of_mem _ hp, e⟩
          · rename_i hd
            simp only [hd] at h2
            exact ih nk k h1 (by simpa using h2)
      intro k h1 h2
      obtain ⟨p, hp, rfl⟩ := this cs nk k h1 h2
      exact hf p (by simp [hp])
    obtain ⟨μ1, n1, h1⟩ := virt_ok (H := H) R hfv hc.2
    have hnone : (H.app (virt nk cs).2) (nk + (virt nk cs).2.length) = none := by
      have : ∀ (wr : Wr) (H : Hp) (k : Nat), H k = none → (∀ p ∈ wr, p.1 ≠ k) → H.app wr k = none := by
        intro wr
        induction wr with
        | nil => intro H k h _; exact h
        | cons p wr ih =>
          intro H k h hp
          obtain ⟨g, o⟩ := p
          rw [app_upd]
          exact ih _ k (by rw [upd_ne _ _ (fun e => hp (g, o) (by simp) e.symm)]; exact h) (fun p hp' => hp p (by simp [hp']))
      exact this _ H _ (hf (nk + (virt nk cs).2.length, .box (virt nk cs).1) (by simp)) (fun p hp => by have := virt_keys nk cs p hp; omega)
    refine ⟨F, upd μ1 (nk + (virt nk cs).2.length) (some (w.heap.size, c.size)), ?_, ?_⟩
    · rw [app_append, app_upd, app_nil]
      exact n1.trans (Nx.newBox n1.rel A (fun o _ h => by simp at h) hnone (by rw [virt_len]; exact hc.1.symm) h1)
    · rw [app_append, app_upd, app_nil]
      exact .ptrb _ _ w.heap.size 0 0 (by rw [env_upd_same]; rfl)
end
end Go.Ab
