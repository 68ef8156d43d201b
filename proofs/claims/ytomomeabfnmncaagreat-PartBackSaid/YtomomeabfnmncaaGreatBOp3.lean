/- THE ABSTRACT MACHINE, sound: what is read: elements, parts, cuts, lengths, texts out of bytes. -/
import Derived.Test.YtomomeabfnmncaaGreatBOp2
import Derived.Laws.BytesString
set_option linter.all false
namespace Go.Ab

theorem flat_len {s : Nat} : ∀ {es : List D}, (∀ e ∈ es, e.cells.length = s) → (es.flatMap D.cells).length = es.length * s
  | [], _ => by simp
  | e :: es, h => by
    rw [List.flatMap_cons, List.length_append, h e (by simp), flat_len (fun x hx => h x (by simp [hx])), List.length_cons, Nat.succ_mul]; omega

theorem flat_get {s : Nat} : ∀ {es : List D}, (∀ e ∈ es, e.cells.length = s) → ∀ {j : Nat} {d : D}, (es.flatMap D.cells)[j]? = some d → ∃ (i : Nat) (e : D) (k : Nat), es[i]? = some e ∧ e.cells[k]? = some d ∧ j = i * s + k ∧ k < s
  | [], _, j, d, h => by simp at h
  | e :: es, hl, j, d, h => by
    rw [List.flatMap_cons] at h
    have he := hl e (by simp)
    by_cases hj : j < s
    · rw [List.getElem?_append_left (by omega)] at h
      exact ⟨0, e, j, rfl, h, by omega, hj⟩
    · rw [List.getElem?_append_right (by omega)] at h
      obtain ⟨i, x, k, h1, h2, h3, h4⟩ := flat_get (fun x hx => hl x (by simp [hx])) h
      exact ⟨i + 1, x, k, by simpa using h1, h2, by rw [Nat.succ_mul]; omega, h4⟩

theorem flat_at {s : Nat} {es : List D} (hl : ∀ e ∈ es, e.cells.length = s) {i : Nat} {e : D} (he : es[i]? = some e) {k : Nat} {d : D} (hk : e.cells[k]? = some d) : (es.flatMap D.cells)[i * s + k]? = some d := by
  induction es generalizing i with
  | nil => simp at he
  | cons x es ih =>
    rw [List.flatMap_cons]
    have hx := hl x (by simp)
    cases i with
    | zero =>
      simp at he
      subst he
      have := (List.getElem?_eq_some_iff.1 hk).1
      rw [List.getElem?_append_left (by omega)]
      simpa using hk
    | succ i =>
      rw [List.getElem?_append_right (by rw [Nat.succ_mul]; omega)]
      have := ih (fun y hy => hl y (by simp [hy])) (by simpa using he)
      rwa [show (i + 1) * s + k - x.cells.length = i * s + k by rw [Nat.succ_mul]; omega]

section
variable {P : Program} {w : World} {F : Fz} {κ : Env}

theorem cell_of_heap {w : World} {b o : Nat} {c : Array Value} {el : TypeId} {fr : Nat × Nat} (h : w.heap[b]? = some (.cells c el fr)) : w.cell? ⟨b, o, none⟩ = c[o]? := by
  simp [World.cell?, h]

theorem ObjOk.inv_row {m : Option (Nat × Nat)} {s : Nat} {es : List D} {fz : Nat} (h : ObjOk w F κ m (.row s es fz)) : (m = none ∧ es = []) ∨ ∃ b sz c el fr, m = some (b, sz) ∧ RowAt w F b sz s es fz c el fr := by
  generalize ho : Obj.row s es fz = o at h
  cases h with
  | vrow s' => injection ho with _ h1 _; exact .inl ⟨rfl, h1⟩
  | row b sz s' es' fz' c el fr hr => injection ho with h1 h2 h3; subst h1 h2 h3; exact .inr ⟨b, sz, c, el, fr, rfl, hr⟩
  | box => cases ho
  | mp => cases ho
theorem ObjOk.fz0 {s : Nat} {es : List D} {fz : Nat} (h : ObjOk w F κ none (.row s es fz)) : fz = 0 := by
  generalize ho : Obj.row s es fz = o at h
  generalize hm : (none : Option (Nat × Nat)) = m at h
  cases h with
  | vrow s' => injection ho
  | row => cases hm
  | box => cases hm
  | mp => cases hm
theorem ObjOk.inv_box {m : Option (Nat × Nat)} {cs : List D} (h : ObjOk w F κ m (.box cs)) : ∃ b sz c el fr, m = some (b, sz) ∧ BoxAt w F κ b sz cs c el fr := by
  generalize ho : Obj.box cs = o at h
  cases h with
  | vrow s' => cases ho
  | row => cases ho
  | box b sz cs' c el fr hb => injection ho with h1; subst h1; exact ⟨b, sz, c, el, fr, rfl, hb⟩
  | mp => cases ho
theorem ObjOk.inv_mp {m : Option (Nat × Nat)} {es : List (D × D)} (h : ObjOk w F κ m (.mp es)) : ∃ b sz ms ck, m = some (b, sz) ∧ MpAt w F b es ms ck := by
  generalize ho : Obj.mp es = o at h
  cases h with
  | vrow s' => cases ho
  | row => cases ho
  | box => cases ho
  | mp b sz es' ms ck hb => injection ho with h1; subst h1; exact ⟨b, sz, ms, ck, rfl, hb⟩

/-- What a slice holds, in memory. -/
def SlAt (w : World) (F : Fz) (v : Value) (s : Nat) (es : List D) : Prop :=
  ((∃ A, v = .slice A 0 0) ∧ es = []) ∨ ∃ b o cap vs, v = .slice (some ⟨b, o, none⟩) es.length cap ∧ es.length ≤ cap ∧ 0 < s ∧ (∀ e ∈ es, e.cells.length = s) ∧ MemAt w F noEnv b o vs (es.flatMap D.cells)

theorem RowAt.mem {b sz s : Nat} {es : List D} {fz : Nat} {c : Array Value} {el : TypeId} {fr : Nat × Nat} (h : RowAt w F b sz s es fz c el fr) {i : Nat} {e : D} (he : es[i]? = some e) : ∃ vs, MemAt w F noEnv b (i * s) vs e.cells :=
  MemAt.of fun j d hd => by
    obtain ⟨v, h1, h2, h3⟩ := h.cells i e he j d hd
    exact ⟨v, by rw [cell_of_heap h.heap]; exact h1, h2, h3⟩

theorem BoxAt.mem {b sz : Nat} {cs : List D} {c : Array Value} {el : TypeId} {fr : Nat × Nat} (h : BoxAt w F κ b sz cs c el fr) : ∃ vs, MemAt w F κ b 0 vs cs :=
  MemAt.of fun j d hd => by
    obtain ⟨v, h1, h2, h3⟩ := h.cells j d hd
    exact ⟨v, by rw [cell_of_heap h.heap]; exact h1, h2, h3⟩

theorem drop_take_get {α : Type} {l : List α} {a b i : Nat} {x : α} (h : ((l.take b).drop a)[i]? = some x) : l[a + i]? = some x ∧ a + i < b := by
  rw [List.getElem?_drop, List.getElem?_take] at h
  split at h
  · exact ⟨h, by assumption⟩
  · cases h

theorem esM_ok {μ : Mu} {H : Hp} {Pr : Nat → Prop} (R : Rel w F μ H Pr) {v : Value} {d : D} {s : Nat} {es : List D} (hv : Rd w F (env μ H) v d) (h : (esM d).run H = some (s, es)) : SlAt w F v s es := by
  unfold esM at h
  split at h
  · rename_i c s' es'
    simp at h
    obtain ⟨rfl, rfl⟩ := h
    cases hv with
    | nils => exact .inl ⟨⟨_, rfl⟩, rfl⟩
    | emp _ a _ _ _ => exact .inl ⟨⟨_, rfl⟩, rfl⟩
    | slc _ b o cap _ _ _ vs hs hcap hc hl hv hr =>
      refine .inr ?_
      obtain ⟨us, hus⟩ := MemAt.of (w := w) (F := F) (κ := noEnv) (b := b) (o := o) (cs := es'.flatMap D.cells) (fun j d hd => by
        obtain ⟨i, e, k, h1, h2, rfl, h4⟩ := flat_get hl hd
        obtain ⟨a1, a2, a3⟩ := hv i e k d h1 h2
        exact ⟨vs i k, by rw [show o + (i * s' + k) = o + i * s' + k by omega]; exact a2, a3, hr i e k d h1 h2⟩)
      exact ⟨b, o, cap, us, rfl, hcap, hs, hl, hus⟩
  · rename_i g lo n L
    simp only [M.run_bind, run_look] at h
    cases hg : H g with
    | none => rw [hg] at h; cases h
    | some ob =>
      rw [hg] at h
      cases ob with
      | row s' es' fz =>
        simp only [Option.bind_some] at h
        split at h
        · rename_i hc
          obtain ⟨h1, h2⟩ := hc
          simp at h
          obtain ⟨rfl, rfl⟩ := h
          have hk : env μ H g = some (kiOf (μ g) (.row s' es' fz)) := by simp [env, hg]
          have hok := R.ok g _ hg
          cases hv with
          | sl _ _ b s L sz _ _ o cap hk' hn hcap ho hsz =>
            rw [hk] at hk'
            revert hok hk'
            cases hm : μ g with
            | none => intro _ hk'; simp [kiOf] at hk'
            | some p =>
              obtain ⟨b', sz'⟩ := p
              intro hok hk'
              simp [kiOf] at hk'
              obtain ⟨rfl, rfl, hL, rfl⟩ := hk'
              rcases hok.inv_row with ⟨hm', _⟩ | ⟨b2, sz2, c, el, fr, hm', hr⟩
              · cases hm'
              · injection hm' with hm'
                injection hm' with hm1 hm2
                subst hm1 hm2
                refine .inr ?_
                have hl : ∀ e ∈ (es'.take (lo + n)).drop lo, e.cells.length = s' := fun e he => hr.len e (List.mem_of_mem_take (List.mem_of_mem_drop he))
                have hlen : ((es'.take (lo + n)).drop lo).length = n := by simp; omega
                rcases ho with rfl | rfl
                · obtain ⟨us, hus⟩ := MemAt.of (w := w) (F := F) (κ := noEnv) (b := b') (o := lo * s') (cs := ((es'.take (lo + n)).drop lo).flatMap D.cells) (fun j d hd => by
                    obtain ⟨i, e, k, h1, h2, rfl, h4⟩ := flat_get hl hd
                    obtain ⟨h5, h6⟩ := drop_take_get h1
                    obtain ⟨v, a1, a2, a3⟩ := hr.cells (lo + i) e h5 k d h2
                    refine ⟨v, ?_, a2, a3⟩
                    rw [cell_of_heap hr.heap, show lo * s' + (i * s' + k) = (lo + i) * s' + k by rw [Nat.add_mul]; omega]
                    exact a1)
                  exact ⟨b', _, cap, us, by rw [hlen], by omega, hr.pos, hl, hus⟩
                · have hn0 : n = 0 := by omega
                  subst hn0
                  refine ⟨b', o, 0, [], by rw [hlen], by omega, hr.pos, hl, ?_⟩
                  rw [List.length_eq_zero_iff.1 hlen]
                  exact ⟨RdL.nil, fun j v h => by simp at h⟩
          | slv _ _ hk' =>
            rw [hk] at hk'
            cases hm : μ g with
            | none =>
              rw [hm] at hok
              rcases hok.inv_row with ⟨_, he⟩ | ⟨b2, sz2, c, el, fr, hm', hr⟩
              · exact .inl ⟨⟨_, rfl⟩, by rw [he]; simp⟩
              · cases hm'
            | some p => rw [hm] at hk'; simp [kiOf] at hk'
          | slo _ _ _ _ _ k _ _ hk' hp ho =>
            rw [hk] at hk'
            injection hk' with hk'
            subst hk'
            cases hm : μ g with
            | none => rw [hm] at hp; exact hp.elim
            | some p => rw [hm] at hp; obtain ⟨b, sz⟩ := p; simp [kiOf, KI.past] at hp; omega
        · cases h
      | box cs => cases h
      | mp es => cases h
  · cases h

/-! ### Loads -/

theorem wholeOf_part {cs : List D} {ag : Option Nat} {d : D} (h : wholeOf cs ag = some d) : partD 0 (ag.getD 1) ag.isSome cs = some d := by
  unfold wholeOf at h
  cases ag with
  | none =>
    simp only at h
    split at h
    · injection h with h; subst h; simp [partD]
    · cases h
  | some n =>
    simp only at h
    split at h
    · rename_i hl
      injection h with h
      subst h
      unfold partD
      simp only [Option.isSome_some, if_true, List.drop_zero, Option.getD_some]
      rw [if_pos (show 0 + n ≤ cs.length by omega)]
      rw [List.take_of_length_le (by omega)]
    · cases h

theorem agOf_ty {t : TypeId} {ag : Option Nat} (h : agOf P t = some ag) : ∃ n b, tyOf P t = some (n, b) ∧ ag = (if b then some n else none) := by
  unfold agOf at h
  obtain ⟨p, h1, h2⟩ := Option.map_eq_some_iff.1 h
  exact ⟨p.1, p.2, h1, h2.symm⟩

theorem load_mem {t : TypeId} {ag : Option Nat} (ht : agOf P t = some ag) {b o off : Nat} {vs : List Value} {cs : List D} (hm : MemAt w F κ b o vs cs) {d : D} (hp : partD off (ag.getD 1) ag.isSome cs = some d) :
    ∃ v, (loadVar t ⟨b, o + off, none⟩).run P w = .ok v w ∧ Rd w F κ v d := by
  obtain ⟨n, bb, h1, rfl⟩ := agOf_ty ht
  cases bb with
  | true => exact run_loadVar hm h1 (by simpa using hp)
  | false => exact run_loadVar hm h1 (by simpa using hp)

theorem ld_ok {μ : Mu} {H : Hp} {Pr : Nat → Prop} (R : Rel w F μ H Pr) {t : TypeId} {ag : Option Nat} (ht : agOf P t = some ag) {v : Value} {p d : D} (hv : Rd w F (env μ H) v p) (h : (ldM ag p).run H = some d) :
    ∃ r, (Instr.loadAt t v).run P w = .ok r w ∧ Rd w F (env μ H) r d := by
  unfold ldM at h
  split at h
  · rename_i d0
    rw [run_ofO] at h
    cases hv with
    | fptr _ b o _ vs hv hr =>
      obtain ⟨us, hus⟩ := MemAt.of (w := w) (F := F) (κ := noEnv) (b := b) (o := o) (cs := d0.cells) (fun j e he => ⟨vs j, (hv j e he).2.1, (hv j e he).2.2, hr j e he⟩)
      obtain ⟨r, h1, h2⟩ := load_mem (P := P) ht hus (wholeOf_part h)
      exact ⟨r, by simpa [Instr.loadAt, Instr.sureAddr] using h1, h2.mono (FLe.refl _ _) (KLe.none _)⟩
  · rename_i g i off L
    simp only [M.run_bind, run_look] at h
    cases hg : H g with
    | none => rw [hg] at h; cases h
    | some ob =>
      rw [hg] at h
      simp only [Option.bind_some, run_ofO] at h
      have hk : env μ H g = some (kiOf (μ g) ob) := by simp [env, hg]
      have hok := R.ok g _ hg
      cases hv with
      | ptrr _ _ b s L sz i off hk' =>
        rw [hk] at hk'
        injection hk' with hk'
        cases ob with
        | mp es => obtain ⟨b', sz', ms, ck, hm, hb⟩ := hok.inv_mp; rw [hm] at hk'; simp [kiOf] at hk'
        | box cs => obtain ⟨b', sz', c, el, fr, hm, hb⟩ := hok.inv_box; rw [hm] at hk'; simp [kiOf] at hk'
        | row s' es fz =>
          rcases hok.inv_row with ⟨hm, _⟩ | ⟨b', sz', c, el, fr, hm, hr⟩ <;> rw [hm] at hk' <;> simp [kiOf] at hk'
          obtain ⟨rfl, rfl, rfl, rfl⟩ := hk'
          simp only [ldO, if_true] at h
          cases he : es[i]? with
          | none => rw [he] at h; cases h
          | some e =>
            rw [he] at h
            obtain ⟨us, hus⟩ := hr.mem he
            obtain ⟨r, h1, h2⟩ := load_mem (P := P) ht hus h
            exact ⟨r, by simpa [Instr.loadAt, Instr.sureAddr] using h1, h2.mono (FLe.refl _ _) (KLe.none _)⟩
      | ptrb _ _ b off L hk' =>
        rw [hk] at hk'
        injection hk' with hk'
        cases ob with
        | mp es => obtain ⟨b', sz', ms, ck, hm, hb⟩ := hok.inv_mp; rw [hm] at hk'; simp [kiOf] at hk'
        | row s' es fz =>
          rcases hok.inv_row with ⟨hm, _⟩ | ⟨b', sz', c, el, fr, hm, hr⟩ <;> rw [hm] at hk' <;> simp [kiOf] at hk'
        | box cs =>
          obtain ⟨b', sz', c, el, fr, hm, hb⟩ := hok.inv_box
          rw [hm] at hk'
          simp [kiOf] at hk'
          subst hk'
          simp only [ldO, if_true] at h
          obtain ⟨us, hus⟩ := hb.mem
          obtain ⟨r, h1, h2⟩ := load_mem (P := P) ht hus h
          exact ⟨r, by simpa [Instr.loadAt, Instr.sureAddr] using h1, h2⟩
      | ptro _ _ _ _ _ k _ _ hk' hp =>
        rw [hk] at hk'
        injection hk' with hk'
        subst hk'
        cases ob with
        | row s es fz =>
          simp only [ldO] at h
          split at h
          · cases hm : μ g with
            | none => rw [hm] at hp; exact hp.elim
            | some q => rw [hm] at hp; obtain ⟨b, sz⟩ := q; simp [kiOf, KI.past] at hp; omega
          · cases h
        | box cs => cases hm : μ g <;> rw [hm] at hp <;> exact hp.elim
        | mp es => cases hm : μ g <;> rw [hm] at hp <;> exact hp.elim
  · rename_i g L
    simp only [M.run_bind, run_look] at h
    cases hg : H g with
    | none => rw [hg] at h; cases h
    | some ob =>
      rw [hg] at h
      simp only [Option.bind_some] at h
      have hk : env μ H g = some (kiOf (μ g) ob) := by simp [env, hg]
      have hok := R.ok g _ hg
      cases ob with
      | box cs => cases h
      | mp es => cases h
      | row s' es fz =>
        simp only at h
        split at h
        · rename_i hL
          rw [run_ofO] at h
          cases hv with
          | aptr _ _ b s L sz hk' =>
            rw [hk] at hk'
            injection hk' with hk'
            rcases hok.inv_row with ⟨hm, _⟩ | ⟨b', sz', c, el, fr, hm, hr⟩
            · rw [hm] at hk'; simp [kiOf] at hk'
            · rw [hm] at hk'
              simp [kiOf] at hk'
              obtain ⟨rfl, rfl, _, rfl⟩ := hk'
              obtain ⟨us, hus⟩ := MemAt.of (w := w) (F := F) (κ := noEnv) (b := b') (o := 0) (cs := es.flatMap D.cells) (fun j d hd => by
                obtain ⟨i, e, k, h1, h2, rfl, h4⟩ := flat_get hr.len hd
                obtain ⟨v, a1, a2, a3⟩ := hr.cells i e h1 k d h2
                exact ⟨v, by rw [cell_of_heap hr.heap, Nat.zero_add]; exact a1, a2, a3⟩)
              obtain ⟨r, h1, h2⟩ := load_mem (P := P) ht hus (wholeOf_part h)
              exact ⟨r, by simpa [Instr.loadAt, Instr.sureAddr] using h1, h2.mono (FLe.refl _ _) (KLe.none _)⟩
          | aptro _ _ _ k _ _ hk' hp =>
            rw [hk] at hk'
            injection hk' with hk'
            subst hk'
            cases hm : μ g with
            | none => rw [hm] at hp; exact hp.elim
            | some q => rw [hm] at hp; obtain ⟨b, sz⟩ := q; simp [kiOf, KI.past] at hp; omega
        · cases h
  · cases h
end
end Go.Ab
