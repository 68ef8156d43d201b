/- THE ABSTRACT MACHINE, sound: places, parts, lengths, conversions, structs that are built. -/
import Derived.Test.YtomomeabfnmncaaGreatBOp4
set_option linter.all false
namespace Go.Ab

section
variable {P : Program} {w : World} {F : Fz} {κ : Env}

/-- One cell, of memory that never changes. -/
theorem cells_one {v : Value} {d : D} (h : Rd w F κ v d) (ho : v.oneCell' = true) : d.cells = [d] := by
  cases h <;> first | rfl | cases ho

/-- Frozen cells. -/
def FzAt (w : World) (F : Fz) (b o : Nat) (vs : Nat → Value) (cs : List D) : Prop :=
  (∀ (j : Nat) (e : D), cs[j]? = some e → F b (o + j) ∧ w.cell? ⟨b, o + j, none⟩ = some (vs j) ∧ (vs j).oneCell' = true) ∧ ∀ (j : Nat) (e : D), cs[j]? = some e → Rd w F noEnv (vs j) e

theorem FzAt.part {b o : Nat} {vs : Nat → Value} {cs : List D} (h : FzAt w F b o vs cs) {off sz : Nat} {ag : Bool} {d : D} (hp : partD off sz ag cs = some d) (h1 : ag = false → sz = 1) (κ : Env) :
    Rd w F κ (.pointer (some ⟨b, o + off, none⟩)) (.fptr d) := by
  unfold partD at hp
  split at hp
  · rename_i hle
    cases ag with
    | true =>
      simp at hp
      subst hp
      refine .fptr _ b (o + off) _ (fun j => vs (off + j)) (fun j e he => ?_) (fun j e he => ?_)
      · simp only [D.cells] at he
        rw [List.getElem?_take] at he
        split at he
        · rw [List.getElem?_drop] at he
          have := h.1 _ e he
          rwa [show o + (off + j) = o + off + j by omega] at this
        · cases he
      · simp only [D.cells] at he
        rw [List.getElem?_take] at he
        split at he
        · rw [List.getElem?_drop] at he
          exact h.2 _ e he
        · cases he
    | false =>
      simp at hp
      have hc := cells_one (h.2 off d hp) (h.1 off d hp).2.2
      refine .fptr _ b (o + off) _ (fun j => vs (off + j)) (fun j e he => ?_) (fun j e he => ?_)
      · rw [hc] at he
        cases j with
        | zero => simp at he; subst he; simpa using h.1 off _ hp
        | succ j => simp at he
      · rw [hc] at he
        cases j with
        | zero => simp at he; subst he; simpa using h.2 off _ hp
        | succ j => simp at he
  · cases hp

theorem toFz {v : Value} {d : D} (h : Rd w F κ v (.fptr d)) : ∃ b o vs, v = .pointer (some ⟨b, o, none⟩) ∧ FzAt w F b o vs d.cells := by
  cases h with
  | fptr _ b o _ vs hv hr => exact ⟨b, o, vs, rfl, hv, hr⟩

theorem Rd.toPtr {v : Value} {g i off L : Nat} (h : Rd w F κ v (.ptr g i off L)) : ∃ b o, v = .pointer (some ⟨b, o, none⟩) ∧ ∀ k, Rd w F κ (.pointer (some ⟨b, o + k, none⟩)) (.ptr g i (off + k) L) := by
  cases h with
  | ptrr _ _ b s _ sz _ _ hk => exact ⟨b, _, rfl, fun k => by rw [Nat.add_assoc]; exact .ptrr _ g b s L sz i _ hk⟩
  | ptrb _ _ b _ _ hk => exact ⟨b, _, rfl, fun k => .ptrb _ g b _ L hk⟩
  | ptro _ _ _ _ _ k b o hk hp => exact ⟨b, o, rfl, fun k' => .ptro _ g i _ L k b _ hk hp⟩

theorem Rd.toAptr {v : Value} {g L : Nat} (h : Rd w F κ v (.aptr g L)) : ∃ b o, v = .pointer (some ⟨b, o, none⟩) := by
  cases h with
  | aptr _ _ b s _ sz hk => exact ⟨b, 0, rfl⟩
  | aptro _ _ _ k b o hk hp => exact ⟨b, o, rfl⟩

/-- The address of a field. -/
theorem fa_ok {t : TypeId} {fs : Array Field} {i : Nat} {f : Field} {sz : Nat} {ag : Bool} (hu : P.underlying t = some (.struct fs)) (hf : fs[i]? = some f) (hs : tyOf P f.type = some (sz, ag)) (hpos : 0 < sz)
    {v : Value} {x d : D} (hv : Rd w F κ v x) (h : faD f.offset sz ag x = some d) (h1 : ag = false → sz = 1) : ∃ r, (Instr.fieldAt t v i).run P w = .ok r w ∧ Rd w F κ r d := by
  have hrun : ∀ b o, (Instr.fieldAt t (.pointer (some ⟨b, o, none⟩)) i).run P w = .ok (.pointer (some ⟨b, o + f.offset, none⟩)) w := by
    intro b o
    unfold Instr.fieldAt
    simp only [Sem.run_bind, run_underlying hu, Result.andThen_ok, hf, Instr.sureAddr, Sem.run_pure]
    unfold fieldPlace
    simp only [Sem.run_bind, run_sizeOf hs, Result.andThen_ok]
    rw [if_neg (by omega)]
    simp [Addr.add_lit]
  unfold faD at h
  split at h
  · rename_i cs
    obtain ⟨d', h2, rfl⟩ := Option.map_eq_some_iff.1 h
    obtain ⟨b, o, vs, rfl, hz⟩ := toFz hv
    exact ⟨_, hrun b o, hz.part h2 h1 κ⟩
  · rename_i g i' o L
    injection h with h
    subst h
    obtain ⟨b, o', rfl, hp⟩ := hv.toPtr
    exact ⟨_, hrun b o', hp _⟩
  · cases h

/-- The address of an element. -/
theorem ia_ok {μ : Mu} {H : Hp} {Pr : Nat → Prop} (R : Rel w F μ H Pr) {t e : TypeId} {arr : Option Nat} {s : Nat} {ag : Bool} (hs : tyOf P e = some (s, ag)) (hpos : 0 < s)
    (hu : match arr with | none => P.underlying t = some (.slice e) | some n => P.underlying t = some (.array n e)) {v vi : Value} {x i d : D} (hv : Rd w F (env μ H) v x) (hi : Rd w F (env μ H) vi i)
    (h : (iaM arr s ag x i).run H = some d) (h1 : ag = false → s = 1) : ∃ r, (Instr.indexAt t v vi).run P w = .ok r w ∧ Rd w F (env μ H) r d := by
  unfold iaM at h
  split at h
  · rename_i k n
    rw [rd_int hi]
    have hsl : ∀ (b o len cap : Nat), P.underlying t = some (.slice e) → 0 ≤ n → n < len → (Instr.indexAt t (.slice (some ⟨b, o, none⟩) len cap) (.int k n)).run P w = .ok (.pointer (some ⟨b, o + n.toNat * s, none⟩)) w := by
      intro b o len cap hu h0 hn
      unfold Instr.indexAt
      simp [Sem.run_bind, asIntOf, run_underlying hu, h0, hn, run_sizeOf hs, Addr.add_lit]
    have har : ∀ (b o N : Nat), P.underlying t = some (.array N e) → 0 ≤ n → n < N → (Instr.indexAt t (.pointer (some ⟨b, o, none⟩)) (.int k n)).run P w = .ok (.pointer (some ⟨b, o + n.toNat * s, none⟩)) w := by
      intro b o N hu h0 hn
      unfold Instr.indexAt
      simp [Sem.run_bind, asIntOf, run_underlying hu, h0, hn, run_sizeOf hs, Addr.add_lit, Instr.sureAddr]
    split at h
    · rename_i c s' es
      split at h
      · rename_i hc
        obtain ⟨h0, rfl⟩ := hc
        rw [run_ofO] at h
        obtain ⟨el, h2, rfl⟩ := Option.map_eq_some_iff.1 h
        have hlt := (List.getElem?_eq_some_iff.1 h2).1
        cases hv with
        | nils => simp at hlt
        | emp _ _ _ _ _ => simp at hlt
        | slc _ b o cap _ _ _ vs hs' hcap hcc hl hvv hrr =>
          refine ⟨_, hsl b o es.length cap hu h0 (by omega), .fptr _ b _ el (fun j => vs n.toNat j) (fun j x hx => hvv _ el j x h2 hx) (fun j x hx => hrr _ el j x h2 hx)⟩
      · cases h
    · rename_i g lo len L
      simp only [M.run_bind, run_look] at h
      cases hg : H g with
      | none => rw [hg] at h; cases h
      | some ob =>
        rw [hg] at h
        simp only [Option.bind_some] at h
        split at h
        · rename_i s' es' fz
          split at h
          · rename_i hc
            obtain ⟨h0, hn, rfl, hL⟩ := hc
            simp at h
            subst h
            have hk : env μ H g = some (kiOf (μ g) (.row s' es' fz)) := by simp [env, hg]
            have hok := R.ok g _ hg
            cases hv with
            | sl _ _ b s0 _ sz _ _ o' cap hk' hn' hcap ho hsz =>
              have hs0 : s0 = s' := by
                rw [hk] at hk'
                injection hk' with hk'
                rcases hok.inv_row with ⟨hm, _⟩ | ⟨b', sz', c, el, fr, hm, hr⟩
                · rw [hm] at hk'; simp [kiOf] at hk'
                · rw [hm] at hk'
                  simp [kiOf] at hk'
                  exact hk'.2.1.symm
              subst hs0
              refine ⟨_, hsl b o' len cap hu h0 hn, ?_⟩
              rcases ho with rfl | rfl
              · have := Rd.ptrr (w := w) (F := F) (env μ H) g b s0 L sz (lo + n.toNat) 0 hk'
                rwa [show (lo + n.toNat) * s0 + 0 = lo * s0 + n.toNat * s0 by rw [Nat.add_mul]; omega] at this
              · omega
            | slv _ _ hk' => exact absurd hn (by simp; omega)
            | slo _ _ _ _ _ k _ _ hk' hp ho =>
              rw [hk] at hk'
              injection hk' with hk'
              subst hk'
              cases hm : μ g with
              | none => rw [hm] at hp; exact hp.elim
              | some q => rw [hm] at hp; obtain ⟨b, sz⟩ := q; simp [kiOf, KI.past] at hp; omega
          · cases h
        · cases h
    · rename_i N g L
      simp only [M.run_bind, run_look] at h
      cases hg : H g with
      | none => rw [hg] at h; cases h
      | some ob =>
        rw [hg] at h
        simp only [Option.bind_some] at h
        split at h
        · rename_i s' es' fz
          split at h
          · rename_i hc
            obtain ⟨h0, hn, rfl, hL, rfl⟩ := hc
            simp at h
            subst h
            have hk : env μ H g = some (kiOf (μ g) (.row s' es' fz)) := by simp [env, hg]
            have hok := R.ok g _ hg
            cases hv with
            | aptr _ _ b s0 _ sz hk' =>
              have hs0 : s0 = s' := by
                rw [hk] at hk'
                injection hk' with hk'
                rcases hok.inv_row with ⟨hm, _⟩ | ⟨b', sz', c, el, fr, hm, hr⟩
                · rw [hm] at hk'; simp [kiOf] at hk'
                · rw [hm] at hk'
                  simp [kiOf] at hk'
                  exact hk'.2.1.symm
              subst hs0
              refine ⟨_, har b 0 N hu h0 hn, ?_⟩
              have := Rd.ptrr (w := w) (F := F) (env μ H) g b s0 N sz n.toNat 0 hk'
              rwa [show n.toNat * s0 + 0 = 0 + n.toNat * s0 by omega] at this
            | aptro _ _ _ k _ _ hk' hp =>
              rw [hk] at hk'
              injection hk' with hk'
              subst hk'
              cases hm : μ g with
              | none => rw [hm] at hp; exact hp.elim
              | some q => rw [hm] at hp; obtain ⟨b, sz⟩ := q; simp [kiOf, KI.past] at hp; omega
          · cases h
        · cases h
    · rename_i N g j o L
      split at h
      · rename_i hc
        simp at h
        subst h
        obtain ⟨b, o', rfl, hp⟩ := hv.toPtr
        exact ⟨_, har b o' N hu hc.1 hc.2, hp _⟩
      · cases h
    · rename_i N cs
      split at h
      · rename_i hc
        rw [run_ofO] at h
        obtain ⟨d', h2, rfl⟩ := Option.map_eq_some_iff.1 h
        obtain ⟨b, o, vs, rfl, hz⟩ := toFz hv
        exact ⟨_, har b o N hu hc.1 hc.2, hz.part h2 h1 _⟩
      · cases h
    · cases h
  · cases h

/-- A part of a struct, or of an array, that is a value. -/
theorem run_part {t : TypeId} {sz : Nat} {ag : Bool} (hs : tyOf P t = some (sz, ag)) {vs : Array Value} {cs : List D} (h : RdL w F κ vs.toList cs) {off : Nat} {d : D} (hp : partD off sz ag cs = some d) (h1 : ag = false → sz = 1) :
    ∃ r, (part t vs off).run P w = .ok r w ∧ Rd w F κ r d := by
  have := part_val h hp h1
  unfold part
  simp only [Sem.run_bind, run_isAgg hs, Result.andThen_ok]
  cases ag with
  | true =>
    simp only [if_true] at this ⊢
    simp only [Sem.run_bind, run_sizeOf hs, Result.andThen_ok, Sem.run_pure]
    refine ⟨_, rfl, ?_⟩
    have h2 := this.1
    have e : (vs.extract off (off + sz)) = ((vs.toList.drop off).take sz).toArray := by
      apply Array.ext'
      simp [Array.toList_extract, List.extract_eq_drop_take']
    rw [e]
    exact h2
  | false =>
    simp only [Bool.false_eq_true, if_false] at this ⊢
    obtain ⟨v, h2, h3⟩ := this
    have : vs[off]? = some v := by simpa using h2
    rw [this]
    exact ⟨v, rfl, h3⟩

theorem fld_ok {t : TypeId} {fs : Array Field} {i : Nat} {f : Field} {sz : Nat} {ag : Bool} (hu : P.underlying t = some (.struct fs)) (hf : fs[i]? = some f) (hs : tyOf P f.type = some (sz, ag))
    {v : Value} {cs : List D} {d : D} (hv : Rd w F κ v (.agg cs)) (h : partD f.offset sz ag cs = some d) (h1 : ag = false → sz = 1) : ∃ r, (Instr.field t v i).run P w = .ok r w ∧ Rd w F κ r d := by
  obtain ⟨vs, rfl, hvs⟩ := hv.toAgg
  obtain ⟨r, h2, h3⟩ := run_part (P := P) hs hvs h h1
  refine ⟨r, ?_, h3⟩
  unfold Instr.field
  simp [Sem.run_bind, run_underlying hu, hf, asAgg, h2]

theorem ix_ok {t : TypeId} {kd n s : Nat} {ag : Bool} (ht : (kd = 0 ∧ P.underlying t = some .string) ∨ (kd = 1 ∧ ∃ e, P.underlying t = some (.array n e) ∧ tyOf P e = some (s, ag))) (h1 : ag = false → s = 1)
    {v vi : Value} {x i d : D} (hv : Rd w F κ v x) (hi : Rd w F κ vi i) (h : ixD kd n s ag x i = some d) : ∃ r, (Instr.index t v vi).run P w = .ok r w ∧ Rd w F κ r d := by
  unfold ixD at h
  split at h
  · rename_i k j
    rw [rd_int hi]
    split at h
    · rename_i cs
      obtain ⟨e, hu, hs⟩ : ∃ e, P.underlying t = some (.array n e) ∧ tyOf P e = some (s, ag) := by
        rcases ht with ⟨h, _⟩ | ⟨_, h⟩
        · cases h
        · exact h
      split at h
      · rename_i hc
        obtain ⟨vs, rfl, hvs⟩ := hv.toAgg
        obtain ⟨r, h2, h3⟩ := run_part (P := P) hs hvs h h1
        refine ⟨r, ?_, h3⟩
        unfold Instr.index
        simp [Sem.run_bind, asIntOf, run_underlying hu, hc.1, hc.2, run_sizeOf hs, h2]
      · cases h
    · rename_i b
      have hu : P.underlying t = some .string := by
        rcases ht with ⟨_, h⟩ | ⟨h, _⟩
        · exact h
        · cases h
      obtain ⟨p, rfl, rfl⟩ := rd_str hv
      split at h
      · rename_i h0
        obtain ⟨c, h2, rfl⟩ := Option.map_eq_some_iff.1 h
        refine ⟨.int .u8 c.toNat, ?_, .int _ _ _⟩
        unfold Instr.index
        have hc : p[j.toNat]? = some c := by
          have hlt := (List.getElem?_eq_some_iff.1 h2).1
          have hlt' : j.toNat < p.size := by rw [Array.length_toList] at hlt; exact hlt
          rw [getElem?_pos p j.toNat hlt']
          simp only [Array.getElem?_toList] at h2
          rw [Array.getElem?_eq_getElem hlt'] at h2
          exact h2
        simp [Sem.run_bind, asIntOf, run_underlying hu, h0, hc]
      · cases h
    · cases h
  · cases h

theorem len_ok {t u : TypeId} {kd : Nat} (ht : (kd = 0 ∧ P.underlying t = some .string) ∨ (kd = 1 ∧ ∃ e, P.underlying t = some (.slice e))) {v : Value} {x d : D} (hv : Rd w F κ v x) (h : lenD kd x = some d) :
    ∃ r, (Builtin.len_ #[t] u #[v]).run P w = .ok r w ∧ Rd w F κ r d := by
  unfold lenD at h
  split at h
  · rename_i b
    have hu : P.underlying t = some .string := by
      rcases ht with ⟨_, h⟩ | ⟨h, _⟩
      · exact h
      · cases h
    obtain ⟨p, rfl, rfl⟩ := rd_str hv
    injection h with h
    subst h
    refine ⟨.int .i64 p.size, ?_, ?_⟩
    · simp [Builtin.len_, Sem.run_bind, run_underlying hu, goInt]
    · have : p.data.toList.length = p.size := Array.length_toList
      rw [this]
      exact .int _ _ _
  · rename_i c s es
    obtain ⟨e, hu⟩ : ∃ e, P.underlying t = some (.slice e) := by
      rcases ht with ⟨h, _⟩ | ⟨_, h⟩
      · cases h
      · exact h
    injection h with h
    subst h
    cases hv with
    | nils => exact ⟨.int .i64 0, by simp [Builtin.len_, Sem.run_bind, run_underlying hu, goInt], .int _ _ _⟩
    | emp _ _ _ _ _ => exact ⟨.int .i64 0, by simp [Builtin.len_, Sem.run_bind, run_underlying hu, goInt], .int _ _ _⟩
    | slc _ b o cap _ _ _ vs hs' hcap hcc hl hvv hrr => exact ⟨.int .i64 es.length, by simp [Builtin.len_, Sem.run_bind, run_underlying hu, goInt], .int _ _ _⟩
  · rename_i g lo n L
    obtain ⟨e, hu⟩ : ∃ e, P.underlying t = some (.slice e) := by
      rcases ht with ⟨h, _⟩ | ⟨_, h⟩
      · cases h
      · exact h
    injection h with h
    subst h
    obtain ⟨a, cap, rfl, _⟩ := hv.slLen
    exact ⟨.int .i64 n, by simp [Builtin.len_, Sem.run_bind, run_underlying hu, goInt], .int _ _ _⟩
  · cases h

theorem min_ok {vs : List Value} {k : IntKind} {a : Int} {ds : List D} {d : D} (hs : RdL w F κ vs ds) (h : minF k a ds = some d) : ∃ r, (vs.foldlM Builtin.min2 (.int k a)).run P w = .ok r w ∧ Rd w F κ r d := by
  induction vs generalizing ds a with
  | nil =>
    have : ds = [] := List.length_eq_zero_iff.1 hs.1.symm
    subst this
    simp [minF] at h
    subst h
    exact ⟨_, rfl, .int _ _ _⟩
  | cons v vs ih =>
    cases ds with
    | nil => have := hs.1; simp at this
    | cons e ds =>
      unfold minF at h
      split at h
      · rename_i heq; cases heq
      · rename_i heq
        injection heq with h1 h2
        subst h1 h2
        have hv := hs.2 0 v _ rfl rfl
        rw [rd_int hv]
        rw [List.foldlM_cons, Sem.run_bind]
        simp only [Builtin.min2, Sem.run_pure, Result.andThen_ok]
        exact ih (by have := hs.drop 1; simpa using this) h
      · cases h

theorem max_ok {vs : List Value} {k : IntKind} {a : Int} {ds : List D} {d : D} (hs : RdL w F κ vs ds) (h : maxF k a ds = some d) : ∃ r, (vs.foldlM Builtin.max2 (.int k a)).run P w = .ok r w ∧ Rd w F κ r d := by
  induction vs generalizing ds a with
  | nil =>
    have : ds = [] := List.length_eq_zero_iff.1 hs.1.symm
    subst this
    simp [maxF] at h
    subst h
    exact ⟨_, rfl, .int _ _ _⟩
  | cons v vs ih =>
    cases ds with
    | nil => have := hs.1; simp at this
    | cons e ds =>
      unfold maxF at h
      split at h
      · rename_i heq; cases heq
      · rename_i heq
        injection heq with h1 h2
        subst h1 h2
        have hv := hs.2 0 v _ rfl rfl
        rw [rd_int hv]
        rw [List.foldlM_cons, Sem.run_bind]
        simp only [Builtin.max2, Sem.run_pure, Result.andThen_ok]
        exact ih (by have := hs.drop 1; simpa using this) h
      · cases h
end
end Go.Ab
