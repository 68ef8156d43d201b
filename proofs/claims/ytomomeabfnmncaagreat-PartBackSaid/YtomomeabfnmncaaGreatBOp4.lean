/- THE ABSTRACT MACHINE, sound: cuts, places, parts, lengths, conversions, structs that are built. -/
import Derived.Test.YtomomeabfnmncaaGreatBOp3
import Derived.Laws.Tables
set_option linter.all false
namespace Go.Ab

section
variable {P : Program} {w : World} {F : Fz} {κ : Env}

/-- Operands that may be left out. -/
def RdO (w : World) (F : Fz) (κ : Env) (v : Option Value) (d : Option D) : Prop := (v = none ∧ d = none) ∨ ∃ a b, v = some a ∧ d = some b ∧ Rd w F κ a b

theorem cXo_ok {o : Option Operand} {x : Option X} (h : cXo o = some x) {a : Act} {T : List D} (hT : RdT w F κ a.tmps T) : RdO w F κ (o.map a.eval) (x.map (X.ev T)) := by
  cases o with
  | none => simp [cXo] at h; subst h; exact .inl ⟨rfl, rfl⟩
  | some o =>
    simp only [cXo, Option.map_eq_some_iff] at h
    obtain ⟨y, h1, rfl⟩ := h
    exact .inr ⟨_, _, rfl, rfl, cX_ok h1 hT⟩

theorem bound_ok {v : Value} {d : D} {n : Int} (hv : Rd w F κ v d) (h : bound d = some n) : ∃ k, v = .int k n := by
  unfold bound at h
  split at h
  · rename_i k m
    injection h with h
    subst h
    exact ⟨k, rd_int hv⟩
  · cases h

theorem sliceBound_ok {v : Value} {d : D} {n : Int} (hv : Rd w F κ v d) (h : bound d = some n) {y : Nat} (h0 : 0 ≤ n) (hy : n ≤ y) (code : BoundsCode) : (Instr.sliceBound v y code).run P w = .ok n.toNat w := by
  obtain ⟨k, rfl⟩ := bound_ok hv h
  simp [Instr.sliceBound, asIntOf, h0, hy]

theorem cutB_ok {lim lim' : Nat} {dflt : Option Nat} {v : Option Value} {d : Option D} (hv : RdO w F κ v d) {n : Nat} (h : cutB lim dflt d = some n) (hl : lim ≤ lim') :
    (d = none ∧ v = none ∧ dflt = some n) ∨ (n ≤ lim ∧ d ≠ none ∧ ∃ a, v = some a ∧ ∀ code, (Instr.sliceBound a lim' code).run P w = .ok n w) := by
  rcases hv with ⟨rfl, rfl⟩ | ⟨a, b, rfl, rfl, hab⟩
  · exact .inl ⟨rfl, rfl, h⟩
  · refine .inr ?_
    unfold cutB at h
    cases hb : bound b with
    | none => simp [hb] at h
    | some m =>
      simp only [hb] at h
      split at h
      · rename_i hm
        injection h with h
        subst h
        exact ⟨by omega, by simp, a, rfl, fun code => sliceBound_ok hab hb hm.1 (by omega) code⟩
      · cases h

/-- The bounds of a cut. -/
theorem cut_ok {len cap : Nat} {lo hi mx : Option D} {vlo vhi vmx : Option Value} (h1 : RdO w F κ vlo lo) (h2 : RdO w F κ vhi hi) (h3 : RdO w F κ vmx mx) (hlen : len ≤ cap) {l h : Nat} {cl : Bool}
    (hc : cut len lo hi mx = some (l, h, cl)) (isS : Bool) :
    ∃ m, (Instr.sliceBounds isS len cap vlo vhi vmx).run P w = .ok (l, h, m) w ∧ l ≤ h ∧ h ≤ len ∧ h ≤ m ∧ m ≤ cap ∧ (cl = true → m = h) ∧ (mx = none → m = cap) ∧ (mx ≠ none → m ≤ len) := by
  unfold cut at hc
  cases ha : cutB len (some len) mx with
  | none => simp [ha] at hc
  | some mm =>
    simp only [ha] at hc
    cases hb : cutB mm (if mx.isSome then none else some len) hi with
    | none => simp [hb] at hc
    | some hh =>
      simp only [hb] at hc
      cases hd : cutB hh (some 0) lo with
      | none => simp [hd] at hc
      | some ll =>
        simp only [hd, Option.some.injEq, Prod.mk.injEq] at hc
        obtain ⟨rfl, rfl, hcl⟩ := hc
        have L := cutB_ok (P := P) h1 hd (Nat.le_refl _)
        rcases cutB_ok (P := P) h3 ha hlen with ⟨rfl, rfl, e3⟩ | ⟨e3, n3, a3, rfl, r3⟩
        · injection e3 with e3
          subst e3
          rcases cutB_ok (P := P) h2 hb hlen with ⟨rfl, rfl, e2⟩ | ⟨e2, n2, a2, rfl, r2⟩
          · simp at e2
            subst e2
            refine ⟨cap, ?_, ?_, Nat.le_refl _, hlen, Nat.le_refl _, fun ht => by rw [ht] at hcl; simp at hcl, fun _ => rfl, fun h => absurd rfl h⟩
            · unfold Instr.sliceBounds
              rcases L with ⟨_, rfl, e1⟩ | ⟨_, _, a1, rfl, r1⟩
              · simp at e1; subst e1; rfl
              · simp [Sem.run_bind, r1]
            · rcases L with ⟨_, _, e1⟩ | ⟨e1, _⟩
              · simp at e1; omega
              · exact e1
          · refine ⟨cap, ?_, ?_, e2, by omega, Nat.le_refl _, fun ht => by rw [ht] at hcl; simp at hcl, fun _ => rfl, fun h => absurd rfl h⟩
            · unfold Instr.sliceBounds
              rcases L with ⟨_, rfl, e1⟩ | ⟨_, _, a1, rfl, r1⟩
              · simp at e1; subst e1; simp [Sem.run_bind, r2]
              · simp [Sem.run_bind, r1, r2]
            · rcases L with ⟨_, _, e1⟩ | ⟨e1, _⟩
              · simp at e1; omega
              · exact e1
        · have hsome : mx.isSome = true := by cases mx <;> first | rfl | exact absurd rfl n3
          rcases cutB_ok (P := P) h2 hb (Nat.le_refl _) with ⟨rfl, rfl, e2⟩ | ⟨e2, n2, a2, rfl, r2⟩
          · simp [hsome] at e2
          · refine ⟨mm, ?_, ?_, by omega, e2, by omega, fun ht => ?_, fun h => absurd h n3, fun _ => e3⟩
            · unfold Instr.sliceBounds
              rcases L with ⟨_, rfl, e1⟩ | ⟨_, _, a1, rfl, r1⟩
              · simp at e1; subst e1; simp [Sem.run_bind, r2, r3]
              · simp [Sem.run_bind, r1, r2, r3]
            · rcases L with ⟨_, _, e1⟩ | ⟨e1, _⟩
              · simp at e1; omega
              · exact e1
            · rw [ht] at hcl
              simp [hsome] at hcl
              exact hcl

theorem Rd.slLen {v : Value} {g lo n L : Nat} (h : Rd w F κ v (.sl g lo n L)) : ∃ a cap, v = .slice a n cap ∧ n ≤ cap := by
  cases h with
  | sl _ _ b s L sz _ _ o cap hk hn hcap ho hsz => exact ⟨_, cap, rfl, hcap⟩
  | slv _ _ hk => exact ⟨_, 0, rfl, Nat.le_refl _⟩
  | slo _ _ _ _ _ k a cap hk hp ho => exact ⟨_, cap, rfl, ho⟩

theorem addr_cut {b o l s m : Nat} : (if m = l then (some ⟨b, o, none⟩ : Option Addr) else (some ⟨b, o, none⟩ : Option Addr).map (·.add (l * s))) = some ⟨b, if m = l then o else o + l * s, none⟩ := by
  split <;> simp [Addr.add_lit]

/-- A cut. -/
theorem sub_ok {μ : Mu} {H : Hp} {Pr : Nat → Prop} (R : Rel w F μ H Pr) {kd s : Nat} {x d : D} {v : Value} {lo hi mx : Option D} {vlo vhi vmx : Option Value} (hs : 0 < s)
    (hv : Rd w F (env μ H) v x) (h1 : RdO w F (env μ H) vlo lo) (h2 : RdO w F (env μ H) vhi hi) (h3 : RdO w F (env μ H) vmx mx) (h : (subM kd s x lo hi mx).run H = some d)
    {t : TypeId} (ht : (kd = 0 ∧ P.underlying t = some .string) ∨ (∃ e ag, tyOf P e = some (s, ag) ∧ ((kd = 1 ∧ P.underlying t = some (.slice e)) ∨ ∃ n, kd = n + 2 ∧ P.underlying t = some (.array n e)))) :
    ∃ r, (Instr.sliceAt t v vlo vhi vmx).run P w = .ok r w ∧ Rd w F (env μ H) r d := by
  unfold subM at h
  split at h
  · -- a text
    rename_i b
    obtain ⟨p, rfl, rfl⟩ := rd_str hv
    have hu : P.underlying t = some .string := by
      rcases ht with ⟨_, h⟩ | ⟨_, _, _, ⟨h, _⟩ | ⟨n, h, _⟩⟩
      · exact h
      · cases h
      · cases h
    split at h
    · rename_i l hh cl hc
      simp at h
      subst h
      have hsz : p.size = p.data.toList.length := Array.length_toList.symm
      obtain ⟨m, hr, a1, a2, a3, a4, a5, a6, a7⟩ := cut_ok (P := P) h1 h2 (.inl ⟨rfl, rfl⟩) (Nat.le_refl _) hc false
      rcases h3 with ⟨rfl, _⟩ | ⟨_, _, _, hm, _⟩
      · refine ⟨.string (p.extract l hh), ?_, ?_⟩
        · unfold Instr.sliceAt
          simp only [Sem.run_bind, run_underlying hu, Result.andThen_ok]
          unfold Instr.slice
          simp only [Sem.run_bind, run_underlying hu, Result.andThen_ok, Option.isSome_none, Bool.false_eq_true, if_false, Sem.run_pure]
          rw [hsz, hr]
          rfl
        · have := Rd.str (w := w) (F := F) (env μ H) (p.extract l hh)
          rw [ByteArray.data_extract, Array.toList_extract] at this
          rw [List.extract_eq_drop_take'] at this
          exact this
      · cases hm
    · cases h
  · -- a frozen slice
    rename_i c s' es
    split at h
    · rename_i l hh cl hc
      split at h
      · rename_i hse
        simp at h
        subst h
        obtain ⟨e, ag, hty, hu⟩ : ∃ e ag, tyOf P e = some (s, ag) ∧ P.underlying t = some (.slice e) := by
          rcases ht with ⟨h, _⟩ | ⟨e, ag, h0, ⟨_, h⟩ | ⟨n, h, _⟩⟩
          · cases h
          · exact ⟨e, ag, h0, h⟩
          · cases h
        clear ht
        have hrun : ∀ (a : Option Addr) (n cap l h m : Nat), (Instr.sliceBounds true n cap vlo vhi vmx).run P w = .ok (l, h, m) w →
            (Instr.sliceAt t (.slice a n cap) vlo vhi vmx).run P w = .ok (.slice (if m = l then a else a.map (·.add (l * s))) (h - l) (m - l)) w := by
          intro a n cap l h m hb
          unfold Instr.sliceAt
          simp only [Sem.run_bind, run_underlying hu, Result.andThen_ok]
          unfold Instr.slice
          simp only [Sem.run_bind, run_underlying hu, Result.andThen_ok, hb, run_sizeOf hty, Sem.run_pure]
        cases hv with
        | nils =>
          obtain ⟨m, hr, a1, a2, a3, a4, a5, a6, a7⟩ := cut_ok (P := P) h1 h2 h3 (Nat.le_refl 0) hc true
          refine ⟨_, hrun none 0 0 l hh m hr, ?_⟩
          have e1 : hh = 0 := by simpa using a2
          have e2 : l = 0 := by omega
          have e3 : m = 0 := by omega
          subst e1 e2 e3
          simp
          exact .nils _ _ _
        | emp _ a _ _ _ =>
          obtain ⟨m, hr, a1, a2, a3, a4, a5, a6, a7⟩ := cut_ok (P := P) h1 h2 h3 (Nat.le_refl 0) hc true
          refine ⟨_, hrun (some a) 0 0 l hh m hr, ?_⟩
          have e1 : hh = 0 := by simpa using a2
          have e2 : l = 0 := by omega
          have e3 : m = 0 := by omega
          subst e1 e2 e3
          simp
          exact .emp _ _ _ _ hs
        | slc _ b o cap _ _ _ vs hs' hcap hcc hl hvv hrr =>
          obtain ⟨m, hr, a1, a2, a3, a4, a5, a6, a7⟩ := cut_ok (P := P) h1 h2 h3 hcap hc true
          refine ⟨_, hrun _ _ cap l hh m hr, ?_⟩
          rw [addr_cut]
          have hlen : hh - l = ((es.take hh).drop l).length := by simp; omega
          rw [hlen]
          by_cases hes : es = []
          · subst hes
            simp at a2
            have e2 : l = 0 := by omega
            subst a2 e2
            refine .slc _ b _ (m - 0) _ s _ (fun _ _ => undef) hs (by simp) (fun ht => ?_) (by simp) (fun i e j d he => by simp at he) (fun i e j d he => by simp at he)
            simp at ht
            rcases ht with ht | ht
            · have := a5 ht; simpa using this
            · have := hcc ht
              simp at this
              by_cases hx : mx = none
              · have := a6 hx; simp; omega
              · have := a7 hx; simp at this; simp; omega
          · have hss : s' = s := hse.resolve_right hes
            subst hss
            refine .slc _ b _ (m - l) _ s' _ (fun i j => vs (l + i) j) hs (by rw [← hlen]; omega) (fun ht => ?_) (fun e he => hl e (List.mem_of_mem_take (List.mem_of_mem_drop he))) (fun i e j d he hd => ?_) (fun i e j d he hd => ?_)
            · rw [← hlen]
              simp at ht
              rcases ht with ht | ⟨ht, ht2⟩
              · have := a5 ht; omega
              · have := hcc ht
                by_cases hx : mx = none
                · have := a6 hx; omega
                · have := a7 hx; omega
            · obtain ⟨q1, q2⟩ := drop_take_get he
              obtain ⟨b1, b2, b3⟩ := hvv (l + i) e j d q1 hd
              rw [if_neg (by omega)]
              rw [show o + l * s' + i * s' + j = o + (l + i) * s' + j by rw [Nat.add_mul]; omega]
              exact ⟨b1, b2, b3⟩
            · obtain ⟨q1, q2⟩ := drop_take_get he
              exact hrr (l + i) e j d q1 hd
      · cases h
    · cases h
  · -- a slice of a row
    rename_i g o n L
    simp only [M.run_bind, run_look] at h
    cases hg : H g with
    | none => rw [hg] at h; cases h
    | some ob =>
      rw [hg] at h
      simp only [Option.bind_some] at h
      split at h
      · rename_i s' es' fz l hh cl hc
        split at h
        · rename_i hse
          simp at h
          subst h
          obtain ⟨e, ag, hty, hu⟩ : ∃ e ag, tyOf P e = some (s, ag) ∧ P.underlying t = some (.slice e) := by
            rcases ht with ⟨h, _⟩ | ⟨e, ag, h0, ⟨_, h⟩ | ⟨n, h, _⟩⟩
            · cases h
            · exact ⟨e, ag, h0, h⟩
            · cases h
          clear ht
          have hrun : ∀ (a : Option Addr) (n cap l h m : Nat), (Instr.sliceBounds true n cap vlo vhi vmx).run P w = .ok (l, h, m) w →
              (Instr.sliceAt t (.slice a n cap) vlo vhi vmx).run P w = .ok (.slice (if m = l then a else a.map (·.add (l * s))) (h - l) (m - l)) w := by
            intro a n cap l h m hb
            unfold Instr.sliceAt
            simp only [Sem.run_bind, run_underlying hu, Result.andThen_ok]
            unfold Instr.slice
            simp only [Sem.run_bind, run_underlying hu, Result.andThen_ok, hb, run_sizeOf hty, Sem.run_pure]
          have hk : env μ H g = some (kiOf (μ g) (.row s' es' fz)) := by simp [env, hg]
          have hok := R.ok g _ hg
          cases hv with
          | sl _ _ b s0 _ sz _ _ o' cap hk' hn hcap ho hsz =>
            obtain ⟨m, hr, a1, a2, a3, a4, a5, a6, a7⟩ := cut_ok (P := P) h1 h2 h3 hcap hc true
            refine ⟨_, hrun _ _ cap l hh m hr, ?_⟩
            rw [addr_cut]
            have hs0 : s0 = s := by
              rw [hk] at hk'
              injection hk' with hk'
              rcases hok.inv_row with ⟨hm, _⟩ | ⟨b', sz', c, el, fr, hm, hr⟩
              · rw [hm] at hk'; simp [kiOf] at hk'
              · rw [hm] at hk'
                simp [kiOf] at hk'
                have := hr.pos
                omega
            subst hs0
            refine .sl _ g b s0 L sz (o + l) (hh - l) _ (m - l) hk' (by omega) (by omega) ?_ ?_
            · by_cases hml : m = l
              · exact .inr (by omega)
              · rw [if_neg hml]
                rcases ho with ho | ho
                · exact .inl (by rw [ho, Nat.add_mul])
                · exact absurd ho (by omega)
            · have : o + l + (m - l) ≤ o + cap := by omega
              exact Nat.le_trans (Nat.mul_le_mul_right _ this) hsz
          | slv _ _ hk' =>
            obtain ⟨m, hr, a1, a2, a3, a4, a5, a6, a7⟩ := cut_ok (P := P) h1 h2 h3 (Nat.le_refl 0) hc true
            refine ⟨_, hrun none 0 0 l hh m hr, ?_⟩
            have e1 : hh = 0 := by omega
            have e2 : l = 0 := by omega
            have e3 : m = 0 := by omega
            subst e1 e2 e3
            simp
            exact .slv _ g hk'
          | slo _ _ _ _ _ k a cap hk' hp ho =>
            obtain ⟨m, hr, a1, a2, a3, a4, a5, a6, a7⟩ := cut_ok (P := P) h1 h2 h3 ho hc true
            exact ⟨_, hrun a n cap l hh m hr, .slo _ g _ _ L k _ _ hk' hp (by omega)⟩
        · cases h
      · cases h
  · -- an array variable
    rename_i g L
    simp only [M.run_bind, run_look] at h
    cases hg : H g with
    | none => rw [hg] at h; cases h
    | some ob =>
      rw [hg] at h
      simp only [Option.bind_some] at h
      split at h
      · rename_i s' es' fz l hh cl hc
        split at h
        · rename_i hse
          obtain ⟨rfl, hL, rfl⟩ := hse
          simp at h
          subst h
          obtain ⟨e, ag, hty, hu⟩ : ∃ e ag, tyOf P e = some (s', ag) ∧ P.underlying t = some (.array L e) := by
            rcases ht with ⟨h, _⟩ | ⟨e, ag, h0, ⟨h, _⟩ | ⟨n, h1, h⟩⟩
            · cases h
            · cases h
            · have : n = L := by omega
              subst this
              exact ⟨e, ag, h0, h⟩
          obtain ⟨m, hr, a1, a2, a3, a4, a5, a6, a7⟩ := cut_ok (P := P) h1 h2 h3 (Nat.le_refl L) hc false
          clear ht
          have hrun : ∀ b o, (Instr.sliceAt t (.pointer (some ⟨b, o, none⟩)) vlo vhi vmx).run P w = .ok (.slice (some ⟨b, if m = l then o else o + l * s', none⟩) (hh - l) (m - l)) w := by
            intro b o
            unfold Instr.sliceAt
            simp only [Sem.run_bind, run_underlying hu, Result.andThen_ok, Instr.sureAddr, Sem.run_pure, hr, run_sizeOf hty]
            split <;> simp [Addr.add_lit]
          have hk : env μ H g = some (kiOf (μ g) (.row s' es' fz)) := by simp [env, hg]
          have hok := R.ok g _ hg
          cases hv with
          | aptr _ _ b s0 _ sz hk' =>
            refine ⟨_, hrun b 0, ?_⟩
            have hss : s0 = s' ∧ L * s' ≤ sz := by
              rw [hk] at hk'
              injection hk' with hk'
              rcases hok.inv_row with ⟨hm, _⟩ | ⟨b', sz', c, el, fr, hm, hr⟩
              · rw [hm] at hk'; simp [kiOf] at hk'
              · rw [hm] at hk'
                simp [kiOf] at hk'
                obtain ⟨rfl, rfl, _, rfl⟩ := hk'
                exact ⟨rfl, by rw [← hL]; exact hr.fits⟩
            obtain ⟨rfl, hfit⟩ := hss
            refine .sl _ g b s0 L sz l (hh - l) _ (m - l) hk' (by omega) (by omega) ?_ ?_
            · by_cases hml : m = l
              · exact .inr (by omega)
              · rw [if_neg hml]
                exact .inl (by omega)
            · have : l + (m - l) ≤ L := by omega
              exact Nat.le_trans (Nat.mul_le_mul_right _ this) hfit
          | aptro _ _ _ k b o hk' hp =>
            rw [hk] at hk'
            injection hk' with hk'
            subst hk'
            cases hm : μ g with
            | none => rw [hm] at hp; exact hp.elim
            | some q => rw [hm] at hp; obtain ⟨b, sz⟩ := q; simp [kiOf, KI.past] at hp; omega
        · cases h
      · cases h
  · cases h
end
end Go.Ab
