/- THE ABSTRACT MACHINE, sound: functions. -/
import Derived.Test.YtomomeabfnmncaaGreatBCtl
set_option linter.all false
namespace Go.Ab

section
variable {P : Program} {w : World} {F : Fz} {κ : Env} {μ : Mu} {Pr : Nat → Prop} {N : Nat}

theorem load_addr {t : TypeId} {v r : Value} (h : (Instr.loadAt t v).run P w = .ok r w) : (do loadVar t (← asAddr v) : Sem Value).run P w = .ok r w := by
  unfold Instr.loadAt at h
  cases v with
  | pointer a =>
    cases a with
    | none => simp [Instr.sureAddr] at h
    | some a => simpa [Instr.sureAddr, asAddr] using h
  | _ => simp [Instr.sureAddr] at h

/-- What a function is to answer. -/
theorem rs_ok {H : Hp} (R : Rel w F μ H Pr) {tmps : Array Value} {T : List D} (hT : RdT w F (env μ H) tmps T) {g : ResultVar → Sem Value} (g1 : ∀ t, g (.tmp t) = pure (tmps.getD t undef)) (g2 : ∀ a t, g (.cell a t) = (do loadVar t (← asAddr (tmps.getD a undef))))
    {r : ResultVar} {rs : Rs} (hr : cRes P r = some rs) {d : D} (h : (rs.ev T).run H = some d) : ∃ v, (g r).run P w = .ok v w ∧ Rd w F (env μ H) v d := by
  cases r with
  | tmp t =>
    simp only [cRes, Option.some.injEq] at hr
    subst hr
    simp [Rs.ev] at h
    subst h
    rw [g1]
    exact ⟨_, rfl, hT.get t⟩
  | cell a t =>
    simp only [cRes, bind, Option.bind_eq_some_iff, Option.some.injEq] at hr
    obtain ⟨ag, h1, rfl⟩ := hr
    simp only [Rs.ev] at h
    obtain ⟨r, h2, h3⟩ := ld_ok (P := P) R h1 (hT.get a) h
    rw [g2]
    exact ⟨r, load_addr h2, h3⟩

theorem resM_ok {H : Hp} (R : Rel w F μ H Pr) {tmps : Array Value} {T : List D} (hT : RdT w F (env μ H) tmps T) {g : ResultVar → Sem Value} (g1 : ∀ t, g (.tmp t) = pure (tmps.getD t undef)) (g2 : ∀ a t, g (.cell a t) = (do loadVar t (← asAddr (tmps.getD a undef)))) :
    ∀ {l : List ResultVar} {rs : List Rs}, mapO (cRes P) l = some rs → ∀ {ds : List D}, (resM T rs).run H = some ds → ∃ vs, (l.mapM g).run P w = .ok vs w ∧ RdL w F (env μ H) vs ds
  | [], rs, h, ds, hd => by
    simp [mapO] at h
    subst h
    simp [resM] at hd
    subst hd
    exact ⟨[], rfl, rfl, fun i v d h => by simp at h⟩
  | r :: l, rs, h, ds, hd => by
    unfold mapO at h
    cases h1 : cRes P r with
    | none => rw [h1] at h; cases h
    | some x =>
      cases h2 : mapO (cRes P) l with
      | none => rw [h1, h2] at h; cases h
      | some xs =>
        rw [h1, h2] at h
        simp only [Option.some.injEq] at h
        subst h
        simp only [resM, M.run_bind] at hd
        cases h3 : (x.ev T).run H with
        | none => rw [h3] at hd; cases hd
        | some d =>
          rw [h3] at hd
          simp only [Option.bind_some] at hd
          cases h4 : (resM T xs).run H with
          | none => rw [h4] at hd; cases hd
          | some ds' =>
            rw [h4] at hd
            simp at hd
            subst hd
            obtain ⟨v, e1, e2⟩ := rs_ok R hT g1 g2 h1 h3
            obtain ⟨vs, e3, e4⟩ := resM_ok R hT g1 g2 h2 h4
            refine ⟨v :: vs, ?_, by simp [e4.1], fun i u d' h5 h6 => ?_⟩
            · rw [List.mapM_cons]
              simp only [Sem.run_bind, e1, Result.andThen_ok, e3, Sem.run_pure]
            · cases i with
              | zero => simp at h5 h6; rw [← h5, ← h6]; exact e2
              | succ i => exact e4.2 i u d' (by simpa using h5) (by simpa using h6)

theorem pack_ok {vs : List Value} {ds : List D} (h : RdL w F κ vs ds) : Rd w F κ (if h : vs.toArray.size = 1 then vs.toArray[0] else .tuple vs.toArray) (packD ds) := by
  match vs, ds, h with
  | [], [], e2 => exact .tuple _ [] [] rfl (fun i v d h => by simp at h)
  | [v], [d], e2 => exact e2.2 0 v d rfl rfl
  | v :: v2 :: vs, d :: d2 :: ds, e2 =>
    have : ¬ (v :: v2 :: vs).toArray.size = 1 := by simp
    rw [dif_neg this]
    exact .tuple _ _ _ e2.1 e2.2
  | [], d :: ds, e2 => cases e2.1
  | v :: vs, [], e2 => cases e2.1
  | [v], d :: d2 :: ds, e2 => have := e2.1; simp at this
  | v :: v2 :: vs, [d], e2 => have := e2.1; simp at this

theorem results_ok {H : Hp} (R : Rel w F μ H Pr) {fn : Func} {tmps : Array Value} {T : List D} (hT : RdT w F (env μ H) tmps T) {rs : List Rs} (hr : mapO (cRes P) fn.results.toList = some rs) {ds : List D} (h : (resM T rs).run H = some ds) :
    ∃ v, (results fn tmps).run P w = .ok v w ∧ Rd w F (env μ H) v (packD ds) := by
  have key : ∀ g : ResultVar → Sem Value, (∀ t, g (.tmp t) = pure (tmps.getD t undef)) → (∀ a t, g (.cell a t) = (do loadVar t (← asAddr (tmps.getD a undef)))) →
      ∃ v, (do let vs ← fn.results.mapM g; pure (if h : vs.size = 1 then vs[0] else .tuple vs) : Sem Value).run P w = .ok v w ∧ Rd w F (env μ H) v (packD ds) := by
    intro g g1 g2
    obtain ⟨vs, e1, e2⟩ := resM_ok (P := P) R hT g1 g2 hr h
    refine ⟨_, ?_, pack_ok e2⟩
    rw [Array.mapM_eq_mapM_toList]
    simp only [Sem.run_bind, Sem.run_map, e1, Result.andThen_ok, Sem.run_pure]
  exact key _ (fun _ => rfl) (fun _ _ => rfl)

theorem Rel.weaken {H : Hp} {Pr' : Nat → Prop} (R : Rel w F μ H Pr') (h : ∀ b, Pr b → Pr' b) : Rel w F μ H Pr :=
  ⟨R.ok, R.inj, fun g b z h1 h2 h3 => R.pr g b z h1 h2 (h b h3), R.fc, fun b hb => R.prlt b (h b hb)⟩

/-- What is left: what a list of keys leads to. -/
theorem close_ok {w0 : World} {F0 : Fz} {μ0 : Mu} {H0 : List Obj} {H : Hp} (n : Nx Pr w0 F0 μ0 (hp H0) w F μ H) {os : Wr} (hc : Clo H os) {t : List Nat} (hk : os.map (·.1) = List.range H0.length ++ t) :
    Nx Pr w0 F0 μ0 (hp H0) w F (subMu μ os) (subH os) := by
  refine ⟨(sub_rel n.rel hc).weaken fun b hb => .inl hb, n.stp, fun g k hg => ?_, fun j b z hj hm => ?_⟩
  · obtain ⟨k', h1, h2⟩ := n.kle g k hg
    have hlt : g < H0.length := by
      unfold env at hg
      cases h : hp H0 g with
      | none => rw [h] at hg; cases hg
      | some o => exact (List.getElem?_eq_some_iff.1 h).1
    have hm : g ∈ os.map (·.1) := by rw [hk]; exact List.mem_append.2 (.inl (List.mem_range.2 hlt))
    have hi : intoK os g = g := by
      obtain ⟨o, ho⟩ := into_get hm
      have h3 : (os.map (·.1))[intoK os g]? = some g := by rw [List.getElem?_map, ho]; rfl
      have h4 : (os.map (·.1))[g]? = some g := by rw [hk, List.getElem?_append_left (by simpa using hlt)]; simp [hlt]
      have hlt3 := (List.getElem?_eq_some_iff.1 h3).1
      exact (List.getElem?_inj hlt3 hc.nodup).1 (h3.trans h4.symm)
    refine ⟨k', ?_, h2⟩
    have := env_sub (μ := μ) hc hm
    rw [hi] at this
    rw [this]
    exact h1
  · unfold subH at hj
    unfold subMu at hm
    cases h : os[j]? with
    | none => rw [h] at hj; cases hj
    | some p =>
      rw [h] at hm
      exact n.own p.1 b z (by rw [hc.get p (List.mem_of_getElem? h)]; rfl) hm

/-- THE END OF A FUNCTION. -/
theorem fin_ok {w0 : World} {F0 : Fz} {μ0 : Mu} {H0 : List Obj} {H : Hp} (n : Nx Pr w0 F0 μ0 (hp H0) w F μ H) {fn : Func} {tmps : Array Value} {T : List D} (hT : RdT w F (env μ H) tmps T) {rs : List Rs} (hr : mapO (cRes P) fn.results.toList = some rs) {keep : Bool} {d : D} {H' : List Obj}
    (h : (finM keep H0.length rs T).run H = some (d, H')) : ∃ v, (results fn tmps).run P w = .ok v w ∧ ∃ F' μ', Nx Pr w0 F0 μ0 (hp H0) w F' μ' (hp H') ∧ Rd w F' (env μ' (hp H')) v d := by
  unfold finM at h
  rw [M.run_bind] at h
  cases hds : (resM T rs).run H with
  | none => rw [hds] at h; cases h
  | some ds =>
    rw [hds] at h
    simp only [Option.bind_some, M.run_bind] at h
    obtain ⟨v, e1, e2⟩ := results_ok n.rel hT hr hds
    refine ⟨v, e1, ?_⟩
    cases hfz : ((if keep then (pure (packD ds, []) : M (D × Wr)) else fzD false [] (packD ds)) : M (D × Wr)).run H with
    | none => rw [hfz] at h; cases h
    | some q =>
      obtain ⟨d1, ov⟩ := q
      rw [hfz] at h
      simp only [Option.bind_some] at h
      obtain ⟨F1, n1, r1⟩ : ∃ F1, Nx Pr w F μ H w F1 μ (ovH H ov) ∧ Rd w F1 (env μ (ovH H ov)) v d1 := by
        cases keep with
        | true => simp at hfz; obtain ⟨rfl, rfl⟩ := hfz; exact ⟨F, Nx.refl n.rel, e2⟩
        | false =>
          simp only [Bool.false_eq_true, if_false] at hfz
          obtain ⟨F1, n1, r1, _⟩ := fzD_ok (H := H) (ov := []) (packD ds) n.rel e2 hfz
          exact ⟨F1, n1, r1⟩
      have n2 := n.trans n1
      split at h
      · rename_i hc
        obtain ⟨hnp, hk⟩ := hc
        simp at h
        obtain ⟨rfl, rfl⟩ := h
        have hclo : Clo (ovH H ov) [] := ⟨fun p hp => (by cases hp), List.nodup_nil, fun p hp => (by cases hp)⟩
        have hsub : (subH [] : Hp) = hp [] := by funext j; simp [subH, hp]
        have n3 := close_ok n2 hclo (t := []) (by simp [List.length_eq_zero_iff.1 hnp])
        rw [hsub] at n3
        exact ⟨F1, _, n3, rd_closed r1 hk _⟩
      · rw [M.run_bind] at h
        cases hos : (reach ov reachFuel (List.range H0.length ++ d1.keys) []).run H with
        | none => rw [hos] at h; cases h
        | some os =>
          rw [hos] at h
          simp at h
          obtain ⟨rfl, rfl⟩ := h
          obtain ⟨hclo, htodo, _, _⟩ := reach_ok (acc := []) reachFuel (fun p hp => (by cases hp)) List.nodup_nil (fun p hp => (by cases hp)) hos
          obtain ⟨t, ht⟩ := reach_first (List.range H0.length) reachFuel (fun x _ h => by cases h) List.nodup_range hos
          have hsub : (subH os : Hp) = hp (os.map fun p => p.2.ren (intoK os)) := by funext j; simp [subH, hp]
          have n3 := close_ok n2 hclo (t := t) (by simpa using ht)
          rw [hsub] at n3
          refine ⟨F1, _, n3, ?_⟩
          rw [← hsub]
          exact r1.ren fun g hg => env_sub hclo (htodo g (List.mem_append.2 (.inr hg)))

variable {cf : Cfg} {call : CallFn} {fs : Nat → Option Fn'} {ora : CallFn}

theorem compF_spec {f : Nat} {fn' : Fn'} (h : compF P f = some fn') : ∃ fn b, P.funcs[f]? = some fn ∧ fn.body = some b ∧ fn.name ≠ "runtime.NumGoroutine" ∧ fn'.ntmps = fn.ntmps ∧ cCode P (opsOf b) (cxOf (opsOf b)) b = some fn'.body ∧ mapO (cRes P) fn.results.toList = some fn'.res := by
  unfold compF at h
  simp only [bind, Option.bind_eq_some_iff] at h
  obtain ⟨fn, h1, b, h2, c, h3, r, h4, h5⟩ := h
  split at h5
  · cases h5
  · rename_i hne
    injection h5 with h5
    subst h5
    exact ⟨fn, b, h1, h2, by simpa using hne, rfl, h3, h4⟩

theorem callFunc_enter {f : Nat} {fn : Func} {b : Code} (h1 : P.funcs[f]? = some fn) (h2 : fn.body = some b) (h3 : fn.name ≠ "runtime.NumGoroutine") (vs : Array Value) (w : World) : (callFunc f vs).run P w = .ok (.enter f vs) w := by
  unfold callFunc
  simp only [Sem.run_bind, run_program, Result.andThen_ok, h1]
  have : (fn.name == "runtime.NumGoroutine") = false := by simpa using h3
  simp only [this, h2, Bool.false_eq_true, if_false]
  rfl

/-- A FUNCTION. -/
theorem runF_ok (hm : P.follows .mixedOrders = true) (hfs : ∀ f fn', fs f = some fn' → compF P f = some fn') (hcall : CallOk P call) : CallOk P (runF cf call fs) := by
  intro f args H d H' h
  unfold runF at h
  split at h
  · cases h
  · rename_i fn' hfn
    obtain ⟨fn, b, h1, h2, h3, h4, h5, h6⟩ := compF_spec (hfs f fn' hfn)
    refine ⟨fun vs w => callFunc_enter h1 h2 h3 vs w, fun w F μ Pr vs R hv => ?_⟩
    split at h
    · rename_i hcond
      split at h
      · rename_i e s he
        split at h
        · rename_i hee
          refine calls_of_wp h1 h2 ?_
          have hs : SR (vs.toArray ++ Array.replicate (fn.ntmps - vs.toArray.size) undef).size Pr w F μ (hp H) (args ++ List.replicate (fn'.ntmps - args.length) .undef, hp H) ({ tmps := vs.toArray ++ Array.replicate (fn.ntmps - vs.toArray.size) undef, defers := [] } : Act) w := by
            have hl := hv.1
            refine ⟨F, μ, Nx.refl R, ⟨by simp [hl, h4], fun i v d h7 h8 => ?_⟩, rfl, rfl⟩
            simp only [] at h7 h8
            by_cases hi : i < args.length
            · rw [List.getElem?_append_left hi] at h8
              rw [Array.getElem?_append_left (by simpa [hl] using hi)] at h7
              exact hv.2 i v d (by simpa using h7) h8
            · rw [List.getElem?_append_right (by omega), List.getElem?_replicate] at h8
              split at h8
              · injection h8 with h8; rw [← h8]; exact .undef _ _
              · cases h8
          refine wp_mono (E_ok hm hcall b _ h5 _ e s he w F μ (hp H) _ w hs) ?_
          rintro ex a' w' ⟨rfl, F', μ', n, hT, hd, _⟩
          obtain ⟨v, g1, F2, μ2, g2, g3⟩ := fin_ok n hT h6 h
          rcases hee with rfl | rfl
          · exact ⟨hd, v, g1, v, rfl, F2, μ2, g2, g3⟩
          · exact ⟨hd, v, g1, v, rfl, F2, μ2, g2, g3⟩
        · cases h
      · cases h
    · cases h

theorem evF_ok (hm : P.follows .mixedOrders = true) (hfs : ∀ f fn', fs f = some fn' → compF P f = some fn') (hora : CallOk P ora) : ∀ n, CallOk P (evF cf fs ora n)
  | 0 => hora
  | n + 1 => by
    intro f args H d H' h
    rw [evF_succ] at h
    cases ho : ora f args H with
    | some r => rw [ho] at h; exact hora f args H d H' (by rw [ho]; exact h)
    | none => rw [ho] at h; exact runF_ok hm hfs (evF_ok hm hfs hora n) f args H d H' h

/-- THE CALL OF A FUNCTION. -/
theorem K_ok (hm : P.follows .mixedOrders = true) (hfs : ∀ f fn', fs f = some fn' → compF P f = some fn') (hora : CallOk P ora) : CallOk P (K cf fs ora) := by
  intro f args H d H' h
  obtain ⟨n, hn⟩ := K_some.1 h
  exact evF_ok hm hfs hora n f args H d H' hn

theorem noOra : CallOk P (fun _ _ _ => none) := fun f args H d H' h => by cases h
end
end Go.Ab
