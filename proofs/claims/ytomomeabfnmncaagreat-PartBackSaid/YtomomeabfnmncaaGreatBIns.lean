/- THE ABSTRACT MACHINE, sound: every operation. -/
import Derived.Test.YtomomeabfnmncaaGreatBCall
set_option linter.all false
namespace Go.Ab

section
variable {P : Program} {w : World} {F : Fz} {κ : Env} {μ : Mu} {Pr : Nat → Prop}

theorem gives_v {s : Sem Value} {r : Value} {w' : World} {Q : Value → World → Prop} (h : s.run P w = .ok r w') (hq : Q r w') : Gives P ((do pure (.value (← s)) : Sem Next).run P w) Q := by
  simp only [Sem.run_bind, h, Result.andThen_ok, Sem.run_pure]
  exact hq

/-- What an operation is to come to. -/
def InsR (Pr : Nat → Prop) (w : World) (F : Fz) (μ : Mu) (H : Hp) (wr : Wr) (d : D) : Value → World → Prop :=
  fun v w' => ∃ F' μ', Nx Pr w F μ H w' F' μ' (H.app wr) ∧ Rd w' F' (env μ' (H.app wr)) v d

theorem pure_ok {H : Hp} (R : Rel w F μ H Pr) {v : Value} {d : D} (h : Rd w F (env μ H) v d) : InsR Pr w F μ H [] d v w := ⟨F, μ, Nx.refl R, h⟩

theorem run_pair {m : M D} {H : Hp} {d : D} {wr : Wr} (h : (m >>= fun x => pure (x, []) : M (D × Wr)).run H = some (d, wr)) : m.run H = some d ∧ wr = [] := by
  rw [M.run_bind] at h
  cases hm : m.run H with
  | none => rw [hm] at h; cases h
  | some x => rw [hm] at h; simp at h; obtain ⟨rfl, rfl⟩ := h; exact ⟨rfl, rfl⟩

theorem run_ofOp {o : Option D} {H : Hp} {d : D} {wr : Wr} (h : (ofO o >>= fun x => pure (x, []) : M (D × Wr)).run H = some (d, wr)) : o = some d ∧ wr = [] := by
  obtain ⟨h1, h2⟩ := run_pair h
  rw [run_ofO] at h1
  exact ⟨h1, h2⟩

theorem ty_one {s : Nat} {ag : Bool} (h : ag = true ∨ s = 1) : ag = false → s = 1 := fun hh => by rcases h with h | h <;> simp_all

theorem ins_ok {all : List Oper} {cx : Cx} {o : Oper} {i : Ins} (hc : cOp P all cx o = some i) {H : Hp} (R : Rel w F μ H Pr) {a : Act} {T : List D} (hT : RdT w F (env μ H) a.tmps T) {cf : Cfg} {call : CallFn} (hcall : CallOk P call) {nk : Nat} {d : D} {wr : Wr}
    (hr : (i.go cf call nk T).run H = some (d, wr)) (hf : ∀ p ∈ wr, nk ≤ p.1 → H p.1 = none) : Gives P ((execOp a.eval o).run P w) (InsR Pr w F μ H wr d) := by
  unfold cOp at hc
  have mvok : ∀ x y, o.op = .move y ∨ o.op = .assign y → cX y = some x → i = .mv x → Gives P ((execOp a.eval o).run P w) (InsR Pr w F μ H wr d) := by
    rintro x y hop hx rfl
    simp [Ins.go] at hr
    obtain ⟨rfl, rfl⟩ := hr
    have : (execOp a.eval o).run P w = .ok (.value (a.eval y)) w := by unfold execOp; rcases hop with h | h <;> rw [h] <;> rfl
    rw [this]
    exact pure_ok R (cX_ok hx hT)
  have nilok : ∀ y, o.op = .move y ∨ o.op = .assign y → nilConst y = true → i = .nilrow → Gives P ((execOp a.eval o).run P w) (InsR Pr w F μ H wr d) := by
    rintro y hop hy rfl
    simp [Ins.go] at hr
    obtain ⟨rfl, rfl⟩ := hr
    have : (execOp a.eval o).run P w = .ok (.value (a.eval y)) w := by unfold execOp; rcases hop with h | h <;> rw [h] <;> rfl
    rw [this]
    have hy2 : a.eval y = .slice none 0 0 := by
      unfold nilConst at hy
      split at hy
      · rfl
      · cases hy
    rw [hy2]
    refine ⟨F, upd μ nk none, by rw [app_upd, app_nil]; exact Nx.newV R (hf _ (List.mem_singleton.2 rfl) (Nat.le_refl _)), ?_⟩
    rw [app_upd, app_nil]
    exact .slv _ nk (by rw [env_upd_same]; rfl)
  cases hop : o.op <;> rw [hop] at hc <;> simp only [] at hc
  case move y =>
    split at hc
    · rename_i h; simp at h; exact nilok y (.inl hop) h.1 (Option.some.inj hc).symm
    · obtain ⟨x, h1, h2⟩ := Option.map_eq_some_iff.1 hc; exact mvok x y (.inl hop) h1 h2.symm
  case assign y =>
    split at hc
    · rename_i h; simp at h; exact nilok y (.inr hop) h.1 (Option.some.inj hc).symm
    · obtain ⟨x, h1, h2⟩ := Option.map_eq_some_iff.1 hc; exact mvok x y (.inr hop) h1 h2.symm
  case pick c x y =>
    simp [bind, Option.bind_eq_some_iff] at hc
    obtain ⟨cc, h1, xx, h2, yy, h3, rfl⟩ := hc
    have hcv := cX_ok h1 hT
    simp only [Ins.go] at hr
    cases hcc : cc.ev T <;> rw [hcc] at hr hcv <;> first | (cases hr; done) | skip
    rename_i b
    simp at hr
    obtain ⟨hd, rfl⟩ := hr
    have : (execOp a.eval o).run P w = .ok (.value (if b then a.eval x else a.eval y)) w := by
      unfold execOp
      simp only [hop, Sem.run_bind, rd_bool hcv, asBool, Sem.run_pure, Result.andThen_ok]
    rw [this]
    refine pure_ok R ?_
    rw [← hd]
    cases b
    · exact cX_ok h3 hT
    · exact cX_ok h2 hT
  case alloc t =>
    split at hc
    · rename_i n e hu
      simp only [bind, Option.bind_eq_some_iff] at hc
      obtain ⟨⟨s, ag⟩, h1, z, h2, hc⟩ := hc
      split at hc
      · rename_i h34
        injection hc with hc
        subst hc
        simp [Ins.go] at hr
        obtain ⟨rfl, rfl⟩ := hr
        obtain ⟨r, w', F', μ', e1, e2, e3⟩ := allocA_ok (P := P) R h2 h34.1 h34.2 (nk := nk) (hf _ (List.mem_singleton.2 rfl) (Nat.le_refl _))
        unfold execOp
        rw [hop]
        exact gives_v e1 ⟨F', μ', e2, e3⟩
      · cases hc
    · simp [bind, Option.bind_eq_some_iff] at hc
      obtain ⟨z, h1, rfl⟩ := hc
      simp [Ins.go] at hr
      have hkeys : ∀ p ∈ (mkBox cx.fromLoad nk z).2, H p.1 = none := by
        intro p hp
        refine hf p (by rw [hr] at hp; exact hp) ?_
        unfold mkBox at hp
        split at hp
        · rcases List.mem_append.1 hp with hp | hp
          · exact (virt_keys nk z p hp).1
          · simp at hp; rw [hp]; exact Nat.le_add_right _ _
        · simp at hp; rw [hp]; exact Nat.le_refl _
      obtain ⟨r, w', F', μ', e1, e2, e3⟩ := alloc_ok (P := P) R h1 (v := cx.fromLoad) (nk := nk) hkeys
      rw [hr] at e2 e3
      unfold execOp
      rw [hop]
      exact gives_v e1 ⟨F', μ', e2, e3⟩
  case box t x =>
    split at hc
    · simp only [bind, Option.bind_eq_some_iff] at hc
      obtain ⟨⟨s, ag⟩, h0, xx, h1, hc⟩ := hc
      injection hc with hc
      subst hc
      simp only [Ins.go] at hr
      split at hr
      · rename_i ho
        simp at hr
        obtain ⟨rfl, rfl⟩ := hr
        obtain ⟨r, w', F', μ', e1, e2, e3⟩ := boxA_ok (P := P) (t := t) R (cX_ok h1 hT) ho.1 ho.2.1 ho.2.2 (nk := nk) (hf _ (List.mem_singleton.2 rfl) (Nat.le_refl _))
        unfold execOp
        rw [hop]
        exact gives_v e1 ⟨F', μ', e2, e3⟩
      · cases hr
    · simp [bind, Option.bind_eq_some_iff] at hc
      obtain ⟨xx, h1, rfl⟩ := hc
      simp only [Ins.go] at hr
      split at hr
      · rename_i ho
        simp at hr
        have hkeys : ∀ p ∈ (mkBox cx.fromLoad nk (xx.ev T).cells).2, H p.1 = none := by
          intro p hp
          refine hf p (by rw [hr] at hp; exact hp) ?_
          unfold mkBox at hp
          split at hp
          · rcases List.mem_append.1 hp with hp | hp
            · exact (virt_keys nk _ p hp).1
            · simp at hp; rw [hp]; exact Nat.le_add_right _ _
          · simp at hp; rw [hp]; exact Nat.le_refl _
        obtain ⟨r, w', F', μ', e1, e2, e3⟩ := box_ok (P := P) (t := t) R (cX_ok h1 hT) ho (v := cx.fromLoad) (nk := nk) hkeys
        rw [hr] at e2 e3
        unfold execOp
        rw [hop]
        exact gives_v e1 ⟨F', μ', e2, e3⟩
      · cases hr
  case build t ps =>
    simp only [bind, Option.bind_eq_some_iff] at hc
    obtain ⟨z, hz, hc⟩ := hc
    have hrunE : ∀ {cs : List D}, (∃ r, (Instr.build t (ps.map fun p => (p.1, a.eval p.2))).run P w = .ok r w ∧ Rd w F (env μ H) r (.agg cs)) → wr = [] → d = .agg cs → Gives P ((execOp a.eval o).run P w) (InsR Pr w F μ H wr d) := by
      rintro cs ⟨r, e1, e2⟩ rfl rfl
      unfold execOp
      rw [hop]
      exact gives_v e1 (pure_ok R e2)
    have hps : ∀ l : List (Nat × Operand), (l.map fun p => (p.1, a.eval p.2)).length = l.length := fun l => by simp
    split at hc
    · rename_i fs hu
      simp only [bind, Option.bind_eq_some_iff] at hc
      obtain ⟨qs, hq, hc⟩ := hc
      split at hc
      · rename_i hall
        injection hc with hc
        subst hc
        simp only [Ins.go] at hr
        cases hb : bldD z (qs.map fun p => (p.1, p.2.1, p.2.2.ev T)) with
        | none => rw [hb] at hr; cases hr
        | some cs =>
          rw [hb] at hr
          simp at hr
          obtain ⟨rfl, rfl⟩ := hr
          refine hrunE (cs := cs) ?_ rfl rfl
          have hbld := bld_ok (P := P) (w := w) (F := F) (κ := env μ H) hz (ps := (ps.toList.map fun p => (p.1, a.eval p.2))) (qs := qs.map fun p => (p.1, p.2.1, p.2.2.ev T)) (by simp [mapO_len hq]) (.inl ⟨fs, hu, fun i p q hp' hq' => by
            rw [List.getElem?_map] at hp' hq'
            obtain ⟨p0, h1, rfl⟩ := Option.map_eq_some_iff.1 hp'
            obtain ⟨q0, h2, rfl⟩ := Option.map_eq_some_iff.1 hq'
            obtain ⟨y, h3, h4⟩ := mapO_get hq i p0 h1
            rw [h2] at h4
            injection h4 with h4
            subst h4
            simp only [Option.bind_eq_some_iff] at h3
            obtain ⟨f, g1, s, g2, x, g3, g4⟩ := h3
            injection g4 with g4
            subst g4
            exact ⟨cX_ok g3 hT, f, s.2, g1, g2, rfl⟩⟩) (fun fs' hu' f hf' => by
            rw [hu] at hu'
            injection hu' with hu'
            injection hu' with hu'
            subst hu'
            exact Array.all_eq_true_iff_forall_mem.1 hall f hf') hb
          obtain ⟨r, e1, e2⟩ := hbld
          refine ⟨r, ?_, e2⟩
          rw [← e1]
          congr 2
          apply Array.ext'
          simp
      · cases hc
    · rename_i n e hu
      simp only [bind, Option.bind_eq_some_iff] at hc
      obtain ⟨⟨s, ag⟩, hs, qs, hq, hc⟩ := hc
      injection hc with hc
      subst hc
      simp only [Ins.go] at hr
      cases hb : bldD z (qs.map fun p => (p.1, p.2.1, p.2.2.ev T)) with
      | none => rw [hb] at hr; cases hr
      | some cs =>
        rw [hb] at hr
        simp at hr
        obtain ⟨rfl, rfl⟩ := hr
        refine hrunE (cs := cs) ?_ rfl rfl
        have hbld := bld_ok (P := P) (w := w) (F := F) (κ := env μ H) hz (ps := (ps.toList.map fun p => (p.1, a.eval p.2))) (qs := qs.map fun p => (p.1, p.2.1, p.2.2.ev T)) (by simp [mapO_len hq]) (.inr ⟨n, e, s, ag, hu, hs, fun i p q hp' hq' => by
          rw [List.getElem?_map] at hp' hq'
          obtain ⟨p0, h1, rfl⟩ := Option.map_eq_some_iff.1 hp'
          obtain ⟨q0, h2, rfl⟩ := Option.map_eq_some_iff.1 hq'
          obtain ⟨y, h3, h4⟩ := mapO_get hq i p0 h1
          rw [h2] at h4
          injection h4 with h4
          subst h4
          simp only [Option.bind_eq_some_iff] at h3
          obtain ⟨x, g3, g4⟩ := h3
          injection g4 with g4
          subst g4
          exact ⟨cX_ok g3 hT, rfl, rfl⟩⟩) (fun fs' hu' => by rw [hu] at hu'; cases hu') hb
        obtain ⟨r, e1, e2⟩ := hbld
        refine ⟨r, ?_, e2⟩
        rw [← e1]
        congr 2
        apply Array.ext'
        simp
    · cases hc
  case buildSlice t n ps =>
    split at hc
    · rename_i e hu
      simp only [bind, Option.bind_eq_some_iff] at hc
      obtain ⟨⟨s, ag⟩, hs, z, hz, qs, hq, hc⟩ := hc
      split at hc
      · rename_i hcc
        obtain ⟨h1, h2, h3⟩ := hcc
        injection hc with hc
        subst hc
        have hql := mapO_len hq
        have hqg : ∀ (i : Nat) (p : Nat × Operand), ps.toList[i]? = some p → ∃ x, cX p.2 = some x ∧ qs[i]? = some (p.1, x) := by
          intro i p hp'
          obtain ⟨y, h3, h4⟩ := mapO_get hq i p hp'
          simp only [Option.bind_eq_some_iff] at h3
          obtain ⟨x, g3, g4⟩ := h3
          injection g4 with g4
          subst g4
          exact ⟨x, g3, h4⟩
        have hfst : qs.map (·.1) = ps.toList.map (·.1) := by
          apply List.ext_getElem?
          intro i
          rw [List.getElem?_map, List.getElem?_map]
          cases hp' : ps.toList[i]? with
          | none =>
            have : qs[i]? = none := by rw [List.getElem?_eq_none_iff] at hp' ⊢; omega
            rw [this]; rfl
          | some p =>
            obtain ⟨x, _, h4⟩ := hqg i p hp'
            rw [h4]; rfl
        have hA : liveLit all cx o.dst = true → H nk = none := by
          intro hlive
          simp only [Ins.go, M.run_bind] at hr
          cases hq2 : (fzL true [] (qs.map fun p => p.2.ev T)).run H with
          | none => rw [hq2] at hr; cases hr
          | some q =>
            rw [hq2] at hr
            simp only [Option.bind_some] at hr
            split at hr
            · rw [if_pos hlive] at hr
              simp at hr
              obtain ⟨_, rfl⟩ := hr
              exact hf (nk, _) (List.mem_append.2 (.inr (List.mem_singleton.2 rfl))) (Nat.le_refl _)
            · cases hr
        have hB : RdL w F (env μ H) ((ps.toList.map fun p => (p.1, a.eval p.2)).map (·.2)) (qs.map fun p => p.2.ev T) := by
          refine ⟨by simp [hql], fun i v dd hv hd => ?_⟩
          rw [List.getElem?_map, List.getElem?_map] at hv
          rw [List.getElem?_map] at hd
          obtain ⟨v1, hv1, rfl⟩ := Option.map_eq_some_iff.1 hv
          obtain ⟨p, hp', rfl⟩ := Option.map_eq_some_iff.1 hv1
          obtain ⟨q, hq', rfl⟩ := Option.map_eq_some_iff.1 hd
          obtain ⟨x, g1, g2⟩ := hqg i p hp'
          rw [hq'] at g2
          injection g2 with g2
          subst g2
          exact cX_ok g1 hT
        have e0 : (ps.toList.map fun p => (p.1, a.eval p.2)).map (·.1) = qs.map (·.1) := by rw [hfst]; simp
        obtain ⟨r, w', F', μ', e1, e2, e3⟩ := bsl_ok (P := P) R hu hs hz h1 h2 h3 (live := liveLit all cx o.dst) (nk := nk) (n := n) (ps := ps.toList.map fun p => (p.1, a.eval p.2)) (ds := qs.map fun p => p.2.ev T) (d := d) (wr := wr)
          (fun hlive ov ds ds' hfz => by rw [fzL_dom ds hfz, ovH_nil]; exact hA hlive) (by simp [hql]) hB (by rw [e0]; exact hr)
        unfold execOp
        rw [hop]
        refine gives_v ?_ ⟨F', μ', e2, e3⟩
        rw [← e1]
        congr 2
        apply Array.ext'
        simp
      · cases hc
    · cases hc
  case load t x =>
    simp only [bind, Option.bind_eq_some_iff] at hc
    obtain ⟨ag, h1, xx, h2, hc⟩ := hc
    injection hc with hc
    subst hc
    obtain ⟨h3, rfl⟩ := run_pair hr
    obtain ⟨r, e1, e2⟩ := ld_ok (P := P) R h1 (cX_ok h2 hT) h3
    unfold execOp
    rw [hop]
    exact gives_v e1 (pure_ok R e2)
  case store t x v =>
    simp only [bind, Option.bind_eq_some_iff] at hc
    obtain ⟨⟨n, ag⟩, h1, xx, h2, vv, h3, hc⟩ := hc
    injection hc with hc
    subst hc
    simp only [Ins.go, M.run_bind] at hr
    cases hs : (stM n (xx.ev T) (vv.ev T)).run H with
    | none => rw [hs] at hr; cases hr
    | some wr' =>
      rw [hs] at hr
      simp at hr
      obtain ⟨rfl, rfl⟩ := hr
      obtain ⟨w', F', μ', e1, e2⟩ := st_ok (P := P) R h1 (cX_ok h2 hT) (cX_ok h3 hT) hs
      have : (execOp a.eval o).run P w = .ok .skip w' := by
        unfold execOp
        rw [hop]
        simp only [Sem.run_bind, e1, Result.andThen_ok, Sem.run_pure]
      rw [this]
      exact ⟨F', μ', e2, .undef _ _⟩
  case nilCheck x =>
    simp only [bind, Option.bind_eq_some_iff] at hc
    obtain ⟨xx, h1, hc⟩ := hc
    injection hc with hc
    subst hc
    have hv := cX_ok h1 hT
    have key : (execOp a.eval o).run P w = .ok (.value (a.eval x)) w → Rd w F (env μ H) (a.eval x) d → wr = [] → Gives P ((execOp a.eval o).run P w) (InsR Pr w F μ H wr d) := by
      rintro h1 h2 rfl
      rw [h1]
      exact pure_ok R h2
    simp only [Ins.go] at hr
    cases hx : xx.ev T <;> rw [hx] at hr hv <;> first | (cases hr; done) | (simp at hr; obtain ⟨rfl, rfl⟩ := hr)
    · obtain ⟨b, o', vs, e, _⟩ := toFz hv
      exact key (by unfold execOp; simp only [hop, e]; rfl) hv rfl
    · obtain ⟨b, o', e, _⟩ := hv.toPtr
      exact key (by unfold execOp; simp only [hop, e]; rfl) hv rfl
    · obtain ⟨b, o', e⟩ := hv.toAptr
      exact key (by unfold execOp; simp only [hop, e]; rfl) hv rfl
    · have e : ∃ n p q, a.eval x = .func (.func n) p q := by
        generalize a.eval x = vx at hv
        cases hv with
        | func _ f a c => exact ⟨_, _, _, rfl⟩
      obtain ⟨n, p, q, e⟩ := e
      exact key (by unfold execOp; simp only [hop, e]; rfl) hv rfl
  case binOp op t x y yt =>
    simp only [bind, Option.bind_eq_some_iff] at hc
    obtain ⟨xx, h1, yy, h2, hc⟩ := hc
    injection hc with hc
    subst hc
    obtain ⟨h3, rfl⟩ := run_ofOp hr
    obtain ⟨r, e1, e2⟩ := bin_ok (P := P) (x := x) (y := y) (cX_ok h1 hT) (cX_ok h2 hT) h3
    unfold execOp
    rw [hop]
    exact gives_v e1 (pure_ok R e2)
  case unOp op t x =>
    simp only [bind, Option.bind_eq_some_iff] at hc
    obtain ⟨xx, h1, hc⟩ := hc
    injection hc with hc
    subst hc
    obtain ⟨h3, rfl⟩ := run_ofOp hr
    obtain ⟨r, e1, e2⟩ := un_ok (P := P) (cX_ok h1 hT) h3
    unfold execOp
    rw [hop]
    exact gives_v e1 (pure_ok R e2)
  case convert src dst x =>
    split at hc
    · -- to a number
      rename_i k0 k hu1 hu2
      simp only [bind, Option.bind_eq_some_iff] at hc
      obtain ⟨xx, h1, hc⟩ := hc
      injection hc with hc
      subst hc
      have hv := cX_ok h1 hT
      simp only [Ins.go] at hr
      cases hx : xx.ev T <;> rw [hx] at hr hv <;> simp only [cvtM] at hr <;> first | (cases hr; done) | skip
      simp at hr
      obtain ⟨rfl, rfl⟩ := hr
      unfold execOp
      rw [hop]
      refine gives_v (r := .int k (k.wrap _)) ?_ (pure_ok R (.int _ _ _))
      rw [rd_int hv]
      unfold convert
      simp only [Sem.run_bind, run_underlying hu1, run_underlying hu2, Result.andThen_ok]
      rfl
    · -- a text stays
      rename_i hu1 hu2
      simp only [bind, Option.bind_eq_some_iff] at hc
      obtain ⟨xx, h1, hc⟩ := hc
      injection hc with hc
      subst hc
      have hv := cX_ok h1 hT
      simp only [Ins.go] at hr
      cases hx : xx.ev T <;> rw [hx] at hr hv <;> simp only [cvtM] at hr <;> first | (cases hr; done) | skip
      simp at hr
      obtain ⟨rfl, rfl⟩ := hr
      obtain ⟨p, e, rfl⟩ := rd_str hv
      unfold execOp
      rw [hop]
      refine gives_v (r := .string p) ?_ (pure_ok R (.str _ _))
      simp only [e]
      unfold convert
      simp only [Sem.run_bind, run_underlying hu1, run_underlying hu2, Result.andThen_ok]
      rfl
    · -- a text out of bytes
      rename_i e hu1 hu2
      split at hc
      · rename_i hee
        simp only [bind, Option.bind_eq_some_iff] at hc
        obtain ⟨xx, h1, hc⟩ := hc
        injection hc with hc
        subst hc
        simp only [Ins.go, cvtM, M.run_bind] at hr
        cases hes : (esM (xx.ev T)).run H with
        | none => rw [hes] at hr; cases hr
        | some q =>
          obtain ⟨s0, es⟩ := q
          rw [hes] at hr
          simp only [Option.bind_some] at hr
          cases hl : toU8 es with
          | none => rw [hl] at hr; cases hr
          | some l =>
            rw [hl] at hr
            simp at hr
            obtain ⟨rfl, rfl⟩ := hr
            obtain ⟨r, e1, e2⟩ := b2s_ok (P := P) (κ := env μ H) R (cX_ok h1 hT) hes hl src dst e hu1 hee hu2
            unfold execOp
            rw [hop]
            exact gives_v e1 (pure_ok R e2)
      · cases hc
    · -- bytes out of a text
      rename_i e hu1 hu2
      split at hc
      · rename_i hee
        simp only [bind, Option.bind_eq_some_iff] at hc
        obtain ⟨xx, h1, hc⟩ := hc
        injection hc with hc
        subst hc
        have hv := cX_ok h1 hT
        simp only [Ins.go] at hr
        cases hx : xx.ev T <;> rw [hx] at hr hv <;> simp only [cvtM] at hr <;> first | (cases hr; done) | skip
        split at hr
        · simp at hr
          obtain ⟨rfl, rfl⟩ := hr
          obtain ⟨r, w', F', μ', e1, e2, e3⟩ := s2b_ok (P := P) R hv src dst e hu1 hu2 hee (nk := nk) (hf _ (List.mem_singleton.2 rfl) (Nat.le_refl _))
          unfold execOp
          rw [hop]
          exact gives_v e1 ⟨F', μ', e2, e3⟩
        · cases hr
      · cases hc
    · -- a text of one rune
      rename_i k0 hu1 hu2
      simp only [bind, Option.bind_eq_some_iff] at hc
      obtain ⟨xx, h1, hc⟩ := hc
      injection hc with hc
      subst hc
      have hv := cX_ok h1 hT
      simp only [Ins.go] at hr
      cases hx : xx.ev T <;> rw [hx] at hr hv <;> simp only [cvtM] at hr <;> first | (cases hr; done) | skip
      simp at hr
      obtain ⟨rfl, rfl⟩ := hr
      unfold execOp
      rw [hop]
      refine gives_v (r := .string (Utf8.encode _)) ?_ (pure_ok R (.str _ _))
      rw [rd_int hv]
      unfold convert
      simp only [Sem.run_bind, run_underlying hu1, run_underlying hu2, Result.andThen_ok]
      rfl
    · cases hc
  case makeFunc fn fs cs =>
    cases fn <;> simp only [] at hc <;> first | (cases hc; done) | skip
    · rename_i f
      simp only [bind, Option.bind_eq_some_iff] at hc
      obtain ⟨xs, h1, ys, h2, hc⟩ := hc
      injection hc with hc
      subst hc
      simp [Ins.go] at hr
      obtain ⟨rfl, rfl⟩ := hr
      have hx := cXs_ok h1 hT
      have hy := cXs_ok h2 hT
      have hfun := Rd.func (w := w) (F := F) (env μ H) f (fs.toList.map a.eval) (cs.toList.map a.eval) (xs.map (X.ev T)) (ys.map (X.ev T)) hx.1 hy.1 hx.2 hy.2
      unfold execOp
      rw [hop]
      refine gives_v (r := .func (.func f) (fs.map a.eval) (cs.map a.eval)) rfl (pure_ok R ?_)
      have e1 : (fs.toList.map a.eval).toArray = fs.map a.eval := by apply Array.ext'; simp
      have e2 : (cs.toList.map a.eval).toArray = cs.map a.eval := by apply Array.ext'; simp
      rw [e1, e2] at hfun
      exact hfun
  case slice t x lo hi mx =>
    have fin : ∀ {kd s : Nat} {xx : X} {l h m : Option X}, cX x = some xx → cXo lo = some l → cXo hi = some h → cXo mx = some m → i = .sub kd s xx l h m → 0 < s →
        ((kd = 0 ∧ P.underlying t = some .string) ∨ (∃ e ag, tyOf P e = some (s, ag) ∧ ((kd = 1 ∧ P.underlying t = some (.slice e)) ∨ ∃ n, kd = n + 2 ∧ P.underlying t = some (.array n e)))) → Gives P ((execOp a.eval o).run P w) (InsR Pr w F μ H wr d) := by
      rintro kd s xx l h m h1 h2 h3 h4 rfl hs ht
      obtain ⟨h5, rfl⟩ := run_pair hr
      obtain ⟨r, e1, e2⟩ := sub_ok (P := P) R hs (cX_ok h1 hT) (cXo_ok h2 hT) (cXo_ok h3 hT) (cXo_ok h4 hT) h5 ht
      unfold execOp
      rw [hop]
      exact gives_v e1 (pure_ok R e2)
    split at hc
    · rename_i hu
      simp only [bind, Option.bind_eq_some_iff] at hc
      obtain ⟨xx, h1, l, h2, h, h3, m, h4, hc⟩ := hc
      injection hc with hc
      exact fin h1 h2 h3 h4 hc.symm (by omega) (.inl ⟨rfl, hu⟩)
    · rename_i e hu
      simp only [bind, Option.bind_eq_some_iff] at hc
      obtain ⟨⟨s, ag⟩, hs, hc⟩ := hc
      split at hc
      · rename_i hpos
        simp only [Option.bind_eq_some_iff] at hc
        obtain ⟨xx, h1, l, h2, h, h3, m, h4, hc⟩ := hc
        injection hc with hc
        exact fin h1 h2 h3 h4 hc.symm hpos (.inr ⟨e, ag, hs, .inl ⟨rfl, hu⟩⟩)
      · cases hc
    · rename_i n e hu
      simp only [bind, Option.bind_eq_some_iff] at hc
      obtain ⟨⟨s, ag⟩, hs, hc⟩ := hc
      split at hc
      · rename_i hpos
        simp only [Option.bind_eq_some_iff] at hc
        obtain ⟨xx, h1, l, h2, h, h3, m, h4, hc⟩ := hc
        injection hc with hc
        exact fin h1 h2 h3 h4 hc.symm hpos (.inr ⟨e, ag, hs, .inr ⟨n, rfl, hu⟩⟩)
      · cases hc
    · cases hc
  case fieldAddr t x j =>
    split at hc
    · rename_i fs hu
      simp only [bind, Option.bind_eq_some_iff] at hc
      obtain ⟨f, hfj, ⟨s, ag⟩, hs, hc⟩ := hc
      split at hc
      · rename_i hpos
        simp only [Option.bind_eq_some_iff] at hc
        obtain ⟨xx, h1, hc⟩ := hc
        injection hc with hc
        subst hc
        obtain ⟨h3, rfl⟩ := run_ofOp hr
        obtain ⟨r, e1, e2⟩ := fa_ok (P := P) hu hfj hs hpos.1 (cX_ok h1 hT) h3 (ty_one hpos.2)
        unfold execOp
        rw [hop]
        exact gives_v e1 (pure_ok R e2)
      · cases hc
    · cases hc
  case field t x j =>
    split at hc
    · rename_i fs hu
      simp only [bind, Option.bind_eq_some_iff] at hc
      obtain ⟨f, hfj, ⟨s, ag⟩, hs, hc⟩ := hc
      split at hc
      · rename_i hpos
        simp only [Option.bind_eq_some_iff] at hc
        obtain ⟨xx, h1, hc⟩ := hc
        injection hc with hc
        subst hc
        have hv := cX_ok h1 hT
        simp only [Ins.go] at hr
        cases hx : xx.ev T <;> rw [hx] at hr hv <;> simp only [] at hr <;> first | (cases hr; done) | skip
        obtain ⟨h3, rfl⟩ := run_ofOp hr
        obtain ⟨r, e1, e2⟩ := fld_ok (P := P) hu hfj hs hv h3 (ty_one hpos)
        unfold execOp
        rw [hop]
        exact gives_v e1 (pure_ok R e2)
      · cases hc
    · cases hc
  case indexAddr t x j =>
    have fin : ∀ {arr : Option Nat} {s : Nat} {ag : Bool} {e : TypeId} {xx jj : X}, cX x = some xx → cX j = some jj → i = .ia arr s ag xx jj → tyOf P e = some (s, ag) → (0 < s ∧ (ag = true ∨ s = 1)) →
        (match arr with | none => P.underlying t = some (.slice e) | some n => P.underlying t = some (.array n e)) → Gives P ((execOp a.eval o).run P w) (InsR Pr w F μ H wr d) := by
      rintro arr s ag e xx jj h1 h2 rfl hs hpos hu
      obtain ⟨h5, rfl⟩ := run_pair hr
      obtain ⟨r, e1, e2⟩ := ia_ok (P := P) R hs hpos.1 hu (cX_ok h1 hT) (cX_ok h2 hT) h5 (ty_one hpos.2)
      unfold execOp
      rw [hop]
      exact gives_v e1 (pure_ok R e2)
    split at hc
    · rename_i e hu
      simp only [bind, Option.bind_eq_some_iff] at hc
      obtain ⟨⟨s, ag⟩, hs, hc⟩ := hc
      split at hc
      · rename_i hpos
        simp only [Option.bind_eq_some_iff] at hc
        obtain ⟨xx, h1, jj, h2, hc⟩ := hc
        injection hc with hc
        exact fin (arr := none) h1 h2 hc.symm hs hpos hu
      · cases hc
    · rename_i n e hu
      simp only [bind, Option.bind_eq_some_iff] at hc
      obtain ⟨⟨s, ag⟩, hs, hc⟩ := hc
      split at hc
      · rename_i hpos
        simp only [Option.bind_eq_some_iff] at hc
        obtain ⟨xx, h1, jj, h2, hc⟩ := hc
        injection hc with hc
        exact fin (arr := some n) h1 h2 hc.symm hs hpos hu
      · cases hc
    · cases hc
  case index t x j =>
    split at hc
    · rename_i hu
      simp only [bind, Option.bind_eq_some_iff] at hc
      obtain ⟨xx, h1, jj, h2, hc⟩ := hc
      injection hc with hc
      subst hc
      obtain ⟨h3, rfl⟩ := run_ofOp hr
      obtain ⟨r, e1, e2⟩ := ix_ok (P := P) (.inl ⟨rfl, hu⟩) (fun _ => rfl) (cX_ok h1 hT) (cX_ok h2 hT) h3
      unfold execOp
      rw [hop]
      exact gives_v e1 (pure_ok R e2)
    · rename_i n e hu
      simp only [bind, Option.bind_eq_some_iff] at hc
      obtain ⟨⟨s, ag⟩, hs, hc⟩ := hc
      split at hc
      · rename_i hpos
        simp only [Option.bind_eq_some_iff] at hc
        obtain ⟨xx, h1, jj, h2, hc⟩ := hc
        injection hc with hc
        subst hc
        obtain ⟨h3, rfl⟩ := run_ofOp hr
        obtain ⟨r, e1, e2⟩ := ix_ok (P := P) (.inr ⟨rfl, e, hu, hs⟩) (ty_one hpos) (cX_ok h1 hT) (cX_ok h2 hT) h3
        unfold execOp
        rw [hop]
        exact gives_v e1 (pure_ok R e2)
      · cases hc
    · cases hc
  case makeMap t hint =>
    cases hint with
    | some y => simp at hc
    | none =>
      simp only at hc
      split at hc
      · injection hc with hc
        subst hc
        simp [Ins.go] at hr
        obtain ⟨rfl, rfl⟩ := hr
        obtain ⟨r, w', F', μ', e1, e2, e3⟩ := mkmap_ok (P := P) (t := t) R (nk := nk) (hf _ (List.mem_singleton.2 rfl) (Nat.le_refl _))
        unfold execOp
        rw [hop]
        exact gives_v e1 ⟨F', μ', e2, e3⟩
      · cases hc
  case lookup t m k ok =>
    split at hc
    · rename_i kt et hu
      simp only [bind, Option.bind_eq_some_iff] at hc
      obtain ⟨z, hz, hc⟩ := hc
      split at hc
      · rename_i hne
        simp only [Option.bind_eq_some_iff] at hc
        obtain ⟨mm, h1, kk, h2, hc⟩ := hc
        injection hc with hc
        subst hc
        simp only [Ins.go, M.run_bind] at hr
        cases hg : (mgetM ok (keyFlat P kt) z (mm.ev T) (kk.ev T)).run H with
        | none => rw [hg] at hr; cases hr
        | some d' =>
          rw [hg] at hr
          simp at hr
          obtain ⟨rfl, rfl⟩ := hr
          obtain ⟨r, e1, e2⟩ := mget_ok (P := P) R hu hne hz (cX_ok h1 hT) (cX_ok h2 hT) hg
          unfold execOp
          rw [hop]
          exact gives_v e1 (pure_ok R e2)
      · cases hc
    · cases hc
  case mapUpdate t m k v =>
    split at hc
    · rename_i kt et hu
      split at hc
      · rename_i hne
        simp only [bind, Option.bind_eq_some_iff] at hc
        obtain ⟨mm, h1, kk, h2, vv, h3, hc⟩ := hc
        injection hc with hc
        subst hc
        simp only [Ins.go, M.run_bind] at hr
        cases hg : (msetM (keyFlat P kt) (mm.ev T) (kk.ev T) (vv.ev T)).run H with
        | none => rw [hg] at hr; cases hr
        | some wr' =>
          rw [hg] at hr
          simp at hr
          obtain ⟨rfl, rfl⟩ := hr
          obtain ⟨w', F', μ', e1, e2⟩ := mset_ok (P := P) R hu hne (cX_ok h1 hT) (cX_ok h2 hT) (cX_ok h3 hT) hg
          have : (execOp a.eval o).run P w = .ok .skip w' := by
            unfold execOp
            rw [hop]
            simp only [Sem.run_bind, e1, Result.andThen_ok, Sem.run_pure]
          rw [this]
          exact ⟨F', μ', e2, .undef _ _⟩
      · cases hc
    · cases hc
  case insert t m k v =>
    split at hc
    · rename_i kt et hu
      split at hc
      · rename_i hne
        simp only [bind, Option.bind_eq_some_iff] at hc
        obtain ⟨mm, h1, kk, h2, vv, h3, hc⟩ := hc
        injection hc with hc
        subst hc
        simp only [Ins.go, M.run_bind] at hr
        cases hg : (msetM (keyFlat P kt) (mm.ev T) (kk.ev T) (vv.ev T)).run H with
        | none => rw [hg] at hr; cases hr
        | some wr' =>
          rw [hg] at hr
          simp at hr
          obtain ⟨rfl, rfl⟩ := hr
          obtain ⟨w', F', μ', e1, e2⟩ := mset_ok (P := P) R hu hne (cX_ok h1 hT) (cX_ok h2 hT) (cX_ok h3 hT) hg
          have : (execOp a.eval o).run P w = .ok .skip w' := by
            unfold execOp
            rw [hop]
            simp only [Sem.run_bind, e1, Result.andThen_ok, Sem.run_pure]
          rw [this]
          exact ⟨F', μ', e2, .undef _ _⟩
      · cases hc
    · cases hc
  case extract x n =>
    simp only [bind, Option.bind_eq_some_iff] at hc
    obtain ⟨xx, h1, hc⟩ := hc
    injection hc with hc
    subst hc
    have hv := cX_ok h1 hT
    simp only [Ins.go] at hr
    cases hx : xx.ev T <;> rw [hx] at hr hv <;> simp only [] at hr <;> first | (cases hr; done) | skip
    rename_i ds
    obtain ⟨h3, rfl⟩ := run_ofOp hr
    obtain ⟨vs, e, hl⟩ := rd_tuple hv
    have hlen : n < ds.length := by
      rcases Nat.lt_or_ge n ds.length with h | h
      · exact h
      · rw [List.getElem?_eq_none h] at h3; cases h3
    have hvs : vs[n]? = some (vs[n]'(by have := hl.1; simp at this; omega)) := Array.getElem?_eq_getElem _
    unfold execOp
    rw [hop]
    refine gives_v (r := vs[n]'(by have := hl.1; simp at this; omega)) ?_ (pure_ok R (hl.2 n _ _ (by simp) h3))
    simp only [e]
    unfold Instr.extract
    simp only [hvs]
    rfl
  case makeSlice t n c =>
    split at hc
    · rename_i e hu
      simp only [bind, Option.bind_eq_some_iff] at hc
      obtain ⟨⟨s, ag⟩, hs, ti, hi, z, hz, hc⟩ := hc
      split at hc
      · rename_i hcc
        simp only [Option.bind_eq_some_iff] at hc
        obtain ⟨nn, h1, cc, h2, hc⟩ := hc
        injection hc with hc
        subst hc
        have hv1 := cX_ok h1 hT
        have hv2 := cX_ok h2 hT
        simp only [Ins.go] at hr
        cases hx : nn.ev T <;> cases hy : cc.ev T <;> rw [hx, hy] at hr <;> first | (cases hr; done) | skip
        rename_i k1 n1 k2 n2
        rw [hx] at hv1
        rw [hy] at hv2
        by_cases hb : 0 ≤ n1 ∧ n1 = n2 ∧ n1 * ti.bytes ≤ capBound
        · simp only [if_pos hb, M.run_pure] at hr
          obtain ⟨hb1, rfl, hb3⟩ := hb
          simp only [Option.some.injEq, Prod.mk.injEq] at hr
          obtain ⟨rfl, rfl⟩ := hr
          obtain ⟨N, rfl⟩ : ∃ N : Nat, n1 = N := ⟨n1.toNat, by omega⟩
          obtain ⟨r, w', F', μ', e1, e2, e3⟩ := ml_ok (P := P) R hu hs hi hz hcc.2.1 hcc.2.2 hcc.1 (n := N) (k1 := k1) (k2 := k2) hb3 (nk := nk) (hf _ (List.mem_singleton.2 rfl) (Nat.le_refl _))
          unfold execOp
          rw [hop]
          simp only [rd_int hv1, rd_int hv2]
          exact gives_v e1 ⟨F', μ', e2, e3⟩
        · simp only [if_neg hb] at hr
          cases hr
      · cases hc
    · cases hc
  case call c =>
    obtain ⟨args, hargs⟩ : ∃ x, x = c.args := ⟨_, rfl⟩
    split at hc
    · -- of a value
      rename_i f hcal
      simp only [bind, Option.bind_eq_some_iff] at hc
      obtain ⟨ff, h1, xs, h2, hc⟩ := hc
      injection hc with hc
      subst hc
      have hv := cX_ok h1 hT
      have hx := cXs_ok h2 hT
      simp only [Ins.go] at hr
      cases hf' : ff.ev T <;> rw [hf'] at hr hv <;> simp only [] at hr <;> first | (cases hr; done) | skip
      rename_i n as bs
      obtain ⟨p, q, e, hp, hq⟩ : ∃ p q, a.eval f = .func (.func n) p q ∧ RdL w F (env μ H) p.toList as ∧ RdL w F (env μ H) q.toList bs := by
        generalize a.eval f = vx at hv
        cases hv with
        | func _ f vs ws ds es g1 g2 g3 g4 => exact ⟨_, _, rfl, ⟨by simpa using g1, fun i v d h1 h2 => g3 i v d (by simpa using h1) h2⟩, ⟨by simpa using g2, fun i v d h1 h2 => g4 i v d (by simpa using h1) h2⟩⟩
      have hall : RdL w F (env μ H) (p.toList ++ c.args.toList.map a.eval ++ q.toList) (as ++ xs.map (X.ev T) ++ bs) := RdL.append (RdL.append hp hx) hq
      have := call_ok (P := P) hcall R hall hr hf
      unfold execOp
      rw [hop]
      have e2 : (p.toList ++ c.args.toList.map a.eval ++ q.toList).toArray = p ++ c.args.map a.eval ++ q := by apply Array.ext'; simp
      rw [e2] at this
      simp only [resolve, hcal, e, Deferred.ofValue, invoke, Sem.run_bind, Sem.run_pure, Result.andThen_ok]
      exact this
    · -- len
      rename_i hcal
      split at hc
      · rename_i x t hx ht
        have hx' : c.args = #[x] := by apply Array.ext'; simpa using hx
        have ht' : c.argTypes = #[t] := by apply Array.ext'; simpa using ht
        have fin : ∀ {kd : Nat} {xx : X}, cX x = some xx → i = .len kd xx → ((kd = 0 ∧ P.underlying t = some .string) ∨ (kd = 1 ∧ ∃ e, P.underlying t = some (.slice e))) → Gives P ((execOp a.eval o).run P w) (InsR Pr w F μ H wr d) := by
          rintro kd xx h1 rfl hu
          obtain ⟨h3, rfl⟩ := run_ofOp hr
          obtain ⟨r, e1, e2⟩ := len_ok (P := P) (u := o.type) hu (cX_ok h1 hT) h3
          unfold execOp
          rw [hop]
          simp only [resolve, hcal, invoke, builtin, Sem.run_bind, Sem.run_pure, Result.andThen_ok, hx', ht', List.map_toArray, List.map_cons, List.map_nil, e1]
          exact pure_ok R e2
        split at hc
        · rename_i hu
          obtain ⟨xx, h1, h2⟩ := Option.map_eq_some_iff.1 hc
          exact fin h1 h2.symm (.inl ⟨rfl, hu⟩)
        · rename_i e hu
          obtain ⟨xx, h1, h2⟩ := Option.map_eq_some_iff.1 hc
          exact fin h1 h2.symm (.inr ⟨rfl, e, hu⟩)
        · cases hc
      · cases hc
    · -- append
      rename_i hcal
      split at hc
      · rename_i x y t u hx ht
        have hx' : c.args = #[x, y] := by apply Array.ext'; simpa using hx
        have ht' : c.argTypes = #[t, u] := by apply Array.ext'; simpa using ht
        have fin : ∀ {e : TypeId}, P.underlying t = some (.slice e) → ((∃ e', P.underlying u = some (.slice e')) ∨ P.underlying u = some .string) → (do
          let (s, _) ← tyOf P e
          let i ← P.info? e
          let z ← zeroOf P e
          if 0 < i.bytes ∧ 0 < s ∧ z.length = s then some (Ins.app s i.bytes (← cX x) (← cX y)) else none) = some i → Gives P ((execOp a.eval o).run P w) (InsR Pr w F μ H wr d) := by
          intro e ht1 hu1 hc
          simp only [bind, Option.bind_eq_some_iff] at hc
          obtain ⟨⟨s, ag⟩, hs, ti, hi, z, hz, hc⟩ := hc
          split at hc
          · rename_i hcc
            simp only [Option.bind_eq_some_iff] at hc
            obtain ⟨xx, h1, yy, h2, hc⟩ := hc
            injection hc with hc
            subst hc
            obtain ⟨r, w', F', μ', e1, e2, e3⟩ := app_ok (P := P) (ty := o.type) R ht1 hu1 hs hi hz hcc.1 hcc.2.2 (nk := nk) hf (cX_ok h1 hT) (cX_ok h2 hT) hr
            unfold execOp
            rw [hop]
            simp only [resolve, hcal, invoke, builtin, Sem.run_bind, Sem.run_pure, Result.andThen_ok, hx', ht', List.map_toArray, List.map_cons, List.map_nil, e1]
            exact ⟨F', μ', e2, e3⟩
          · cases hc
        split at hc
        · rename_i e e' hu1 hu2
          exact fin hu1 (.inl ⟨e', hu2⟩) hc
        · rename_i e hu1 hu2
          exact fin hu1 (.inr hu2) hc
        · cases hc
      · cases hc
    · -- copy
      rename_i hcal
      split at hc
      · rename_i x y t u hx ht
        have hx' : c.args = #[x, y] := by apply Array.ext'; simpa using hx
        have ht' : c.argTypes = #[t, u] := by apply Array.ext'; simpa using ht
        split at hc
        · rename_i e hu
          simp only [bind, Option.bind_eq_some_iff] at hc
          obtain ⟨⟨s, ag⟩, hs, hc⟩ := hc
          split at hc
          · simp only [Option.bind_eq_some_iff] at hc
            obtain ⟨xx, h1, yy, h2, hc⟩ := hc
            injection hc with hc
            subst hc
            obtain ⟨r, w', F', μ', e1, e2, e3⟩ := cpy_ok (P := P) (ty := o.type) (u := u) R hu hs (cX_ok h1 hT) (cX_ok h2 hT) hr
            unfold execOp
            rw [hop]
            simp only [resolve, hcal, invoke, builtin, Sem.run_bind, Sem.run_pure, Result.andThen_ok, hx', ht', List.map_toArray, List.map_cons, List.map_nil, e1]
            exact ⟨F', μ', e2, e3⟩
          · cases hc
        · cases hc
      · cases hc
    · -- min
      rename_i hcal
      simp only [bind, Option.bind_eq_some_iff] at hc
      obtain ⟨xs, h1, hc⟩ := hc
      injection hc with hc
      subst hc
      obtain ⟨h3, rfl⟩ := run_ofOp hr
      have hx := cXs_ok h1 hT
      unfold execOp
      rw [hop]
      simp only [resolve, hcal, invoke, builtin, Sem.run_bind, Sem.run_pure, Result.andThen_ok]
      have e0 : (c.args.map a.eval).toList = c.args.toList.map a.eval := by simp
      unfold Builtin.min_
      rw [e0]
      cases hdl : xs.map (X.ev T) with
      | nil => rw [hdl] at h3; cases h3
      | cons x0 rest =>
        rw [hdl] at hx h3
        cases hvl : c.args.toList.map a.eval with
        | nil => rw [hvl] at hx; cases hx.1
        | cons v0 vr =>
          rw [hvl] at hx
          have hx0 := hx.2 0 v0 x0 rfl rfl
          cases x0 <;> simp only [minD] at h3 <;> first | (cases h3; done) | skip
          rw [rd_int hx0]
          obtain ⟨r, e1, e2⟩ := min_ok (P := P) (vs := vr) ⟨by have := hx.1; simpa using this, fun i v d h1 h2 => hx.2 (i + 1) v d (by simpa using h1) (by simpa using h2)⟩ h3
          simp only [e1, Result.andThen_ok]
          exact pure_ok R e2
    · -- max
      rename_i hcal
      simp only [bind, Option.bind_eq_some_iff] at hc
      obtain ⟨xs, h1, hc⟩ := hc
      injection hc with hc
      subst hc
      obtain ⟨h3, rfl⟩ := run_ofOp hr
      have hx := cXs_ok h1 hT
      unfold execOp
      rw [hop]
      simp only [resolve, hcal, invoke, builtin, Sem.run_bind, Sem.run_pure, Result.andThen_ok]
      have e0 : (c.args.map a.eval).toList = c.args.toList.map a.eval := by simp
      unfold Builtin.max_
      rw [e0]
      cases hdl : xs.map (X.ev T) with
      | nil => rw [hdl] at h3; cases h3
      | cons x0 rest =>
        rw [hdl] at hx h3
        cases hvl : c.args.toList.map a.eval with
        | nil => rw [hvl] at hx; cases hx.1
        | cons v0 vr =>
          rw [hvl] at hx
          have hx0 := hx.2 0 v0 x0 rfl rfl
          cases x0 <;> simp only [maxD] at h3 <;> first | (cases h3; done) | skip
          rw [rd_int hx0]
          obtain ⟨r, e1, e2⟩ := max_ok (P := P) (vs := vr) ⟨by have := hx.1; simpa using this, fun i v d h1 h2 => hx.2 (i + 1) v d (by simpa using h1) (by simpa using h2)⟩ h3
          simp only [e1, Result.andThen_ok]
          exact pure_ok R e2
    · cases hc
  all_goals first | (cases hc; done) | skip
end
end Go.Ab
