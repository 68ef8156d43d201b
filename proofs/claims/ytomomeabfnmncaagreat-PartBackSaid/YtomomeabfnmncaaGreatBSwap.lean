/- THE ABSTRACT MACHINE: operations that may change places. -/
import Derived.Test.YtomomeabfnmncaaGreatBIns
import Derived.Test.YtomomeabfnmncaaGreatBLim
set_option linter.all false
namespace Go.Ab

/-- What is written there, and what not. -/
theorem app_out {H : Hp} {wr : Wr} {k : Nat} (h : k ∉ wr.map (·.1)) : H.app wr k = H k := by
  induction wr generalizing H with
  | nil => rfl
  | cons p r ih =>
    obtain ⟨g, o⟩ := p
    rw [app_upd]
    simp only [List.map_cons, List.mem_cons, not_or] at h
    rw [ih h.2, upd_ne _ _ h.1]
theorem app_in {wr : Wr} {k : Nat} (h : k ∈ wr.map (·.1)) (H H' : Hp) : H.app wr k = H'.app wr k := by
  induction wr generalizing H H' with
  | nil => cases h
  | cons p r ih =>
    obtain ⟨g, o⟩ := p
    rw [app_upd, app_upd]
    by_cases hr : k ∈ r.map (·.1)
    · exact ih hr _ _
    · have hg : k = g := by simpa [hr] using h
      rw [app_out hr, app_out hr, hg, upd_same, upd_same]
theorem app_comm {H : Hp} {a b : Wr} (h : ∀ k ∈ a.map (·.1), k ∉ b.map (·.1)) : (H.app a).app b = (H.app b).app a := by
  funext k
  by_cases hb : k ∈ b.map (·.1)
  · have ha : k ∉ a.map (·.1) := fun ha => h k ha hb
    rw [app_out ha]
    exact app_in hb _ _
  · rw [app_out hb]
    by_cases ha : k ∈ a.map (·.1)
    · exact app_in ha _ _
    · rw [app_out ha, app_out ha, app_out hb]

theorem hp_applyW : ∀ {wr : Wr} {H H' : List Obj}, applyW H wr = some H' → hp H' = (hp H).app wr
  | [], H, H', h => by simp [applyW] at h; subst h; rfl
  | (g, o) :: r, H, H', h => by
    rw [app_upd]
    unfold applyW at h
    split at h
    · rename_i hlt
      rw [hp_applyW h]
      congr 1
      funext k
      by_cases hk : k = g
      · subst hk; simp [hp, hlt]
      · rw [upd_ne _ _ hk]; simp [hp, List.getElem?_set, Ne.symm hk]
    · split at h
      · rename_i hge heq
        rw [hp_applyW h]
        congr 1
        funext k
        by_cases hk : k = g
        · subst hk; simp [hp, heq]
        · rw [upd_ne _ _ hk]
          simp only [hp]
          rw [List.getElem?_append]
          split
          · rfl
          · rename_i hlt
            rw [List.getElem?_eq_none (by omega : H.length ≤ k), List.getElem?_eq_none]; simp only [List.length_singleton]; omega
      · cases h

/-! ### What an instruction looks at -/

theorem X.ev_congr {x : X} {T T' : List D} (h : ∀ t ∈ x.tm, T'[t]? = T[t]?) : x.ev T' = x.ev T := by
  cases x <;> simp [X.tm] at h <;> simp [X.ev, h]
theorem X.evs_congr {xs : List X} {T T' : List D} (h : ∀ t ∈ xs.flatMap X.tm, T'[t]? = T[t]?) : xs.map (X.ev T') = xs.map (X.ev T) := by
  refine List.map_congr_left fun x hx => X.ev_congr fun t ht => h t (List.mem_flatMap.2 ⟨x, hx, ht⟩)
theorem X.evo_congr {x : Option X} {T T' : List D} (h : ∀ t ∈ X.tmo x, T'[t]? = T[t]?) : x.map (X.ev T') = x.map (X.ev T) := by
  cases x with
  | none => rfl
  | some x => simp [X.ev_congr h]

theorem go_congr {cf : Cfg} {call : CallFn} {nk : Nat} {T T' : List D} {i : Ins} (h : ∀ t ∈ i.tms, T'[t]? = T[t]?) : i.go cf call nk T' = i.go cf call nk T := by
  have one : ∀ (x : X), (∀ t ∈ x.tm, T'[t]? = T[t]?) → x.ev T' = x.ev T := fun x hx => X.ev_congr hx
  cases i <;> simp only [Ins.tms, List.mem_append] at h <;> simp only [Ins.go]
  case mv x => rw [one x h]
  case pick c a b => rw [one c fun t ht => h t (.inl (.inl ht)), one a fun t ht => h t (.inl (.inr ht)), one b fun t ht => h t (.inr ht)]
  case box v x => rw [one x h]
  case boxA n s x => rw [one x h]
  case bld z ps =>
    have : ps.map (fun p => (p.1, p.2.1, p.2.2.ev T')) = ps.map (fun p => (p.1, p.2.1, p.2.2.ev T)) :=
      List.map_congr_left fun p hp => by rw [one p.2.2 fun t ht => h t (List.mem_flatMap.2 ⟨p, hp, ht⟩)]
    rw [this]
  case bsl l s n z ps =>
    have : ps.map (fun p => p.2.ev T') = ps.map (fun p => p.2.ev T) :=
      List.map_congr_left fun p hp => by rw [one p.2 fun t ht => h t (List.mem_flatMap.2 ⟨p, hp, ht⟩)]
    rw [this]
  case ld ag x => rw [one x h]
  case st n x v => rw [one x fun t ht => h t (.inl ht), one v fun t ht => h t (.inr ht)]
  case nc x => rw [one x h]
  case bin op fl x v => rw [one x fun t ht => h t (.inl ht), one v fun t ht => h t (.inr ht)]
  case un op x => rw [one x h]
  case cvt c x => rw [one x h]
  case fn f a b => rw [X.evs_congr fun t ht => h t (.inl ht), X.evs_congr fun t ht => h t (.inr ht)]
  case sub kd s x l hh m => rw [one x fun t ht => h t (.inl (.inl (.inl ht))), X.evo_congr fun t ht => h t (.inl (.inl (.inr ht))), X.evo_congr fun t ht => h t (.inl (.inr ht)), X.evo_congr fun t ht => h t (.inr ht)]
  case fa o s ag x => rw [one x h]
  case fld o s ag x => rw [one x h]
  case ia arr s ag x v => rw [one x fun t ht => h t (.inl ht), one v fun t ht => h t (.inr ht)]
  case ix kd n s ag x v => rw [one x fun t ht => h t (.inl ht), one v fun t ht => h t (.inr ht)]
  case ext x n => rw [one x h]
  case call f as => rw [one f fun t ht => h t (.inl ht), X.evs_congr fun t ht => h t (.inr ht)]
  case len kd x => rw [one x h]
  case app s b x v => rw [one x fun t ht => h t (.inl ht), one v fun t ht => h t (.inr ht)]
  case mn xs => rw [X.evs_congr h]
  case mx xs => rw [X.evs_congr h]
  case ml s b z x v => rw [one x fun t ht => h t (.inl ht), one v fun t ht => h t (.inr ht)]
  case cpy s x v => rw [one x fun t ht => h t (.inl ht), one v fun t ht => h t (.inr ht)]
  case mget ok fl z m k => rw [one m fun t ht => h t (.inl ht), one k fun t ht => h t (.inr ht)]
  case mset fl m k v => rw [one m fun t ht => h t (.inl (.inl ht)), one k fun t ht => h t (.inl (.inr ht)), one v fun t ht => h t (.inr ht)]

/-- One that looks at no object, and writes none. -/
theorem pure_go {cf : Cfg} {call : CallFn} {nk : Nat} {T : List D} {i : Ins} (hh : i.heapish = false) {H : Hp} {d : D} {wr : Wr} (hr : (i.go cf call nk T).run H = some (d, wr)) : wr = [] ∧ (i.go cf call nk T).log H = [] := by
  have key : ∀ {o : Option D}, (ofO o >>= fun x => pure (x, []) : M (D × Wr)).run H = some (d, wr) → wr = [] ∧ (ofO o >>= fun x => pure (x, []) : M (D × Wr)).log H = [] := by
    intro o h
    cases o with
    | none => cases h
    | some x => rw [M.run_bind] at h; simp at h; exact ⟨h.2, rfl⟩
  cases i <;> simp only [Ins.heapish, Bool.true_eq_false, Bool.false_eq_true] at hh <;> simp only [Ins.go] at hr ⊢
  case mv x => simp at hr; exact ⟨hr.2, rfl⟩
  case pick c a b => cases hc : c.ev T <;> rw [hc] at hr <;> first | (cases hr; done) | (simp at hr; exact ⟨hr.2, rfl⟩)
  case bld z ps => split at hr <;> first | (cases hr; done) | (simp at hr; exact ⟨hr.2, rfl⟩)
  case nc x => cases hc : x.ev T <;> rw [hc] at hr <;> first | (cases hr; done) | (simp at hr; exact ⟨hr.2, rfl⟩)
  case bin => exact key hr
  case un => exact key hr
  case cvt c x =>
    cases c <;> simp only [Ins.heapish, Bool.true_eq_false] at hh <;> cases hc : x.ev T <;> rw [hc] at hr <;> simp only [cvtM] at hr ⊢ <;> first | (cases hr; done) | (simp at hr; exact ⟨hr.2, rfl⟩)
  case fn => simp at hr; exact ⟨hr.2, rfl⟩
  case fa => exact key hr
  case fld off sz ag x => cases hc : x.ev T <;> rw [hc] at hr <;> first | (cases hr; done) | exact key hr
  case ix => exact key hr
  case ext x n => cases hc : x.ev T <;> rw [hc] at hr <;> first | (cases hr; done) | exact key hr
  case len => exact key hr
  case mn => exact key hr
  case mx => exact key hr

/-! ### Steps -/

abbrev SH := List D × Hp
abbrev Lg := Nat → List Nat × List Nat

/-- Operation i is done, or passed by. -/
def St1 (cf : Cfg) (call : CallFn) (os : List Ope) (lg : Lg) (i : Nat) (s s' : SH) : Prop :=
  ∃ o, os[i]? = some o ∧
    ((wants s.1 o.guard = some true ∧ ∃ nk d wr, (o.ins.go cf call nk s.1).run s.2 = some (d, wr) ∧ lg i = ((o.ins.go cf call nk s.1).log s.2, wr.map (·.1)) ∧
        (∀ p ∈ wr, nk ≤ p.1 → s.2 p.1 = none) ∧ s' = (setD s.1 o.dst d, s.2.app wr)) ∨
      (wants s.1 o.guard = some false ∧ lg i = ([], []) ∧ s' = (setD s.1 o.dst (.tuple []), s.2)))

inductive Rn (cf : Cfg) (call : CallFn) (os : List Ope) (lg : Lg) : List Nat → SH → SH → Prop
  | nil (s : SH) : Rn cf call os lg [] s s
  | cons {i : Nat} {L : List Nat} {s s1 r : SH} (h : St1 cf call os lg i s s1) (hr : Rn cf call os lg L s1 r) : Rn cf call os lg (i :: L) s r

section
variable {cf : Cfg} {call : CallFn} {os : List Ope} {lg : Lg}

theorem setD_get {T : List D} {dst : Option Nat} {d : D} {t : Nat} (h : dst ≠ some t) : (setD T dst d)[t]? = T[t]? := by
  cases dst with
  | none => rfl
  | some i => simp only [setD]; rw [List.getElem?_set_ne (fun e => h (by rw [e]))]

theorem setD_comm {T : List D} {a b : Option Nat} {d e : D} (h : ∀ t, a = some t → b ≠ some t) : setD (setD T a d) b e = setD (setD T b e) a d := by
  cases a with
  | none => rfl
  | some i =>
    cases b with
    | none => rfl
    | some j =>
      have : i ≠ j := fun he => h i rfl (by rw [he])
      simp only [setD]
      exact List.set_comm _ _ this

theorem wants_congr {T T' : List D} {g : Option (Option Nat × Bool)} (h : ∀ j w, g = some (some j, w) → T'[j]? = T[j]?) : wants T' g = wants T g := by
  unfold wants
  split
  · rfl
  · rename_i j w
    rw [h j w rfl]
  · rfl

theorem Ope.apart_spec {x y : Ope} (h : x.apart y = true) :
    (∀ d, x.dst = some d → d ∉ y.looks) ∧ (∀ d, x.dst = some d → y.dst ≠ some d) ∧ (∀ d, y.dst = some d → d ∉ x.looks) := by
  refine ⟨fun d hd => ?_, fun d hd => ?_, fun d hd => ?_⟩ <;> simp [Ope.apart, hd] at h
  · exact h.1.1
  · exact h.1.2
  · exact h.2

theorem free_spec {a b : List Nat × List Nat} (h : free a b = true) : (∀ k ∈ a.2, k ∉ b.1) ∧ (∀ k ∈ a.2, k ∉ b.2) ∧ (∀ k ∈ b.2, k ∉ a.1) := by
  simp [free] at h
  exact ⟨fun k hk => (h.1 k hk).1, fun k hk => (h.1 k hk).2, fun k hk => h.2 k hk⟩

/-- What may change places. -/
def Fr (os : List Ope) (lg : Lg) (i j : Nat) : Prop := (∀ x y, os[i]? = some x → os[j]? = some y → x.apart y = true) ∧ free (lg i) (lg j) = true

/-- One step where other slots, and other objects, have changed. -/
theorem St1.move {i : Nat} {o : Ope} (ho : os[i]? = some o) {s s' : SH} (h : St1 cf call os lg i s s') {T : List D} {H : Hp} (hT : ∀ t ∈ o.looks, T[t]? = s.1[t]?)
    (hH : ∀ k ∈ (lg i).1, H k = s.2 k) (hW : ∀ k ∈ (lg i).2, H k = s.2 k) :
    ∃ d wr, s' = (setD s.1 o.dst d, s.2.app wr) ∧ wr.map (·.1) = (lg i).2 ∧ St1 cf call os lg i (T, H) (setD T o.dst d, H.app wr) := by
  obtain ⟨o', ho', h⟩ := h
  rw [ho] at ho'
  injection ho' with ho'
  subst ho'
  have hw : wants T o.guard = wants s.1 o.guard := wants_congr fun j w hg => hT j (List.mem_append.2 (.inr (by rw [hg]; simp)))
  have hg : ∀ nk, o.ins.go cf call nk T = o.ins.go cf call nk s.1 := fun nk => go_congr fun t ht => hT t (List.mem_append.2 (.inl ht))
  rcases h with ⟨h1, nk, d, wr, h2, h3, h4, rfl⟩ | ⟨h1, h2, rfl⟩
  · refine ⟨d, wr, rfl, by rw [h3], o, ho, .inl ⟨by rw [hw]; exact h1, nk, d, wr, ?_⟩⟩
    have := M.run_congr _ s.2 H _ h2 (fun k hk => hH k (by rw [h3]; exact hk))
    rw [hg]
    refine ⟨this.1, by rw [h3, this.2], fun p hp hn => ?_, rfl⟩
    show H p.1 = none
    rw [hW p.1 (by rw [h3]; exact List.mem_map.2 ⟨p, hp, rfl⟩)]
    exact h4 p hp hn
  · exact ⟨_, [], rfl, by rw [h2]; rfl, o, ho, .inr ⟨by rw [hw]; exact h1, h2, rfl⟩⟩

theorem swap {i j : Nat} (hf : Fr os lg i j) {s s1 s2 : SH} (h1 : St1 cf call os lg i s s1) (h2 : St1 cf call os lg j s1 s2) :
    ∃ s', St1 cf call os lg j s s' ∧ St1 cf call os lg i s' s2 := by
  obtain ⟨x, hx, _⟩ := id h1
  obtain ⟨y, hy, _⟩ := id h2
  obtain ⟨f1, f2, f3⟩ := Ope.apart_spec (hf.1 x y hx hy)
  obtain ⟨g1, g2, g3⟩ := free_spec hf.2
  obtain ⟨d, wr, e1, e2, _⟩ := h1.move hx (T := s.1) (H := s.2) (fun _ _ => rfl) (fun _ _ => rfl) (fun _ _ => rfl)
  obtain ⟨d', wr', e3, e4, m2⟩ := h2.move hy (T := s.1) (H := s.2) (fun t ht => by rw [e1, setD_get (fun h => f1 t h ht)])
    (fun k hk => by rw [e1]; exact (app_out (by rw [e2]; exact fun hh => g1 k hh hk)).symm)
    (fun k hk => by rw [e1]; exact (app_out (by rw [e2]; exact fun hh => g2 k hh hk)).symm)
  refine ⟨_, m2, ?_⟩
  obtain ⟨d'', wr'', e5, e6, m3⟩ := h1.move hx (T := setD s.1 y.dst d') (H := s.2.app wr') (fun t ht => setD_get (fun h => f3 t h ht))
    (fun k hk => app_out (by rw [e4]; exact fun hh => g3 k hh hk))
    (fun k hk => app_out (by rw [e4]; exact fun hh => g2 k hk hh))
  have hs2 : s2 = (setD (setD s.1 y.dst d') x.dst d'', (s.2.app wr').app wr'') := by
    rw [e3]
    rw [e5] at *
    refine Prod.ext ?_ ?_
    · simp only []
      rw [setD_comm (a := x.dst) (b := y.dst) f2]
    · simp only []
      rw [app_comm fun k hk => by rw [e4]; exact g2 k (by rw [← e6]; exact hk)]
  rw [hs2]
  exact m3

/-- A free operation is done first. -/
theorem Rn.first {j : Nat} : ∀ {pre post : List Nat} {s r : SH}, Rn cf call os lg (pre ++ j :: post) s r → (∀ i ∈ pre, Fr os lg i j) → ∃ s', St1 cf call os lg j s s' ∧ Rn cf call os lg (pre ++ post) s' r
  | [], post, s, r, h, _ => by
    cases h with
    | cons h hr => exact ⟨_, h, hr⟩
  | i :: pre, post, s, r, h, hf => by
    cases h with
    | cons h hr =>
      obtain ⟨s', h1, h2⟩ := Rn.first hr fun i hi => hf i (List.mem_cons_of_mem _ hi)
      obtain ⟨s'', h3, h4⟩ := swap (hf i List.mem_cons_self) h h1
      exact ⟨s'', h3, .cons h4 h2⟩

/-- What the evaluation does is such a run. -/
theorem evOps_run : ∀ (r : List Ope) (k : Nat) (s s' : St) (ls : List (List Nat × List Nat)), evOps cf call r s = some (s', ls) → (∀ i, os[k + i]? = r[i]?) → (∀ i, lg (k + i) = ls[i]?.getD ([], [])) →
    ls.length = r.length ∧ Rn cf call os lg (List.range' k r.length) (s.T, hp s.H) (s'.T, hp s'.H)
  | [], k, s, s', ls, h, ho, hl => by
    simp [evOps] at h
    obtain ⟨rfl, rfl⟩ := h
    exact ⟨rfl, .nil _⟩
  | o :: r, k, s, s', ls, h, ho, hl => by
    unfold evOps at h
    split at h
    · rename_i s1 l h1
      split at h
      · rename_i s2 ls' h2
        simp only [Option.some.injEq, Prod.mk.injEq] at h
        obtain ⟨rfl, rfl⟩ := h
        obtain ⟨a1, a2⟩ := evOps_run r (k + 1) s1 s2 ls' h2 (fun i => by have := ho (i + 1); rwa [show k + (i + 1) = k + 1 + i by omega] at this) (fun i => by have := hl (i + 1); rwa [show k + (i + 1) = k + 1 + i by omega] at this)
        refine ⟨by simp [a1], .cons (s1 := (s1.T, hp s1.H)) ⟨o, by simpa using ho 0, ?_⟩ a2⟩
        have hl0 : lg k = l := by simpa using hl 0
        unfold evOp at h1
        split at h1
        · rename_i hw
          unfold evM at h1
          split at h1
          · rename_i d wr hrun
            split at h1
            · rename_i H' hap
              simp only [Option.some.injEq, Prod.mk.injEq] at h1
              obtain ⟨rfl, rfl⟩ := h1
              refine .inl ⟨hw, s.H.length, d, wr, hrun, hl0, fun p _ hp' => List.getElem?_eq_none hp', ?_⟩
              rw [← hp_applyW hap]
            · cases h1
          · cases h1
        · rename_i hw
          simp only [Option.some.injEq, Prod.mk.injEq] at h1
          obtain ⟨rfl, rfl⟩ := h1
          exact .inr ⟨hw, hl0, rfl⟩
        · cases h1
      · cases h
    · cases h
end
end Go.Ab
