/- THE ABSTRACT MACHINE, sound: calls. -/
import Derived.Test.YtomomeabfnmncaaGreatBSub
set_option linter.all false
namespace Go.Ab

abbrev hp (H : List Obj) : Hp := fun j => H[j]?

/-- What a call answers is so. -/
def CallOk (P : Program) (call : CallFn) : Prop := ∀ (f : Nat) (args : List D) (H : List Obj) (d : D) (H' : List Obj), call f args H = some (d, H') →
  (∀ (vs : Array Value) (w : World), (callFunc f vs).run P w = .ok (.enter f vs) w) ∧
  ∀ (w : World) (F : Fz) (μ : Mu) (Pr : Nat → Prop) (vs : List Value), Rel w F μ (hp H) Pr → RdL w F (env μ (hp H)) vs args →
    Calls P f vs.toArray w fun e w' => ∃ v, e = .returned v ∧ ∃ F' μ', Nx Pr w F μ (hp H) w' F' μ' (hp H') ∧ Rd w' F' (env μ' (hp H')) v d

theorem app_zip {f : Nat → Nat} {h : Obj → Obj} : ∀ (L : List Obj) (n : Nat) (H : Hp), (∀ i j, n ≤ i → i < n + L.length → n ≤ j → j < n + L.length → f i = f j → i = j) →
    (∀ j, j < L.length → (H.app ((L.zipIdx n).map fun p => (f p.2, h p.1))) (f (n + j)) = (L[j]?).map h) ∧ (∀ g, (∀ j, j < L.length → f (n + j) ≠ g) → (H.app ((L.zipIdx n).map fun p => (f p.2, h p.1))) g = H g)
  | [], n, H, _ => ⟨fun j hj => by simp at hj, fun g _ => rfl⟩
  | o :: L, n, H, hi => by
    obtain ⟨a1, a2⟩ := app_zip L (n + 1) (upd H (f n) (some (h o))) (fun i j h1 h2 h3 h4 he => hi i j (by omega) (by simp; omega) (by omega) (by simp; omega) he)
    rw [List.zipIdx_cons, List.map_cons, app_upd]
    refine ⟨fun j hj => ?_, fun g hg => ?_⟩
    · cases j with
      | zero =>
        rw [a2 (f (n + 0)) (fun k hk he => by
          have := hi (n + 1 + k) n (by omega) (by simp; omega) (by omega) (by simp) he
          omega)]
        simp
      | succ j =>
        have := a1 j (by simpa using hj)
        rw [show n + (j + 1) = n + 1 + j by omega, this]
        simp
    · rw [a2 g (fun k hk => by have := hg (k + 1) (by simpa using hk); rwa [show n + (k + 1) = n + 1 + k by omega] at this), upd_ne H (g := f n) _ (fun e => hg 0 (by simp) (by simpa using e.symm))]

section
variable {P : Program} {w : World} {F : Fz} {κ : Env} {μ : Mu} {Pr : Nat → Prop}

open Classical in
noncomputable def mergeMu (μ μ1 : Mu) (back : Nat → Nat) (n : Nat) : Mu := fun g => if h : ∃ j, j < n ∧ back j = g then μ1 (Classical.choose h) else μ g

theorem mergeMu_in {μ μ1 : Mu} {back : Nat → Nat} {n : Nat} (hi : ∀ i j, i < n → j < n → back i = back j → i = j) {j : Nat} (hj : j < n) : mergeMu μ μ1 back n (back j) = μ1 j := by
  unfold mergeMu
  have h : ∃ i, i < n ∧ back i = back j := ⟨j, hj, rfl⟩
  rw [dif_pos h]
  have := Classical.choose_spec h
  rw [hi _ _ this.1 hj this.2]
theorem mergeMu_out {μ μ1 : Mu} {back : Nat → Nat} {n g : Nat} (h : ∀ j, j < n → back j ≠ g) : mergeMu μ μ1 back n g = μ g := by
  unfold mergeMu
  rw [dif_neg (fun ⟨j, h1, h2⟩ => h j h1 h2)]

/-- What a call has left, among all that there is. -/
theorem merge_ok {Hv : Hp} (R : Rel w F μ Hv Pr) {os : Wr} (hc : Clo Hv os) {w' : World} {F' : Fz} {μ1 : Mu} {H1 : List Obj} (n : Nx (PrO Pr Hv μ os) w F (subMu μ os) (subH os) w' F' μ1 (hp H1)) (hle : os.length ≤ H1.length) {nk : Nat}
    (hf : ∀ j, os.length ≤ j → j < H1.length → Hv (nk + (j - os.length)) = none) :
    ∃ μ2, Nx Pr w F μ Hv w' F' μ2 (Hv.app (H1.zipIdx.map fun p => (backK os nk p.2, p.1.ren (backK os nk)))) ∧
      ∀ (v : Value) (d : D), Rd w' F' (env μ1 (hp H1)) v d → Rd w' F' (env μ2 (Hv.app (H1.zipIdx.map fun p => (backK os nk p.2, p.1.ren (backK os nk))))) v (d.ren (backK os nk)) := by
  have hold : ∀ j, j < os.length → ∃ p, os[j]? = some p ∧ backK os nk j = p.1 ∧ Hv p.1 = some p.2 := fun j hj =>
    ⟨os[j], List.getElem?_eq_getElem hj, by simp [backK, List.getElem?_eq_getElem hj], hc.get _ (List.getElem_mem hj)⟩
  have hnew : ∀ j, os.length ≤ j → backK os nk j = nk + (j - os.length) := fun j hj => by simp [backK, List.getElem?_eq_none hj]
  have hinj : ∀ i j, i < H1.length → j < H1.length → backK os nk i = backK os nk j → i = j := by
    intro i j hi hj he
    by_cases h1 : i < os.length
    · obtain ⟨p, p1, p2, p3⟩ := hold i h1
      by_cases h2 : j < os.length
      · obtain ⟨q, q1, q2, q3⟩ := hold j h2
        have : p.1 = q.1 := by rw [← p2, ← q2, he]
        rw [← into_at hc.nodup p1, ← into_at hc.nodup q1, this]
      · have := hf j (by omega) hj
        rw [← hnew j (by omega), ← he, p2, p3] at this
        cases this
    · by_cases h2 : j < os.length
      · obtain ⟨q, q1, q2, q3⟩ := hold j h2
        have := hf i (by omega) hi
        rw [← hnew i (by omega), he, q2, q3] at this
        cases this
      · rw [hnew i (by omega), hnew j (by omega)] at he
        omega
  obtain ⟨H2, hH2⟩ : ∃ H2, H2 = Hv.app (H1.zipIdx.map fun p => (backK os nk p.2, p.1.ren (backK os nk))) := ⟨_, rfl⟩
  have hz := app_zip (f := backK os nk) (h := fun o => o.ren (backK os nk)) H1 0 Hv (fun i j _ h1 _ h2 he => hinj i j (by omega) (by omega) he)
  simp only [Nat.zero_add] at hz
  rw [← hH2] at hz ⊢
  obtain ⟨hin, hout⟩ := hz
  refine ⟨mergeMu μ μ1 (backK os nk) H1.length, ?_⟩
  have hmin : ∀ j, j < H1.length → mergeMu μ μ1 (backK os nk) H1.length (backK os nk j) = μ1 j := fun j hj => mergeMu_in hinj hj
  have hmout : ∀ g, (∀ j, j < H1.length → backK os nk j ≠ g) → mergeMu μ μ1 (backK os nk) H1.length g = μ g := fun g hg => mergeMu_out hg
  generalize mergeMu μ μ1 (backK os nk) H1.length = μ2 at hmin hmout
  have henvin : ∀ j, j < H1.length → env μ2 H2 (backK os nk j) = env μ1 (hp H1) j := by
    intro j hj
    unfold env
    rw [hin j hj, hmin j hj]
    show ((H1[j]?).map _).map _ = (H1[j]?).map _
    cases H1[j]? with
    | none => rfl
    | some o => simp [kiOf_ren]
  have henvout : ∀ g, (∀ j, j < H1.length → backK os nk j ≠ g) → env μ2 H2 g = env μ Hv g := by
    intro g hg
    unfold env
    rw [hout g hg, hmout g hg]
  have hdom : ∀ g, (env μ1 (hp H1) g).isSome = true → g < H1.length := by
    intro g hg
    unfold env at hg
    cases h : (hp H1) g with
    | none => rw [h] at hg; cases hg
    | some o => exact (List.getElem?_eq_some_iff.1 h).1
  have hren : ∀ (v : Value) (d : D), Rd w' F' (env μ1 (hp H1)) v d → Rd w' F' (env μ2 H2) v (d.ren (backK os nk)) := fun v d h => h.ren (fun g hg => henvin g (hdom g (h.dom g hg)))
  -- keys that are no image are none of those handed in
  have hnk : ∀ g, (∀ j, j < H1.length → backK os nk j ≠ g) → g ∉ os.map (·.1) := by
    intro g hg hm
    obtain ⟨o, ho⟩ := into_get hm
    have hlt := (List.getElem?_eq_some_iff.1 ho).1
    obtain ⟨p, p1, p2, p3⟩ := hold _ hlt
    rw [ho] at p1
    injection p1 with p1
    exact hg (intoK os g) (by omega) (by rw [p2, ← p1])
  have hcase : ∀ g, (∃ j, j < H1.length ∧ backK os nk j = g) ∨ ∀ j, j < H1.length → backK os nk j ≠ g := fun g => by
    by_cases h : ∃ j, j < H1.length ∧ backK os nk j = g
    · exact .inl h
    · exact .inr (fun j h1 h2 => h ⟨j, h1, h2⟩)
  have kle : KLe (env μ Hv) (env μ2 H2) := by
    intro g k hk
    rcases hcase g with ⟨j, hj, rfl⟩ | hg
    · rw [henvin j hj]
      by_cases h1 : j < os.length
      · obtain ⟨p, p1, p2, p3⟩ := hold j h1
        have hs := env_sub (μ := μ) hc (k := p.1) (List.mem_map.2 ⟨p, List.mem_of_getElem? p1, rfl⟩)
        rw [into_at hc.nodup p1] at hs
        rw [p2, ← hs] at hk
        exact n.kle j k hk
      · have := hf j (by omega) hj
        rw [← hnew j (by omega)] at this
        unfold env at hk
        rw [this] at hk
        cases hk
    · rw [henvout g hg]
      exact ⟨k, hk, k.le_refl⟩
  have hstp : Stp w F Pr w' F' := ⟨n.stp.os, n.stp.tape, n.stp.output, n.stp.size, n.stp.fle, fun b hb => n.stp.prb b (.inl hb), fun b o hb => n.stp.prf b o (.inl hb)⟩
  have hPrO : ∀ g b z, (∀ j, j < H1.length → backK os nk j ≠ g) → (Hv g).isSome = true → μ g = some (b, z) → PrO Pr Hv μ os b := fun g b z hg h1 h2 => .inr ⟨g, z, h1, hnk g hg, h2⟩
  refine ⟨⟨⟨fun g o ho => ?_, fun g g' b z z' h1 h2 h3 h4 => ?_, fun g b z h1 h2 => ?_, n.rel.fc, fun b hb => Nat.lt_of_lt_of_le (R.prlt b hb) n.stp.size⟩, hstp, kle, fun g b z h1 h2 => ?_⟩, hren⟩
  · rcases hcase g with ⟨j, hj, rfl⟩ | hg
    · rw [hin j hj] at ho
      rw [hmin j hj]
      cases h : H1[j]? with
      | none => rw [h] at ho; cases ho
      | some o1 =>
        rw [h] at ho
        simp at ho
        subst ho
        have hok := n.rel.ok j o1 h
        cases o1 with
        | row s es fz => exact hok.ren (fun k hk => by simp [Obj.keys] at hk)
        | mp es => exact hok.ren (fun k hk => by simp [Obj.keys] at hk)
        | box cs =>
          obtain ⟨b, sz, c, el, fr, hm, hb⟩ := hok.inv_box
          refine hok.ren (fun k hk => henvin k (hdom k ?_))
          obtain ⟨vs, hvs⟩ := hb.mem
          exact hvs.1.dom k hk
    · rw [hout g hg] at ho
      rw [hmout g hg]
      have hs : (Hv g).isSome = true := by simp [ho]
      exact (R.ok g o ho).mono n.stp.fle kle (fun b z hm => ⟨n.stp.prb b (hPrO g b z hg hs hm), fun off hf => n.stp.prf b off (hPrO g b z hg hs hm) hf⟩)
  · rcases hcase g with ⟨j, hj, rfl⟩ | hg <;> rcases hcase g' with ⟨j', hj', rfl⟩ | hg'
    · rw [hmin j hj] at h3
      rw [hmin j' hj'] at h4
      rw [n.rel.inj j j' b z z' (by simp [hp, List.getElem?_eq_getElem hj]) (by simp [hp, List.getElem?_eq_getElem hj']) h3 h4]
    · rw [hmin j hj] at h3
      rw [hmout g' hg'] at h4
      rw [hout g' hg'] at h2
      exact absurd (hPrO g' b z' hg' h2 h4) (n.rel.pr j b z (by simp [hp, List.getElem?_eq_getElem hj]) h3)
    · rw [hmin j' hj'] at h4
      rw [hmout g hg] at h3
      rw [hout g hg] at h1
      exact absurd (hPrO g b z hg h1 h3) (n.rel.pr j' b z' (by simp [hp, List.getElem?_eq_getElem hj']) h4)
    · rw [hmout g hg] at h3
      rw [hmout g' hg'] at h4
      rw [hout g hg] at h1
      rw [hout g' hg'] at h2
      exact R.inj g g' b z z' h1 h2 h3 h4
  · rcases hcase g with ⟨j, hj, rfl⟩ | hg
    · rw [hmin j hj] at h2
      exact fun h => n.rel.pr j b z (by simp [hp, List.getElem?_eq_getElem hj]) h2 (.inl h)
    · rw [hmout g hg] at h2
      rw [hout g hg] at h1
      exact R.pr g b z h1 h2
  · rcases hcase g with ⟨j, hj, rfl⟩ | hg
    · rw [hmin j hj] at h2
      rcases n.own j b z (by simp [hp, List.getElem?_eq_getElem hj]) h2 with ⟨j', z', a1, a2⟩ | h
      · left
        unfold subH at a1
        cases hj' : os[j']? with
        | none => simp [hj'] at a1
        | some p =>
          refine ⟨p.1, z', by rw [hc.get p (List.mem_of_getElem? hj')]; rfl, ?_⟩
          simpa [subMu, hj'] using a2
      · exact .inr h
    · rw [hmout g hg] at h2
      rw [hout g hg] at h1
      exact .inl ⟨g, z, h1, h2⟩

/-! ### The domain of what is frozen -/

mutual
theorem fzD_dom {H : Hp} {st : Bool} : ∀ (d : D) {ov ov' : Wr} {d' : D}, (fzD st ov d).run H = some (d', ov') → ∀ k, ovH H ov' k = none ↔ ovH H ov k = none
  | .sl g lo n L, ov, ov', d', h => by
    unfold fzD at h
    simp only [M.run_bind, run_lookO] at h
    cases hg : ovH H ov g with
    | none => rw [hg] at h; cases h
    | some o =>
      rw [hg] at h
      cases o with
      | box cs => cases h
      | mp es => cases h
      | row s es fz =>
        simp only [Option.bind_some] at h
        split at h
        · split at h
          · simp at h; obtain ⟨rfl, rfl⟩ := h; exact fun k => Iff.rfl
          · split at h
            · simp at h
              obtain ⟨rfl, rfl⟩ := h
              intro k
              rw [ovH_cons]
              by_cases hk : k = g
              · subst hk; simp [hg]
              · rw [upd_ne _ _ hk]
            · cases h
        · cases h
  | .agg cs, ov, ov', d', h => by
    unfold fzD at h
    rw [M.run_bind] at h
    cases hc : (fzD.fzL st ov cs).run H with
    | none => rw [hc] at h; cases h
    | some p => rw [hc] at h; simp at h; obtain ⟨rfl, rfl⟩ := h; exact fzL_dom cs hc
  | .tuple cs, ov, ov', d', h => by
    unfold fzD at h
    rw [M.run_bind] at h
    cases hc : (fzD.fzL st ov cs).run H with
    | none => rw [hc] at h; cases h
    | some p => rw [hc] at h; simp at h; obtain ⟨rfl, rfl⟩ := h; exact fzL_dom cs hc
  | .iface t d, ov, ov', d', h => by
    unfold fzD at h
    rw [M.run_bind] at h
    cases hc : (fzD st ov d).run H with
    | none => rw [hc] at h; cases h
    | some p => rw [hc] at h; simp at h; obtain ⟨rfl, rfl⟩ := h; exact fzD_dom d hc
  | .ptr g i o L, ov, ov', d', h => by unfold fzD at h; cases st <;> simp at h; obtain ⟨rfl, rfl⟩ := h; exact fun k => Iff.rfl
  | .aptr g L, ov, ov', d', h => by unfold fzD at h; cases st <;> simp at h; obtain ⟨rfl, rfl⟩ := h; exact fun k => Iff.rfl
  | .map g, ov, ov', d', h => by unfold fzD at h; cases st <;> simp at h; obtain ⟨rfl, rfl⟩ := h; exact fun k => Iff.rfl
  | .func f a b, ov, ov', d', h => by
    unfold fzD at h
    cases st with
    | true =>
      simp only [if_true] at h
      split at h
      · simp at h; obtain ⟨rfl, rfl⟩ := h; exact fun k => Iff.rfl
      · cases h
    | false => simp at h; obtain ⟨rfl, rfl⟩ := h; exact fun k => Iff.rfl
  | .undef, ov, ov', d', h => by unfold fzD at h; simp at h; obtain ⟨rfl, rfl⟩ := h; exact fun k => Iff.rfl
  | .bool b, ov, ov', d', h => by unfold fzD at h; simp at h; obtain ⟨rfl, rfl⟩ := h; exact fun k => Iff.rfl
  | .int k n, ov, ov', d', h => by unfold fzD at h; simp at h; obtain ⟨rfl, rfl⟩ := h; exact fun k => Iff.rfl
  | .str b, ov, ov', d', h => by unfold fzD at h; simp at h; obtain ⟨rfl, rfl⟩ := h; exact fun k => Iff.rfl
  | .slc c s es, ov, ov', d', h => by unfold fzD at h; simp at h; obtain ⟨rfl, rfl⟩ := h; exact fun k => Iff.rfl
  | .fptr d, ov, ov', d', h => by unfold fzD at h; simp at h; obtain ⟨rfl, rfl⟩ := h; exact fun k => Iff.rfl
  | .nilptr, ov, ov', d', h => by unfold fzD at h; simp at h; obtain ⟨rfl, rfl⟩ := h; exact fun k => Iff.rfl
  | .nilfunc, ov, ov', d', h => by unfold fzD at h; simp at h; obtain ⟨rfl, rfl⟩ := h; exact fun k => Iff.rfl
  | .nilmap, ov, ov', d', h => by unfold fzD at h; simp at h; obtain ⟨rfl, rfl⟩ := h; exact fun k => Iff.rfl
  | .niliface, ov, ov', d', h => by unfold fzD at h; simp at h; obtain ⟨rfl, rfl⟩ := h; exact fun k => Iff.rfl
theorem fzL_dom {H : Hp} {st : Bool} : ∀ (ds : List D) {ov ov' : Wr} {ds' : List D}, (fzD.fzL st ov ds).run H = some (ds', ov') → ∀ k, ovH H ov' k = none ↔ ovH H ov k = none
  | [], ov, ov', ds', h => by unfold fzD.fzL at h; simp at h; obtain ⟨rfl, rfl⟩ := h; exact fun k => Iff.rfl
  | d :: r, ov, ov', ds', h => by
    unfold fzD.fzL at h
    rw [M.run_bind] at h
    cases hc : (fzD st ov d).run H with
    | none => rw [hc] at h; cases h
    | some p =>
      rw [hc] at h
      simp only [Option.bind_some, M.run_bind] at h
      cases hq : (fzD.fzL st p.2 r).run H with
      | none => rw [hq] at h; cases h
      | some q =>
        rw [hq] at h
        simp at h
        obtain ⟨rfl, rfl⟩ := h
        exact fun k => (fzL_dom r hq k).trans (fzD_dom d hc k)
end

/-! ### The call -/

/-- An operation's end: a value, or a call that gives one. -/
def Gives (P : Program) (r : Result Next) (R : Value → World → Prop) : Prop :=
  match r with
  | .ok (.value v) w' => R v w'
  | .ok .skip w' => R undef w'
  | .ok (.enter f args) w' => Calls P f args w' fun e w'' => match e with
      | .returned v => R v w''
      | _ => False
  | _ => False

theorem call_ok {call : CallFn} (hcall : CallOk P call) {H : Hp} (R : Rel w F μ H Pr) {live : Bool} {nk f : Nat} {args : List D} {vs : List Value} (hv : RdL w F (env μ H) vs args) {d : D} {wr : Wr}
    (h : (callM call live nk f args).run H = some (d, wr)) (hf : ∀ p ∈ wr, nk ≤ p.1 → H p.1 = none) :
    Gives P ((callFunc f vs.toArray).run P w) fun v w' => ∃ F' μ', Nx Pr w F μ H w' F' μ' (H.app wr) ∧ Rd w' F' (env μ' (H.app wr)) v d := by
  unfold callM at h
  rw [M.run_bind] at h
  cases hin : (inM live args).run H with
  | none => rw [hin] at h; cases h
  | some p =>
    obtain ⟨args', ov⟩ := p
    rw [hin] at h
    simp only [Option.bind_some] at h
    -- the arguments, frozen
    obtain ⟨F1, n1, r1, hdom⟩ : ∃ F1, Nx Pr w F μ H w F1 μ (ovH H ov) ∧ RdL w F1 (env μ (ovH H ov)) vs args' ∧ ∀ k, ovH H ov k = none ↔ H k = none := by
      unfold inM at hin
      cases live with
      | true => simp at hin; obtain ⟨rfl, rfl⟩ := hin; exact ⟨F, Nx.refl R, hv, fun k => Iff.rfl⟩
      | false =>
        simp only [Bool.false_eq_true, if_false] at hin
        obtain ⟨F1, n1, r1, _⟩ := fzL_ok (H := H) (ov := []) args R hv hin
        exact ⟨F1, n1, r1, fzL_dom args hin⟩
    split at h
    · -- no objects
      rename_i hk
      unfold callP at h
      cases hc : call f args' [] with
      | none => rw [hc] at h; cases h
      | some q =>
        obtain ⟨d0, H'⟩ := q
        rw [hc] at h
        simp only at h
        obtain ⟨he, hcalls⟩ := hcall f args' [] d0 H' hc
        have hclo : Clo (ovH H ov) [] := ⟨fun p hp => (by cases hp), List.nodup_nil, fun p hp => (by cases hp)⟩
        have hsub : (subH [] : Hp) = hp [] := by funext j; simp [subH, hp]
        have R1 := sub_rel n1.rel hclo
        rw [hsub] at R1
        have hargs : RdL w F1 (env (subMu μ []) (hp [])) vs args' := r1.at (fun g hg => by rw [hk] at hg; cases hg)
        unfold Gives
        rw [he]
        refine (hcalls w F1 (subMu μ []) _ vs R1 hargs).mono ?_
        rintro e w' ⟨v, rfl, F', μ', n2, h2⟩
        rw [← hsub] at n2
        have hback : backK [] nk = (nk + ·) := by funext j; simp [backK]
        have hfr : ∀ j, ([] : Wr).length ≤ j → j < H'.length → ovH H ov (nk + (j - ([] : Wr).length)) = none := by
          intro j _ hj
          rw [hdom]
          simp only [List.length_nil, Nat.sub_zero]
          by_cases hne : H' = []
          · subst hne; simp at hj
          · rw [if_neg hne] at h
            simp at h
            obtain ⟨_, rfl⟩ := h
            refine hf (nk + j, H'[j].ren (nk + ·)) (List.mem_append.2 (.inr (List.mem_map.2 ⟨(H'[j], j), ?_, rfl⟩))) (by simp)
            exact List.mem_iff_getElem?.2 ⟨j, by rw [List.getElem?_zipIdx]; simp [hj]⟩
        obtain ⟨μ2, n3, h3⟩ := merge_ok n1.rel hclo n2 (Nat.zero_le _) (nk := nk) hfr
        rw [hback] at n3 h3
        have h4 := h3 v d0 h2
        by_cases hne : H' = []
        · subst hne
          simp at h
          obtain ⟨rfl, rfl⟩ := h
          refine ⟨F', μ2, ?_, ?_⟩
          · have n4 := n1.trans n3
            simp only [List.zipIdx_nil, List.map_nil, app_nil] at n4
            exact n4
          have hdk : d0.keys = [] := by
            rw [List.eq_nil_iff_forall_not_mem]
            intro g hg
            have := h2.dom g hg
            simp [env, hp] at this
          exact rd_closed h2 hdk _
        · rw [if_neg hne] at h
          simp at h
          obtain ⟨rfl, rfl⟩ := h
          refine ⟨F', μ2, ?_, ?_⟩
          · rw [app_append]; exact n1.trans n3
          · rw [app_append]; exact h4
    · -- with objects
      rename_i hk
      rw [M.run_bind] at h
      cases hos : (reach ov reachFuel (keysL args') []).run H with
      | none => rw [hos] at h; cases h
      | some os =>
        rw [hos] at h
        simp only [Option.bind_some] at h
        unfold callO at h
        obtain ⟨hclo, htodo, _, _⟩ := reach_ok (acc := []) reachFuel (fun p hp => (by cases hp)) List.nodup_nil (fun p hp => (by cases hp)) hos
        cases hc : call f (renL (intoK os) args') (os.map fun p => p.2.ren (intoK os)) with
        | none => rw [hc] at h; cases h
        | some q =>
          obtain ⟨d0, H'⟩ := q
          rw [hc] at h
          simp only at h
          obtain ⟨he, hcalls⟩ := hcall f _ _ d0 H' hc
          split at h
          · rename_i hle
            simp at h
            obtain ⟨rfl, rfl⟩ := h
            have hsub : (subH os : Hp) = hp (os.map fun p => p.2.ren (intoK os)) := by funext j; simp [subH, hp]
            have R1 := sub_rel n1.rel hclo
            rw [hsub] at R1
            have hargs : RdL w F1 (env (subMu μ os) (hp (os.map fun p => p.2.ren (intoK os)))) vs (renL (intoK os) args') := by
              rw [← hsub]
              exact r1.ren (fun g hg => env_sub hclo (htodo g hg))
            unfold Gives
            rw [he]
            refine (hcalls w F1 (subMu μ os) _ vs R1 hargs).mono ?_
            rintro e w' ⟨v, rfl, F', μ', n2, h2⟩
            rw [← hsub] at n2
            have hfr : ∀ j, os.length ≤ j → j < H'.length → ovH H ov (nk + (j - os.length)) = none := by
              intro j hj1 hj
              rw [hdom]
              have hb : backK os nk j = nk + (j - os.length) := by simp [backK, List.getElem?_eq_none hj1]
              have := hf (backK os nk j, H'[j].ren (backK os nk)) (List.mem_append.2 (.inr (List.mem_map.2 ⟨(H'[j], j), List.mem_iff_getElem?.2 ⟨j, by rw [List.getElem?_zipIdx]; simp [hj]⟩, rfl⟩))) (by rw [hb]; exact Nat.le_add_right _ _)
              simp only [hb] at this
              exact this
            obtain ⟨μ2, n3, h3⟩ := merge_ok n1.rel hclo n2 hle (nk := nk) hfr
            refine ⟨F', μ2, ?_, ?_⟩
            · rw [app_append]; exact n1.trans n3
            · rw [app_append]; exact h3 v d0 h2
          · cases h
end
end Go.Ab
