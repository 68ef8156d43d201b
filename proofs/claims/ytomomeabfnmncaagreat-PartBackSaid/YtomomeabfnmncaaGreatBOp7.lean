/- THE ABSTRACT MACHINE, sound: what is frozen, stored, appended. -/
import Derived.Test.YtomomeabfnmncaaGreatBOp6
import Derived.Laws.Append
set_option linter.all false
namespace Go.Ab

/-- What is there, with what has been written. -/
def ovH (H : Hp) (ov : Wr) : Hp := H.app ov.reverse

theorem ovH_nil (H : Hp) : ovH H [] = H := rfl
theorem ovH_cons (H : Hp) (g : Nat) (o : Obj) (ov : Wr) : ovH H ((g, o) :: ov) = upd (ovH H ov) g (some o) := by
  unfold ovH
  rw [List.reverse_cons, app_append, app_upd, app_nil]

theorem run_lookO (H : Hp) (ov : Wr) (g : Nat) : (lookO ov g).run H = ovH H ov g := by
  unfold lookO
  induction ov with
  | nil => simp [ovH_nil]
  | cons p ov ih =>
    obtain ⟨k, o⟩ := p
    rw [ovH_cons, List.lookup_cons]
    by_cases h : g = k
    · subst h; simp
    · have : (g == k) = false := by simpa using h
      rw [this, upd_ne _ _ h]
      exact ih

theorem ovH_lookup_none {H : Hp} {ov : Wr} {g : Nat} (h : ov.lookup g = none) : ovH H ov g = H g := by
  have := run_lookO H ov g
  unfold lookO at this
  rw [h] at this
  simpa using this.symm

section
variable {P : Program} {w : World} {F : Fz} {κ : Env} {μ : Mu} {Pr : Nat → Prop}

theorem Nx.upd_same {H : Hp} {w' F' H'} (n : Nx Pr w F μ H w' F' μ H') : RdL w F (env μ H) = RdL w F (env μ H) := rfl

theorem rd_closed {v : Value} {d : D} (h : Rd w F κ v d) (hk : d.keys = []) (κ' : Env) : Rd w F κ' v d := h.at (fun g hg => by rw [hk] at hg; cases hg)

theorem keysL_nil {ds : List D} (h : keysL ds = []) : ∀ d ∈ ds, d.keys = [] := by
  induction ds with
  | nil => intro d hd; cases hd
  | cons x r ih =>
    rw [show keysL (x :: r) = x.keys ++ keysL r from rfl, List.append_eq_nil_iff] at h
    intro d hd
    rcases List.mem_cons.1 hd with rfl | hd
    · exact h.1
    · exact ih h.2 d hd

/-- What freezing leaves. -/
def FzR (w : World) (F : Fz) (μ : Mu) (Pr : Nat → Prop) (H : Hp) (ov ov' : Wr) (st : Bool) (v : Value) (d : D) : Prop :=
  ∃ F', Nx Pr w F μ (ovH H ov) w F' μ (ovH H ov') ∧ Rd w F' (env μ (ovH H ov')) v d ∧ (st = true → Rd w F' noEnv v d)

theorem fz_sl {H : Hp} {ov ov' : Wr} {st : Bool} {g lo n L : Nat} {v : Value} {d : D} (R : Rel w F μ (ovH H ov) Pr) (hv : Rd w F (env μ (ovH H ov)) v (.sl g lo n L)) (h : (fzD st ov (.sl g lo n L)).run H = some (d, ov')) : FzR w F μ Pr H ov ov' st v d := by
  unfold fzD at h
  simp only [M.run_bind, run_lookO] at h
  cases hg : ovH H ov g with
  | none => rw [hg] at h; cases h
  | some o =>
    rw [hg] at h
    cases o with
    | box cs => cases h
    | mp es => cases h
    | row s es fz =>
      simp only [Option.bind_some] at h
      split at h
      · rename_i hL
        have hk : env μ (ovH H ov) g = some (kiOf (μ g) (.row s es fz)) := by simp [env, hg]
        have hok := R.ok g _ hg
        split at h
        · rename_i hs0
          simp at h
          obtain ⟨rfl, rfl⟩ := h
          refine ⟨F, Nx.refl R, ?_⟩
          have : v = .slice none 0 0 := by
            rcases hok.inv_row with ⟨hm, he⟩ | ⟨b, sz, c, el, fr, hm, hr⟩
            · cases hv with
              | sl _ _ b s' _ sz _ _ o cap hk' => rw [hk, hm] at hk'; simp [kiOf] at hk'
              | slv => rfl
              | slo _ _ _ _ _ k _ _ hk' hp => rw [hk, hm] at hk'; injection hk' with hk'; subst hk'; exact hp.elim
            · exact absurd hr.pos (by omega)
          subst this
          exact ⟨.nils _ _ _, fun _ => .nils _ _ _⟩
        · rename_i hs0
          split at h
          · rename_i hle
            simp at h
            obtain ⟨rfl, rfl⟩ := h
            obtain ⟨F', hnx, hfz⟩ := Nx.freeze R hg (.inr trivial)
            refine ⟨F', by rw [ovH_cons]; exact hnx, ?_⟩
            have key : ∀ κ, Rd w F' κ v (.slc false s ((es.take (lo + n)).drop lo)) := by
              intro κ
              rcases hok.inv_row with ⟨hm, he⟩ | ⟨b, sz, c, el, fr, hm, hr⟩
              · subst he
                have : v = .slice none 0 0 := by
                  cases hv with
                  | sl _ _ b s' _ sz _ _ o cap hk' => rw [hk, hm] at hk'; simp [kiOf] at hk'
                  | slv => rfl
                  | slo _ _ _ _ _ k _ _ hk' hp => rw [hk, hm] at hk'; injection hk' with hk'; subst hk'; exact hp.elim
                subst this
                simp
                exact .nils _ _ _
              · cases hv with
                | slv _ _ hk' => rw [hk, hm] at hk'; simp [kiOf] at hk'
                | slo _ _ _ _ _ k _ _ hk' hp =>
                  rw [hk, hm] at hk'
                  injection hk' with hk'
                  subst hk'
                  simp [kiOf, KI.past] at hp
                  omega
                | sl _ _ b' s' _ sz' _ _ o cap hk' hn hcap ho hsz =>
                  rw [hk, hm] at hk'
                  simp [kiOf] at hk'
                  obtain ⟨rfl, rfl, _, rfl⟩ := hk'
                  have hlen : ((es.take (lo + n)).drop lo).length = n := by simp; omega
                  have hl : ∀ e ∈ (es.take (lo + n)).drop lo, e.cells.length = s := fun e he => hr.len e (List.mem_of_mem_take (List.mem_of_mem_drop he))
                  have hgen := Rd.slc (w := w) (F := F') κ b o cap false s ((es.take (lo + n)).drop lo) (fun i j => c.getD ((lo + i) * s + j) undef) hr.pos (by omega) (fun h => by cases h) hl
                    (fun i e j d he hd => by
                      obtain ⟨q1, q2⟩ := drop_take_get he
                      obtain ⟨x, a1, a2, a3⟩ := hr.cells (lo + i) e q1 j d hd
                      have hj : j < s := by rw [← hr.len e (List.mem_of_getElem? q1)]; exact (List.getElem?_eq_some_iff.1 hd).1
                      have ho' : o = lo * s := by
                        rcases ho with ho | ho
                        · exact ho
                        · exfalso
                          have := (List.getElem?_eq_some_iff.1 he).1
                          omega
                      have e1 : o + i * s + j = (lo + i) * s + j := by rw [ho', Nat.add_mul]
                      have hb : (lo + i) * s + j < es.length * s := by
                        have : lo + i < es.length := (List.getElem?_eq_some_iff.1 q1).1
                        have h2 : (lo + i + 1) * s ≤ es.length * s := Nat.mul_le_mul_right _ this
                        rw [Nat.add_mul, Nat.one_mul] at h2
                        omega
                      have hx : c.getD ((lo + i) * s + j) undef = x := by simp [Array.getD_eq_getD_getElem?, a1]
                      refine ⟨by rw [e1]; exact hfz b sz hm _ hb, ?_, ?_⟩
                      · rw [e1, cell_of_heap hr.heap, a1]
                        exact congrArg some hx.symm
                      · show (c.getD ((lo + i) * s + j) undef).oneCell' = true
                        rw [hx]; exact a2)
                    (fun i e j d he hd => by
                      obtain ⟨q1, q2⟩ := drop_take_get he
                      obtain ⟨x, a1, a2, a3⟩ := hr.cells (lo + i) e q1 j d hd
                      show Rd w F' noEnv (c.getD ((lo + i) * s + j) undef) d
                      simp [Array.getD_eq_getD_getElem?, a1]
                      exact a3.mono hnx.stp.fle (KLe.refl _))
                  rw [hlen] at hgen
                  exact hgen
            exact ⟨key _, fun _ => key _⟩
          · cases h
      · cases h

mutual
theorem fzD_ok {H : Hp} {st : Bool} : ∀ (d : D) {F : Fz} {ov ov' : Wr} {v : Value} {d' : D}, Rel w F μ (ovH H ov) Pr → Rd w F (env μ (ovH H ov)) v d → (fzD st ov d).run H = some (d', ov') → FzR w F μ Pr H ov ov' st v d'
  | .sl g lo n L, F, ov, ov', v, d', R, hv, h => fz_sl R hv h
  | .agg cs, F, ov, ov', v, d', R, hv, h => by
    unfold fzD at h
    rw [M.run_bind] at h
    cases hc : (fzD.fzL st ov cs).run H with
    | none => rw [hc] at h; cases h
    | some p =>
      rw [hc] at h
      simp at h
      obtain ⟨rfl, rfl⟩ := h
      obtain ⟨vs, rfl, hvs⟩ := hv.toAgg
      obtain ⟨F', hn, h1, h2⟩ := fzL_ok cs R hvs hc
      exact ⟨F', hn, by simpa using h1.agg, fun hs => by simpa using (h2 hs).agg⟩
  | .tuple cs, F, ov, ov', v, d', R, hv, h => by
    unfold fzD at h
    rw [M.run_bind] at h
    cases hc : (fzD.fzL st ov cs).run H with
    | none => rw [hc] at h; cases h
    | some p =>
      rw [hc] at h
      simp at h
      obtain ⟨rfl, rfl⟩ := h
      obtain ⟨vs, rfl, hvs⟩ := rd_tuple hv
      obtain ⟨F', hn, h1, h2⟩ := fzL_ok cs R hvs hc
      exact ⟨F', hn, by simpa using h1.tuple, fun hs => by simpa using (h2 hs).tuple⟩
  | .iface t d, F, ov, ov', v, d', R, hv, h => by
    unfold fzD at h
    rw [M.run_bind] at h
    cases hc : (fzD st ov d).run H with
    | none => rw [hc] at h; cases h
    | some p =>
      rw [hc] at h
      simp at h
      obtain ⟨rfl, rfl⟩ := h
      cases hv with
      | iface _ _ v0 _ hv0 =>
        obtain ⟨F', hn, h1, h2⟩ := fzD_ok d R hv0 hc
        exact ⟨F', hn, .iface _ _ _ _ h1, fun hs => .iface _ _ _ _ (h2 hs)⟩
  | .ptr g i o L, F, ov, ov', v, d', R, hv, h => by
    unfold fzD at h
    cases st with
    | true => cases h
    | false => simp at h; obtain ⟨rfl, rfl⟩ := h; exact ⟨F, Nx.refl R, hv, fun h => by cases h⟩
  | .aptr g L, F, ov, ov', v, d', R, hv, h => by
    unfold fzD at h
    cases st with
    | true => cases h
    | false => simp at h; obtain ⟨rfl, rfl⟩ := h; exact ⟨F, Nx.refl R, hv, fun h => by cases h⟩
  | .map g, F, ov, ov', v, d', R, hv, h => by
    unfold fzD at h
    cases st with
    | true => cases h
    | false => simp at h; obtain ⟨rfl, rfl⟩ := h; exact ⟨F, Nx.refl R, hv, fun h => by cases h⟩
  | .func f a b, F, ov, ov', v, d', R, hv, h => by
    unfold fzD at h
    cases st with
    | true =>
      simp only [if_true] at h
      split at h
      · rename_i hk
        simp at h; obtain ⟨rfl, rfl⟩ := h
        exact ⟨F, Nx.refl R, hv, fun _ => rd_closed hv (by show D.keys.keysL a ++ D.keys.keysL b = []; rw [hk.1, hk.2]; rfl) _⟩
      · cases h
    | false => simp at h; obtain ⟨rfl, rfl⟩ := h; exact ⟨F, Nx.refl R, hv, fun h => by cases h⟩
  | .undef, F, ov, ov', v, d', R, hv, h => by unfold fzD at h; simp at h; obtain ⟨rfl, rfl⟩ := h; exact ⟨F, Nx.refl R, hv, fun _ => rd_closed hv rfl _⟩
  | .bool b, F, ov, ov', v, d', R, hv, h => by unfold fzD at h; simp at h; obtain ⟨rfl, rfl⟩ := h; exact ⟨F, Nx.refl R, hv, fun _ => rd_closed hv rfl _⟩
  | .int k n, F, ov, ov', v, d', R, hv, h => by unfold fzD at h; simp at h; obtain ⟨rfl, rfl⟩ := h; exact ⟨F, Nx.refl R, hv, fun _ => rd_closed hv rfl _⟩
  | .str b, F, ov, ov', v, d', R, hv, h => by unfold fzD at h; simp at h; obtain ⟨rfl, rfl⟩ := h; exact ⟨F, Nx.refl R, hv, fun _ => rd_closed hv rfl _⟩
  | .slc c s es, F, ov, ov', v, d', R, hv, h => by unfold fzD at h; simp at h; obtain ⟨rfl, rfl⟩ := h; exact ⟨F, Nx.refl R, hv, fun _ => rd_closed hv rfl _⟩
  | .fptr d, F, ov, ov', v, d', R, hv, h => by unfold fzD at h; simp at h; obtain ⟨rfl, rfl⟩ := h; exact ⟨F, Nx.refl R, hv, fun _ => rd_closed hv rfl _⟩
  | .nilptr, F, ov, ov', v, d', R, hv, h => by unfold fzD at h; simp at h; obtain ⟨rfl, rfl⟩ := h; exact ⟨F, Nx.refl R, hv, fun _ => rd_closed hv rfl _⟩
  | .nilfunc, F, ov, ov', v, d', R, hv, h => by unfold fzD at h; simp at h; obtain ⟨rfl, rfl⟩ := h; exact ⟨F, Nx.refl R, hv, fun _ => rd_closed hv rfl _⟩
  | .nilmap, F, ov, ov', v, d', R, hv, h => by unfold fzD at h; simp at h; obtain ⟨rfl, rfl⟩ := h; exact ⟨F, Nx.refl R, hv, fun _ => rd_closed hv rfl _⟩
  | .niliface, F, ov, ov', v, d', R, hv, h => by unfold fzD at h; simp at h; obtain ⟨rfl, rfl⟩ := h; exact ⟨F, Nx.refl R, hv, fun _ => rd_closed hv rfl _⟩
theorem fzL_ok {H : Hp} {st : Bool} : ∀ (ds : List D) {F : Fz} {ov ov' : Wr} {vs : List Value} {ds' : List D}, Rel w F μ (ovH H ov) Pr → RdL w F (env μ (ovH H ov)) vs ds → (fzD.fzL st ov ds).run H = some (ds', ov') →
    ∃ F', Nx Pr w F μ (ovH H ov) w F' μ (ovH H ov') ∧ RdL w F' (env μ (ovH H ov')) vs ds' ∧ (st = true → RdL w F' noEnv vs ds')
  | [], F, ov, ov', vs, ds', R, hv, h => by
    unfold fzD.fzL at h
    simp at h
    obtain ⟨rfl, rfl⟩ := h
    have : vs = [] := List.length_eq_zero_iff.1 hv.1
    subst this
    exact ⟨F, Nx.refl R, RdL.nil, fun _ => RdL.nil⟩
  | d :: r, F, ov, ov', vs, ds', R, hv, h => by
    unfold fzD.fzL at h
    rw [M.run_bind] at h
    cases hc : (fzD st ov d).run H with
    | none => rw [hc] at h; cases h
    | some p =>
      rw [hc] at h
      simp only [Option.bind_some, M.run_bind] at h
      cases hq : (fzD.fzL st p.2 r).run H with
      | none => rw [hq] at h; cases h
      | some q =>
        rw [hq] at h
        simp at h
        obtain ⟨rfl, rfl⟩ := h
        cases vs with
        | nil => have := hv.1; simp at this
        | cons v vs =>
          have hv0 := hv.2 0 v d rfl rfl
          have hvs : RdL w F (env μ (ovH H ov)) vs r := by have := hv.drop 1; simpa using this
          obtain ⟨F1, n1, a1, b1⟩ := fzD_ok d R hv0 hc
          obtain ⟨F2, n2, a2, b2⟩ := fzL_ok r n1.rel (hvs.mono n1.stp.fle n1.kle) hq
          exact ⟨F2, n1.trans n2, RdL.cons (a1.mono n2.stp.fle n2.kle) a2, fun hs => RdL.cons ((b1 hs).mono n2.stp.fle (KLe.refl _)) (b2 hs)⟩
end
end
end Go.Ab
