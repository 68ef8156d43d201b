/- THE ABSTRACT MACHINE, sound: stores. -/
import Derived.Test.YtomomeabfnmncaaGreatBOp7
set_option linter.all false
namespace Go.Ab

/-- A row with others in the place of some. -/
def putA (c : Array Value) (k : Nat) (vs : List Value) : Array Value := (c.toList.take k ++ vs ++ c.toList.drop (k + vs.length)).toArray

theorem putA_size {c : Array Value} {k : Nat} {vs : List Value} (h : k + vs.length ≤ c.size) : (putA c k vs).size = c.size := by
  simp [putA]; omega
theorem putA_in {c : Array Value} {k : Nat} {vs : List Value} (h : k + vs.length ≤ c.size) {j : Nat} (hj : j < vs.length) : (putA c k vs)[k + j]? = vs[j]? := by
  unfold putA
  rw [List.getElem?_toArray, List.append_assoc, List.getElem?_append_right (by simp; omega), List.getElem?_append_left (by simp; omega)]
  congr 1
  simp; omega
theorem putA_out {c : Array Value} {k : Nat} {vs : List Value} (h : k + vs.length ≤ c.size) {j : Nat} (hj : j < k ∨ k + vs.length ≤ j) : (putA c k vs)[j]? = c[j]? := by
  unfold putA
  rw [List.getElem?_toArray, List.append_assoc]
  rcases hj with hj | hj
  · rw [List.getElem?_append_left (by simp; omega), List.getElem?_take, if_pos hj, Array.getElem?_toList]
  · rw [List.getElem?_append_right (by simp; omega), List.getElem?_append_right (by simp; omega), List.getElem?_drop]
    simp only [List.length_take, Array.length_toList]
    rw [show k + vs.length + (j - min k c.size - vs.length) = j by omega, Array.getElem?_toList]

theorem putA_nil (c : Array Value) (k : Nat) : putA c k [] = c := by
  apply Array.ext'
  simp [putA, List.take_append_drop]

theorem putA_cons {c : Array Value} {k : Nat} {v : Value} {vs : List Value} (h : k + (v :: vs).length ≤ c.size) : putA (c.setIfInBounds k v) (k + 1) vs = putA c k (v :: vs) := by
  simp at h
  apply Array.ext_getElem?
  intro j
  have h1 : k + 1 + vs.length ≤ (c.setIfInBounds k v).size := by simp; omega
  have h2 : k + (v :: vs).length ≤ c.size := by simp; omega
  by_cases hj : j < k
  · rw [putA_out h1 (.inl (by omega)), putA_out h2 (.inl hj), Array.getElem?_setIfInBounds_ne (by omega)]
  · by_cases hj2 : j = k
    · subst hj2
      rw [putA_out h1 (.inl (by omega))]
      have := putA_in h2 (j := 0) (by simp)
      rw [Nat.add_zero] at this
      rw [this]
      simp [Array.getElem?_setIfInBounds, show j < c.size by omega]
    · by_cases hj3 : j < k + 1 + vs.length
      · have e1 := putA_in h1 (j := j - (k + 1)) (by omega)
        have e2 := putA_in h2 (j := j - k) (by simp; omega)
        rw [show k + 1 + (j - (k + 1)) = j by omega] at e1
        rw [show k + (j - k) = j by omega] at e2
        rw [e1, e2, show j - k = (j - (k + 1)) + 1 by omega, List.getElem?_cons_succ]
      · rw [putA_out h1 (.inr (by omega)), putA_out h2 (.inr (by simp; omega)), Array.getElem?_setIfInBounds_ne (by omega)]

section
variable {P : Program} {w : World} {F : Fz} {κ : Env} {μ : Mu} {Pr : Nat → Prop}

theorem run_storeCells_row {b o : Nat} : ∀ (vs : List Value) (i : Nat) (w : World) (c : Array Value) (el : TypeId) (fr : Nat × Nat), w.heap[b]? = some (.cells c el fr) → (∀ k, k < c.size → ¬ (fr.1 ≤ k ∧ k < fr.2)) →
    o + i + vs.length ≤ c.size → (∀ v ∈ vs, v.oneCell' = true) → (storeCells ⟨b, o, none⟩ vs i).run P w = .ok () (w.setRow b (putA c (o + i) vs))
  | [], i, w, c, el, fr, hb, hfr, hfit, h1 => by
    rw [putA_nil]
    have : w.setRow b c = w := by
      have hlt : b < w.heap.size := (Array.getElem?_eq_some_iff.1 hb).1
      have hv : w.heap[b] = .cells c el fr := (Array.getElem?_eq_some_iff.1 hb).2
      unfold World.setRow
      refine congrArg (fun h => ({ w with heap := h } : World)) (?_ : w.heap.modify b _ = w.heap)
      apply Array.ext
      · simp
      · intro k h1 h2
        simp only [Array.getElem_modify]
        split
        · rename_i hk; subst hk; rw [hv]
        · rfl
    rw [this]
    rfl
  | v :: vs, i, w, c, el, fr, hb, hfr, hfit, h1 => by
    simp at hfit
    have hst : (store ((⟨b, o, none⟩ : Addr).add i) v).run P w = .ok () (w.setCell ⟨b, o + i, none⟩ v) := by
      rw [Addr.add_lit, run_store P w _ v _ (h1 v (by simp)), cell_of_heap hb]
      have hz : w.frozen? ⟨b, o + i, none⟩ = false := by
        have := hfr (o + i) (by omega)
        simp [World.frozen?, hb]
        omega
      simp [Array.getElem?_eq_getElem (show o + i < c.size by omega), hz]
    have e := setCell_eq_setRow w b (o + i) c el fr v hb
    have hb' := setRow_heap w b c (c.setIfInBounds (o + i) v) el fr hb
    have ih := run_storeCells_row (b := b) (o := o) vs (i + 1) (w.setRow b (c.setIfInBounds (o + i) v)) _ el fr hb' (by simpa using hfr) (by simp; omega) (fun x hx => h1 x (by simp [hx]))
    unfold storeCells
    simp only [Sem.run_bind, hst, Result.andThen_ok]
    rw [e, ih, setRow_setRow, show o + (i + 1) = o + i + 1 by omega, putA_cons (by simp; omega)]

theorem run_storeVar {t : TypeId} {n : Nat} {ag : Bool} (ht : tyOf P t = some (n, ag)) {v : Value} (hn : v.cells.toList.length = n) (h1 : ∀ x ∈ v.cells.toList, x.oneCell' = true) {b o : Nat} {c : Array Value} {el : TypeId} {fr : Nat × Nat}
    (hb : w.heap[b]? = some (.cells c el fr)) (hfr : ∀ k, k < c.size → ¬ (fr.1 ≤ k ∧ k < fr.2)) (hfit : o + n ≤ c.size) :
    (Instr.storeAt t (.pointer (some ⟨b, o, none⟩)) v).run P w = .ok () (w.setRow b (putA c o v.cells.toList)) := by
  unfold Instr.storeAt storeVar
  have hsz : v.cells.size = n := by rw [← Array.length_toList]; exact hn
  have := run_storeCells_row (P := P) (o := o) v.cells.toList 0 w c el fr hb hfr (by rw [hn]; omega) h1
  simp only [Nat.add_zero] at this
  simp only [Sem.run_bind, Instr.sureAddr, Sem.run_pure, Result.andThen_ok, run_sizeOf ht, hsz, ne_eq, not_true_eq_false, if_false, this]

theorem putAt_len {off : Nat} {new cs : List D} (h : off + new.length ≤ cs.length) : (putAt off new cs).length = cs.length := by
  simp [putAt]; omega
theorem putAt_in {off : Nat} {new cs : List D} (h : off + new.length ≤ cs.length) {j : Nat} (hj : j < new.length) : (putAt off new cs)[off + j]? = new[j]? := by
  unfold putAt
  rw [List.append_assoc, List.getElem?_append_right (by simp; omega), List.getElem?_append_left (by simp; omega)]
  congr 1
  simp; omega
theorem putAt_out {off : Nat} {new cs : List D} (h : off + new.length ≤ cs.length) {j : Nat} (hj : j < off ∨ off + new.length ≤ j) : (putAt off new cs)[j]? = cs[j]? := by
  unfold putAt
  rw [List.append_assoc]
  rcases hj with hj | hj
  · rw [List.getElem?_append_left (by simp; omega), List.getElem?_take, if_pos hj]
  · rw [List.getElem?_append_right (by simp; omega), List.getElem?_append_right (by simp; omega), List.getElem?_drop]
    simp only [List.length_take]
    rw [show off + new.length + (j - min off cs.length - new.length) = j by omega]

/-- Cells that are put among others. -/
theorem cellsOk_put {c : Array Value} {o off : Nat} {cs new : List D} {vs : List Value} (hc : CellsOk w F κ c o cs) (hn : RdL w F κ vs new) (h1 : ∀ x ∈ vs, x.oneCell' = true) (hfit : off + new.length ≤ cs.length) (hsz : o + off + vs.length ≤ c.size) :
    CellsOk w F κ (putA c (o + off) vs) o (putAt off new cs) := fun j d hd => by
  by_cases hj : off ≤ j ∧ j < off + new.length
  · have e := putAt_in hfit (j := j - off) (by omega)
    rw [show off + (j - off) = j by omega, hd] at e
    have hlt : j - off < vs.length := by rw [hn.1]; omega
    have e2 := putA_in hsz hlt
    rw [show o + off + (j - off) = o + j by omega] at e2
    exact ⟨vs[j - off], by rw [e2]; exact List.getElem?_eq_getElem hlt, h1 _ (List.getElem_mem hlt), hn.2 _ _ d (List.getElem?_eq_getElem hlt) e.symm⟩
  · rw [putAt_out hfit (by omega)] at hd
    obtain ⟨v, a1, a2, a3⟩ := hc j d hd
    refine ⟨v, ?_, a2, a3⟩
    rw [putA_out hsz (by have := hn.1; omega)]
    exact a1

/-- A store. -/
theorem st_ok {H : Hp} (R : Rel w F μ H Pr) {t : TypeId} {n : Nat} {ag : Bool} (ht : tyOf P t = some (n, ag)) {p v : Value} {dp dv : D} {wr : Wr} (hp : Rd w F (env μ H) p dp) (hv : Rd w F (env μ H) v dv) (h : (stM n dp dv).run H = some wr) :
    ∃ w' F' μ', (Instr.storeAt t p v).run P w = .ok () w' ∧ Nx Pr w F μ H w' F' μ' (H.app wr) := by
  unfold stM at h
  split at h
  · rename_i hc
    obtain ⟨hn, hone⟩ := hc
    obtain ⟨hcl, hc1⟩ := hv.cellsL hone
    have hvn : v.cells.toList.length = n := by rw [hcl.1]; exact hn
    split at h
    · rename_i g i off L
      simp only [M.run_bind, run_look] at h
      cases hg : H g with
      | none => rw [hg] at h; cases h
      | some ob =>
        rw [hg] at h
        simp only [Option.bind_some] at h
        have hk : env μ H g = some (kiOf (μ g) ob) := by simp [env, hg]
        have hok := R.ok g _ hg
        cases ob with
        | mp es => cases h
        | box cs =>
          simp only at h
          split at h
          · rename_i hcc
            obtain ⟨rfl, hfit⟩ := hcc
            simp at h
            subst h
            obtain ⟨b, sz, c, el, fr, hm, hb⟩ := hok.inv_box
            rw [hm] at hk
            cases hp with
            | ptrr _ _ b' s' _ sz' _ _ hk' => rw [hk] at hk'; simp [kiOf] at hk'
            | ptro _ _ _ _ _ k b' o' hk' hp => rw [hk] at hk'; injection hk' with hk'; subst hk'; exact hp.elim
            | ptrb _ _ b' _ _ hk' =>
              rw [hk] at hk'
              simp [kiOf] at hk'
              subst hk'
              have hsz : off + n ≤ c.size := by rw [hb.size, ← hb.len]; exact hfit
              refine ⟨_, F, upd μ g (μ g), run_storeVar (P := P) ht hvn hc1 hb.heap (by rw [hb.size]; exact hb.froz) hsz, ?_⟩
              rw [app_upd, app_nil, hm]
              have := cellsOk_put (off := off) hb.cells hcl hc1 (by rw [hn]; exact hfit) (by rw [hvn]; simpa using hsz)
              rw [Nat.zero_add] at this
              exact Nx.setBox R hg hm hb (by rw [putA_size (by rw [hvn]; exact hsz)]; exact hb.size) (by rw [putAt_len (by rw [hn]; exact hfit)]; exact hb.len) this
          · cases h
        | row s es fz =>
          simp only at h
          split at h
          · rename_i hcc
            obtain ⟨hL, hfz⟩ := hcc
            unfold stRow at h
            cases he : es[i]? with
            | none => rw [he] at h; cases h
            | some e =>
              rw [he] at h
              simp only [M.run_bind] at h
              cases hq : (fzD true [] dv).run H with
              | none => rw [hq] at h; cases h
              | some q =>
                rw [hq] at h
                simp only [Option.bind_some] at h
                split at h
                · rename_i hc2
                  obtain ⟨hfit, hn2, hone2, hlk⟩ := hc2
                  cases hlike : e.like (putAt off q.1.cells e.cells) with
                  | none => rw [hlike] at h; cases h
                  | some e' =>
                    rw [hlike] at h
                    simp at h
                    subst h
                    obtain ⟨F1, n1, r1, r2⟩ := fzD_ok (H := H) (ov := []) dv R hv hq
                    rw [ovH_nil] at n1
                    have hg1 : ovH H q.2 g = some (.row s es fz) := by rw [ovH_lookup_none hlk]; exact hg
                    have hok1 := n1.rel.ok g _ hg1
                    obtain ⟨hcl2, hc12⟩ := (r2 rfl).cellsL hone2
                    rcases hok1.inv_row with ⟨hm, hes⟩ | ⟨b, sz, c, el, fr, hm, hr⟩
                    · subst hes; simp at he
                    · have hilt : i < es.length := (List.getElem?_eq_some_iff.1 he).1
                      have helen := hr.len e (List.mem_of_getElem? he)
                      have hle : (i + 1) * s ≤ es.length * s := Nat.mul_le_mul_right _ hilt
                      rw [Nat.add_mul, Nat.one_mul] at hle
                      have hsz := hr.size
                      have hfits := hr.fits
                      have hadd : i * s + off + n ≤ c.size := by omega
                      rw [hm] at hk
                      cases hp with
                      | ptrb _ _ b' _ _ hk' => rw [hk] at hk'; simp [kiOf] at hk'
                      | ptro _ _ _ _ _ k b' o' hk' hp => rw [hk] at hk'; injection hk' with hk'; subst hk'; simp [kiOf, KI.past] at hp; omega
                      | ptrr _ _ b' s' _ sz' _ _ hk' =>
                        rw [hk] at hk'
                        simp [kiOf] at hk'
                        obtain ⟨rfl, rfl, _, rfl⟩ := hk'
                        refine ⟨_, F1, upd μ g (μ g), run_storeVar (P := P) ht hvn hc1 hr.heap (by rw [hr.size]; exact hr.froz) hadd, ?_⟩
                        rw [app_append]
                        refine n1.trans ?_
                        rw [app_upd, app_nil, hm]
                        have hall : ∀ x ∈ putAt off q.1.cells e.cells, D.one x = true ∨ True := fun _ _ => .inr trivial
                        have hput := cellsOk_put (off := off) (hr.cells i e he) hcl2 hc12 (by rw [hn2, helen]; exact hfit) (by rw [hvn]; exact hadd)
                        have hcells' : e'.cells = putAt off q.1.cells e.cells := by
                          unfold D.like at hlike
                          split at hlike
                          · injection hlike with hlike; subst hlike; rfl
                          · rename_i d _ hd
                            injection hlike with hlike
                            subst hlike
                            obtain ⟨x, a1, a2, a3⟩ := hput 0 d (by rw [hd]; rfl)
                            rw [hd]
                            exact cells_one a3 a2
                          · cases hlike
                        have hel' : e'.cells.length = s := by rw [hcells', putAt_len (by rw [hn2, helen]; exact hfit)]; exact helen
                        have hl' : ∀ x ∈ es.set i e', x.cells.length = s := by
                          intro x hx
                          rcases List.mem_or_eq_of_mem_set hx with hx | rfl
                          · exact hr.len x hx
                          · exact hel'
                        refine Nx.setRow n1.rel hg1 hm hr (by rw [putA_size (by rw [hvn]; exact hadd)]; exact hr.size) (fun o ho => ?_) (.inl (by simp)) hl' (by simpa using hr.fits) rfl (flat_rowCells hl' (fun k x hx => ?_))
                        · refine putA_out (by rw [hvn]; exact hadd) (.inl ?_)
                          have := Nat.mul_le_mul_right s hfz
                          omega
                        · by_cases hki : k = i
                          · subst hki
                            rw [List.getElem?_set_self (by simpa using hilt)] at hx
                            injection hx with hx
                            subst hx
                            rw [hcells']
                            exact hput
                          · rw [List.getElem?_set_ne (fun e => hki e.symm)] at hx
                            intro j d hd
                            obtain ⟨x', a1, a2, a3⟩ := hr.cells k x hx j d hd
                            refine ⟨x', ?_, a2, a3⟩
                            have hj : j < s := by rw [← hr.len x (List.mem_of_getElem? hx)]; exact (List.getElem?_eq_some_iff.1 hd).1
                            rw [putA_out (by rw [hvn]; exact hadd)]
                            · exact a1
                            · rw [hvn]
                              rcases Nat.lt_or_ge k i with hlt | hge
                              · left
                                have := Nat.mul_le_mul_right s (show k + 1 ≤ i from hlt)
                                rw [Nat.add_mul, Nat.one_mul] at this
                                omega
                              · right
                                have := Nat.mul_le_mul_right s (show i + 1 ≤ k by omega)
                                rw [Nat.add_mul, Nat.one_mul] at this
                                omega
                · cases h
          · cases h
    · cases h
  · cases h
end
end Go.Ab
