/- THE ABSTRACT MACHINE, sound: appends. -/
import Derived.Test.YtomomeabfnmncaaGreatBOp8
import Derived.Laws.AppendOwn
set_option linter.all false
namespace Go.Ab

theorem ofV_size {v : Value} {d : D} (h : ofV v = some d) : v.cells.toList.length = d.cells.length := by
  cases v with
  | agg cs =>
    simp only [ofV, Option.map_eq_some_iff] at h
    obtain ⟨ds, h1, rfl⟩ := h
    exact (mapO_len h1).symm
  | _ =>
    unfold ofV at h
    obtain ⟨hr, ho⟩ := ofV1_ok h default (fun _ _ => False) noEnv
    rw [cells_one hr ho]
    rfl

theorem zeroOf_ok {P : Program} {t : TypeId} {z : List D} (h : zeroOf P t = some z) : ∃ i v d, P.info? t = some i ∧ i.zero = some v ∧ ofV v = some d ∧ z = d.cells := by
  unfold zeroOf at h
  cases hi : P.info? t with
  | none => simp [hi] at h
  | some i =>
    simp only [hi] at h
    cases hz : i.zero with
    | none => simp [hz] at h
    | some v =>
      simp only [hz, Option.map_eq_some_iff] at h
      obtain ⟨d, h1, rfl⟩ := h
      exact ⟨i, v, d, rfl, hz, h1, rfl⟩

section
variable {P : Program} {w : World} {F : Fz} {κ : Env} {μ : Mu} {Pr : Nat → Prop}

/-- What is appended: its cells. -/
theorem first_nil (s : Nat) (A : Option Addr) (w : World) : (Builtin.firstCells s 0 (.slice A 0 0)).run P w = .ok #[] w := by
  cases A with
  | none => rfl
  | some a => simp only [Builtin.firstCells, Nat.zero_mul]; rfl

theorem src_ok {H : Hp} (R : Rel w F μ H Pr) {y : Value} {dy : D} {s s' : Nat} {ys : List D} (hy : Rd w F (env μ H) y dy) (h : (srcM dy).run H = some (s', ys)) (hl : ∀ e ∈ ys, e.cells.length = s) :
    ∃ news : List Value, RdL w F noEnv news (ys.flatMap D.cells) ∧ (∀ x ∈ news, x.oneCell' = true) ∧ ∀ w' : World, w'.heap = w.heap →
      (Builtin.lenOf y).run P w' = .ok ys.length w' ∧ (Builtin.firstCells s ys.length y).run P w' = .ok news.toArray w' := by
  have hslice : ∀ {s0 : Nat}, SlAt w F y s0 ys → ∃ news : List Value, RdL w F noEnv news (ys.flatMap D.cells) ∧ (∀ x ∈ news, x.oneCell' = true) ∧ ∀ w' : World, w'.heap = w.heap →
      (Builtin.lenOf y).run P w' = .ok ys.length w' ∧ (Builtin.firstCells s ys.length y).run P w' = .ok news.toArray w' := by
    intro s0 hs
    rcases hs with ⟨⟨A, rfl⟩, rfl⟩ | ⟨b, o, cap, vs, rfl, hcap, hpos, hl', hm⟩
    · exact ⟨[], RdL.nil, fun x hx => (by cases hx), fun w' _ => ⟨rfl, first_nil _ _ _⟩⟩
    · refine ⟨vs, hm.1, fun x hx => ?_, fun w' hw => ⟨rfl, ?_⟩⟩
      · obtain ⟨j, hj⟩ := List.mem_iff_getElem?.1 hx
        exact (hm.2 j x hj).2
      · have hvl : vs.length = ys.length * s := by rw [hm.1.1, flat_len hl]
        have := run_loadCells_at (P := P) (w := w') (b := b) (o := o) (vs := vs) (fun j v hv => by
          have := (hm.2 j v hv).1
          simpa [World.cell?, hw] using this)
        rw [hvl] at this
        exact this
  unfold srcM at h
  split at h
  · rename_i b
    simp at h
    obtain ⟨rfl, rfl⟩ := h
    obtain ⟨p, rfl, rfl⟩ := rd_str hy
    have hcells : (ofU8 p.data.toList).flatMap D.cells = ofU8 p.data.toList := by
      generalize p.data.toList = l
      induction l with
      | nil => rfl
      | cons x l ih => simp [ofU8] at ih ⊢; rw [ih]; rfl
    have hsz : (ofU8 p.data.toList).length = p.size := by simp [ofU8]
    refine ⟨p.data.toList.map fun b => .int .u8 b.toNat, ?_, fun x hx => ?_, fun w' _ => ⟨?_, ?_⟩⟩
    · rw [hcells]
      refine ⟨by simp [ofU8], fun i v d hv hd => ?_⟩
      simp [ofU8] at hd hv
      obtain ⟨x, h1, rfl⟩ := hv
      obtain ⟨x', h2, rfl⟩ := hd
      rw [h1] at h2
      injection h2 with h2
      subst h2
      exact .int _ _ _
    · obtain ⟨c, _, rfl⟩ := List.mem_map.1 hx
      rfl
    · rw [hsz]; rfl
    · rw [hsz]
      unfold Builtin.firstCells
      simp only [Sem.run_pure]
      congr 1
      apply Array.ext'
      simp
  · exact hslice (esM_ok R hy h)

theorem run_app_grow {t u ty e : TypeId} {i : TypeInfo} {z : Value} (ht : P.underlying t = some (.slice e)) (hu : (∃ e', P.underlying u = some (.slice e')) ∨ P.underlying u = some .string) (hi : P.info? e = some i) (hz : i.zero = some z) {base : Option Addr} {sLen sCap n : Nat} {y : Value} {olds news : List Value}
    (hn : ∀ w' : World, w'.heap = w.heap → (Builtin.lenOf y).run P w' = .ok n w' ∧ (Builtin.firstCells i.size n y).run P w' = .ok news.toArray w')
    (ho : ∀ w' : World, w'.heap = w.heap → (Builtin.firstCells i.size sLen (.slice base sLen sCap)).run P w' = .ok olds.toArray w') (hg : sCap < sLen + n) (hb : (sLen + n) * i.bytes ≤ capBound) (hb0 : 0 < i.bytes) :
    (Builtin.append_ #[t, u] ty #[.slice base sLen sCap, y]).run P w = .ok (.slice (some ⟨w.heap.size, 0, none⟩) (sLen + n) (grownCap w (sLen + n) sCap e))
      (w.drew.alloc (.cells ((olds ++ news).toArray ++ Builtin.zeroCells z.cells (grownCap w (sLen + n) sCap e - (sLen + n))) e)) := by
  have hn' : ¬ (sLen + n ≤ sCap) := by omega
  have hbb : (sLen + n) * i.bytes ≤ 140737488355328 := by unfold capBound at hb; omega
  have h63 : sLen + n ≤ (sLen + n) * i.bytes := Nat.le_mul_of_pos_right _ hb0
  have h63' : ¬ (9223372036854775807 < ((sLen : Int) + (n : Int))) := by unfold capBound at hb; omega
  have h48' : ¬ (281474976710656 < Builtin.nextslicecap (sLen + n) sCap * i.bytes) := by have := growslice_fits (need := sLen + n) (old := sCap) (bytes := i.bytes) hg hbb; omega
  have e1 := (hn w rfl).1
  have e2 := (hn w.drew rfl).2
  have e3 := ho w.drew rfl
  rcases hu with ⟨e', hu⟩ | hu <;>
  · simp [Builtin.append_, run_underlying ht, run_underlying hu, sizeOf, typeInfo, zeroValue, hi, hz, e1, hn', h63', h48', Question.forced, e2, e3, newRow, grownCap]
    first | done | (congr 2; apply Array.ext'; simp [List.append_assoc])

theorem run_app_room {t u ty e : TypeId} {i : TypeInfo} (ht : P.underlying t = some (.slice e)) (hu : (∃ e', P.underlying u = some (.slice e')) ∨ P.underlying u = some .string) (hi : P.info? e = some i) {base : Option Addr} {sLen sCap n : Nat} {y : Value} {news : List Value}
    (hn : ∀ w' : World, w'.heap = w.heap → (Builtin.lenOf y).run P w' = .ok n w' ∧ (Builtin.firstCells i.size n y).run P w' = .ok news.toArray w') (hr : sLen + n ≤ sCap) {w' : World}
    (hst : ∀ a, base = some a → (storeCells (a.add (sLen * i.size)) news).run P w = .ok () w') (hno : base = none → w' = w) :
    (Builtin.append_ #[t, u] ty #[.slice base sLen sCap, y]).run P w = .ok (.slice base (sLen + n) sCap) w' := by
  have e1 := (hn w rfl).1
  have e2 := (hn w rfl).2
  cases base with
  | none => rw [hno rfl]; rcases hu with ⟨e', hu⟩ | hu <;> simp [Builtin.append_, run_underlying ht, run_underlying hu, sizeOf, typeInfo, hi, e1, hr, e2]
  | some a => rcases hu with ⟨e', hu⟩ | hu <;> simp [Builtin.append_, run_underlying ht, run_underlying hu, sizeOf, typeInfo, hi, e1, hr, e2, hst a rfl]

theorem grownCap_ge (w : World) (need old : Nat) (e : TypeId) : need ≤ grownCap w need old e := by
  simp only [grownCap, Question.cut]; omega

/-- A row that has moved into a new block. -/
theorem Nx.regrow {H : Hp} (R : Rel w F μ H Pr) {w' : World} {c : Array Value} {el : TypeId} {fr : Nat × Nat} (A : Alloc w w' (.cells c el fr)) (hfr : ∀ o, o < c.size → ¬ (fr.1 ≤ o ∧ o < fr.2)) {g : Nat} {s s' fz : Nat} {es es' : List D} (hg : H g = some (.row s' es fz)) (hs : 0 < s) (hl : ∀ e ∈ es', e.cells.length = s) (hfit : es'.length * s ≤ c.size)
    (hc : CellsOk w F noEnv c 0 (es'.flatMap D.cells)) (hlen : es.length < es'.length) : Nx Pr w F μ H w' F (upd μ g (some (w.heap.size, c.size))) (upd H g (some (.row s es' fz))) := by
  have st := A.stp R.fc R.prlt
  have hok := R.ok g _ hg
  refine Nx.one R st (fun g' b z hne hs hm => ⟨A.old (R.block_lt hs hm), fun _ h => h⟩) (fun o0 ho => ?_) (fun kle => ?_) (fun b z hbz => ?_) (fun b o hf => ?_)
  · rw [hg] at ho
    injection ho with ho
    subst ho
    right
    refine ⟨_, _, _, _, rfl, ?_⟩
    cases hm : μ g with
    | none => simp only [kiOf]; omega
    | some q => obtain ⟨b, sz⟩ := q; simpa [kiOf] using hlen
  · refine .row _ _ _ _ _ c el fr ⟨A.new, rfl, hfr, hs, hfit, hl, fun i e he => rowCells_flat hl (hc.mono st.fle (KLe.refl _)) i e he, fun o ho => absurd (cell_lt (R.fc _ _ ho)) (by omega), ?_⟩
    rcases hok.inv_row with ⟨hm, hes⟩ | ⟨b, sz, c0, el0, fr0, hm, hr⟩
    · rw [hm] at hok
      have := hok.fz0
      omega
    · have := hr.fzle; omega
  · injection hbz with hbz
    injection hbz with h1 h2
    subst h1
    exact ⟨fun hp => absurd (R.prlt _ hp) (by omega), fun g' z' hne hs hm => absurd (R.block_lt hs hm) (by omega), .inr (Nat.le_refl _)⟩
  · rw [(st.fle b o hf).2]; exact R.fc b o hf

theorem Rd.toSl {v : Value} {g lo n L : Nat} (h : Rd w F κ v (.sl g lo n L)) :
    (∃ b s sz o cap, κ g = some (.row b s L sz) ∧ v = .slice (some ⟨b, o, none⟩) n cap ∧ lo + n ≤ L ∧ n ≤ cap ∧ (o = lo * s ∨ cap = 0) ∧ (lo + cap) * s ≤ sz) ∨ (κ g = some .vrow ∧ v = .slice none 0 0 ∧ n = 0 ∧ L = 0 ∧ lo = 0) ∨ ∃ k a cap, κ g = some k ∧ k.past L ∧ v = .slice a n cap := by
  cases h with
  | sl _ _ b s _ sz _ _ o cap hk hn hcap ho hsz => exact .inl ⟨b, s, sz, o, cap, hk, rfl, hn, hcap, ho, hsz⟩
  | slv _ _ hk => exact .inr (.inl ⟨hk, rfl, rfl, rfl, rfl⟩)
  | slo _ _ _ _ _ k a cap hk hp ho => exact .inr (.inr ⟨k, a, cap, hk, hp, rfl⟩)

/-- The old elements, as an append reads them. -/
theorem olds_ok {v : Value} {s0 s : Nat} {es : List D} (hs : SlAt w F v s0 es) (hse : s0 = s ∨ es = []) : ∃ (base : Option Addr) (cap : Nat) (olds : List Value), v = .slice base es.length cap ∧ es.length ≤ cap ∧ RdL w F noEnv olds (es.flatMap D.cells) ∧ (∀ x ∈ olds, x.oneCell' = true) ∧
    ∀ w' : World, w'.heap = w.heap → (Builtin.firstCells s es.length (.slice base es.length cap)).run P w' = .ok olds.toArray w' := by
  rcases hs with ⟨⟨A, rfl⟩, rfl⟩ | ⟨b, o, cap, vs, rfl, hcap, hpos, hl, hm⟩
  · exact ⟨A, 0, [], rfl, Nat.le_refl _, RdL.nil, fun x hx => (by cases hx), fun w' _ => first_nil _ _ _⟩
  · refine ⟨_, cap, vs, rfl, hcap, hm.1, fun x hx => ?_, fun w' hw => ?_⟩
    · obtain ⟨j, hj⟩ := List.mem_iff_getElem?.1 hx
      exact (hm.2 j x hj).2
    · have hvl : vs.length = es.length * s := by
        rw [hm.1.1, flat_len hl]
        rcases hse with rfl | rfl
        · rfl
        · simp
      have := run_loadCells_at (P := P) (w := w') (b := b) (o := o) (vs := vs) (fun j v hv => by
        have := (hm.2 j v hv).1
        simpa [World.cell?, hw] using this)
      rw [hvl] at this
      exact this

theorem drew_alloc (w : World) (o : Go.Obj) : Alloc w (w.drew.alloc o) o := ⟨rfl, rfl, rfl, rfl⟩

theorem cellsOk_app {olds news : List Value} {es ys : List D} (ho : RdL w F noEnv olds (es.flatMap D.cells)) (h1 : ∀ x ∈ olds, x.oneCell' = true) (hn : RdL w F noEnv news (ys.flatMap D.cells)) (h2 : ∀ x ∈ news, x.oneCell' = true) (z : Array Value) :
    CellsOk w F noEnv ((olds ++ news).toArray ++ z) 0 ((es ++ ys).flatMap D.cells) := by
  rw [List.flatMap_append]
  refine cellsOk_of (vs := olds ++ news) (ho.append hn) (fun v hv => ?_) (fun j v hv => ?_)
  · rcases List.mem_append.1 hv with h | h
    · exact h1 v h
    · exact h2 v h
  · rw [Nat.zero_add, Array.getElem?_append_left (by simpa using (List.getElem?_eq_some_iff.1 hv).1)]
    simpa using hv

/-- An append. -/
theorem app_ok {H : Hp} (R : Rel w F μ H Pr) {t u ty e : TypeId} {s : Nat} {ag : Bool} {i : TypeInfo} {z : List D} (ht : P.underlying t = some (.slice e)) (hu : (∃ e', P.underlying u = some (.slice e')) ∨ P.underlying u = some .string) (hs : tyOf P e = some (s, ag)) (hi : P.info? e = some i)
    (hz : zeroOf P e = some z) (hb0 : 0 < i.bytes) (hzl : z.length = s) {nk : Nat} {x y : Value} {dx dy d : D} {wr : Wr} (hnk : ∀ p ∈ wr, nk ≤ p.1 → H p.1 = none) (hx : Rd w F (env μ H) x dx) (hy : Rd w F (env μ H) y dy) (h : (appM nk s i.bytes dx dy).run H = some (d, wr)) :
    ∃ r w' F' μ', (Builtin.append_ #[t, u] ty #[x, y]).run P w = .ok r w' ∧ Nx Pr w F μ H w' F' μ' (H.app wr) ∧ Rd w' F' (env μ' (H.app wr)) r d := by
  unfold appM at h
  rw [M.run_bind] at h
  cases hsrc : (srcM dy).run H with
  | none => rw [hsrc] at h; cases h
  | some q =>
    obtain ⟨s', ys⟩ := q
    rw [hsrc] at h
    simp only [Option.bind_some] at h
    unfold appO at h
    split at h
    · rename_i hc
      obtain ⟨hly, hspos⟩ := hc
      have hl : ∀ e ∈ ys, e.cells.length = s := fun e he => by simpa using List.all_eq_true.1 hly e he
      have hsz : i.size = s := by
        obtain ⟨i', h1, h2⟩ := tyOf_und hs
        rw [hi] at h1
        injection h1 with h1
        rw [h1]; exact h2
      obtain ⟨i2, zv, zd, hi2, hzv, hzd, rfl⟩ := zeroOf_ok hz
      rw [hi] at hi2
      injection hi2 with hi2
      subst hi2
      have hzsz : zv.cells.size = s := by rw [← hzl, ← ofV_size hzd]; simp
      obtain ⟨news, hn1, hn2, hn3⟩ := src_ok (P := P) R hy hsrc hl
      have hnl : news.length = ys.length * s := by rw [hn1.1, flat_len hl]
      rw [← hsz] at hn3
      split at h
      · -- onto a frozen slice
        rename_i c s0 es
        split at h
        · rename_i hys
          subst hys
          simp at h
          obtain ⟨rfl, rfl⟩ := h
          have hnews : news = [] := List.length_eq_zero_iff.1 (by simpa using hnl)
          subst hnews
          cases hx with
          | nils => exact ⟨_, w, F, μ, run_app_room (P := P) ht hu hi hn3 (by simp) (w' := w) (fun a ha => by cases ha) (fun _ => rfl), Nx.refl R, .nils _ _ _⟩
          | emp _ a _ _ hs => exact ⟨_, w, F, μ, run_app_room (P := P) ht hu hi hn3 (by simp) (w' := w) (fun a ha => rfl) (fun _ => rfl), Nx.refl R, .emp _ a _ _ hs⟩
          | slc _ b o cap _ _ _ vs hs' hcap hcc hll hvv hrr =>
            exact ⟨_, w, F, μ, run_app_room (P := P) ht hu hi hn3 (by simpa using hcap) (w' := w) (fun a ha => rfl) (fun _ => rfl), Nx.refl R, by simpa using Rd.slc _ b o cap c s0 es vs hs' hcap hcc hll hvv hrr⟩
        · rename_i hys
          split at h
          · rename_i hcc
            obtain ⟨hclip, hse, hbound⟩ := hcc
            simp at h
            obtain ⟨rfl, rfl⟩ := h
            have hpos : 0 < ys.length := List.length_pos_iff.2 hys
            have hSl := esM_ok R (s := s0) (es := es) hx rfl
            obtain ⟨base, cap, olds, hxe, hcap, ho1, ho2, ho3⟩ := olds_ok (P := P) hSl hse
            rw [← hsz] at ho3
            have hcap2 : cap = es.length := by
              cases hx with
              | nils => injection hxe with _ _ h3; simp; omega
              | emp _ _ _ _ _ => injection hxe with _ _ h3; simp; omega
              | slc _ b o cap' _ _ _ vs hs' hcap' hcc' hll hvv hrr =>
                injection hxe with _ _ h3
                have := hcc' hclip
                omega
            have hol : olds.length = es.length * s := by
              rw [ho1.1]
              rcases hSl with ⟨_, rfl⟩ | ⟨_, _, _, _, _, _, _, hll, _⟩
              · simp
              · rw [flat_len hll]
                rcases hse with rfl | rfl
                · rfl
                · simp
            have hles : ∀ e ∈ es ++ ys, e.cells.length = s := by
              intro e he
              rcases List.mem_append.1 he with he | he
              · rcases hSl with ⟨_, rfl⟩ | ⟨_, _, _, _, _, _, _, hll, _⟩
                · cases he
                · rcases hse with rfl | rfl
                  · exact hll e he
                  · cases he
              · exact hl e he
            rw [hxe]
            have hrun := run_app_grow (P := P) (ty := ty) ht hu hi hzv hn3 ho3 (by omega) hbound hb0
            obtain ⟨G, hG⟩ : ∃ G, G = grownCap w (es.length + ys.length) cap e := ⟨_, rfl⟩
            have hge : es.length + ys.length ≤ G := by rw [hG]; exact grownCap_ge _ _ _ _
            rw [← hG] at hrun
            have hcsz : ((olds ++ news).toArray ++ Builtin.zeroCells zv.cells (G - (es.length + ys.length))).size = G * s := by
              rw [Array.size_append, size_zeroCells, hzsz]
              simp only [List.size_toArray, List.length_append, hol, hnl]
              rw [← Nat.add_mul, ← Nat.add_mul]
              congr 1
              omega
            refine ⟨_, _, F, upd μ nk (some (w.heap.size, G * s)), hrun, ?_, ?_⟩
            · rw [app_upd, app_nil, ← hcsz]
              refine Nx.newRow R (drew_alloc w _) (fun o _ h => by simp at h) (hnk _ (List.mem_singleton.2 rfl) (Nat.le_refl _)) hspos hles ?_ (cellsOk_app ho1 ho2 hn1 hn2 _)
              rw [hcsz, List.length_append]
              exact Nat.mul_le_mul_right _ hge
            · rw [app_upd, app_nil]
              have := Rd.sl (w := w.drew.alloc (.cells ((olds ++ news).toArray ++ Builtin.zeroCells zv.cells (G - (es.length + ys.length))) e)) (F := F) (env (upd μ nk (some (w.heap.size, G * s))) (upd H nk (some (.row s (es ++ ys) 0)))) nk w.heap.size s (es ++ ys).length (G * s) 0 (es.length + ys.length) 0 G (by rw [env_upd_same]; rfl) (by simp) hge (.inl (by simp)) (by simp)
              rw [List.length_append] at this
              exact this
          · cases h
      · -- onto a row
        rename_i g lo n L
        simp only [M.run_bind, run_look] at h
        cases hg : H g with
        | none => rw [hg] at h; cases h
        | some ob =>
          rw [hg] at h
          simp only [Option.bind_some] at h
          cases ob with
          | box cs => cases h
          | mp es => cases h
          | row s0 es fz =>
            simp only at h
            split at h
            · rename_i hcc
              obtain ⟨hL, rfl, rfl, hse, hbound⟩ := hcc
              have hk : env μ H g = some (kiOf (μ g) (.row s0 es fz)) := by simp [env, hg]
              have hok := R.ok g _ hg
              split at h
              · rename_i hys
                subst hys
                simp at h
                obtain ⟨rfl, rfl⟩ := h
                have hnews : news = [] := List.length_eq_zero_iff.1 (by simpa using hnl)
                subst hnews
                obtain ⟨a, cap, rfl, hcap⟩ := hx.slLen
                refine ⟨.slice a n cap, w, F, μ, ?_, Nx.refl R, hx⟩
                have := run_app_room (P := P) (ty := ty) (base := a) (sLen := n) (sCap := cap) ht hu hi hn3 (by simpa using hcap) (w' := w) (fun a ha => rfl) (fun _ => rfl)
                simpa using this
              · rename_i hys
                have hpos : 0 < ys.length := List.length_pos_iff.2 hys
                simp at h
                obtain ⟨rfl, rfl⟩ := h
                have hSl : SlAt w F x s0 es := by
                  refine esM_ok R (s := s0) (es := es) hx ?_
                  unfold esM
                  simp only [M.run_bind, run_look, hg, Option.bind_some]
                  rw [if_pos ⟨hL, by omega⟩, List.take_of_length_le (by omega)]
                  rfl
                have hse' : s0 = s ∨ es = [] := by
                  rcases hse with h | h
                  · exact .inl h
                  · right
                    rcases hok.inv_row with ⟨_, he⟩ | ⟨b, sz, c, el, fr, hm, hr⟩
                    · exact he
                    · exact absurd hr.pos (by omega)
                have hles : ∀ e ∈ es ++ ys, e.cells.length = s := by
                  intro e he
                  rcases List.mem_append.1 he with he | he
                  · rcases hSl with ⟨_, rfl⟩ | ⟨_, _, _, _, _, _, _, hll, _⟩
                    · cases he
                    · rcases hse' with rfl | rfl
                      · exact hll e he
                      · cases he
                  · exact hl e he
                obtain ⟨base, cap, olds, hxe, hcap, ho1, ho2, ho3⟩ := olds_ok (P := P) hSl hse'
                rw [← hsz] at ho3
                have hol : olds.length = es.length * s := by
                  rw [ho1.1, flat_len (fun e he => hles e (List.mem_append.2 (.inl he)))]
                rw [hxe] at hx ⊢
                by_cases hroom : es.length + ys.length ≤ cap
                · -- in place
                  rcases hx.toSl with ⟨b, s1, sz, o, cap2, hk', hv', hn, hcap', ho, hszz⟩ | ⟨hk', hv', h0, _⟩ | ⟨k, a, cap2, hk', hp, hv'⟩
                  · injection hv' with hv1 _ hv3
                    subst hv1 hv3
                    rw [hk] at hk'
                    injection hk' with hk'
                    rcases hok.inv_row with ⟨hm, _⟩ | ⟨b', sz', c, el, fr, hm, hr⟩
                    · rw [hm] at hk'; simp [kiOf] at hk'
                    · rw [hm] at hk'
                      simp [kiOf] at hk'
                      obtain ⟨rfl, rfl, _, rfl⟩ := hk'
                      have hss : s0 = s := by
                        rcases hse with h | h
                        · exact h
                        · exact absurd hr.pos (by omega)
                      subst hss
                      have ho0 : o = 0 := by rcases ho with h | h <;> omega
                      subst ho0
                      have hmul : (es.length + ys.length) * s0 ≤ cap * s0 := Nat.mul_le_mul_right _ hroom
                      have hfit : es.length * s0 + news.length ≤ c.size := by
                        rw [hnl, hr.size]
                        rw [Nat.add_mul] at hmul
                        simp at hszz
                        omega
                      refine ⟨_, _, F, upd μ g (μ g), run_app_room (P := P) ht hu hi hn3 hroom (w' := w.setRow b' (putA c (es.length * s0) news)) (fun a ha => ?_) (fun hno => by cases hno), ?_, ?_⟩
                      · injection ha with ha
                        subst ha
                        rw [Addr.add_lit, hsz, Nat.zero_add]
                        have := run_storeCells_row (P := P) (o := es.length * s0) news 0 w c el fr hr.heap (by rw [hr.size]; exact hr.froz) (by omega) hn2
                        simpa using this
                      · rw [app_upd, app_nil, hm]
                        refine Nx.setRow R hg hm hr (by rw [putA_size hfit]; exact hr.size) (fun o ho => putA_out hfit (.inl ?_)) (.inr (by simp; exact hpos)) hles (by rw [List.length_append]; simp at hszz; omega) rfl ?_
                        · have := Nat.mul_le_mul_right s0 hr.fzle
                          omega
                        · rw [List.flatMap_append]
                          intro j d hd
                          have hfl : (es.flatMap D.cells).length = es.length * s0 := flat_len hr.len
                          by_cases hj : j < es.length * s0
                          · rw [List.getElem?_append_left (by omega)] at hd
                            obtain ⟨v, a1, a2, a3⟩ := flat_rowCells hr.len hr.cells j d hd
                            exact ⟨v, by rw [putA_out hfit (.inl (by omega))]; exact a1, a2, a3⟩
                          · rw [List.getElem?_append_right (by omega), hfl] at hd
                            have hjl : j - es.length * s0 < news.length := by rw [hn1.1]; exact (List.getElem?_eq_some_iff.1 hd).1
                            have e2 := putA_in hfit hjl
                            refine ⟨news[j - es.length * s0], ?_, hn2 _ (List.getElem_mem hjl), hn1.2 _ _ d (List.getElem?_eq_getElem hjl) hd⟩
                            rw [show es.length * s0 + (j - es.length * s0) = j by omega] at e2
                            rw [Nat.zero_add, e2]
                            exact List.getElem?_eq_getElem hjl
                      · rw [app_upd, app_nil, hm]
                        have := Rd.sl (w := w.setRow b' (putA c (es.length * s0) news)) (F := F) (env (upd μ g (some (b', sz'))) (upd H g (some (.row s0 (es ++ ys) fz)))) g b' s0 (es ++ ys).length sz' 0 (es.length + ys.length) 0 cap (by rw [env_upd_same]; rfl) (by simp) hroom (.inl (by simp)) (by simpa using hszz)
                        rw [List.length_append] at this
                        rw [← hL]
                        exact this
                  · injection hv' with _ hv2 hv3
                    omega
                  · rw [hk] at hk'
                    injection hk' with hk'
                    subst hk'
                    cases hm : μ g with
                    | none => rw [hm] at hp; exact hp.elim
                    | some q => rw [hm] at hp; obtain ⟨b, sz⟩ := q; simp [kiOf, KI.past] at hp; omega
                · -- in a new block
                  have hrun := run_app_grow (P := P) (ty := ty) ht hu hi hzv hn3 ho3 (by omega) hbound hb0
                  obtain ⟨G, hG⟩ : ∃ G, G = grownCap w (es.length + ys.length) cap e := ⟨_, rfl⟩
                  have hge : es.length + ys.length ≤ G := by rw [hG]; exact grownCap_ge _ _ _ _
                  rw [← hG] at hrun
                  have hcsz : ((olds ++ news).toArray ++ Builtin.zeroCells zv.cells (G - (es.length + ys.length))).size = G * s := by
                    rw [Array.size_append, size_zeroCells, hzsz]
                    simp only [List.size_toArray, List.length_append, hol, hnl]
                    rw [← Nat.add_mul, ← Nat.add_mul]
                    congr 1
                    omega
                  refine ⟨_, _, F, upd μ g (some (w.heap.size, G * s)), hrun, ?_, ?_⟩
                  · rw [app_upd, app_nil, ← hcsz]
                    refine Nx.regrow R (drew_alloc w _) (fun o _ h => by simp at h) hg hspos hles ?_ (cellsOk_app ho1 ho2 hn1 hn2 _) (by simp; exact hpos)
                    rw [hcsz, List.length_append]
                    exact Nat.mul_le_mul_right _ hge
                  · rw [app_upd, app_nil]
                    have := Rd.sl (w := w.drew.alloc (.cells ((olds ++ news).toArray ++ Builtin.zeroCells zv.cells (G - (es.length + ys.length))) e)) (F := F) (env (upd μ g (some (w.heap.size, G * s))) (upd H g (some (.row s (es ++ ys) fz)))) g w.heap.size s (es ++ ys).length (G * s) 0 (es.length + ys.length) 0 G (by rw [env_upd_same]; rfl) (by simp) hge (.inl (by simp)) (by simp)
                    rw [List.length_append] at this
                    rw [← hL]
                    exact this
            · cases h
      · cases h
    · cases h
end
end Go.Ab
