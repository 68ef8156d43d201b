/- THE ABSTRACT MACHINE, sound: regions. -/
import Derived.Test.YtomomeabfnmncaaGreatBSwap
set_option linter.all false
namespace Go.Ab

section
variable {P : Program} {w : World} {F : Fz} {κ : Env} {μ : Mu} {Pr : Nat → Prop} {N : Nat}

theorem RdT.put {a : Act} {T : List D} (h : RdT w F κ a.tmps T) {v : Value} {d : D} (hv : Rd w F κ v d) (dst : Option Nat) : RdT w F κ (a.put dst v).tmps (setD T dst d) := by
  cases dst with
  | none => exact h
  | some t =>
    refine ⟨by simp [setD, Act.put, h.len], fun i u e h1 h2 => ?_⟩
    simp only [Act.put] at h1
    simp only [setD] at h2
    by_cases hi : t = i
    · subst hi
      rw [List.getElem?_set] at h2
      simp at h2
      obtain ⟨h3, rfl⟩ := h2
      rw [Array.getElem?_setIfInBounds] at h1
      simp [← h.len, h3] at h1
      exact h1 ▸ hv
    · rw [List.getElem?_set_ne hi] at h2
      rw [Array.getElem?_setIfInBounds_ne hi] at h1
      exact h.rd i u e h1 h2

theorem put_defers (a : Act) (dst : Option Nat) (v : Value) : (a.put dst v).defers = a.defers := by cases dst <;> rfl

theorem put_size (a : Act) (dst : Option Nat) (v : Value) : (a.put dst v).tmps.size = a.tmps.size := by cases dst <;> simp [Act.put]

/-- The state of the program, and of the machine. -/
def SR (N : Nat) (Pr : Nat → Prop) (w0 : World) (F0 : Fz) (μ0 : Mu) (H0 : Hp) (s : SH) (a : Act) (w : World) : Prop :=
  ∃ F μ, Nx Pr w0 F0 μ0 H0 w F μ s.2 ∧ RdT w F (env μ s.2) a.tmps s.1 ∧ a.defers = [] ∧ a.tmps.size = N

theorem gives_upon {o : Oper} {a : Act} {next : Act → World → Prop} {Q : Exit → Act → World → Prop} {r : Result Next} {R : Value → World → Prop} (h : Gives P r R) (hn : ∀ v w', R v w' → next (a.put o.dst v) w') : o.upon P a next Q r := by
  cases r with
  | ok n w' =>
    cases n <;> simp only [Gives] at h
    · exact hn _ _ h
    · exact hn _ _ h
    · refine Calls.mono h fun e w'' he => ?_
      cases e with
      | returned v => exact hn _ _ he
      | panicked c => exact he.elim
      | outgrown => exact he.elim
  | halt x w' => exact h.elim

/-- Is it done? -/
theorem wanted_ok {ops : Array Oper} {o : Oper} {tmps : Array Value} {T : List D} (hT : RdT w F κ tmps T) {b : Bool} (h : wants T (o.guard.map fun p => ((ops[p.1]?).bind (·.dst), p.2)) = some b) : Region.wanted o (yielded ops tmps) = b := by
  unfold Region.wanted
  cases hg : o.guard with
  | none => rw [hg] at h; simp [wants] at h; exact h.symm ▸ rfl
  | some p =>
    obtain ⟨g, want⟩ := p
    rw [hg] at h
    simp only [Option.map_some] at h
    cases hd : (ops[g]?).bind (·.dst) with
    | none => rw [hd] at h; simp [wants] at h
    | some j =>
      rw [hd] at h
      simp only [wants] at h
      cases hj : T[j]? with
      | none => rw [hj] at h; simp at h
      | some d =>
        have hlt : j < tmps.size := by rw [← hT.len]; exact (List.getElem?_eq_some_iff.1 hj).1
        have hv := hT.rd j tmps[j] d (Array.getElem?_eq_getElem hlt) hj
        rw [hj] at h
        simp only [Option.getD_some] at h
        have hy : ∀ x, tmps[j] = x → yielded ops tmps g = match x with | .bool b => some b | _ => none := by
          intro x hx
          unfold yielded
          rw [hd]
          simp only [Option.bind_some, Array.getElem?_eq_getElem hlt, hx]
          cases x <;> rfl
        split at h
        · simp only [Option.some.injEq] at h
          have := hy _ (rd_bool hv)
          simp only [this]
          rw [← h]
          rfl
        · simp only [Option.some.injEq] at h
          obtain ⟨vs, e, hl⟩ := rd_tuple hv
          have := hy _ e
          simp only [this]
          rw [← h]
          rfl
        · cases h

variable {cf : Cfg} {call : CallFn} {ops : Array Oper} {all : List Oper} {cx : Cx} {lg : Lg} {Q : Exit → Act → World → Prop}

theorem cOps_get {i : Nat} {o' : Ope} (h : (cOps P all cx ops)[i]? = some o') : ∃ o, ops[i]? = some o ∧ o' = ⟨o.dst, o.guard.map fun p => ((ops[p.1]?).bind (·.dst), p.2), (cOp P all cx o).getD .bad⟩ := by
  unfold cOps at h
  rw [List.getElem?_map] at h
  obtain ⟨o, h1, rfl⟩ := Option.map_eq_some_iff.1 h
  exact ⟨o, by simpa using h1, rfl⟩

theorem wpOp_ok (hcall : CallOk P call) {w0 : World} {F0 : Fz} {μ0 : Mu} {H0 : Hp} {i : Nat} {s s' : SH} (h : St1 cf call (cOps P all cx ops) lg i s s') {a : Act} (hs : SR N Pr w0 F0 μ0 H0 s a w) {K : Act → World → Prop}
    (hK : ∀ a' w', SR N Pr w0 F0 μ0 H0 s' a' w' → K a' w') : wpOp P ops Q i K a w := by
  obtain ⟨o', ho', h⟩ := h
  obtain ⟨o, ho, rfl⟩ := cOps_get ho'
  obtain ⟨F, μ, n, hT, hd⟩ := hs
  unfold wpOp
  rw [ho]
  rcases h with ⟨hw, nk, d, wr, h1, h2, h3, rfl⟩ | ⟨hw, h2, rfl⟩
  · simp only [wanted_ok hT hw, if_true]
    refine .inl ?_
    cases hc : cOp P all cx o with
    | none => rw [hc] at h1; cases h1
    | some ins =>
      rw [hc] at h1
      unfold Oper.wp
      refine gives_upon (ins_ok hc n.rel hT hcall h1 h3) fun v w' hv => hK _ _ ?_
      obtain ⟨F', μ', n', hv⟩ := hv
      exact ⟨F', μ', n.trans n', (hT.mono n'.stp.fle n'.kle).put hv _, by rw [put_defers]; exact hd.1, by rw [put_size]; exact hd.2⟩
  · simp only [wanted_ok hT hw, Bool.false_eq_true, if_false]
    exact hK _ _ ⟨F, μ, n, hT.put (Rd.tuple _ [] [] rfl (fun i v d h => by simp at h)) _, by rw [put_defers]; exact hd.1, by rw [put_size]; exact hd.2⟩

/-- One after the other. -/
theorem run_ok (hcall : CallOk P call) {w0 : World} {F0 : Fz} {μ0 : Mu} {H0 : Hp} {L : List Nat} {s r : SH} (h : Rn cf call (cOps P all cx ops) lg L s r) (hQ : ∀ a w, SR N Pr w0 F0 μ0 H0 r a w → Q .normal a w) :
    ∀ {a : Act} {w : World}, SR N Pr w0 F0 μ0 H0 s a w → wpOps P ops Q L a w := by
  induction h with
  | nil s => exact fun hs => hQ _ _ hs
  | cons h hr ih =>
    intro a w hs
    rw [wpOps_cons]
    exact wpOp_ok hcall h hs fun a' w' hs' => ih hQ hs'

/-! ### In any order -/

theorem order_spec {as : List (List Nat)} {b : List Nat} (h : orderOk as b = true) {j : Nat} (hj : j < as.length) : (∀ e ∈ as.getD j [], e < j) ∧ ∀ i, (b.getD j 0).testBit i = true → i < j ∧ ∃ e ∈ as.getD j [], e = i ∨ (b.getD e 0).testBit i = true := by
  unfold orderOk at h
  rw [List.all_eq_true] at h
  have := h j (List.mem_range.2 hj)
  simp only [Bool.and_eq_true, List.all_eq_true, decide_eq_true_eq] at this
  obtain ⟨⟨h1, h2⟩, h3⟩ := this
  refine ⟨h1, fun i hi => ?_⟩
  have hlt : i < j := by
    rcases Nat.lt_or_ge i j with h | h
    · exact h
    · rw [Nat.testBit_lt_two_pow (Nat.lt_of_lt_of_le h2 (Nat.pow_le_pow_right (by omega) h))] at hi; cases hi
  refine ⟨hlt, ?_⟩
  have := h3 i (List.mem_range.2 hlt)
  rw [hi] at this
  simp only [Bool.not_true, Bool.false_or, List.any_eq_true] at this
  obtain ⟨e, he, h5⟩ := this
  refine ⟨e, he, ?_⟩
  simpa using h5

theorem mem_afters {o : Oper} {e : Edge} (he : e ∈ o.after) (hb : Region.binds .any e = true) : e.on ∈ afters o := by
  unfold afters
  exact List.mem_filterMap.2 ⟨e, by simpa using he, by simp [hb]⟩
theorem of_afters {o : Oper} {k : Nat} (h : k ∈ afters o) : ∃ e ∈ o.after, Region.binds .any e = true ∧ e.on = k := by
  unfold afters at h
  obtain ⟨e, h1, h2⟩ := List.mem_filterMap.1 h
  by_cases hb : Region.binds .any e = true
  · rw [if_pos hb] at h2; injection h2 with h2; exact ⟨e, by simpa using h1, hb, h2⟩
  · rw [if_neg hb] at h2; cases h2

theorem closed {as : List (List Nat)} {b : List Nat} (h : orderOk as b = true) {listed : Array Bool} (hd : ∀ j, j < as.length → listed.getD j false = true → ∀ e ∈ as.getD j [], listed.getD e false = true) :
    ∀ (j : Nat), j < as.length → listed.getD j false = true → ∀ i, (b.getD j 0).testBit i = true → listed.getD i false = true := by
  intro j
  induction j using Nat.strongRecOn with
  | _ j ih =>
    intro hj hl i hi
    obtain ⟨h1, h2⟩ := order_spec h hj
    obtain ⟨_, e, he, h3⟩ := h2 i hi
    have hle := hd j hj hl e he
    rcases h3 with rfl | h3
    · exact hle
    · exact ih e (h1 e he) (Nat.lt_trans (h1 e he) hj) hle i h3

theorem any_ok (hcall : CallOk P call) {w0 : World} {F0 : Fz} {μ0 : Mu} {H0 : Hp} {b : List Nat} (hord : orderOk (ops.toList.map afters) b = true) {r : SH} (hQ : ∀ a w, SR N Pr w0 F0 μ0 H0 r a w → Q .normal a w) :
    ∀ (fuel : Nat) (listed : Array Bool) (L : List Nat) (s : SH) (a : Act) (w : World), L.length = fuel → listed.size = ops.size → L.Pairwise (· < ·) → (∀ i ∈ L, i < ops.size) → (∀ i, i < ops.size → (listed.getD i true = false ↔ i ∈ L)) →
      (∀ j, j < (ops.toList.map afters).length → listed.getD j false = true → ∀ e ∈ (ops.toList.map afters).getD j [], listed.getD e false = true) →
      (∀ i j, i < j → i ∈ L → j ∈ L → (b.getD j 0).testBit i = true ∨ Fr (cOps P all cx ops) lg i j) → Rn cf call (cOps P all cx ops) lg L s r → SR N Pr w0 F0 μ0 H0 s a w → wpAny P .any ops Q fuel listed a w := by
  intro fuel
  have has : ∀ {j : Nat} {o : Oper}, ops[j]? = some o → (ops.toList.map afters).getD j [] = afters o := by
    intro j o ho
    rw [List.getD_eq_getElem?_getD, List.getElem?_map]
    have : ops.toList[j]? = some o := by simpa using ho
    rw [this]
    rfl
  have hrl : ∀ {listed : Array Bool} {L : List Nat}, (∀ i, i < ops.size → (listed.getD i true = false ↔ i ∈ L)) → ∀ i ∈ Region.ready .any ops listed, i ∈ L ∧ ∃ o, ops[i]? = some o ∧ ∀ e ∈ afters o, listed.getD e false = true := by
    intro listed L hl i hi
    obtain ⟨h1, o, ho, h2⟩ := mem_ready.1 hi
    have hlt : i < ops.size := (Array.getElem?_eq_some_iff.1 ho).1
    exact ⟨(hl i hlt).1 h1, o, ho, fun e he => by
      obtain ⟨e', he', hb, rfl⟩ := of_afters he
      exact h2 e' he' hb⟩
  induction fuel with
  | zero =>
    intro listed L s a w hlen hsz hsort hlt hl hdc hst hrn hs
    have : L = [] := List.length_eq_zero_iff.1 hlen
    subst this
    cases hrn
    refine ⟨?_, hQ _ _ hs⟩
    cases hr : Region.ready .any ops listed with
    | nil => rfl
    | cons x xs => have := (hrl hl x (by rw [hr]; exact List.mem_cons_self)).1; cases this
  | succ fuel ih =>
    intro listed L s a w hlen hsz hsort hlt hl hdc hst hrn hs
    refine ⟨fun hr => ?_, fun i hi => ?_⟩
    · -- something is ready
      exfalso
      cases L with
      | nil => cases hlen
      | cons i0 L' =>
        have hi0 := hlt i0 List.mem_cons_self
        have ho : ops[i0]? = some ops[i0] := Array.getElem?_eq_getElem hi0
        have : i0 ∈ Region.ready .any ops listed := by
          refine mem_ready.2 ⟨(hl i0 hi0).2 List.mem_cons_self, ops[i0], ho, fun e he hb => ?_⟩
          have hm := mem_afters he hb
          rw [← has ho] at hm
          have hlt2 := (order_spec hord (by simpa using hi0)).1 _ hm
          have hn : ¬ listed.getD e.on true = false := by
            rw [hl _ (by omega)]
            intro hm
            rcases List.mem_cons.1 hm with h | h
            · omega
            · have := (List.pairwise_cons.1 hsort).1 _ h; omega
          have h3 : e.on < listed.size := by omega
          simp [h3] at hn ⊢
          exact hn
        rw [hr] at this
        cases this
    · obtain ⟨hiL, o, ho, haft⟩ := hrl hl i hi
      obtain ⟨pre, post, rfl⟩ := List.append_of_mem hiL
      have hnl : ∀ k ∈ pre ++ i :: post, listed.getD k false = false := by
        intro k hk
        have h1 := (hl k (hlt k hk)).2 hk
        have h2 : k < listed.size := by rw [hsz]; exact hlt k hk
        simp [h2] at h1 ⊢
        exact h1
      have hsort2 := List.pairwise_append.1 hsort
      obtain ⟨s', h1, h2⟩ := Rn.first hrn fun k hk => by
        have hki : k < i := hsort2.2.2 k hk i List.mem_cons_self
        rcases hst k i hki (List.mem_append.2 (.inl hk)) hiL with h | h
        · exfalso
          have hi' : i < (ops.toList.map afters).length := by simpa using hlt i hiL
          obtain ⟨_, e, he, h3⟩ := (order_spec hord hi').2 k h
          have hle := haft e (by rw [← has ho]; exact he)
          have hkn := hnl k (List.mem_append.2 (.inl hk))
          rcases h3 with rfl | h3
          · rw [hkn] at hle; cases hle
          · have := closed hord hdc e (Nat.lt_trans ((order_spec hord hi').1 e he) hi') hle k h3
            rw [hkn] at this; cases this
        · exact h
      refine wpOp_ok hcall h1 hs fun a' w' hs' => ?_
      have hsub : List.Sublist (pre ++ post) (pre ++ i :: post) := List.Sublist.append (List.Sublist.refl _) (List.sublist_cons_self _ _)
      have hni : i ∉ pre ++ post := by
        intro hm
        rcases List.mem_append.1 hm with hm | hm
        · have := hsort2.2.2 i hm i List.mem_cons_self; omega
        · have := (List.pairwise_cons.1 hsort2.2.1).1 i hm; omega
      refine ih (listed.setIfInBounds i true) (pre ++ post) s' a' w' (by simp at hlen ⊢; omega) (by simpa using hsz) (hsort.sublist hsub) (fun k hk => hlt k (hsub.subset hk)) (fun k hk => ?_) (fun j hj hlj e he => ?_)
        (fun x y hxy hx hy => hst x y hxy (hsub.subset hx) (hsub.subset hy)) h2 hs'
      · by_cases hki : i = k
        · subst hki
          have : i < listed.size := by omega
          simp [this, hni] at *
        · rw [getD_set_ne true hki, hl k hk]
          constructor
          · intro hm
            rcases List.mem_append.1 hm with hm | hm
            · exact List.mem_append.2 (.inl hm)
            · rcases List.mem_cons.1 hm with rfl | hm
              · exact absurd rfl hki
              · exact List.mem_append.2 (.inr hm)
          · exact fun hm => hsub.subset hm
      · by_cases hji : i = j
        · subst hji
          rw [has ho] at he
          exact getD_set_true (haft e he)
        · rw [getD_set_ne false hji] at hlj
          exact getD_set_true (hdc j hj hlj e he)

theorem Nx.drawn {H : Hp} (R : Rel w F μ H Pr) (n : Nat) : Nx Pr w F μ H { w with drawn := n } F μ H := by
  have hfl : FLe w F { w with drawn := n } F := fun b o h => ⟨h, rfl⟩
  refine ⟨⟨fun g o ho => (R.ok g o ho).mono hfl (KLe.refl _) (fun b z _ => ⟨rfl, fun _ h => h⟩), R.inj, R.pr, R.fc, R.prlt⟩, ⟨rfl, rfl, rfl, Nat.le_refl _, hfl, fun _ _ => rfl, fun _ _ _ h => h⟩, KLe.refl _, fun g b z hg hm => .inl ⟨g, z, hg, hm⟩⟩

theorem Rn.mem {os : List Ope} {L : List Nat} {s r : SH} (h : Rn cf call os lg L s r) : ∀ i ∈ L, ∃ s s', St1 cf call os lg i s s' := by
  induction h with
  | nil => exact fun i hi => by cases hi
  | cons h _ ih =>
    intro i hi
    rcases List.mem_cons.1 hi with rfl | hi
    · exact ⟨_, _, h⟩
    · exact ih i hi

/-- A REGION. -/
theorem reg_ok (hm : P.follows .mixedOrders = true) (hcall : CallOk P call) {id : Nat} {draw : Bool} {dr : Option (List (Nat × Nat))} (hdr : (draw = false ∧ dr = none) ∨ (draw = true ∧ ∃ ps, dr = some ps ∧ pairsOf ops (cOps P all cx ops) = some ps)) {s s' : St}
    (hev : evReg cf call dr (cOps P all cx ops) s = some s') {w0 : World} {F0 : Fz} {μ0 : Mu} {H0 : Hp} {a : Act} (hs : SR N Pr w0 F0 μ0 H0 (s.T, hp s.H) a w)
    (hQ : ∀ a w, SR N Pr w0 F0 μ0 H0 (s'.T, hp s'.H) a w → Q .normal a w) : (Code.region id ops draw).wp P Q a w := by
  unfold evReg at hev
  cases hops : evOps cf call (cOps P all cx ops) s with
  | none => rw [hops] at hev; cases hev
  | some q =>
    obtain ⟨s1, ls⟩ := q
    rw [hops] at hev
    obtain ⟨hll, hrun⟩ := evOps_run (lg := fun i => ls[i]?.getD ([], [])) (os := cOps P all cx ops) _ 0 s s1 ls hops (fun i => by simp) (fun i => by simp)
    have hlen : (cOps P all cx ops).length = ops.size := by simp [cOps]
    rw [hlen, ← List.range_eq_range'] at hrun
    rcases hdr with ⟨rfl, rfl⟩ | ⟨rfl, ps, rfl, hps⟩
    · simp only [Option.some.injEq] at hev
      subst hev
      exact wp_region (run_ok hcall hrun hQ hs)
    · simp only [] at hev
      split at hev
      · rename_i haf
        simp only [Option.some.injEq] at hev
        subst hev
        unfold pairsOf at hps
        simp only [] at hps
        split at hps
        · rename_i hcond
          simp only [Bool.and_eq_true] at hcond
          obtain ⟨hord, hap⟩ := hcond
          injection hps with hps
          refine wp_region_any hm (any_ok hcall hord hQ ops.size _ (List.range ops.size) _ _ _ (by simp) (by simp) List.pairwise_lt_range (fun i hi => List.mem_range.1 hi) (fun i hi => by simp [hi]) (fun j hj hl => by
            simp at hj
            simp [hj] at hl) (fun i j hij hi hj => ?_) hrun ?_)
          · rw [List.mem_range] at hi hj
            cases hbit : ((Region.before ops).toList.getD j 0).testBit i with
            | true => exact .inl rfl
            | false =>
              refine .inr ?_
              have hun : (i, j) ∈ (List.range (cOps P all cx ops).length).flatMap fun j => (List.range j).filterMap fun i => if ((Region.before ops).toList.getD j 0).testBit i then none else some (i, j) :=
                List.mem_flatMap.2 ⟨j, List.mem_range.2 (by omega), List.mem_filterMap.2 ⟨i, List.mem_range.2 hij, by rw [hbit]; rfl⟩⟩
              obtain ⟨x, hx⟩ : ∃ x, (cOps P all cx ops)[i]? = some x := ⟨_, List.getElem?_eq_getElem (by omega)⟩
              obtain ⟨y, hy⟩ : ∃ y, (cOps P all cx ops)[j]? = some y := ⟨_, List.getElem?_eq_getElem (by omega)⟩
              have hap' := List.all_eq_true.1 hap (i, j) hun
              simp only [hx, hy] at hap'
              refine ⟨fun x' y' hx' hy' => by
                rw [hx] at hx'
                rw [hy] at hy'
                injection hx' with hx'
                injection hy' with hy'
                rw [← hx', ← hy']
                exact hap', ?_⟩
              have hempty : ∀ {k : Nat} {z : Ope}, k < ops.size → (cOps P all cx ops)[k]? = some z → z.ins.heapish = false → ls[k]?.getD ([], []) = ([], []) := by
                intro k z hk hz hh
                obtain ⟨u, u', z', hz', h⟩ := hrun.mem k (List.mem_range.2 hk)
                rw [hz] at hz'
                injection hz' with hz'
                subst hz'
                rcases h with ⟨_, nk, d, wr, h1, h2, _, _⟩ | ⟨_, h2, _⟩
                · obtain ⟨rfl, e⟩ := pure_go hh h1
                  have h2' : ls[k]?.getD ([], []) = _ := h2
                  rw [h2', e]
                  rfl
                · exact h2
              cases hhx : x.ins.heapish with
              | false => simp only [hempty hi hx hhx]; simp [free]
              | true =>
                cases hhy : y.ins.heapish with
                | false => simp only [hempty hj hy hhy]; simp [free]
                | true =>
                  have hin : (i, j) ∈ ps := by
                    rw [← hps]
                    refine List.mem_filter.2 ⟨hun, ?_⟩
                    simp only [hx, hy, hhx, hhy]
                    rfl
                  have := List.all_eq_true.1 haf (i, j) hin
                  simp only [] at this
                  obtain ⟨li, hli⟩ : ∃ x, ls[i]? = some x := ⟨_, List.getElem?_eq_getElem (by omega)⟩
                  obtain ⟨lj, hlj⟩ : ∃ x, ls[j]? = some x := ⟨_, List.getElem?_eq_getElem (by omega)⟩
                  rw [hli, hlj] at this
                  simp only [hli, hlj, Option.getD_some]
                  exact this
          · obtain ⟨F, μ, n, hT, hd⟩ := hs
            have n2 := Nx.drawn n.rel (w.drawn + 1)
            exact ⟨F, μ, n.trans n2, hT.mono n2.stp.fle n2.kle, hd⟩
        · cases hps
      · cases hev
end
end Go.Ab
