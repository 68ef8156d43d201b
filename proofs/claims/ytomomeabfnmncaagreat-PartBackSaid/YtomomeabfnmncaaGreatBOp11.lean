/- THE ABSTRACT MACHINE, sound: slices that are written out, or made; arrays; texts as bytes; copies. -/
import Derived.Test.YtomomeabfnmncaaGreatBOp10
import Derived.IntWalk
set_option linter.all false
namespace Go.Ab

theorem ofV_one {v : Value} {d : D} (h : ofV v = some d) : ∀ e ∈ d.cells, e.one = true := by
  cases v with
  | agg cs =>
    simp only [ofV, Option.map_eq_some_iff] at h
    obtain ⟨ds, h1, rfl⟩ := h
    intro e he
    obtain ⟨i, hi⟩ := List.mem_iff_getElem?.1 he
    have hlt : i < cs.toList.length := by rw [← mapO_len h1]; exact (List.getElem?_eq_some_iff.1 hi).1
    obtain ⟨y, h2, h3⟩ := mapO_get h1 i _ (List.getElem?_eq_getElem hlt)
    rw [show ds[i]? = some e from hi] at h3
    injection h3 with h3
    exact h3 ▸ (ofV1_one h2).1
  | _ =>
    unfold ofV at h
    have h2 := ofV1_one h
    obtain ⟨hr, ho⟩ := ofV1_ok h default (fun _ _ => False) noEnv
    intro e he
    rw [cells_one hr ho] at he
    simp at he
    exact he ▸ h2.1

theorem one_cells {d : D} (h : d.one = true) : d.cells = [d] := by cases d <;> first | rfl | cases h

/-- The element of a row that is nothing yet. -/
def zeroE (s : Nat) (z : List D) : D := if s = 1 then z.headD .undef else .agg z

theorem zeroE_cells {s : Nat} {z : List D} (hl : z.length = s) (h1 : ∀ e ∈ z, e.one = true) : (zeroE s z).cells = z := by
  unfold zeroE
  split
  · rename_i h
    subst h
    cases z with
    | nil => cases hl
    | cons d r =>
      have : r = [] := List.length_eq_zero_iff.1 (by simpa using hl)
      subst this
      exact one_cells (h1 d (by simp))
  · rfl

section
variable {P : Program} {w : World} {F : Fz} {κ : Env} {μ : Mu} {Pr : Nat → Prop}

theorem rep_ok {zc : Array Value} {z : List D} {s n : Nat} (hz : RdC w F κ zc z) (hl : z.length = s) (hs : 0 < s) (h1 : ∀ e ∈ z, e.one = true) :
    RdC w F κ ((Array.range (n * s)).map (zc[· % zc.size]!)) ((List.replicate n (zeroE s z)).flatMap D.cells) := by
  have hc := zeroE_cells hl h1
  have hall : ∀ e ∈ List.replicate n (zeroE s z), e.cells.length = s := fun e he => by rw [(List.mem_replicate.1 he).2, hc]; exact hl
  refine ⟨by simp [flat_len hall], fun j d hd => ?_⟩
  obtain ⟨i, e, k, h2, h3, rfl, h5⟩ := flat_get hall hd
  have hin : i < n := by have := (List.getElem?_eq_some_iff.1 h2).1; simpa using this
  have he : e = zeroE s z := (List.mem_replicate.1 (List.mem_of_getElem? h2)).2
  rw [he, hc] at h3
  obtain ⟨v, a1, a2, a3⟩ := hz.2 k d h3
  rw [Nat.zero_add] at a1
  have hzs : zc.size = s := by rw [hz.1]; exact hl
  have hlt : i * s + k < n * s := by
    have := Nat.mul_le_mul_right s (show i + 1 ≤ n from hin)
    rw [Nat.add_mul, Nat.one_mul] at this
    omega
  refine ⟨v, ?_, a2, a3⟩
  rw [Nat.zero_add, Array.getElem?_map, Array.getElem?_range, if_pos hlt]
  simp only [Option.map_some, Option.some.injEq]
  have hm : (i * s + k) % zc.size = k := by rw [hzs, Nat.mul_comm, Nat.mul_add_mod]; exact Nat.mod_eq_of_lt h5
  rw [hm, getElem!_def, a1]

theorem flat_set {s : Nat} : ∀ {es : List D} (hl : ∀ e ∈ es, e.cells.length = s) {i : Nat} {d : D} (hi : i < es.length) (hd : d.cells.length = s), (es.set i d).flatMap D.cells = putAt (i * s) d.cells (es.flatMap D.cells)
  | [], _, _, _, hi, _ => by simp at hi
  | e :: es, hl, 0, d, _, hd => by
    have he := hl e (by simp)
    simp [putAt, List.flatMap_cons, hd, ← he]
  | e :: es, hl, i + 1, d, hi, hd => by
    have he := hl e (by simp)
    have ih := flat_set (es := es) (fun x hx => hl x (by simp [hx])) (i := i) (d := d) (by simpa using hi) hd
    rw [List.set_cons_succ, List.flatMap_cons, List.flatMap_cons, ih]
    unfold putAt
    rw [Nat.succ_mul, Nat.add_comm (i * s) s, List.take_append, List.drop_append, he]
    rw [List.take_of_length_le (l := e.cells) (by omega), show s + i * s - s = i * s by omega]
    rw [List.drop_of_length_le (l := e.cells) (by omega), show s + i * s + d.cells.length - s = i * s + d.cells.length by omega]
    simp [List.append_assoc]

theorem bslE_bld {s : Nat} : ∀ {qs : List (Nat × D)} {es es' : List D}, (∀ e ∈ es, e.cells.length = s) → bslE s es qs = some es' →
    bldD (es.flatMap D.cells) (qs.map fun q => (q.1 * s, s, q.2)) = some (es'.flatMap D.cells) ∧ (∀ e ∈ es', e.cells.length = s) ∧ es'.length = es.length
  | [], es, es', hl, h => by simp [bslE] at h; subst h; exact ⟨rfl, hl, rfl⟩
  | (i, d) :: qs, es, es', hl, h => by
    unfold bslE at h
    split at h
    · rename_i hc
      obtain ⟨h1, h2, h3⟩ := hc
      have hl2 : ∀ e ∈ es.set i d, e.cells.length = s := fun e he => by
        rcases List.mem_or_eq_of_mem_set he with he | rfl
        · exact hl e he
        · exact h1
      obtain ⟨a1, a2, a3⟩ := bslE_bld hl2 h
      refine ⟨?_, a2, by simpa using a3⟩
      simp only [List.map_cons]
      unfold bldD
      have hfit : i * s + s ≤ (es.flatMap D.cells).length := by
        rw [flat_len hl]
        have := Nat.mul_le_mul_right s (show i + 1 ≤ es.length from h2)
        rw [Nat.add_mul, Nat.one_mul] at this
        exact this
      rw [if_pos ⟨h1, hfit, h3⟩, ← flat_set hl h2 h1]
      exact a1
    · cases h

/-- A block more, all of it frozen. -/
theorem Nx.newFz {H : Hp} (R : Rel w F μ H Pr) {w' : World} {c : Array Value} {el : TypeId} {fr : Nat × Nat} (A : Alloc w w' (.cells c el fr)) :
    ∃ F', Nx Pr w F μ H w' F' μ H ∧ ∀ o, o < c.size → F' w.heap.size o := by
  let F' : Fz := fun b o => F b o ∨ (b = w.heap.size ∧ o < c.size)
  have st0 := A.stp (F := F) R.fc R.prlt
  have st : Stp w F Pr w' F' := ⟨st0.os, st0.tape, st0.output, st0.size, fun b o h => ⟨.inl h, (st0.fle b o h).2⟩, st0.prb, fun b o hp h => by
    rcases h with h | ⟨rfl, _⟩
    · exact h
    · exact absurd (R.prlt _ hp) (by omega)⟩
  refine ⟨F', ⟨⟨fun g o ho => (R.ok g o ho).mono st.fle (KLe.refl _) (fun b z hm => ⟨A.old (R.block_lt (by simp [ho]) hm), fun off h => ?_⟩), R.inj, R.pr, fun b o h => ?_, fun b hb => Nat.lt_of_lt_of_le (R.prlt b hb) st.size⟩, st, KLe.refl _, fun g b z hg hm => .inl ⟨g, z, hg, hm⟩⟩, fun o ho => .inr ⟨rfl, ho⟩⟩
  · rcases h with h | ⟨rfl, _⟩
    · exact h
    · exact absurd (R.block_lt (by simp [ho]) hm) (by omega)
  · rcases h with h | ⟨rfl, h⟩
    · rw [(st0.fle b o h).2]; exact R.fc b o h
    · rw [cell_of_heap A.new]
      simp [Array.getElem?_eq_getElem h]

theorem row_slc {c : Array Value} {es : List D} {s b : Nat} {el : TypeId} {fr : Nat × Nat} (hb : w.heap[b]? = some (.cells c el fr)) (hs : 0 < s) (hl : ∀ e ∈ es, e.cells.length = s) (hc : CellsOk w F noEnv c 0 (es.flatMap D.cells)) (hF : ∀ o, o < es.length * s → F b o) (cp : Bool) (κ : Env) :
    Rd w F κ (.slice (some ⟨b, 0, none⟩) es.length es.length) (.slc cp s es) := by
  refine .slc _ b 0 es.length cp s es (fun i j => c.getD (i * s + j) undef) hs (Nat.le_refl _) (fun _ => rfl) hl (fun i e j d he hd => ?_) (fun i e j d he hd => ?_)
  · obtain ⟨v, a1, a2, a3⟩ := rowCells_flat hl hc i e he j d hd
    have hx : c.getD (i * s + j) undef = v := by simp [Array.getD_eq_getD_getElem?, a1]
    have hj : j < s := by rw [← hl e (List.mem_of_getElem? he)]; exact (List.getElem?_eq_some_iff.1 hd).1
    have hi := (List.getElem?_eq_some_iff.1 he).1
    refine ⟨hF _ ?_, ?_, ?_⟩
    · have := Nat.mul_le_mul_right s (show i + 1 ≤ es.length from hi)
      rw [Nat.add_mul, Nat.one_mul] at this
      omega
    · rw [Nat.zero_add, cell_of_heap hb, a1]; exact congrArg some hx.symm
    · show (c.getD (i * s + j) undef).oneCell' = true
      rw [hx]; exact a2
  · obtain ⟨v, a1, a2, a3⟩ := rowCells_flat hl hc i e he j d hd
    show Rd w F noEnv (c.getD (i * s + j) undef) d
    simp [Array.getD_eq_getD_getElem?, a1]
    exact a3

theorem zip_get {α β : Type} {as : List α} {bs : List β} {i : Nat} {q : α × β} (h : (as.zip bs)[i]? = some q) : as[i]? = some q.1 ∧ bs[i]? = some q.2 := by
  rw [List.getElem?_zip_eq_some] at h
  exact h

/-- A slice's literal. -/
theorem bsl_ok {H : Hp} (R : Rel w F μ H Pr) {t e : TypeId} {s n : Nat} {ag : Bool} {z : List D} (hu : P.underlying t = some (.slice e)) (hs : tyOf P e = some (s, ag)) (hz : zeroOf P e = some z) (hzl : z.length = s) (hpos : 0 < s) (hn : n * s ≤ 2 ^ 24)
    {live : Bool} {nk : Nat} (hnk : live = true → ∀ ov : Wr, ∀ ds ds' : List D, (fzL true [] ds).run H = some (ds', ov) → ovH H ov nk = none) {ps : List (Nat × Value)} {ds : List D} (hl : ps.length = ds.length) (hp : RdL w F (env μ H) (ps.map (·.2)) ds) {d : D} {wr : Wr}
    (h : (fzL true [] ds >>= fun p => match bslE s (List.replicate n (zeroE s z)) ((ps.map (·.1)).zip p.1) with
      | some es => if live then pure (D.sl nk 0 n n, p.2.reverse ++ [(nk, Obj.row s es 0)]) else pure (D.slc true s es, p.2.reverse)
      | none => M.fail : M (D × Wr)).run H = some (d, wr)) :
    ∃ r w' F' μ', (Instr.buildSlice t n ps.toArray).run P w = .ok r w' ∧ Nx Pr w F μ H w' F' μ' (H.app wr) ∧ Rd w' F' (env μ' (H.app wr)) r d := by
  rw [M.run_bind] at h
  cases hq : (fzL true [] ds).run H with
  | none => rw [hq] at h; cases h
  | some q =>
    rw [hq] at h
    simp only [Option.bind_some] at h
    obtain ⟨F1, n1, r1, r2⟩ := fzL_ok (H := H) (ov := []) ds R hp hq
    rw [ovH_nil] at n1
    obtain ⟨i, zv, zd, hi, hzv, hzd, rfl⟩ := zeroOf_ok hz
    have hone := ofV_one hzd
    have hrep := rep_ok (n := n) (ofV_cells hzd w F1 noEnv) hzl hpos hone
    cases hb : bslE s (List.replicate n (zeroE s zd.cells)) ((ps.map (·.1)).zip q.1) with
    | none => rw [hb] at h; cases h
    | some es =>
      rw [hb] at h
      simp only at h
      have hall : ∀ x ∈ List.replicate n (zeroE s zd.cells), x.cells.length = s := fun x hx => by rw [(List.mem_replicate.1 hx).2, zeroE_cells hzl hone]; exact hzl
      obtain ⟨b1, b2, b3⟩ := bslE_bld hall hb
      have hql : q.1.length = ps.length := by have := (r2 rfl).1; simpa using this.symm
      obtain ⟨c', f1, f2⟩ := fill_ok (place := fun i => some (i * s, s)) (ps := ps) hrep (by simp [hql]) (fun i p x hp' hx => by
        rw [List.getElem?_map] at hx
        obtain ⟨y, h1, rfl⟩ := Option.map_eq_some_iff.1 hx
        obtain ⟨h2, h3⟩ := zip_get h1
        rw [List.getElem?_map, hp'] at h2
        injection h2 with h2
        have h2' : p.1 = y.1 := h2
        exact ⟨by rw [h2'], (r2 rfl).2 i p.2 y.2 (by rw [List.getElem?_map, hp']; rfl) h3⟩) b1
      have hlen : es.length = n := by rw [b3]; simp
      have hcs : c'.size = n * s := by rw [f2.1, flat_len b2, hlen]
      have hrun : (Instr.buildSlice t n ps.toArray).run P w = .ok (.slice (some ⟨w.heap.size, 0, none⟩) n n) (w.alloc (.cells c' e)) := by
        unfold Instr.buildSlice
        simp only [Sem.run_bind, run_underlying hu, Result.andThen_ok, run_sizeOf hs]
        rw [if_neg (by omega)]
        by_cases h0 : n * s = 0
        · simp only [h0, if_true, Sem.run_bind, Sem.run_pure, Result.andThen_ok]
          have e0 : (Array.map (fun x => (#[] : Array Value)[x % (#[] : Array Value).size]!) (Array.range 0)) = (Array.range (n * s)).map (zv.cells[· % zv.cells.size]!) := by rw [h0]; simp
          simp only [e0, f1]
          rfl
        · simp only [h0, if_false, Sem.run_bind, Sem.run_pure, Result.andThen_ok, zeroValue, typeInfo, run_program, hi, hzv, f1]
          rfl
      have A : Alloc w (w.alloc (.cells c' e)) (.cells c' e) := ⟨rfl, rfl, rfl, rfl⟩
      cases live with
      | true =>
        simp at h
        obtain ⟨rfl, rfl⟩ := h
        refine ⟨_, _, F1, upd μ nk (some (w.heap.size, c'.size)), hrun, ?_, ?_⟩
        · rw [app_append]
          exact n1.trans (by rw [app_upd, app_nil]; exact Nx.newRow n1.rel A (fun o _ h => by simp at h) (hnk rfl q.2 ds q.1 hq) hpos b2 (by rw [hcs, hlen]; exact Nat.le_refl _) f2.2)
        · rw [app_append, app_upd, app_nil]
          have := Rd.sl (w := w.alloc (.cells c' e)) (F := F1) (env (upd μ nk (some (w.heap.size, c'.size))) (upd (H.app q.2.reverse) nk (some (.row s es 0)))) nk w.heap.size s es.length c'.size 0 n 0 n (by rw [env_upd_same]; rfl) (by omega) (Nat.le_refl _) (.inl (by simp)) (by rw [hcs]; simp)
          rw [hlen] at this
          exact this
      | false =>
        simp at h
        obtain ⟨rfl, rfl⟩ := h
        obtain ⟨F2, n2, hf2⟩ := Nx.newFz n1.rel A
        refine ⟨_, _, F2, μ, hrun, n1.trans n2, ?_⟩
        have := row_slc (w := w.alloc (.cells c' e)) (F := F2) (es := es) A.new hpos b2 (f2.2.mono n2.stp.fle (KLe.refl _)) (fun o ho => hf2 o (by rw [hcs, ← hlen]; exact ho)) true (env μ (H.app q.2.reverse))
        rw [hlen] at this
        exact this

theorem chunks_len (n s : Nat) (z : List D) : (chunks n s z).length = n := by
  induction n generalizing z with
  | zero => rfl
  | succ n ih => simp [chunks, ih]

theorem chunks_ok {s : Nat} (hs : 0 < s) : ∀ {n : Nat} {z : List D}, z.length = n * s → (∀ e ∈ z, e.one = true) → (chunks n s z).flatMap D.cells = z ∧ ∀ e ∈ chunks n s z, e.cells.length = s
  | 0, z, hl, _ => by
    have : z = [] := List.length_eq_zero_iff.1 (by simpa using hl)
    subst this
    exact ⟨rfl, fun e he => by cases he⟩
  | n + 1, z, hl, h1 => by
    rw [Nat.succ_mul] at hl
    obtain ⟨a1, a2⟩ := chunks_ok hs (n := n) (z := z.drop s) (by simp; omega) (fun e he => h1 e (List.mem_of_mem_drop he))
    have hc : (if s = 1 then z.headD .undef else .agg (z.take s) : D).cells = z.take s := by
      split
      · rename_i h
        subst h
        cases z with
        | nil => simp at hl
        | cons d r => simp; exact one_cells (h1 d (by simp))
      · rfl
    unfold chunks
    rw [List.flatMap_cons, hc, a1, List.take_append_drop]
    refine ⟨rfl, fun e he => ?_⟩
    rcases List.mem_cons.1 he with rfl | he
    · rw [hc]; simp; omega
    · exact a2 e he

theorem run_alloc {t : TypeId} {i : TypeInfo} {zv : Value} (hi : P.info? t = some i) (hz : i.zero = some zv) : (Instr.alloc t true (.tuple #[])).run P w = .ok (.pointer (some ⟨w.heap.size, 0, none⟩)) (w.alloc (.cells zv.cells t)) := by
  unfold Instr.alloc
  simp only [Sem.run_bind, zeroValue, typeInfo, run_program, Result.andThen_ok, hi, hz, Sem.run_pure]
  rfl

/-- A new array variable. -/
theorem allocA_ok {H : Hp} (R : Rel w F μ H Pr) {t : TypeId} {n s : Nat} {z : List D} (hz : zeroOf P t = some z) (hl : z.length = n * s) (hs : 0 < s) {nk : Nat} (hnk : H nk = none) :
    ∃ r w' F' μ', (Instr.alloc t true (.tuple #[])).run P w = .ok r w' ∧ Nx Pr w F μ H w' F' μ' (H.app [(nk, .row s (chunks n s z) 0)]) ∧ Rd w' F' (env μ' (H.app [(nk, .row s (chunks n s z) 0)])) r (.aptr nk (chunks n s z).length) := by
  obtain ⟨i, zv, zd, hi, hzv, hzd, rfl⟩ := zeroOf_ok hz
  obtain ⟨a1, a2⟩ := chunks_ok hs hl (ofV_one hzd)
  have hc := ofV_cells hzd w F noEnv
  have hcs : zv.cells.size = n * s := by rw [hc.1]; exact hl
  refine ⟨_, _, F, upd μ nk (some (w.heap.size, zv.cells.size)), run_alloc hi hzv, ?_, ?_⟩
  · rw [app_upd, app_nil]
    exact Nx.newRow (w' := w.alloc (.cells zv.cells t)) (el := t) (fr := (0, 0)) R ⟨rfl, rfl, rfl, rfl⟩ (fun o _ h => by simp at h) hnk hs a2 (by rw [chunks_len, hcs]; exact Nat.le_refl _) (by rw [a1]; exact hc.2)
  · rw [app_upd, app_nil]
    exact .aptr _ nk w.heap.size s _ zv.cells.size (by rw [env_upd_same]; rfl)

/-- A new variable. -/
theorem alloc_ok {H : Hp} (R : Rel w F μ H Pr) {t : TypeId} {z : List D} (hz : zeroOf P t = some z) {v : Bool} {nk : Nat} (hf : ∀ p ∈ (mkBox v nk z).2, H p.1 = none) :
    ∃ r w' F' μ', (Instr.alloc t true (.tuple #[])).run P w = .ok r w' ∧ Nx Pr w F μ H w' F' μ' (H.app (mkBox v nk z).2) ∧ Rd w' F' (env μ' (H.app (mkBox v nk z).2)) r (mkBox v nk z).1 := by
  obtain ⟨i, zv, zd, hi, hzv, hzd, rfl⟩ := zeroOf_ok hz
  obtain ⟨F', μ', n1, h1⟩ := mkBox_ok R hf (ofV_cells hzd w F (env μ H)) (w' := w.alloc (.cells zv.cells t)) ⟨rfl, rfl, rfl, rfl⟩
  exact ⟨_, _, F', μ', run_alloc hi hzv, n1, h1⟩

theorem box_ok {H : Hp} (R : Rel w F μ H Pr) {t : TypeId} {x : Value} {d : D} (hx : Rd w F (env μ H) x d) (ho : d.cells.all D.one = true) {v : Bool} {nk : Nat} (hf : ∀ p ∈ (mkBox v nk d.cells).2, H p.1 = none) :
    ∃ r w' F' μ', (Instr.box t x).run P w = .ok r w' ∧ Nx Pr w F μ H w' F' μ' (H.app (mkBox v nk d.cells).2) ∧ Rd w' F' (env μ' (H.app (mkBox v nk d.cells).2)) r (mkBox v nk d.cells).1 := by
  obtain ⟨hcl, h1⟩ := hx.cellsL ho
  have hc : RdC w F (env μ H) x.cells d.cells := ⟨by have := hcl.1; simpa using this, cellsOk_of hcl h1 (fun j v hv => by simpa using hv)⟩
  obtain ⟨F', μ', n1, h2⟩ := mkBox_ok R hf hc (w' := w.alloc (.cells x.cells t)) ⟨rfl, rfl, rfl, rfl⟩
  exact ⟨_, _, F', μ', rfl, n1, h2⟩

theorem flat_rd {κ κ' : Env} {v : Value} {d : D} (hf : d.flat = true) (h : Rd w F κ v d) : Rd w F κ' v d := by
  cases h <;> first | exact .int _ _ _ | exact .bool _ _ | exact .str _ _ | (simp [D.flat] at hf)
theorem flat_one {d : D} (hf : d.flat = true) : d.one = true := by cases d <;> first | rfl | (simp [D.flat] at hf)
/-- A new array variable, of a value. -/
theorem boxA_ok {H : Hp} (R : Rel w F μ H Pr) {t : TypeId} {x : Value} {d : D} (hx : Rd w F (env μ H) x d) {n s : Nat} (hfl : d.cells.all D.flat = true) (hl : d.cells.length = n * s) (hs : 0 < s) {nk : Nat} (hnk : H nk = none) :
    ∃ r w' F' μ', (Instr.box t x).run P w = .ok r w' ∧ Nx Pr w F μ H w' F' μ' (H.app [(nk, .row s (chunks n s d.cells) 0)]) ∧ Rd w' F' (env μ' (H.app [(nk, .row s (chunks n s d.cells) 0)])) r (.aptr nk (chunks n s d.cells).length) := by
  have hone : ∀ e ∈ d.cells, e.one = true := fun e he => flat_one (List.all_eq_true.1 hfl e he)
  obtain ⟨hcl, h1⟩ := hx.cellsL (List.all_eq_true.2 hone)
  have hcl' : RdL w F noEnv x.cells.toList d.cells := ⟨hcl.1, fun i v e hv he => flat_rd (List.all_eq_true.1 hfl e (List.mem_of_getElem? he)) (hcl.2 i v e hv he)⟩
  have hc : RdC w F noEnv x.cells d.cells := ⟨by have := hcl.1; simpa using this, cellsOk_of hcl' h1 (fun j v hv => by simpa using hv)⟩
  obtain ⟨a1, a2⟩ := chunks_ok hs hl hone
  have hcs : x.cells.size = n * s := by rw [hc.1]; exact hl
  refine ⟨_, _, F, upd μ nk (some (w.heap.size, x.cells.size)), rfl, ?_, ?_⟩
  · rw [app_upd, app_nil]
    exact Nx.newRow (w' := w.alloc (.cells x.cells t)) (el := t) (fr := (0, 0)) R ⟨rfl, rfl, rfl, rfl⟩ (fun o _ h => by simp at h) hnk hs a2 (by rw [chunks_len, hcs]; exact Nat.le_refl _) (by rw [a1]; exact hc.2)
  · rw [app_upd, app_nil]
    exact .aptr _ nk w.heap.size s _ x.cells.size (by rw [env_upd_same]; rfl)

/-- A slice that is made. -/
theorem ml_ok {H : Hp} (R : Rel w F μ H Pr) {t e : TypeId} {s n : Nat} {ag : Bool} {z : List D} {i : TypeInfo} {k1 k2 : IntKind} (hu : P.underlying t = some (.slice e)) (hs : tyOf P e = some (s, ag)) (hi : P.info? e = some i) (hz : zeroOf P e = some z) (hzl : z.length = s) (hpos : 0 < s) (hb0 : 0 < i.bytes)
    (hb : (n : Int) * i.bytes ≤ capBound) {nk : Nat} (hnk : H nk = none) :
    ∃ r w' F' μ', (Instr.makeSlice t (.int k1 n) (.int k2 n)).run P w = .ok r w' ∧ Nx Pr w F μ H w' F' μ' (H.app [(nk, .row s (List.replicate n (zeroE s z)) 0)]) ∧ Rd w' F' (env μ' (H.app [(nk, .row s (List.replicate n (zeroE s z)) 0)])) r (.sl nk 0 n n) := by
  obtain ⟨i2, zv, zd, hi2, hzv, hzd, rfl⟩ := zeroOf_ok hz
  rw [hi] at hi2
  injection hi2 with hi2
  subst hi2
  have hone := ofV_one hzd
  have hrep := rep_ok (n := n) (ofV_cells hzd w F noEnv) hzl hpos hone
  have hall : ∀ x ∈ List.replicate n (zeroE s zd.cells), x.cells.length = s := fun x hx => by rw [(List.mem_replicate.1 hx).2, zeroE_cells hzl hone]; exact hzl
  have hbn : n * i.bytes ≤ 70368744177664 := by exact_mod_cast hb
  have hnb : n ≤ n * i.bytes := Nat.le_mul_of_pos_right _ hb0
  have hw : IntKind.i64.wrap (n : Int) = n := by
    exact IntWalk.i64_in _ (by omega)
  have hbn2 : ¬ (281474976710656 < (i.bytes : Int) * n) := by
    have : ((n * i.bytes : Nat) : Int) ≤ ((70368744177664 : Nat) : Int) := Int.ofNat_le.2 hbn
    rw [Int.natCast_mul] at this
    rw [Int.mul_comm]
    omega
  have hn0 : ¬ ((n : Int) < 0) := by omega
  have hrun : (Instr.makeSlice t (.int k1 n) (.int k2 n)).run P w = .ok (.slice (some ⟨w.heap.size, 0, none⟩) n n) (w.alloc (.cells ((Array.range (n * s)).map (zv.cells[· % zv.cells.size]!)) e)) := by
    unfold Instr.makeSlice
    simp only [Sem.run_bind, run_underlying hu, Result.andThen_ok, asInt, asIntOf, Sem.run_pure, typeInfo, run_program, hi, hw]
    simp [hbn2, hn0, run_sizeOf hs]
    by_cases h0 : n * s = 0
    · have h00 : n = 0 ∨ s = 0 := Nat.mul_eq_zero.1 h0
      simp [newRow, h0, h00, Array.range_zero']
    · have h00 : ¬ (n = 0 ∨ s = 0) := fun h => h0 (Nat.mul_eq_zero.2 h)
      simp [newRow, h00, hi, hzv, zeroValue, typeInfo]
      intro h
      exact absurd h h0
  have hcs : ((Array.range (n * s)).map (zv.cells[· % zv.cells.size]!)).size = n * s := by simp
  refine ⟨_, _, F, upd μ nk (some (w.heap.size, n * s)), hrun, ?_, ?_⟩
  · rw [app_upd, app_nil]
    have hnx := Nx.newRow (w' := w.alloc (.cells ((Array.range (n * s)).map (zv.cells[· % zv.cells.size]!)) e)) (el := e) (fr := (0, 0)) R ⟨rfl, rfl, rfl, rfl⟩ (fun o _ h => by simp at h) hnk hpos hall (by rw [hcs]; simp) hrep.2
    rw [hcs] at hnx
    exact hnx
  · rw [app_upd, app_nil]
    have := Rd.sl (w := w.alloc (.cells ((Array.range (n * s)).map (zv.cells[· % zv.cells.size]!)) e)) (F := F) (env (upd μ nk (some (w.heap.size, n * s))) (upd H nk (some (.row s (List.replicate n (zeroE s zd.cells)) 0)))) nk w.heap.size s (List.replicate n (zeroE s zd.cells)).length (n * s) 0 n 0 n (by rw [env_upd_same]; rfl) (by simp) (Nat.le_refl _) (.inl (by simp)) (by simp)
    rw [List.length_replicate] at this
    exact this
end
end Go.Ab
