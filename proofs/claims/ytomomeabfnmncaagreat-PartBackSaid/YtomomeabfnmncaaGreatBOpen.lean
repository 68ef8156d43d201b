/- THE ABSTRACT MACHINE: a law's arguments, as data. -/
import Derived.Test.YtomomeabfnmncaaGreatBFin
import Derived.Deep.Slices
import Derived.OpenShut
import Derived.SizedLaws
import Derived.Below
set_option linter.all false
namespace Go.Ab
open Go.Deep Go.ChangeShapes Go.WideShapes

/-- All cells there are. -/
def FAll (w : World) : Fz := fun b o => (w.cell? ⟨b, o, none⟩).isSome = true

/-- Cells, as data have them. -/
def CRd (w : World) (cs : List Value) (ds : List D) : Prop :=
  cs.length = ds.length ∧ ∀ (j : Nat) (v : Value) (e : D), cs[j]? = some v → ds[j]? = some e → Rd w (FAll w) noEnv v e ∧ v.oneCell' = true

def tyAg (P : Program) (t : TypeId) : Bool := match P.underlying t with
  | some (.struct _) | some (.array _ _) => true
  | _ => false
def mkE (ag : Bool) (cs : List D) : D := if ag then .agg cs else cs.headD .undef

/-- The cells of a value of a type. -/
def Shp (P : Program) : Nat → TypeId → List D → Prop
  | 0, _, _ => False
  | n + 1, t, cs => match P.underlying t with
    | some .bool => ∃ b, cs = [.bool b]
    | some (.int k) => ∃ x, cs = [.int k x] ∧ (Lit.int k x).wf = true
    | some .string => ∃ l, cs = [.str l] ∧ l.length ≤ 140737488351232
    | some (.slice e) => ∃ es : List (List D), cs = [.slc false (P.cellsOf e) (es.map (mkE (tyAg P e)))] ∧ es.length * P.bytesOf e ≤ 140737488351232 ∧ ∀ x ∈ es, Shp P n e x
    | some (.struct fs) => cs.length = P.cellsOf t ∧ ∀ f ∈ fs.toList, Shp P n f.type ((cs.drop f.offset).take (P.cellsOf f.type))
    | some (.array k e) => cs.length = P.cellsOf t ∧ ∀ i, i < k → Shp P n e ((cs.drop (i * P.cellsOf e)).take (P.cellsOf e))
    | _ => False

def span (P : Program) : List (Nat × TypeId) → Nat → Option Nat
  | [], o => some o
  | p :: r, o => if p.1 = o then span P r (o + P.cellsOf p.2) else none

/-- Types whose values are such. -/
def plainT (P : Program) : Nat → TypeId → Bool
  | 0, _ => false
  | n + 1, t => match P.underlying t with
    | some .bool | some (.int _) | some .string => P.cellsOf t == 1
    | some (.slice e) => P.cellsOf t == 1 && decide (0 < P.cellsOf e) && plainT P n e
    | some (.struct fs) => span P (fs.toList.map fun f => (f.offset, f.type)) 0 == some (P.cellsOf t) && fs.toList.all fun f => plainT P n f.type
    | some (.array k e) => span P ((List.range k).map fun i => (i * P.cellsOf e, e)) 0 == some (P.cellsOf t) && (k == 0 || plainT P n e)
    | _ => false

section
variable {P : Program} {w : World} {n : Nat}

theorem shp_cells {t : TypeId} {ds : List D} (h : Shp P n t ds) : (mkE (tyAg P t) ds).cells = ds := by
  cases n with
  | zero => exact h.elim
  | succ n =>
    unfold Shp at h
    unfold tyAg
    split at h
    all_goals rename_i hu; simp only [hu]
    · obtain ⟨b, rfl⟩ := h; rfl
    · obtain ⟨b, rfl, _⟩ := h; rfl
    · obtain ⟨b, rfl, _⟩ := h; rfl
    · obtain ⟨b, rfl, _⟩ := h; rfl
    · rfl
    · rfl
    · exact h.elim

theorem CRd.append {cs cs' : List Value} {ds ds' : List D} (h : CRd w cs ds) (h' : CRd w cs' ds') : CRd w (cs ++ cs') (ds ++ ds') := by
  refine ⟨by simp [h.1, h'.1], fun j v e hv he => ?_⟩
  by_cases hj : j < cs.length
  · rw [List.getElem?_append_left hj] at hv
    rw [List.getElem?_append_left (by rw [← h.1]; exact hj)] at he
    exact h.2 j v e hv he
  · rw [List.getElem?_append_right (by omega)] at hv
    rw [List.getElem?_append_right (by rw [← h.1]; omega), ← h.1] at he
    exact h'.2 _ v e hv he

theorem CRd.one {v : Value} {d : D} (h : Rd w (FAll w) noEnv v d) (h1 : v.oneCell' = true) : CRd w [v] [d] := by
  refine ⟨rfl, fun j v' e hv he => ?_⟩
  cases j with
  | zero => simp at hv he; subst hv he; exact ⟨h, h1⟩
  | succ j => simp at hv

theorem asm {cs : List Value} : ∀ (ps : List (Nat × TypeId)) (o e : Nat), span P ps o = some e → e ≤ cs.length → (∀ p ∈ ps, ∃ ds, CRd w ((cs.drop p.1).take (P.cellsOf p.2)) ds ∧ ds.length = P.cellsOf p.2 ∧ Shp P n p.2 ds) →
    o ≤ e ∧ ∃ ds, CRd w ((cs.drop o).take (e - o)) ds ∧ ds.length = e - o ∧ ∀ p ∈ ps, o ≤ p.1 ∧ Shp P n p.2 ((ds.drop (p.1 - o)).take (P.cellsOf p.2))
  | [], o, e, h, he, _ => by
    simp [span] at h
    subst h
    exact ⟨Nat.le_refl _, [], ⟨by simp, fun j v d h => by simp at h⟩, by simp, fun p hp => by cases hp⟩
  | p :: r, o, e, h, he, hp => by
    unfold span at h
    split at h
    · rename_i hpo
      obtain ⟨hle, ds1, a1, a2, a3⟩ := asm r (o + P.cellsOf p.2) e h he (fun q hq => hp q (List.mem_cons_of_mem _ hq))
      obtain ⟨ds0, b1, b2, b3⟩ := hp p List.mem_cons_self
      refine ⟨by omega, ds0 ++ ds1, ?_, by simp [a2, b2]; omega, fun q hq => ?_⟩
      · have := b1.append a1
        rw [hpo] at this
        have e1 : (cs.drop o).take (e - o) = (cs.drop o).take (P.cellsOf p.2) ++ (cs.drop (o + P.cellsOf p.2)).take (e - (o + P.cellsOf p.2)) := by
          rw [show e - o = P.cellsOf p.2 + (e - (o + P.cellsOf p.2)) by omega, List.take_add, List.drop_drop]
        rw [e1]
        exact this
      · rcases List.mem_cons.1 hq with rfl | hq
        · refine ⟨by omega, ?_⟩
          rw [hpo, Nat.sub_self, List.drop_zero, ← b2, List.take_left']
          · exact b3
          · rfl
        · obtain ⟨c1, c2⟩ := a3 q hq
          refine ⟨by omega, ?_⟩
          rw [List.drop_append, List.drop_eq_nil_of_le (by omega), List.nil_append, b2, show q.1 - o - P.cellsOf p.2 = q.1 - (o + P.cellsOf p.2) by omega]
          exact c2
    · cases h

theorem weightsAll_mem {H : Type} {e : TypeId} : ∀ {l : List (DataW H)} {d : DataW H}, d ∈ l → ∀ n ∈ d.weights P e, n ∈ DataW.weightsAll P e l
  | [], d, h => by simp at h
  | y :: r, d, h => by
    intro n hn
    rw [DataW.weightsAll]
    rcases List.mem_cons.1 h with rfl | h
    · exact List.mem_append_left _ hn
    · exact List.mem_append_right _ (weightsAll_mem h n hn)

theorem cell_add {b o k : Nat} : w.cell? ((⟨b, o, none⟩ : Addr).add k) = w.cell? ⟨b, o + k, none⟩ := by
  unfold Addr.add
  split
  · rename_i h; subst h; rfl
  · rfl

/-- WHAT AN ARGUMENT READS AS. -/
theorem open_ok {H : Type} (enc : TypeId × Value → H) : ∀ (n : Nat) (t : TypeId) (fuel : Nat) (cs : List Value) (x : DataW H × List MemPlace), plainT P n t = true → (∀ n ∈ x.1.weights P t, n ≤ reachBytes) → DataW.trod enc P w 0 (fun _ => true) true fuel t cs = some x →
    ∃ ds, CRd w cs ds ∧ ds.length = P.cellsOf t ∧ Shp P n t ds := by
  intro n
  induction n with
  | zero => intro t fuel cs x hp; cases hp
  | succ n ih =>
    intro t fuel cs x hp hx h
    have hr : reachBytes = 140737488351232 := by decide
    unfold plainT at hp
    unfold Shp
    split at hp
    · -- bool
      rename_i hu
      simp only [beq_iff_eq] at hp
      cases fuel with
      | zero => simp [DataW.trod] at h
      | succ fuel =>
        unfold DataW.trod at h
        rw [hu] at h
        split at h <;> simp_all
        rename_i b
        exact ⟨[.bool b], .one (.bool _ _) rfl, rfl, by cases b <;> simp⟩
    · rename_i k hu
      simp only [beq_iff_eq] at hp
      cases fuel with
      | zero => simp [DataW.trod] at h
      | succ fuel =>
        unfold DataW.trod at h
        rw [hu] at h
        split at h <;> first | (cases h; done) | skip
        all_goals first
          | (rename_i k' k'' m heq
             injection heq with heq
             injection heq with heq
             split at h
             · rename_i hc2
               refine ⟨[.int k m], .one ?_ rfl, hp.symm, ?_⟩
               · rw [hc2.1, ← heq]; exact .int _ _ _
               · exact ⟨m, rfl, by rw [heq]; exact hc2.2⟩
             · cases h)
          | simp_all
    · rename_i hu
      simp only [beq_iff_eq] at hp
      cases fuel with
      | zero => simp [DataW.trod] at h
      | succ fuel =>
        unfold DataW.trod at h
        rw [hu] at h
        split at h <;> simp_all
        rename_i s
        obtain ⟨hs, rfl⟩ := h
        refine ⟨[.str s.data.toList], .one (.str _ _) rfl, rfl, s.data.toList, rfl, ?_⟩
        have := hx s.data.toList.length (by simp [DataW.weights])
        simpa using this
    · -- a slice
      rename_i e hu
      simp only [Bool.and_eq_true, beq_iff_eq, decide_eq_true_eq] at hp
      obtain ⟨⟨hc, hpos⟩, hpe⟩ := hp
      rcases open_slice hu h with ⟨rfl, rfl⟩ | ⟨a, len, cap, m, k, DD, Pl, rfl, _, hl, hm, hmm, rfl, hall⟩
      · exact ⟨[.slc false (P.cellsOf e) []], .one (.nils _ _ _) rfl, hc.symm, [], rfl, by simp, fun x hx => by cases hx⟩
      · simp only [if_true] at hmm
        obtain rfl := hmm
        have hw0 : ∀ i, i < len → ∀ n ∈ (DD i).weights P e, n ≤ reachBytes := by
          intro i hi n hn
          refine hx n ?_
          rw [DataW.weights]
          simp only [hu]
          refine List.mem_cons_of_mem _ (List.mem_append_left _ (weightsAll_mem (d := DD i) ?_ n hn))
          exact List.mem_map.2 ⟨i, List.mem_range.2 hi, rfl⟩
        have hlen : len * P.bytesOf e ≤ 140737488351232 := by
          have := hx ((((List.range len).map DD).length + ((List.range (m - len)).map fun j => DD (len + j)).length) * P.bytesOf e) (by rw [DataW.weights]; simp only [hu]; exact List.mem_cons_self)
          rw [hr] at this
          simp only [List.length_map, List.length_range] at this
          exact Nat.le_trans (Nat.mul_le_mul_right _ (Nat.le_add_right _ _)) this
        have hex : ∀ i, i < len → ∃ z : List D × List Value, CRd w z.2 z.1 ∧ z.1.length = P.cellsOf e ∧ Shp P n e z.1 ∧ w.cells? 0 (a.add (i * P.cellsOf e)) (P.cellsOf e) = some z.2 := by
          intro i hi
          obtain ⟨cs', h1, h2⟩ := hall i (by omega)
          obtain ⟨b, hb, hwl, hwf⟩ := ih e k cs' (DD i, Pl i) hpe (hw0 i hi) h2
          exact ⟨(b, cs'), hb, hwl, hwf, h1⟩
        obtain ⟨G, hG⟩ := choose_lt hex
        by_cases hm0 : m = 0
        · subst hm0
          obtain rfl : len = 0 := by omega
          exact ⟨[.slc false (P.cellsOf e) []], .one (.emp _ _ _ _ hpos) rfl, hc.symm, [], rfl, by simp, fun x hx => by cases hx⟩
        · -- no spot
          have hspot : a.spot = none := by
            obtain ⟨cs', h1, _⟩ := hall 0 (by omega)
            unfold World.cells? at h1
            split at h1
            · have hm1 := mapM_some_get h1 0 0 (by rw [List.getElem?_range hpos])
              have hl1 : 0 < cs'.length := by rw [mapM_some_length h1]; simpa using hpos
              rw [List.getElem?_eq_getElem hl1] at hm1
              cases hs : a.spot with
              | none => rfl
              | some q =>
                exfalso
                simp [Addr.add, World.cell?, hs] at hm1
                split at hm1 <;> cases hm1
            · cases h1
          obtain ⟨b, o, sp⟩ := a
          simp only at hspot
          subst hspot
          have hget : ∀ i, i < len → ∀ j v, (G i).2[j]? = some v → w.cell? ⟨b, o + i * P.cellsOf e + j, none⟩ = some v := by
            intro i hi j v hv
            obtain ⟨g1, g2, g3, g4⟩ := hG i hi
            unfold World.cells? at g4
            split at g4
            · have hj : j < P.cellsOf e := by
                have := (List.getElem?_eq_some_iff.1 hv).1
                rw [g1.1, g2] at this
                exact this
              have hm1 := mapM_some_get g4 j j (by rw [List.getElem?_range hj])
              rw [hv, Deep.add_add, cell_add] at hm1
              rw [Nat.add_assoc]
              exact hm1
            · cases g4
          have hes : ∀ (i : Nat) (d : D), (((List.range len).map fun i => (G i).1).map (mkE (tyAg P e)))[i]? = some d → i < len ∧ d = mkE (tyAg P e) (G i).1 ∧ d.cells = (G i).1 := by
            intro i d hd
            rw [List.getElem?_map, List.getElem?_map] at hd
            obtain ⟨q, h1, rfl⟩ := Option.map_eq_some_iff.1 hd
            obtain ⟨i', h2, rfl⟩ := Option.map_eq_some_iff.1 h1
            have hi : i < len := by have := (List.getElem?_eq_some_iff.1 h2).1; simpa using this
            rw [List.getElem?_range hi] at h2
            injection h2 with h2
            subst h2
            exact ⟨hi, rfl, shp_cells (hG i hi).2.2.1⟩
          refine ⟨[.slc false (P.cellsOf e) (((List.range len).map fun i => (G i).1).map (mkE (tyAg P e)))], .one ?_ rfl, hc.symm, (List.range len).map fun i => (G i).1, rfl, by simpa using hlen, fun x hx => ?_⟩
          · have := Rd.slc (w := w) (F := FAll w) noEnv b o m false (P.cellsOf e) (((List.range len).map fun i => (G i).1).map (mkE (tyAg P e))) (fun i j => ((G i).2[j]?).getD undef) hpos (by simpa using hl) (fun h => by cases h) (fun d hd => by
                obtain ⟨i, hi⟩ := List.getElem?_of_mem hd
                obtain ⟨h1, _, h3⟩ := hes i d hi
                rw [h3]
                exact (hG i h1).2.1) (fun i d j c hd hcj => by
                obtain ⟨h1, _, h3⟩ := hes i d hd
                rw [h3] at hcj
                have hj : j < (G i).2.length := by rw [(hG i h1).1.1]; exact (List.getElem?_eq_some_iff.1 hcj).1
                have hg := hget i h1 j _ (List.getElem?_eq_getElem hj)
                refine ⟨by unfold FAll; rw [hg]; rfl, by rw [hg, List.getElem?_eq_getElem hj]; rfl, ?_⟩
                have := (hG i h1).1.2 j _ c (List.getElem?_eq_getElem hj) hcj
                rw [List.getElem?_eq_getElem hj]
                exact this.2) (fun i d j c hd hcj => by
                obtain ⟨h1, _, h3⟩ := hes i d hd
                rw [h3] at hcj
                have hj : j < (G i).2.length := by rw [(hG i h1).1.1]; exact (List.getElem?_eq_some_iff.1 hcj).1
                have := (hG i h1).1.2 j _ c (List.getElem?_eq_getElem hj) hcj
                rw [List.getElem?_eq_getElem hj]
                exact this.1)
            simpa using this
          · obtain ⟨i, hi, rfl⟩ := List.mem_map.1 hx
            exact (hG i (List.mem_range.1 hi)).2.2.1
    · -- a struct
      rename_i fs hu
      simp only [Bool.and_eq_true, beq_iff_eq, List.all_eq_true] at hp
      obtain ⟨xs, k, rfl, rfl, hl, hxl, hf⟩ := DataW.trod_struct hu h
      obtain ⟨_, ds, a1, a2, a3⟩ := asm (P := P) (w := w) (n := n) (cs := cs) _ 0 _ hp.1 (by omega) (fun p hp' => by
        obtain ⟨f, hfm, rfl⟩ := List.mem_map.1 hp'
        obtain ⟨i, hi⟩ := List.getElem?_of_mem hfm
        have hi2 : fs[i]? = some f := by simpa using hi
        have h1 := hf i f hi2
        cases hxi : xs[i]? with
        | none =>
          have := (List.getElem?_eq_none_iff.1 hxi)
          have h5 := (Array.getElem?_eq_some_iff.1 hi2).1
          omega
        | some y =>
          rw [hxi] at h1
          refine ih f.type k _ y (hp.2 f hfm) (fun q hq => hx q ?_) h1
          rw [DataW.weights]
          simp only [hu]
          exact DataW.weights_mem_each (j := i) (t := f.type) (d := y.1) (by rw [List.getElem?_map, hi]; rfl) (by rw [List.getElem?_map, hxi]; rfl) q hq)
      rw [List.drop_zero, Nat.sub_zero, List.take_of_length_le (by omega)] at a1
      refine ⟨ds, a1, by simpa using a2, by simpa using a2, fun f hfm => ?_⟩
      have := (a3 (f.offset, f.type) (List.mem_map.2 ⟨f, hfm, rfl⟩)).2
      simpa using this
    · -- an array
      rename_i kk e hu
      simp only [Bool.and_eq_true, beq_iff_eq, Bool.or_eq_true] at hp
      obtain ⟨xs, k, rfl, rfl, hl, hxl, hf⟩ := DataW.trod_array hu h
      obtain ⟨_, ds, a1, a2, a3⟩ := asm (P := P) (w := w) (n := n) (cs := cs) _ 0 _ hp.1 (by omega) (fun p hp' => by
        obtain ⟨i, hi, rfl⟩ := List.mem_map.1 hp'
        rw [List.mem_range] at hi
        have h1 := hf i hi
        cases hxi : xs[i]? with
        | none => have := (List.getElem?_eq_none_iff.1 hxi); omega
        | some y =>
          rw [hxi] at h1
          refine ih e k _ y (hp.2.resolve_left (by omega)) (fun q hq => hx q ?_) h1
          rw [DataW.weights]
          simp only [hu]
          exact weightsAll_mem (d := y.1) (List.mem_map.2 ⟨y, List.mem_of_getElem? hxi, rfl⟩) q hq)
      rw [List.drop_zero, Nat.sub_zero, List.take_of_length_le (by omega)] at a1
      refine ⟨ds, a1, by simpa using a2, by simpa using a2, fun i hi => ?_⟩
      have := (a3 (i * P.cellsOf e, e) (List.mem_map.2 ⟨i, List.mem_range.2 hi, rfl⟩)).2
      simpa using this
    · cases hp
end
end Go.Ab
