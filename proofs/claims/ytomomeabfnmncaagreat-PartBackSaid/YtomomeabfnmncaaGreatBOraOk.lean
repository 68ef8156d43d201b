/- THE ABSTRACT MACHINE: what its oracle says of grain.Rows, strings.Compare, and of slices.Clone of no value, is so. -/
import Derived.Test.YtomomeabfnmncaaGreatBGrd
import Derived.Test.YtomomeabfnmncaaGreatBOraU
import Derived.Test.YtomomeabfnmncaaGreatShelf
set_option linter.all false
namespace Go.Ab
open Go.Proofs Go.RowKit Go.Proofs.Grd Go.Proofs.Rws
set_option maxHeartbeats 1000000 in
set_option maxRecDepth 100000 in
theorem clone263n (w : World) : Calls Tryz.prog 47 #[.slice none 0 0] w fun e w' => e = .returned (.slice none 0 0) ∧ w' = w := by
  have q2 := fun w => run_eqls (P := Tryz.prog) w 35 60 none 0 0 Tryz.underlying35
  go_enter Tryz.func47, Tryz.ntmps47
  go_wp2
  go_ret
  exact ⟨rfl, rfl⟩
set_option maxHeartbeats 1000000 in
set_option maxRecDepth 100000 in
theorem clone263e (a : Addr) (cap : Nat) (w : World) : Calls Tryz.prog 47 #[.slice (some a) 0 cap] w fun e w' => ∃ b, e = .returned (.slice (some b) 0 0) ∧ w' = w.alloc (.cells #[] 60) := by
  have q2 := fun w => run_eqls (P := Tryz.prog) w 35 60 (some a) 0 cap Tryz.underlying35
  go_enter Tryz.func47, Tryz.ntmps47
  go_wp2
  go_ret
  exact ⟨_, rfl, rfl⟩
theorem fz_lt {w : World} {F : Fz} {μ : Mu} {H : Hp} {Pr : Nat → Prop} (R : Rel w F μ H Pr) : ∀ b o, F b o → b < w.heap.size := fun b o h => by
  have h1 := R.fc b o h
  unfold World.cell? at h1
  cases hb : w.heap[b]? with
  | none => rw [hb] at h1; simp at h1
  | some x => exact (Array.getElem?_eq_some_iff.1 hb).1
/-- What is new is frozen. -/
def newFz (n : Nat) (F : Fz) (w' : World) : Fz := fun b o => F b o ∨ (n ≤ b ∧ (w'.cell? ⟨b, o, none⟩).isSome = true)
/-- Nothing that lay has turned; what is new is frozen. -/
theorem below_fz {w w' : World} {F : Fz} {μ : Mu} {Pr : Nat → Prop} (R : Rel w F μ (hp []) Pr) (hB : Below w.heap.size w w') : Nx Pr w F μ (hp []) w' (newFz w.heap.size F w') μ (hp []) := by
  have hlt := fz_lt R
  have hcell : ∀ b o, F b o → w'.cell? ⟨b, o, none⟩ = w.cell? ⟨b, o, none⟩ := fun b o h => hB.cell (p := ⟨b, o, none⟩) (hlt b o h)
  refine ⟨⟨fun g o h => by simp [hp] at h, fun g g' b z z' h => by simp [hp] at h, fun g b z h => by simp [hp] at h, fun b o h => ?_, fun b h => Nat.lt_of_lt_of_le (R.prlt b h) hB.size⟩,
    ⟨hB.os, hB.tape, hB.output, hB.size, fun b o h => ⟨.inl h, hcell b o h⟩, fun b h => hB.block b (R.prlt b h), fun b o hp h => ?_⟩, KLe.refl _, fun g b z h => by simp [hp] at h⟩
  · rcases h with h | ⟨_, h⟩
    · rw [hcell b o h]; exact R.fc b o h
    · exact h
  · rcases h with h | ⟨h, _⟩
    · exact h
    · have := R.prlt b hp
      omega
/-- A column, as memory has it. -/
theorem rd_col {w : World} {F : Fz} {κ : Env} {v : Value} {c : Bool} {s : Nat} {l : List (Int × List UInt8)} (h : Rd w F κ v (.slc c s (l.map vaD))) (hlt : ∀ b o, F b o → b < w.heap.size) :
    ∃ av cv, v = .slice av l.length cv ∧ ∀ i, i < l.length → ∃ b o, av = some ⟨b, o, none⟩ ∧ b < w.heap.size ∧ w.cell? ⟨b, o + i * 2, none⟩ = some (.int .i64 (l[i]?.getD (0, [])).1) ∧ w.cell? ⟨b, o + i * 2 + 1, none⟩ = some (.string ⟨(l[i]?.getD (0, [])).2.toArray⟩) := by
  generalize he : l.map vaD = es at h
  cases h with
  | nils =>
    obtain rfl : l = [] := by simpa using he
    exact ⟨none, 0, rfl, fun i hi => absurd hi (Nat.not_lt_zero _)⟩
  | emp _ a =>
    obtain rfl : l = [] := by simpa using he
    exact ⟨some a, 0, rfl, fun i hi => absurd hi (Nat.not_lt_zero _)⟩
  | slc _ b o cap _ _ _ vs hs hcap hc hl hv hr =>
    subst he
    refine ⟨some ⟨b, o, none⟩, cap, by rw [List.length_map], fun i hi => ⟨b, o, rfl, ?_⟩⟩
    obtain rfl : s = 2 := (hl (vaD l[i]) (List.mem_map.2 ⟨_, List.getElem_mem hi, rfl⟩)).symm
    have e0 : (l.map vaD)[i]? = some (vaD l[i]) := by simp [hi]
    obtain ⟨a1, a2, _⟩ := hv i _ 0 (.int .i64 l[i].1) e0 rfl
    obtain ⟨b1, b2, _⟩ := hv i _ 1 (.str l[i].2) e0 rfl
    have r1 := rd_int (hr i _ 0 _ e0 rfl)
    obtain ⟨ba, r2, r3⟩ := rd_str (hr i _ 1 _ e0 rfl)
    have r4 : ba = ⟨l[i].2.toArray⟩ := by rw [← r3]
    refine ⟨hlt b _ a1, ?_, ?_⟩
    · rw [List.getElem?_eq_getElem hi, Option.getD_some, ← r1]; exact a2
    · rw [List.getElem?_eq_getElem hi, Option.getD_some, ← r4, ← r2]; exact b2
theorem cellsOf_at (X : Nat → Nat → Int) (Y : Nat → Nat → ByteArray) (i : Nat) : ∀ (m k : Nat), k < m → (cellsOf X Y i m)[k * 2]? = some (.int .i64 (X k i)) ∧ (cellsOf X Y i m)[k * 2 + 1]? = some (.string (Y k i))
  | 0, k, h => absurd h (Nat.not_lt_zero _)
  | m + 1, k, h => by
    have hlen : ∀ m, (cellsOf X Y i m).length = m * 2 := by
      intro m
      induction m with
      | zero => rfl
      | succ m ih => rw [cellsOf_succ, List.length_append, ih]; simp; omega
    rw [cellsOf_succ]
    by_cases hk : k < m
    · obtain ⟨h1, h2⟩ := cellsOf_at X Y i m k hk
      rw [List.getElem?_append_left (by rw [hlen]; omega), List.getElem?_append_left (by rw [hlen]; omega)]
      exact ⟨h1, h2⟩
    · obtain rfl : k = m := by omega
      rw [List.getElem?_append_right (by rw [hlen]; omega), List.getElem?_append_right (by rw [hlen]; omega), hlen]
      simp
/-- The rows that have been made, as memory has them. -/
theorem rd_rows {w' : World} {F' : Fz} {g er ev n nC : Nat} {X : Nat → Nat → Int} {Y : Nat → Nat → ByteArray} (hG : Grid g er ev n (fun _ => nC) (fun i => cellsOf X Y i nC) w') (hF : ∀ b o, g ≤ b → (w'.cell? ⟨b, o, none⟩).isSome = true → F' b o) (hnC : 0 < nC) (κ : Env)
    (rows : List (List (Int × List UInt8))) (hlen : rows.length = n) (hrow : ∀ (i : Nat) (r : List (Int × List UInt8)), rows[i]? = some r → r = (List.range nC).map fun k => (X k i, (Y k i).data.toList)) : Rd w' F' κ (.slice (some ⟨g, 0, none⟩) n n) (.slc true 1 (rows.map rowD)) := by
  have key := Rd.slc (w := w') (F := F') κ g 0 n true 1 (rows.map rowD) (fun i _ => (w'.cell? ⟨g, i, none⟩).getD Go.undef) (by decide) (by simp [hlen]) (fun _ => by simp [hlen])
    (fun e he => by obtain ⟨r, _, rfl⟩ := List.mem_map.1 he; rfl) (fun i e j d he hd => ?_) (fun i e j d he hd => ?_)
  · simpa [hlen] using key
  all_goals
    have hi : i < n := by
      have := (List.getElem?_eq_some_iff.1 he).1
      simpa [hlen] using this
    obtain ⟨v, hv, _, hown⟩ := hG.at hi
    obtain ⟨gi, cap, rfl⟩ := form hown (Nat.pos_iff_ne_zero.1 hnC)
    rw [List.getElem?_map] at he
    obtain ⟨r, hr, rfl⟩ := Option.map_eq_some_iff.1 he
    obtain rfl : r = _ := hrow i r hr
    obtain ⟨rfl, rfl⟩ : j = 0 ∧ d = rowD ((List.range nC).map fun k => (X k i, (Y k i).data.toList)) := by
      match j, hd with
      | 0, hd => exact ⟨rfl, (Option.some.inj hd).symm⟩
      | j + 1, hd => simp [D.cells] at hd
  · rw [Nat.zero_add, Nat.mul_one, Nat.add_zero, hv]
    exact ⟨hF g i (Nat.le_refl _) (by rw [hv]; rfl), rfl, rfl⟩
  · show Rd w' F' noEnv ((w'.cell? ⟨g, i, none⟩).getD Go.undef) _
    rw [hv, Option.getD_some]
    have hcap : nC ≤ cap := by
      rcases hown.2 with ⟨h, _⟩ | ⟨_, _, _, h, _, _, h2, _⟩
      · cases h
      · simp only [Value.slice.injEq] at h
        omega
    have hb : g + 1 ≤ gi := (hown.lt gi rfl).1
    have hc : ∀ k, k < nC → w'.cell? ⟨gi, k * 2, none⟩ = some (.int .i64 (X k i)) ∧ w'.cell? ⟨gi, k * 2 + 1, none⟩ = some (.string (Y k i)) := fun k hk => by
      rw [hown.cellAt (k * 2) (by omega), hown.cellAt (k * 2 + 1) (by omega)]
      exact cellsOf_at X Y i nC k hk
    have key2 := Rd.slc (w := w') (F := F') noEnv gi 0 cap false 2 (((List.range nC).map fun k => (X k i, (Y k i).data.toList)).map vaD) (fun k j => (w'.cell? ⟨gi, k * 2 + j, none⟩).getD Go.undef) (by decide) (by simpa using hcap) (fun h => by cases h)
      (fun e he => by obtain ⟨r, _, rfl⟩ := List.mem_map.1 he; rfl) (fun k e j d he hd => ?_) (fun k e j d he hd => ?_)
    · rw [List.length_map, List.length_map, List.length_range] at key2
      exact key2
    all_goals
      have hk : k < nC := by
        have := (List.getElem?_eq_some_iff.1 he).1
        simpa using this
      obtain ⟨c0, c1⟩ := hc k hk
      have he' : e = vaD (X k i, (Y k i).data.toList) := by
        simp [hk] at he
        exact he.symm
      subst he'
    · rw [Nat.zero_add]
      match j, hd with
      | 0, hd => rw [Nat.add_zero, c0]; exact ⟨hF gi _ (by omega) (by rw [c0]; rfl), rfl, rfl⟩
      | 1, hd => rw [c1]; exact ⟨hF gi _ (by omega) (by rw [c1]; rfl), rfl, rfl⟩
      | j + 2, hd => simp [D.cells] at hd
    · match j, hd with
      | 0, hd =>
        obtain rfl := Option.some.inj hd
        show Rd w' F' noEnv ((w'.cell? ⟨gi, k * 2 + 0, none⟩).getD Go.undef) _
        rw [Nat.add_zero, c0]
        exact .int _ _ _
      | 1, hd =>
        obtain rfl := Option.some.inj hd
        show Rd w' F' noEnv ((w'.cell? ⟨gi, k * 2 + 1, none⟩).getD Go.undef) _
        rw [c1]
        exact .str _ _
      | j + 2, hd => simp [D.cells] at hd
theorem map_range {α β : Type} (f : α → β) (z : α) (l : List α) : l.map f = (List.range l.length).map fun k => f (l[k]?.getD z) := by
  apply List.ext_getElem
  · simp
  · intro i h1 h2
    have : i < l.length := by simpa using h1
    simp [this]
theorem rowsOf_none {cols : List (List (Int × List UInt8))} (h : ∃ k, k < cols.length ∧ (cols[k]?.getD []).length ≠ (cols[0]?.getD []).length) : rowsOf cols = none := by
  obtain ⟨k, hk, h⟩ := h
  match cols, hk, h with
  | c :: r, hk, h =>
    simp only [rowsOf]
    rw [if_neg]
    intro ha
    refine h ?_
    have := List.all_eq_true.1 ha _ (List.getElem_mem hk)
    rw [List.getElem?_eq_getElem hk, Option.getD_some]
    simpa using this
theorem rowsOf_some {cols : List (List (Int × List UInt8))} (hn : cols ≠ []) (h : ∀ k, k < cols.length → (cols[k]?.getD []).length = (cols[0]?.getD []).length) :
    rowsOf cols = some ((List.range (cols[0]?.getD []).length).map fun i => (List.range cols.length).map fun k => (cols[k]?.getD [])[i]?.getD (0, [])) := by
  match cols, hn with
  | c :: r, _ =>
    simp only [rowsOf]
    rw [if_pos]
    · show some _ = some _
      congr 1
      show (List.range c.length).map _ = (List.range c.length).map _
      apply List.map_congr_left
      intro i _
      exact map_range (fun x : List (Int × List UInt8) => x[i]?.getD (0, [])) [] (c :: r)
    · rw [List.all_eq_true]
      intro x hx
      obtain ⟨k, hk, rfl⟩ := List.getElem_of_mem hx
      have := h k hk
      rw [List.getElem?_eq_getElem hk, Option.getD_some] at this
      simpa using this
theorem oraU_ok : CallOk Tryz.prog oraU := by
  intro f args H d H' h
  unfold oraU at h
  split at h
  · rename_i hf
    subst hf
    split at h
    · rename_i c s es
      obtain ⟨cols, hcols, h2⟩ := Option.bind_eq_some_iff.1 h
      split at h2
      · rename_i hlen
        rw [Option.some.injEq, Prod.mk.injEq] at h2
        obtain ⟨rfl, rfl⟩ := h2
        obtain ⟨q1, q2⟩ := colsOf_eq es cols hcols
        refine ⟨fun vs w => callFunc_enter (b := _) Tryz.func116 rfl (by decide) vs w, fun w F μ Pr vs R hr => ?_⟩
        match vs, hr.1 with
        | [v], _ =>
          have hlt := fz_lt R
          have hv := hr.2 0 v _ rfl rfl
          by_cases hn : cols = []
          · subst hn
            obtain rfl : es = [] := List.eq_nil_of_length_eq_zero (by simpa using q1)
            rcases (show ∃ a cap, v = .slice a 0 cap by cases hv with
              | nils => exact ⟨none, 0, rfl⟩
              | emp _ a => exact ⟨some a, 0, rfl⟩
              | slc => exact ⟨_, _, rfl⟩) with ⟨a, cap, rfl⟩
            refine (rows0 a cap w).mono ?_
            rintro e w' ⟨rfl, rfl⟩
            exact ⟨_, rfl, F, μ, Nx.refl R, .tuple _ [.slice none 0 0, .bool false] _ rfl (fun i v d h1 h2 => by
              match i, h1, h2 with
              | 0, h1, h2 => obtain rfl := Option.some.inj h1; obtain rfl := Option.some.inj h2; exact .nils _ _ _
              | 1, h1, h2 => obtain rfl := Option.some.inj h1; obtain rfl := Option.some.inj h2; exact .bool _ _)⟩
          · have hpos : 0 < cols.length := List.length_pos_iff.2 hn
            have hhead : (cols.headD []) = (cols[0]?.getD []) := by cases cols <;> simp
            rw [hhead] at hlen
            generalize hes : es = es' at hv
            cases hv with
            | nils => subst hes; simp at q1; omega
            | emp => subst hes; simp at q1; omega
            | slc _ b o cap _ _ _ vs hs hcap hc hl hvv hrr =>
              subst hes
              have he : ∀ k (hk : k < cols.length), ∃ c' s', es[k]? = some (.slc c' s' (cols[k].map vaD)) := fun k hk => by
                have hk' : k < es.length := by omega
                obtain ⟨c', s', h5⟩ := q2 k _ _ (List.getElem?_eq_getElem hk') (List.getElem?_eq_getElem hk)
                exact ⟨c', s', by rw [List.getElem?_eq_getElem hk', h5]⟩
              obtain rfl : s = 1 := by
                obtain ⟨c', s', h5⟩ := he 0 hpos
                have := hl _ (List.mem_of_getElem? h5)
                exact this.symm
              have hb : b < w.heap.size := by
                obtain ⟨c', s', h5⟩ := he 0 hpos
                exact hlt b _ (hvv 0 _ 0 _ h5 rfl).1
              rw [q1]
              refine (rows_calls w.heap.size b o cap cols.length (fun k => (cols[k]?.getD []).length) (fun k i => ((cols[k]?.getD [])[i]?.getD (0, [])).1) (fun k i => ⟨((cols[k]?.getD [])[i]?.getD (0, [])).2.toArray⟩) w ⟨rfl⟩ hb hpos hlen.1 hlen.2 (fun k hk => ?_)).mono ?_
              · obtain ⟨c', s', h5⟩ := he k hk
                obtain ⟨g1, g2, _⟩ := hvv k _ 0 _ h5 rfl
                rw [Nat.mul_one, Nat.add_zero] at g2
                obtain ⟨av, cv, h6, h7⟩ := rd_col (hrr k _ 0 _ h5 rfl) hlt
                refine ⟨av, cv, by rw [g2, h6, List.getElem?_eq_getElem hk]; rfl, fun i hi => ?_⟩
                rw [List.getElem?_eq_getElem hk, Option.getD_some] at hi ⊢
                exact h7 i hi
              · rintro e w' ⟨hB, ⟨hex, rfl⟩ | ⟨hall, rfl, hG⟩⟩
                · rw [rowsOf_none hex]
                  exact ⟨_, rfl, _, μ, below_fz R hB, .tuple _ [.slice none 0 0, .bool false] _ rfl (fun i v d h1 h2 => by
                    match i, h1, h2 with
                    | 0, h1, h2 => obtain rfl := Option.some.inj h1; obtain rfl := Option.some.inj h2; exact .nils _ _ _
                    | 1, h1, h2 => obtain rfl := Option.some.inj h1; obtain rfl := Option.some.inj h2; exact .bool _ _)⟩
                · rw [rowsOf_some hn hall]
                  refine ⟨_, rfl, _, μ, below_fz R hB, .tuple _ [.slice (some ⟨w.heap.size, 0, none⟩) _ _, .bool true] _ rfl (fun i v d h1 h2 => ?_)⟩
                  match i, h1, h2 with
                  | 0, h1, h2 =>
                    obtain rfl := Option.some.inj h1
                    obtain rfl := Option.some.inj h2
                    refine rd_rows hG (fun b o h1 h2 => .inr ⟨h1, h2⟩) hpos _ _ (by simp) (fun i r hi => ?_)
                    rw [List.getElem?_map] at hi
                    obtain ⟨j, hj, rfl⟩ := Option.map_eq_some_iff.1 hi
                    have : j = i := by
                      have := (List.getElem?_eq_some_iff.1 hj)
                      obtain ⟨h8, h9⟩ := this
                      simpa using h9.symm
                    subst this
                    rfl
                  | 1, h1, h2 => obtain rfl := Option.some.inj h1; obtain rfl := Option.some.inj h2; exact .bool _ _
      · cases h2
    · cases h
  · split at h
    · rename_i hf
      subst hf
      split at h
      · rename_i a b
        simp only [Option.some.injEq, Prod.mk.injEq] at h
        obtain ⟨rfl, rfl⟩ := h
        refine ⟨fun vs w => callFunc_enter (b := _) Tryz.func123 rfl (by decide) vs w, fun w F μ Pr vs R hr => ?_⟩
        match vs, hr.1 with
        | [v, u], _ =>
          obtain ⟨x, rfl, rfl⟩ := rd_str (hr.2 0 v _ rfl rfl)
          obtain ⟨y, rfl, rfl⟩ := rd_str (hr.2 1 u _ rfl rfl)
          refine (Tryz.strings_Compare x y w).mono ?_
          rintro e w' ⟨rfl, rfl⟩
          exact ⟨_, rfl, F, μ, Nx.refl R, .int _ _ _⟩
      · cases h
    · split at h
      · rename_i hf
        subst hf
        split at h
        · rename_i c s
          simp only [Option.some.injEq, Prod.mk.injEq] at h
          obtain ⟨rfl, rfl⟩ := h
          refine ⟨fun vs w => callFunc_enter (b := _) Tryz.func47 rfl (by decide) vs w, fun w F μ Pr vs R hr => ?_⟩
          match vs, hr.1 with
          | [v], _ =>
            have hv := hr.2 0 v _ rfl rfl
            rcases (show v = .slice none 0 0 ∨ ∃ a cap, v = .slice (some a) 0 cap by cases hv with
              | nils => exact .inl rfl
              | emp _ a => exact .inr ⟨a, 0, rfl⟩
              | slc => exact .inr ⟨_, _, rfl⟩) with rfl | ⟨a, cap, rfl⟩
            · refine (clone263n w).mono ?_
              rintro e w' ⟨rfl, rfl⟩
              exact ⟨_, rfl, F, μ, Nx.refl R, .nils _ _ _⟩
            · refine (clone263e a cap w).mono ?_
              rintro e w' ⟨b, rfl, rfl⟩
              obtain ⟨F', n1, _⟩ := Nx.newFz R (w' := w.alloc (.cells #[] 60)) (c := #[]) (el := 60) ⟨rfl, rfl, rfl, rfl⟩
              exact ⟨_, rfl, F', μ, n1, .emp _ _ _ _ (by decide)⟩
        · cases h
      · cases h
end Go.Ab
