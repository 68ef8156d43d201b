/- THE ABSTRACT MACHINE: what its oracle says of replay.unlike, and of slices.Clone of no number, is so. -/
import Derived.Test.YtdopbfjebjnpkaaBUnl2
import Derived.Test.YtdopbfjebjnpkaaAGrow
set_option linter.all false
namespace Go.Ab
open Go.Proofs Go.RowKit
set_option maxHeartbeats 1000000 in
set_option maxRecDepth 100000 in
theorem clone205n (w : World) : Calls Try.prog 31 #[.slice none 0 0] w fun e w' => e = .returned (.slice none 0 0) ∧ w' = w := by
  have q2 := fun w => run_eqls (P := Try.prog) w 30 3 none 0 0 Try.underlying30
  go_enter Try.func31, Try.ntmps31
  go_wp2
  go_ret
  exact ⟨rfl, rfl⟩
set_option maxHeartbeats 1000000 in
set_option maxRecDepth 100000 in
theorem clone205e (a : Addr) (cap : Nat) (w : World) : Calls Try.prog 31 #[.slice (some a) 0 cap] w fun e w' => ∃ b, e = .returned (.slice (some b) 0 0) ∧ w' = w.alloc (.cells #[] 3) := by
  have q2 := fun w => run_eqls (P := Try.prog) w 30 3 (some a) 0 cap Try.underlying30
  go_enter Try.func31, Try.ntmps31
  go_wp2
  go_ret
  exact ⟨_, rfl, rfl⟩
/-- Nothing that lay has turned. -/
theorem below_nx {w w' : World} {F : Fz} {μ : Mu} {Pr : Nat → Prop} (R : Rel w F μ (hp []) Pr) (hB : Below w.heap.size w w') : Nx Pr w F μ (hp []) w' F μ (hp []) := by
  have hlt : ∀ b o, F b o → b < w.heap.size := fun b o h => by
    have h1 := R.fc b o h
    unfold World.cell? at h1
    cases hb : w.heap[b]? with
    | none => rw [hb] at h1; simp at h1
    | some x => exact (Array.getElem?_eq_some_iff.1 hb).1
  have hcell : ∀ b o, F b o → w'.cell? ⟨b, o, none⟩ = w.cell? ⟨b, o, none⟩ := fun b o h => hB.cell (p := ⟨b, o, none⟩) (hlt b o h)
  refine ⟨⟨fun g o h => by simp [hp] at h, fun g g' b z z' h => by simp [hp] at h, fun g b z h => by simp [hp] at h, fun b o h => by rw [hcell b o h]; exact R.fc b o h, fun b h => Nat.lt_of_lt_of_le (R.prlt b h) hB.size⟩,
    ⟨hB.os, hB.tape, hB.output, hB.size, fun b o h => ⟨h, hcell b o h⟩, fun b h => hB.block b (R.prlt b h), fun b o _ h => h⟩, KLe.refl _, fun g b z h => by simp [hp] at h⟩
theorem rd_ints {w : World} {F : Fz} {κ : Env} {v : Value} {c : Bool} {s : Nat} {l : List Int} {es : List D} (h : Rd w F κ v (.slc c s es)) (he : es = l.map (.int .i64)) (hlt : ∀ b o, F b o → b < w.heap.size) :
    ∃ a len cap, v = .slice a len cap ∧ Unl.Ints w.heap.size w (.slice a len cap) l := by
  cases h with
  | nils =>
    have : l = [] := by simpa using he.symm
    exact ⟨none, 0, 0, rfl, .inl ⟨none, 0, rfl, this⟩⟩
  | emp _ a =>
    have : l = [] := by simpa using he.symm
    exact ⟨some a, 0, 0, rfl, .inl ⟨some a, 0, rfl, this⟩⟩
  | slc _ b o cap _ _ _ vs hs hcap hc hl hv hr =>
    subst he
    rw [List.length_map]
    by_cases hn : l = []
    · subst hn
      exact ⟨some ⟨b, o, none⟩, 0, cap, rfl, .inl ⟨_, _, rfl, rfl⟩⟩
    obtain rfl : s = 1 := by
      obtain ⟨x, t, rfl⟩ := List.exists_cons_of_ne_nil hn
      have := hl (.int .i64 x) (by simp)
      exact this.symm
    have hcell : ∀ j, j < l.length → F b (o + j) ∧ w.cell? ⟨b, o + j, none⟩ = some (.int .i64 (l[j]?.getD 0)) := fun j hj => by
      have e1 : (l.map (D.int .i64))[j]? = some (.int .i64 (l[j]'hj)) := by simp [hj]
      obtain ⟨q1, q2, _⟩ := hv j _ 0 _ e1 rfl
      have q3 := rd_int (hr j _ 0 _ e1 rfl)
      rw [q3] at q2
      rw [Nat.mul_one, Nat.add_zero] at q1 q2
      exact ⟨q1, by rw [q2]; simp [hj]⟩
    have h0 := (hcell 0 (List.length_pos_iff.2 hn)).1
    exact ⟨some ⟨b, o, none⟩, l.length, cap, rfl, .inr ⟨b, o, cap, rfl, hlt b _ h0, fun j hj => (hcell j hj).2⟩⟩
theorem oraU_ok : CallOk Try.prog oraU := by
  intro f args H d H' h
  unfold oraU at h
  split at h
  · rename_i hf
    subst hf
    split at h
    · rename_i c s es n
      obtain ⟨l, hl, h2⟩ := Option.bind_eq_some_iff.1 h
      split at h2
      · rename_i hlen
        simp only [Option.some.injEq, Prod.mk.injEq] at h2
        obtain ⟨rfl, rfl⟩ := h2
        have hes := intsOf_eq es l hl
        subst hes
        refine ⟨fun vs w => callFunc_enter (b := _) Try.func30 rfl (by decide) vs w, fun w F μ Pr vs R hr => ?_⟩
        match vs, hr.1 with
        | [v, v2], _ =>
          have hlt : ∀ b o, F b o → b < w.heap.size := fun b o h => by
            have h1 := R.fc b o h
            unfold World.cell? at h1
            cases hb : w.heap[b]? with
            | none => rw [hb] at h1; simp at h1
            | some x => exact (Array.getElem?_eq_some_iff.1 hb).1
          have h2 := rd_int (hr.2 1 v2 _ rfl rfl)
          subst h2
          obtain ⟨a, len, cap, rfl, hI⟩ := rd_ints (hr.2 0 v _ rfl rfl) rfl hlt
          refine (Unl.unlike_calls a len cap l n hlen w hI).mono ?_
          rintro e w' ⟨rfl, hB⟩
          exact ⟨_, rfl, F, μ, below_nx R hB, .bool _ _⟩
      · cases h2
    · cases h
  · split at h
    · rename_i hf
      subst hf
      split at h
      · rename_i c s
        simp only [Option.some.injEq, Prod.mk.injEq] at h
        obtain ⟨rfl, rfl⟩ := h
        refine ⟨fun vs w => callFunc_enter (b := _) Try.func31 rfl (by decide) vs w, fun w F μ Pr vs R hr => ?_⟩
        match vs, hr.1 with
        | [v], _ =>
          have hv := hr.2 0 v _ rfl rfl
          rcases (show v = .slice none 0 0 ∨ ∃ a cap, v = .slice (some a) 0 cap by cases hv with
            | nils => exact .inl rfl
            | emp _ a => exact .inr ⟨a, 0, rfl⟩
            | slc => exact .inr ⟨_, _, rfl⟩) with rfl | ⟨a, cap, rfl⟩
          · refine (clone205n w).mono ?_
            rintro e w' ⟨rfl, rfl⟩
            exact ⟨_, rfl, F, μ, Nx.refl R, .nils _ _ _⟩
          · refine (clone205e a cap w).mono ?_
            rintro e w' ⟨b, rfl, rfl⟩
            obtain ⟨F', n1, _⟩ := Nx.newFz R (w' := w.alloc (.cells #[] 3)) (c := #[]) (el := 3) ⟨rfl, rfl, rfl, rfl⟩
            exact ⟨_, rfl, F', μ, n1, .emp _ _ _ _ (by decide)⟩
      · cases h
    · cases h
end Go.Ab
