/- THE ABSTRACT MACHINE: what its oracle says of replay.unlike, and of slices.Clone of no number, is so. -/
import Derived.Test.YtdopbfjebjnpkaaBUnl2
import Derived.Test.YtdopbfjebjnpkaaAGrow
import Derived.Test.YtdopbfjebjnpkaaBF232
set_option linter.all false
namespace Go.Ab
open Go.Proofs Go.RowKit
set_option maxHeartbeats 1000000 in
set_option maxRecDepth 100000 in
theorem clone205n (w : World) : Calls Try.prog 31 #[.slice none 0 0] w fun e w' => e = .returned (.slice none 0 0) ∧ w' = w := by
  have q2 := fun w => run_eqls (P := Try.prog) w 30 3 none 0 0 Try.underlying30
  go_enter Try.func31, Try.ntmps31
  go_wp2
  go_ret
  exact ⟨rfl, rfl⟩
set_option maxHeartbeats 1000000 in
set_option maxRecDepth 100000 in
theorem clone205e (a : Addr) (cap : Nat) (w : World) : Calls Try.prog 31 #[.slice (some a) 0 cap] w fun e w' => ∃ b, e = .returned (.slice (some b) 0 0) ∧ w' = w.alloc (.cells #[] 3) := by
  have q2 := fun w => run_eqls (P := Try.prog) w 30 3 (some a) 0 cap Try.underlying30
  go_enter Try.func31, Try.ntmps31
  go_wp2
  go_ret
  exact ⟨_, rfl, rfl⟩
/-- Nothing that lay has turned. -/
theorem below_nx {w w' : World} {F : Fz} {μ : Mu} {Pr : Nat → Prop} (R : Rel w F μ (hp []) Pr) (hB : Below w.heap.size w w') : Nx Pr w F μ (hp []) w' F μ (hp []) := by
  have hlt : ∀ b o, F b o → b < w.heap.size := fun b o h => by
    have h1 := R.fc b o h
    unfold World.cell? at h1
    cases hb : w.heap[b]? with
    | none => rw [hb] at h1; simp at h1
    | some x => exact (Array.getElem?_eq_some_iff.1 hb).1
  have hcell : ∀ b o, F b o → w'.cell? ⟨b, o, none⟩ = w.cell? ⟨b, o, none⟩ := fun b o h => hB.cell (p := ⟨b, o, none⟩) (hlt b o h)
  refine ⟨⟨fun g o h => by simp [hp] at h, fun g g' b z z' h => by simp [hp] at h, fun g b z h => by simp [hp] at h, fun b o h => by rw [hcell b o h]; exact R.fc b o h, fun b h => Nat.lt_of_lt_of_le (R.prlt b h) hB.size⟩,
    ⟨hB.os, hB.tape, hB.output, hB.size, fun b o h => ⟨h, hcell b o h⟩, fun b h => hB.block b (R.prlt b h), fun b o _ h => h⟩, KLe.refl _, fun g b z h => by simp [hp] at h⟩
theorem rd_ints {w : World} {F : Fz} {κ : Env} {v : Value} {c : Bool} {s : Nat} {l : List Int} {es : List D} (h : Rd w F κ v (.slc c s es)) (he : es = l.map (.int .i64)) (hlt : ∀ b o, F b o → b < w.heap.size) :
    ∃ a len cap, v = .slice a len cap ∧ Unl.Ints w.heap.size w (.slice a len cap) l := by
  cases h with
  | nils =>
    have : l = [] := by simpa using he.symm
    exact ⟨none, 0, 0, rfl, .inl ⟨none, 0, rfl, this⟩⟩
  | emp _ a =>
    have : l = [] := by simpa using he.symm
    exact ⟨some a, 0, 0, rfl, .inl ⟨some a, 0, rfl, this⟩⟩
  | slc _ b o cap _ _ _ vs hs hcap hc hl hv hr =>
    subst he
    rw [List.length_map]
    by_cases hn : l = []
    · subst hn
      exact ⟨some ⟨b, o, none⟩, 0, cap, rfl, .inl ⟨_, _, rfl, rfl⟩⟩
    obtain rfl : s = 1 := by
      obtain ⟨x, t, rfl⟩ := List.exists_cons_of_ne_nil hn
      have := hl (.int .i64 x) (by simp)
      exact this.symm
    have hcell : ∀ j, j < l.length → F b (o + j) ∧ w.cell? ⟨b, o + j, none⟩ = some (.int .i64 (l[j]?.getD 0)) := fun j hj => by
      have e1 : (l.map (D.int .i64))[j]? = some (.int .i64 (l[j]'hj)) := by simp [hj]
      obtain ⟨q1, q2, _⟩ := hv j _ 0 _ e1 rfl
      have q3 := rd_int (hr j _ 0 _ e1 rfl)
      rw [q3] at q2
      rw [Nat.mul_one, Nat.add_zero] at q1 q2
      exact ⟨q1, by rw [q2]; simp [hj]⟩
    have h0 := (hcell 0 (List.length_pos_iff.2 hn)).1
    exact ⟨some ⟨b, o, none⟩, l.length, cap, rfl, .inr ⟨b, o, cap, rfl, hlt b _ h0, fun j hj => (hcell j hj).2⟩⟩
theorem oraU_ok : CallOk Try.prog oraU := by
  intro f args H d H' h
  unfold oraU at h
  split at h
  · rename_i hf
    subst hf
    split at h
    · rename_i c s es n
      obtain ⟨l, hl, h2⟩ := Option.bind_eq_some_iff.1 h
      split at h2
      · rename_i hlen
        simp only [Option.some.injEq, Prod.mk.injEq] at h2
        obtain ⟨rfl, rfl⟩ := h2
        have hes := intsOf_eq es l hl
        subst hes
        refine ⟨fun vs w => callFunc_enter (b := _) Try.func30 rfl (by decide) vs w, fun w F μ Pr vs R hr => ?_⟩
        match vs, hr.1 with
        | [v, v2], _ =>
          have hlt : ∀ b o, F b o → b < w.heap.size := fun b o h => by
            have h1 := R.fc b o h
            unfold World.cell? at h1
            cases hb : w.heap[b]? with
            | none => rw [hb] at h1; simp at h1
            | some x => exact (Array.getElem?_eq_some_iff.1 hb).1
          have h2 := rd_int (hr.2 1 v2 _ rfl rfl)
          subst h2
          obtain ⟨a, len, cap, rfl, hI⟩ := rd_ints (hr.2 0 v _ rfl rfl) rfl hlt
          refine (Unl.unlike_calls a len cap l n hlen w hI).mono ?_
          rintro e w' ⟨rfl, hB⟩
          exact ⟨_, rfl, F, μ, below_nx R hB, .bool _ _⟩
      · cases h2
    · cases h
  · split at h
    · rename_i hf
      subst hf
      split at h
      · rename_i c s
        simp only [Option.some.injEq, Prod.mk.injEq] at h
        obtain ⟨rfl, rfl⟩ := h
        refine ⟨fun vs w => callFunc_enter (b := _) Try.func31 rfl (by decide) vs w, fun w F μ Pr vs R hr => ?_⟩
        match vs, hr.1 with
        | [v], _ =>
          have hv := hr.2 0 v _ rfl rfl
          rcases (show v = .slice none 0 0 ∨ ∃ a cap, v = .slice (some a) 0 cap by cases hv with
            | nils => exact .inl rfl
            | emp _ a => exact .inr ⟨a, 0, rfl⟩
            | slc => exact .inr ⟨_, _, rfl⟩) with rfl | ⟨a, cap, rfl⟩
          · refine (clone205n w).mono ?_
            rintro e w' ⟨rfl, rfl⟩
            exact ⟨_, rfl, F, μ, Nx.refl R, .nils _ _ _⟩
          · refine (clone205e a cap w).mono ?_
            rintro e w' ⟨b, rfl, rfl⟩
            obtain ⟨F', n1, _⟩ := Nx.newFz R (w' := w.alloc (.cells #[] 3)) (c := #[]) (el := 3) ⟨rfl, rfl, rfl, rfl⟩
            exact ⟨_, rfl, F', μ, n1, .emp _ _ _ _ (by decide)⟩
      · cases h
    · cases h
end Go.Ab
/- THE FUNCTIONS' EQUATIONS: thresherlaw17.ReplayAll, the whole. (printed by mk234.py) -/
set_option linter.all false
set_option maxRecDepth 100000
namespace Go.Ab
open Go.Proofs Go.Proofs.YtdopbfjebjnpkaaH Go.Proofs.YtdopbfjebjnpkaaH.Crc Go.Proofs.YtdopbfjebjnpkaaH.Var Go.Proofs.YtdopbfjebjnpkaaH.Fr Go.Proofs.YtdopbfjebjnpkaaH.Rec
attribute [local simp] op_or op_an op_add op_sub op_mul oq_eql oq_neq oq_lss oq_gtr oq_leq oq_geq
attribute [-simp] intOp bin_shl
/-- The second machine's oracle is the first machine. -/
theorem ora1_ok (hm : Try.prog.follows .mixedOrders = true) : CallOk Try.prog ora1 := by
  intro f args H d H' h
  unfold ora1 at h
  split at h
  · cases h
  · exact K_ok hm (fun f fn' h => h) (oraG_ok oraU_ok) f args H d H' h
set_option maxHeartbeats 16000000 in
/-- thresherlaw17.ReplayAll. -/
theorem K224 (c : Bool) (L : List RecV) (cb : Bool) (b : List Int) (hB : isB b) (ts : List Int) (k m g : Int) (ids : List Int) (nx : Int) (hts : ts.length ≤ 2 ^ 45) (hids : ids.length ≤ 2 ^ 45) :
    K1 6 [.slc c 7 (L.map rd1), .slc cb 1 (b.map (.int .u8)), StD ((ts, k, m, g), ids, nx) false 1 false 1] [] = some (.bool true, []) := by
  have hsh := K1_of K219 (by decide)
  refine K_call k224 (ora1_none (.inr rfl)) (by simp [c224, StD]) ?_
  obtain ⟨L1, hL1⟩ : ∃ t, L.take 30 = t := ⟨_, rfl⟩
  obtain ⟨b1, hb1⟩ : ∃ t, b.take 200 = t := ⟨_, rfl⟩
  obtain ⟨i1, hi1⟩ : ∃ t, ids.take 45 = t := ⟨_, rfl⟩
  have hLl : L1.length ≤ 30 := by rw [← hL1]; simp; omega
  have hbl : b1.length ≤ 200 := by rw [← hb1]; simp; omega
  have hil : i1.length ≤ 45 := by rw [← hi1]; simp; omega
  have hbB : isB b1 := by rw [← hb1]; exact isB_take hB _
  have m1 : List.take 30 (L.map rd1) = L1.map rd1 := by rw [← hL1]; simp [List.map_take]
  have m2 : List.take 200 (b.map (D.int .u8)) = b1.map (D.int .u8) := by rw [← hb1]; simp [List.map_take]
  have m3 : List.take 45 (ids.map (D.int .i64)) = i1.map (D.int .i64) := by rw [← hi1]; simp [List.map_take]
  have main := fun v2 v26 v27 v28 v29 v30 v31 v32 v33 v34 v35 v36 v37 v38 v39 v40 v41 v42 v43 d' cc cbb (h0 : D.keys v2 = []) (h26 : D.keys v26 = []) (h27 : D.keys v27 = []) (h28 : D.keys v28 = []) (h29 : D.keys v29 = []) (h30 : D.keys v30 = []) (h31 : D.keys v31 = []) (h32 : D.keys v32 = []) (h33 : D.keys v33 = []) (h34 : D.keys v34 = []) (h35 : D.keys v35 = []) (h36 : ∀ g ∈ D.keys v36, g < 2) (h37 : D.keys v37 = []) (h38 : D.keys v38 = []) (h39 : D.keys v39 = []) (h40 : ∀ g ∈ D.keys v40, g < 2) (h41 : D.keys v41 = []) (h42 : D.keys v42 = []) (h43 : ∀ g ∈ D.keys v43, g < 2) => R224 v2 v26 v27 v28 v29 v30 v31 v32 v33 v34 v35 v36 v37 v38 v39 v40 v41 v42 v43 h0 h26 h27 h28 h29 h30 h31 h32 h33 h34 h35 h36 h37 h38 h39 h40 h41 h42 h43 cc L1 cbb b1 ((ts, k, m, g), i1, nx) false 1 d' 1 (.inl rfl) (.inl rfl) hil (by simp only; omega) hLl hbl hbB
  simp only [StB] at main
  by_cases q1 : 30 < (L.length : Int)
  · have z1 := ltI_t q1
    have p1 : (30 : Int) ≤ L.length := by omega
    have p1' : 30 ≤ L.length := by omega
    by_cases q2 : 200 < (b.length : Int)
    · have z2 := ltI_t q2
      have p2 : (200 : Int) ≤ b.length := by omega
      have p2' : 200 ≤ b.length := by omega
      by_cases q3 : 45 < (ids.length : Int)
      · have z3 := ltI_t q3
        have p3 : (45 : Int) ≤ ids.length := by omega
        have p3' : 45 ≤ ids.length := by omega
        simp [c224, StD, hsh, z1, p1, p1', m1, z2, p2, p2', m2, z3, p3, p3', m3]
        exact main _ _ _ _ _ _ _ _ _ _ _ _ _ _ _ _ _ _ _ _ _ _ rfl rfl rfl rfl rfl rfl rfl rfl rfl rfl rfl (by simp [D.keys]) rfl rfl rfl (by simp [D.keys]) rfl rfl (by simp [D.keys])
      · have z3 := ltI_f q3
        obtain rfl : ids = i1 := by rw [← hi1, List.take_of_length_le (by omega)]
        simp [c224, StD, hsh, z1, p1, p1', m1, z2, p2, p2', m2, z3]
        exact main _ _ _ _ _ _ _ _ _ _ _ _ _ _ _ _ _ _ _ _ _ _ rfl rfl rfl rfl rfl rfl rfl rfl rfl rfl rfl (by simp [D.keys]) rfl rfl rfl (by simp [D.keys]) rfl rfl (by simp [D.keys])
    · have z2 := ltI_f q2
      obtain rfl : b = b1 := by rw [← hb1, List.take_of_length_le (by omega)]
      by_cases q3 : 45 < (ids.length : Int)
      · have z3 := ltI_t q3
        have p3 : (45 : Int) ≤ ids.length := by omega
        have p3' : 45 ≤ ids.length := by omega
        simp [c224, StD, hsh, z1, p1, p1', m1, z2, z3, p3, p3', m3]
        exact main _ _ _ _ _ _ _ _ _ _ _ _ _ _ _ _ _ _ _ _ _ _ rfl rfl rfl rfl rfl rfl rfl rfl rfl rfl rfl (by simp [D.keys]) rfl rfl rfl (by simp [D.keys]) rfl rfl (by simp [D.keys])
      · have z3 := ltI_f q3
        obtain rfl : ids = i1 := by rw [← hi1, List.take_of_length_le (by omega)]
        simp [c224, StD, hsh, z1, p1, p1', m1, z2, z3]
        exact main _ _ _ _ _ _ _ _ _ _ _ _ _ _ _ _ _ _ _ _ _ _ rfl rfl rfl rfl rfl rfl rfl rfl rfl rfl rfl (by simp [D.keys]) rfl rfl rfl (by simp [D.keys]) rfl rfl (by simp [D.keys])
  · have z1 := ltI_f q1
    obtain rfl : L = L1 := by rw [← hL1, List.take_of_length_le (by omega)]
    by_cases q2 : 200 < (b.length : Int)
    · have z2 := ltI_t q2
      have p2 : (200 : Int) ≤ b.length := by omega
      have p2' : 200 ≤ b.length := by omega
      by_cases q3 : 45 < (ids.length : Int)
      · have z3 := ltI_t q3
        have p3 : (45 : Int) ≤ ids.length := by omega
        have p3' : 45 ≤ ids.length := by omega
        simp [c224, StD, hsh, z1, z2, p2, p2', m2, z3, p3, p3', m3]
        exact main _ _ _ _ _ _ _ _ _ _ _ _ _ _ _ _ _ _ _ _ _ _ rfl rfl rfl rfl rfl rfl rfl rfl rfl rfl rfl (by simp [D.keys]) rfl rfl rfl (by simp [D.keys]) rfl rfl (by simp [D.keys])
      · have z3 := ltI_f q3
        obtain rfl : ids = i1 := by rw [← hi1, List.take_of_length_le (by omega)]
        simp [c224, StD, hsh, z1, z2, p2, p2', m2, z3]
        exact main _ _ _ _ _ _ _ _ _ _ _ _ _ _ _ _ _ _ _ _ _ _ rfl rfl rfl rfl rfl rfl rfl rfl rfl rfl rfl (by simp [D.keys]) rfl rfl rfl (by simp [D.keys]) rfl rfl (by simp [D.keys])
    · have z2 := ltI_f q2
      obtain rfl : b = b1 := by rw [← hb1, List.take_of_length_le (by omega)]
      by_cases q3 : 45 < (ids.length : Int)
      · have z3 := ltI_t q3
        have p3 : (45 : Int) ≤ ids.length := by omega
        have p3' : 45 ≤ ids.length := by omega
        simp [c224, StD, hsh, z1, z2, z3, p3, p3', m3]
        exact main _ _ _ _ _ _ _ _ _ _ _ _ _ _ _ _ _ _ _ _ _ _ rfl rfl rfl rfl rfl rfl rfl rfl rfl rfl rfl (by simp [D.keys]) rfl rfl rfl (by simp [D.keys]) rfl rfl (by simp [D.keys])
      · have z3 := ltI_f q3
        obtain rfl : ids = i1 := by rw [← hi1, List.take_of_length_le (by omega)]
        simp [c224, StD, hsh, z1, z2, z3]
        exact main _ _ _ _ _ _ _ _ _ _ _ _ _ _ _ _ _ _ _ _ _ _ rfl rfl rfl rfl rfl rfl rfl rfl rfl rfl rfl (by simp [D.keys]) rfl rfl rfl (by simp [D.keys]) rfl rfl (by simp [D.keys])
end Go.Ab
