/- A row of rows that grow (grain.Rows: out[i] = append(out[i], v)): what memory holds of it, and what a step turns. No function of the program in sight. -/
import Derived.WalkKit
import Derived.OwnWalk
import Derived.ArgAppend
import Derived.Below
import Derived.Laws.OwnMore
import Derived.Test.YtomomeabfnmncaaGreatWLast
import Derived.Test.YtomomeabfnmncaaGreatProg
import Derived.LoopTactic
import Derived.KernelRfl
set_option linter.all false
namespace Go.Proofs.Grd
/-- A fact that is kept from simp. -/
structure Aside0 (p : Prop) : Prop where mk ::
  out : p
open Go.RowKit

theorem weaken {w : World} {b b' e size : Nat} {v : Value} {n : Nat} {xs : List Value} (h : w.ownsRow b' e size v n xs) (hb : b ≤ b') : w.ownsRow b e size v n xs := by
  refine ⟨h.1, ?_⟩
  rcases h.2 with h1 | ⟨g, cap, cur, e1, e2, r⟩
  · exact .inl h1
  · exact .inr ⟨g, cap, cur, e1, Nat.le_trans hb e2, r⟩
theorem grown_any {w w' : World} (h : w.grownBy w' none) (r : Option Nat) : w.grownBy w' r := ⟨h.os, h.tape, h.output, h.size, fun k hk _ => h.block k hk (by simp)⟩

theorem append_run {P : Program} (w : World) (base t ty e : Nat) (i : TypeInfo) (z : Value) (size bytes : Nat) (ht : P.underlying t = some (.slice e)) (hi : P.info? e = some i) (hz : i.zero = some z)
    (hsize : i.size = size) (hby : i.bytes = bytes) (hzs : z.cells.size = size) (hsz : 0 < size) (v : Value) (n : Nat) (xs : List Value) (hown : w.ownsRow base e size v n xs) (hb : base ≤ w.heap.size)
    (a : Addr) (m c : Nat) (news : List Value) (hl : news.length = m * size) (hnews : ∀ j u, news[j]? = some u → w.cell? (a.add j) = some u) (h1 : ∀ u ∈ news, u.oneCell' = true)
    (h63 : n + m ≤ maxLen) (hbytes : (n + m) * bytes ≤ 140737488355328) :
    ∃ v' w', (Builtin.append_ #[t, t] ty #[v, .slice (some a) m c]).run P w = .ok v' w' ∧ w'.ownsRow base e size v' (n + m) (xs ++ news) ∧ w.grownBy w' v.ownBlock ∧
      ∀ k, v'.ownBlock = some k → v.ownBlock = some k ∨ w.heap.size ≤ k := by
  rcases hown.2 with ⟨rfl, rfl⟩ | ⟨g, cap, cur, rfl, hbg, hg, hnc, hcm, hcs, htake⟩
  · have hx : xs = [] := List.eq_nil_of_length_eq_zero (by simpa using hown.1)
    subst hx
    obtain ⟨v', w', e1, e2, e3, _⟩ := run_append_own (P := P) w w.heap.size t ty e i z size bytes ht hi hz hsize hby hzs hsz (.slice none 0 0) 0 [] (World.ownsRow_nil _ _ _ _) a m c news hl hnews h1 h63 hbytes (Nat.le_refl _)
    exact ⟨v', w', e1, weaken e2 hb, e3, fun k hk => .inr (e2.lt k hk).1⟩
  · by_cases hr : n + m ≤ cap
    · obtain ⟨w', e1, e2, e3⟩ := run_append_fits (P := P) w base t ty e i size ht hi hsize g n cap xs hown a m c news hl hnews h1 hr
      exact ⟨_, w', e1, e2, e3, fun k hk => .inl hk⟩
    · obtain ⟨v', w', e1, e2, e3⟩ := run_append_arg_grows (P := P) w t ty e i z size bytes ht hi hz hsize hby hzs hsz ⟨g, 0, none⟩ n cap xs hown.1 (hown.cells rfl) a m c news hl hnews (by omega) h63 hbytes
      exact ⟨v', w', e1, weaken e2 hb, grown_any e3 _, fun k hk => .inr (e2.lt k hk).1⟩

/-- An append to a row of one's own, as a step of a region that draws its order. -/
theorem append_step {P : Program} {ops : Array Oper} {o : Oper} {a : Act} {w : World} {K : Act → World → Prop} {Q : Exit → Act → World → Prop} {E : Prop}
    (hg : o.guard = none) (s x : Operand) (t : TypeId) (hop : o.op = Op.call { callee := Callee.builtin Builtin.append, args := #[s, x], argTypes := #[t, t] })
    (base e : Nat) (i : TypeInfo) (z : Value) (size bytes : Nat) (ht : P.underlying t = some (.slice e)) (hi : P.info? e = some i) (hz : i.zero = some z)
    (hsize : i.size = size) (hby : i.bytes = bytes) (hzs : z.cells.size = size) (hsz : 0 < size) (v : Value) (n : Nat) (xs : List Value) (hs : a.eval s = v) (hown : w.ownsRow base e size v n xs) (hb : base ≤ w.heap.size)
    (ad : Addr) (m c : Nat) (news : List Value) (hx : a.eval x = .slice (some ad) m c) (hl : news.length = m * size) (hnews : ∀ j u, news[j]? = some u → w.cell? (ad.add j) = some u) (h1 : ∀ u ∈ news, u.oneCell' = true)
    (h63 : n + m ≤ maxLen) (hbytes : (n + m) * bytes ≤ 140737488355328)
    (hK : ∀ v' w', w'.ownsRow base e size v' (n + m) (xs ++ news) → w.grownBy w' v.ownBlock → (∀ k, v'.ownBlock = some k → v.ownBlock = some k ∨ w.heap.size ≤ k) → K (a.put o.dst v') w') :
    if Region.wanted o (yielded ops a.tmps) = true then Oper.wp P o a w K Q else E := by
  have hw : Region.wanted o (yielded ops a.tmps) = true := by simp [Region.wanted, hg]
  rw [if_pos hw]
  obtain ⟨v', w', hrun, r1, r2, r3⟩ := append_run (P := P) w base t o.type e i z size bytes ht hi hz hsize hby hzs hsz v n xs hown hb ad m c news hl hnews h1 h63 hbytes
  unfold Oper.wp
  simp [execOp, hop, resolve, invoke, builtin, hs, hx, hrun, Result.andThen]
  exact hK v' w' r1 r2 r3

/-- Block g is a row of n slices, each of which owns a row of two cells an element. -/
def Grid (g er ev n : Nat) (m : Nat → Nat) (R : Nat → List Value) (w : World) : Prop :=
  ∃ c : Array Value, w.heap[g]? = some (.cells c er (0, 0)) ∧ c.size = n ∧ (∀ i, i < n → ∃ v, c[i]? = some v ∧ w.ownsRow (g + 1) ev 2 v (m i) (R i)) ∧
    ∀ (i j : Nat) (vi vj : Value) (k : Nat), c[i]? = some vi → c[j]? = some vj → vi.ownBlock = some k → vj.ownBlock = some k → i = j

theorem Grid.lt {g er ev n m R w} (h : Grid g er ev n m R w) : g < w.heap.size := by
  obtain ⟨c, h1, _⟩ := h
  exact (Array.getElem?_eq_some_iff.1 h1).1
theorem Grid.kept {g er ev n m R} {w w' : World} (h : Grid g er ev n m R w) (hg : w.grownBy w' none) : Grid g er ev n m R w' := by
  have hlt := h.lt
  obtain ⟨c, h1, h2, h3, h4⟩ := h
  refine ⟨c, (hg.block g hlt (by simp)).trans h1, h2, fun i hi => ?_, h4⟩
  obtain ⟨v, e1, e2⟩ := h3 i hi
  exact ⟨v, e1, e2.kept hg (by cases v.ownBlock <;> simp)⟩
theorem Grid.drew {g er ev n m R} {w : World} (h : Grid g er ev n m R w) : Grid g er ev n m R w.drew := h
theorem Grid.alloc {g er ev n m R} {w : World} (h : Grid g er ev n m R w) (o : Obj) : Grid g er ev n m R (w.alloc o) := h.kept (World.grownBy_alloc w o none)
/-- A store into a block of its own. -/
theorem Grid.far {g er ev n m R} {w : World} (h : Grid g er ev n m R w) {p : Addr} (hp : p.block ≠ g) (hr : ∀ i, i < n → ∀ v k, w.cell? ⟨g, i, none⟩ = some v → v.ownBlock = some k → p.block ≠ k) (u : Value) : Grid g er ev n m R (w.setCell p u) := by
  obtain ⟨c, h1, h2, h3, h4⟩ := h
  refine ⟨c, (Below.heap_setCell w p u g (fun e => hp e.symm)).trans h1, h2, fun i hi => ?_, h4⟩
  obtain ⟨v, e1, e2⟩ := h3 i hi
  refine ⟨v, e1, ⟨e2.1, ?_⟩⟩
  rcases e2.2 with hn | ⟨k, cap, cur, rfl, r1, r2, r3⟩
  · exact .inl hn
  · have := hr i hi _ k (by rw [cell_of_row w g i c er (0, 0) h1]; exact e1) rfl
    exact .inr ⟨k, cap, cur, rfl, r1, by rw [Below.heap_setCell w p u k (fun e => this e.symm)]; exact r2, r3⟩
theorem Grid.at {g er ev n m R} {w : World} (h : Grid g er ev n m R w) {i : Nat} (hi : i < n) : ∃ v, w.cell? ⟨g, i, none⟩ = some v ∧ w.frozen? ⟨g, i, none⟩ = false ∧ w.ownsRow (g + 1) ev 2 v (m i) (R i) := by
  obtain ⟨c, h1, h2, h3, h4⟩ := h
  obtain ⟨v, e1, e2⟩ := h3 i hi
  exact ⟨v, by rw [cell_of_row w g i c er (0, 0) h1]; exact e1, frozen_of_row w g i c er h1, e2⟩
/-- The step: row i has grown (from v to v'), and is stored. -/
theorem Grid.step {g er ev n m R} {w w' : World} (h : Grid g er ev n m R w) {i : Nat} (hi : i < n) {v v' : Value} (hv : w.cell? ⟨g, i, none⟩ = some v) {k : Nat} {xs : List Value} (ho : w'.ownsRow (g + 1) ev 2 v' k xs) (hg : w.grownBy w' v.ownBlock)
    (hf : ∀ k, v'.ownBlock = some k → v.ownBlock = some k ∨ w.heap.size ≤ k) {m' : Nat → Nat} {R' : Nat → List Value} (hm : ∀ j, j < n → m' j = if j = i then k else m j) (hR : ∀ j, j < n → R' j = if j = i then xs else R j) : Grid g er ev n m' R' (w'.setCell ⟨g, i, none⟩ v') := by
  have hlt := h.lt
  obtain ⟨c, h1, h2, h3, h4⟩ := h
  rw [cell_of_row w g i c er (0, 0) h1] at hv
  obtain ⟨v0, f1, f2⟩ := h3 i hi
  obtain rfl : v0 = v := by rw [f1] at hv; exact Option.some.inj hv
  have hgne : some g ≠ v0.ownBlock := fun e => by have := (f2.lt g e.symm).1; omega
  have hg' : w'.heap[g]? = some (.cells c er (0, 0)) := (hg.block g hlt hgne).trans h1
  refine ⟨c.setIfInBounds i v', heap_setCell_same w' g i c er v' hg', by simpa using h2, fun j hj => ?_, fun a b va vb k ha hb hka hkb => ?_⟩
  · by_cases hji : j = i
    · subst hji
      rw [hm j hj, hR j hj, if_pos rfl, if_pos rfl]
      exact ⟨v', by simp [h2, hi], ownsRow_setCell_below ho (by show g < g + 1; omega) _⟩
    · obtain ⟨vj, e1, e2⟩ := h3 j hj
      rw [hm j hj, hR j hj, if_neg hji, if_neg hji]
      refine ⟨vj, by rw [Array.getElem?_setIfInBounds_ne (fun e => hji e.symm)]; exact e1, ownsRow_setCell_below (e2.kept hg ?_) (by show g < g + 1; omega) _⟩
      cases hb : vj.ownBlock with
      | none => exact .inl rfl
      | some q => exact .inr (fun e => hji (h4 j i vj v0 q e1 f1 hb e.symm))
  · have ob : ∀ (j : Nat) (vj : Value) (q : Nat), c[j]? = some vj → vj.ownBlock = some q → q < w.heap.size := fun j vj q hj hq => by
      have hjn : j < n := by have := (Array.getElem?_eq_some_iff.1 hj).1; omega
      obtain ⟨vj', e1, e2⟩ := h3 j hjn
      rw [hj] at e1
      obtain rfl := Option.some.inj e1
      exact (e2.lt q hq).2
    have old : ∀ (j : Nat) (vj : Value), j ≠ i → c[j]? = some vj → vj.ownBlock = some k → v'.ownBlock = some k → False := fun j vj hji hj hq hq' => by
      rcases hf k hq' with h5 | h5
      · exact hji (h4 j i vj v0 k hj f1 hq h5)
      · have := ob j vj k hj hq
        omega
    by_cases hai : a = i
    · by_cases hbi : b = i
      · rw [hai, hbi]
      · subst hai
        rw [Array.getElem?_setIfInBounds_ne (fun e => hbi e.symm)] at hb
        simp only [Array.getElem?_setIfInBounds_self, h2, hi, if_true, Option.some.injEq] at ha
        subst ha
        exact (old b vb hbi hb hkb hka).elim
    · rw [Array.getElem?_setIfInBounds_ne (fun e => hai e.symm)] at ha
      by_cases hbi : b = i
      · subst hbi
        simp only [Array.getElem?_setIfInBounds_self, h2, hi, if_true, Option.some.injEq] at hb
        subst hb
        exact (old a va hai ha hka hkb).elim
      · rw [Array.getElem?_setIfInBounds_ne (fun e => hbi e.symm)] at hb
        exact h4 a b va vb k ha hb hka hkb
theorem Grid.congr {g er ev n m R m' R'} {w : World} (h : Grid g er ev n m R w) (hm : ∀ j, j < n → m' j = m j) (hR : ∀ j, j < n → R' j = R j) : Grid g er ev n m' R' w := by
  obtain ⟨c, h1, h2, h3, h4⟩ := h
  exact ⟨c, h1, h2, fun i hi => by rw [hm i hi, hR i hi]; exact h3 i hi, h4⟩
theorem Grid.made {g er ev n base : Nat} {w : World} (h : w.ownsRow base er 1 (.slice (some ⟨g, 0, none⟩) n n) n (List.replicate n (.slice none 0 0))) : Grid g er ev n (fun _ => 0) (fun _ => []) w := by
  rcases h.2 with ⟨h1, _⟩ | ⟨g', cap, cur, h1, hb, hg, _, _, hcs, ht⟩
  · cases h1
  · simp only [Value.slice.injEq, Option.some.injEq, Addr.mk.injEq, and_true, true_and] at h1
    obtain ⟨rfl, rfl⟩ := h1
    have hz : ∀ i, i < n → cur[i]? = some (.slice none 0 0) := fun i hi => by
      have : (cur.toList.take (n * 1))[i]? = some (.slice none 0 0) := by rw [ht]; simp [hi]
      rw [List.getElem?_take] at this
      split at this
      · simpa using this
      · cases this
    refine ⟨cur, hg, by omega, fun i hi => ⟨_, hz i hi, World.ownsRow_nil _ _ _ _⟩, fun i j vi vj k hi hj hk _ => ?_⟩
    have : i < n := by have := (Array.getElem?_eq_some_iff.1 hi).1; omega
    rw [hz i this] at hi
    obtain rfl := Option.some.inj hi
    cases hk
end Go.Proofs.Grd
/- grain.Rows walked by hand. -/
set_option linter.all false
namespace Go.Proofs.Rws
open Go.RowKit Go.Proofs.Grd Go.Proofs.YtomomeabfnmncaaGreatW.PrintLast

/-- What row i has got of m columns. -/
def cellsOf (X : Nat → Nat → Int) (Y : Nat → Nat → ByteArray) (i m : Nat) : List Value := ((List.range m).map fun k => [Value.int .i64 (X k i), Value.string (Y k i)]).flatten
theorem cellsOf_succ (X : Nat → Nat → Int) (Y : Nat → Nat → ByteArray) (i m : Nat) : cellsOf X Y i (m + 1) = cellsOf X Y i m ++ [Value.int .i64 (X m i), Value.string (Y m i)] := by simp [cellsOf, List.range_succ]
theorem form {w : World} {b e size : Nat} {v : Value} {n : Nat} {xs : List Value} (h : w.ownsRow b e size v n xs) (hn : n ≠ 0) : ∃ g cap, v = .slice (some ⟨g, 0, none⟩) n cap := by
  rcases h.2 with ⟨_, h1⟩ | ⟨g, cap, cur, h1, _⟩
  · exact absurd h1 hn
  · exact ⟨g, cap, h1⟩
theorem news2 {w : World} {b e : Nat} {x y : Value} (h : w.heap[b]? = some (.cells #[x, y] e (0, 0))) : ∀ j u, [x, y][j]? = some u → w.cell? ((⟨b, 0, none⟩ : Addr).add j) = some u := by
  intro j u hu
  rw [Addr.add_lit, Nat.zero_add, cell_of_row w b j #[x, y] e (0, 0) h]
  match j, hu with
  | 0, hu => simpa using hu
  | 1, hu => simpa using hu
theorem steps_m (i j k : Nat) : (if i < j + 1 then k + 1 else k) = if i = j then k + 1 else if i < j then k + 1 else k := by split <;> split <;> (try split) <;> omega
theorem cellsOf_zero (X : Nat → Nat → Int) (Y : Nat → Nat → ByteArray) (i : Nat) : cellsOf X Y i 0 = [] := rfl

set_option maxHeartbeats 4000000 in
set_option maxRecDepth 100000 in
theorem rows0 (a : Option Addr) (cap : Nat) (w : World) : Calls Tryz.prog 116 #[.slice a 0 cap] w fun e w' => e = .returned (.tuple #[.slice none 0 0, .bool false]) ∧ w' = w := by
  go_enter Tryz.func116, Tryz.ntmps116
  go_wp2
  go_ret2
  exact ⟨rfl, rfl⟩

set_option maxHeartbeats 4000000 in
set_option maxRecDepth 100000 in
theorem rows_calls (g cb co cap nC : Nat) (L : Nat → Nat) (X : Nat → Nat → Int) (Y : Nat → Nat → ByteArray) (w : World) (hgw : Aside0 (w.heap.size = g)) (hcb : cb < g) (hn : 0 < nC) (hN : nC ≤ 1048576) (hL : L 0 ≤ 1048576)
    (hcols : ∀ k, k < nC → ∃ av cv, w.cell? ⟨cb, co + k, none⟩ = some (.slice av (L k) cv) ∧ ∀ i, i < L k → ∃ b o, av = some ⟨b, o, none⟩ ∧ b < g ∧ w.cell? ⟨b, o + i * 2, none⟩ = some (.int .i64 (X k i)) ∧ w.cell? ⟨b, o + i * 2 + 1, none⟩ = some (.string (Y k i))) :
    Calls Tryz.prog 116 #[.slice (some ⟨cb, co, none⟩) nC cap] w fun e w' => Below g w w' ∧
      (((∃ k, k < nC ∧ L k ≠ L 0) ∧ e = .returned (.tuple #[.slice none 0 0, .bool false])) ∨
       ((∀ k, k < nC → L k = L 0) ∧ e = .returned (.tuple #[.slice (some ⟨g, 0, none⟩) (L 0) (L 0), .bool true]) ∧ Grid g 35 60 (L 0) (fun _ => nC) (fun i => cellsOf X Y i nC) w')) := by
  obtain ⟨av0, cv0, hc0, _⟩ := hcols 0 hn
  rw [Nat.add_zero] at hc0
  have HC := Aside0.mk hcols
  clear hcols
  have hmk := Aside0.mk (info_parts (P := Tryz.prog) (e := 35) (z := .slice none 0 0) (size := 1) (bytes := 24) (by kernel_rfl))
  have hmv := Aside0.mk (info_parts (P := Tryz.prog) (e := 60) (z := .agg #[.int .i64 0, .string ByteArray.empty]) (size := 2) (bytes := 24) (by kernel_rfl))
  go_enter Tryz.func116, Tryz.ntmps116
  obtain ⟨ei, hi1, hi2, hi3, hi4⟩ := hmk.out
  have HI := Aside0.mk (And.intro hi1 (And.intro hi2 (And.intro hi3 hi4)))
  obtain ⟨ev, hv1, hv2, hv3, hv4⟩ := hmv.out
  have HV := Aside0.mk (And.intro hv1 (And.intro hv2 (And.intro hv3 hv4)))
  clear hi1 hi2 hi3 hi4 hmk hv1 hv2 hv3 hv4 hmv
  go_wp2_with (first | (at_make; refine wpList_make_full w rfl (.tmp 15) (.tmp 15) 25 rfl w.heap.size 35 ei (.slice none 0 0) 1 Tryz.underlying25 HI.out.1 HI.out.2.1 HI.out.2.2.1 .i64 .i64 _ _ (L 0) rfl rfl rfl rfl (by rw [HI.out.2.2.2]; omega) (by simp only [maxLen]; omega) (Nat.le_refl _) ?_; intro w1 ho1 hg1; rw [hgw.out] at ho1 ⊢))
  have hG1 : Grid g 35 60 (L 0) (fun _ => 0) (fun _ => []) w1 := Grid.made (base := g) (by rw [show (Value.slice none 0 0).cells = #[Value.slice none 0 0] from rfl, toList_madeCells_one, Nat.mul_one] at ho1; exact ho1)
  have hB1 : Below g w w1 := (Below.refl _ w).grown hg1 (by rw [hgw.out]; exact Nat.le_refl _) (by simp)
  have h1 := Aside0.mk (And.intro hB1 hG1)
  clear hB1 hG1 ho1 hg1 hc0
  go_loopw [19] (fun v19 w' => ∃ k : Nat, k ≤ nC ∧ v19 = .int .i64 k ∧ Aside0 ((∀ q, q < k → L q = L 0) ∧ Below g w w' ∧ Grid g 35 60 (L 0) (fun _ => k) (fun i => cellsOf X Y i k) w')) (fun v19 _ => nC - (intOf v19).toNat)
  case atStart => exact ⟨0, Nat.zero_le _, rfl, fun q hq => absurd hq (Nat.not_lt_zero _), h1.out.1, h1.out.2⟩
  case round =>
    obtain ⟨k, hk, rfl, HX⟩ := hrel
    by_cases hlt : k < nC
    · obtain ⟨av, cv, hcell, hel⟩ := HC.out k hlt
      have hck : wr.cell? ⟨cb, co + k, none⟩ = some (.slice av (L k) cv) := (HX.out.2.1.cell (p := ⟨cb, co + k, none⟩) hcb).trans hcell
      have HE := Aside0.mk hel
      clear hcell hel
      by_cases heq : L k = L 0
      · rw [heq] at hck
        have HQ := Aside0.mk heq
        clear heq
        go_wp2_with fail
        go_loopw [30] (fun v30 w' => ∃ j : Nat, j ≤ L 0 ∧ v30 = .int .i64 j ∧ Aside0 (Below g w w' ∧ Grid g 35 60 (L 0) (fun i => if i < j then k + 1 else k) (fun i => cellsOf X Y i (if i < j then k + 1 else k)) w')) (fun v30 _ => L 0 - (intOf v30).toNat)
        case atStart => exact ⟨0, Nat.zero_le _, rfl, HX.out.2.1, HX.out.2.2.congr (fun j _ => by simp) (fun j _ => by simp)⟩
        case round =>
          obtain ⟨j, hj, rfl, HY⟩ := hrel
          by_cases hlj : j < L 0
          · obtain ⟨b, o, rfl, hb, hx, hy⟩ := HE.out j (by rw [HQ.out]; exact hlj)
            have hx' : wr.cell? ⟨b, o + j * 2, none⟩ = some (.int .i64 (X k j)) := (HY.out.1.cell (p := ⟨b, o + j * 2, none⟩) hb).trans hx
            have hy' : wr.cell? ⟨b, o + j * 2 + 1, none⟩ = some (.string (Y k j)) := (HY.out.1.cell (p := ⟨b, o + j * 2 + 1, none⟩) hb).trans hy
            clear hx hy
            obtain ⟨v, hcv0, hz0, ho0⟩ := HY.out.2.at hlj
            simp only [Nat.lt_irrefl, if_false] at ho0
            have hbne := Aside0.mk (show some wr.heap.size ≠ v.ownBlock from fun e => Nat.lt_irrefl _ (ho0.lt _ e.symm).2)
            have hgne := Aside0.mk (show some g ≠ v.ownBlock from fun e => Nat.lt_irrefl _ (ho0.lt _ e.symm).1)
            have hgl := Aside0.mk (Nat.le_of_lt HY.out.2.lt)
            have hB2 := Aside0.mk (HY.out.1.alloc hgl.out (.cells #[.int .i64 (X k j), .string (Y k j)] 60))
            have hG2 := Aside0.mk (HY.out.2.alloc (.cells #[.int .i64 (X k j), .string (Y k j)] 60))
            have ho2 := Aside0.mk (ho0.alloc (.cells #[.int .i64 (X k j), .string (Y k j)] 60))
            have hc2 := Aside0.mk ((World.grownBy_alloc wr (.cells #[.int .i64 (X k j), .string (Y k j)] 60) none).cell hcv0 (by simp))
            have hz2 := Aside0.mk ((World.frozen?_of_block (a := ⟨g, j, none⟩) ((World.grownBy_alloc wr (.cells #[.int .i64 (X k j), .string (Y k j)] 60) none).block g HY.out.2.lt (by simp))).trans hz0)
            have hn2 := Aside0.mk (heap_alloc_new wr (.cells #[.int .i64 (X k j), .string (Y k j)] 60))
            have hl2 := Aside0.mk (show g ≤ (wr.alloc (.cells #[.int .i64 (X k j), .string (Y k j)] 60)).heap.size from Nat.le_trans hgl.out (World.grownBy_alloc wr _ none).size)
            clear hcv0 hz0 ho0
            go_wp2_with fail
            generalize wr.alloc (.cells #[.int .i64 (X k j), .string (Y k j)] 60) = w2 at hB2 hG2 ho2 hc2 hz2 hn2 hl2 ⊢
            generalize wr.heap.size = bx at hbne hn2 ⊢
            have hB3 := Aside0.mk (show Below g w w2.drew from hB2.out.drew)
            have hG3 := Aside0.mk hG2.out.drew
            have ho3 := Aside0.mk ho2.out.drew
            have hz3 := Aside0.mk (show w2.drew.frozen? ⟨g, j, none⟩ = false from hz2.out)
            have hlt3 := Aside0.mk (show g ≤ w2.drew.heap.size from hl2.out)
            have hcv : w2.drew.cell? ⟨g, j, none⟩ = some v := hc2.out
            have hcx : w2.drew.cell? ⟨bx, 0, none⟩ = some (.int .i64 (X k j)) := cell_of_row w2 bx 0 _ _ (0, 0) hn2.out
            have hcy : w2.drew.cell? ⟨bx, 1, none⟩ = some (.string (Y k j)) := cell_of_row w2 bx 1 _ _ (0, 0) hn2.out
            have hX' := Aside0.mk (And.intro hx' hy')
            clear hB2 hG2 ho2 hz2 hc2 hn2 hl2 hx' hy'
            refine start_ (n := 11) (S := fun w' => w'.cell? ⟨g, j, none⟩ = some v ∧ w'.cell? ⟨bx, 0, none⟩ = some (.int .i64 (X k j)) ∧ w'.cell? ⟨bx, 1, none⟩ = some (.string (Y k j))) (ds := [10]) #[false, false, false, false, false, false, false, false, false, false, false] (by kernel_rfl) rfl rfl ⟨hcv, hcx, hcy⟩ (fun hHeld => ?_)
            generalize w2.drew = w3 at hB3 hG3 ho3 hz3 hlt3 hcv hcx hcy hHeld ⊢
            refine pure_ (i := 0) (N := some 35) (v := ?_) (a' := ?_) #[true, false, false, false, false, false, false, false, false, false, false] rfl rfl (by kernel_rfl) (fun _ _ _ h => h) (Or.inl ⟨by rfl, ?_⟩) ?_ ?_
            rotate_left
            · intro w'
              go_simp
              with_reducible rfl
            rotate_left
            · simp only [Act.put, List.setIfInBounds_toArray, List.set_cons_zero, List.set_cons_succ, i64_w, i32_w]
              rfl
            refine pure_ (i := 1) (N := some 36) (v := ?_) (a' := ?_) #[true, true, false, false, false, false, false, false, false, false, false] rfl rfl (by kernel_rfl) (fun _ _ _ h => h) (Or.inl ⟨by rfl, ?_⟩) ?_ ?_
            rotate_left
            · intro w'
              go_simp
              with_reducible rfl
            rotate_left
            · simp only [Act.put, List.setIfInBounds_toArray, List.set_cons_zero, List.set_cons_succ, i64_w, i32_w]
              rfl
            refine pure_ (i := 2) (N := some 37) (v := ?_) (a' := ?_) #[true, true, true, false, false, false, false, false, false, false, false] rfl rfl (by kernel_rfl) (fun _ _ _ h => h) (Or.inl ⟨by rfl, ?_⟩) ?_ ?_
            rotate_left
            · intro w'
              go_simp
              with_reducible rfl
            rotate_left
            · simp only [Act.put, List.setIfInBounds_toArray, List.set_cons_zero, List.set_cons_succ, i64_w, i32_w]
              rfl
            refine pure_ (i := 3) (N := some 38) (v := ?_) (a' := ?_) #[true, true, true, true, false, false, false, false, false, false, false] rfl rfl (by kernel_rfl) (fun _ _ _ h => h) (Or.inl ⟨by rfl, ?_⟩) ?_ ?_
            rotate_left
            · intro w'
              go_simp
              with_reducible rfl
            rotate_left
            · simp only [Act.put, List.setIfInBounds_toArray, List.set_cons_zero, List.set_cons_succ, i64_w, i32_w]
              rfl
            refine pure_ (i := 4) (N := some 39) (v := ?_) (a' := ?_) #[true, true, true, true, true, false, false, false, false, false, false] rfl rfl (by kernel_rfl) (fun _ _ _ h => h) (Or.inl ⟨by rfl, ?_⟩) ?_ ?_
            rotate_left
            · intro w'
              go_simp
              with_reducible rfl
            rotate_left
            · simp only [Act.put, List.setIfInBounds_toArray, List.set_cons_zero, List.set_cons_succ, i64_w, i32_w]
              rfl
            refine take_ (i := 5) (N := some 40) (v := ?_) (a' := ?_) #[true, true, true, true, true, true, false, false, false, false, false] rfl rfl (by kernel_rfl) (fun _ _ _ h => h) (Or.inl ⟨by rfl, ?_⟩) hHeld ?_ ?_
            rotate_left
            · rintro w' ⟨s0, s1, s2⟩
              go_simp
              with_reducible rfl
            rotate_left
            · simp only [Act.put, List.setIfInBounds_toArray, List.set_cons_zero, List.set_cons_succ, i64_w, i32_w]
              rfl
            refine take_ (i := 6) (N := some 41) (v := ?_) (a' := ?_) #[true, true, true, true, true, true, true, false, false, false, false] rfl rfl (by kernel_rfl) (fun _ _ _ h => h) (Or.inl ⟨by rfl, ?_⟩) hHeld ?_ ?_
            rotate_left
            · rintro w' ⟨s0, s1, s2⟩
              go_simp
              with_reducible rfl
            rotate_left
            · simp only [Act.put, List.setIfInBounds_toArray, List.set_cons_zero, List.set_cons_succ, i64_w, i32_w]
              rfl
            refine one_ (i := 7) (N := some 42) #[true, true, true, true, true, true, true, true, false, false, false] rfl rfl (by kernel_rfl) (by decide) (fun K hK => ?_)
            refine value_ (w1 := ?_) (v := ?_) (by rfl) rfl ?_ ?_
            rotate_left 2
            · go_simp
              constructor
              · rfl
              · rfl
            have hga := World.grownBy_alloc w3 (.cells #[.int .i64 (X k j), .string (Y k j)] 60) none
            have hnew := Aside0.mk (heap_alloc_new w3 (.cells #[.int .i64 (X k j), .string (Y k j)] 60))
            have hc7 : Aside0 ((w3.alloc (.cells #[.int .i64 (X k j), .string (Y k j)] 60)).cell? ⟨g, j, none⟩ = some v ∧ (w3.alloc (.cells #[.int .i64 (X k j), .string (Y k j)] 60)).cell? ⟨bx, 0, none⟩ = some (.int .i64 (X k j)) ∧ (w3.alloc (.cells #[.int .i64 (X k j), .string (Y k j)] 60)).cell? ⟨bx, 1, none⟩ = some (.string (Y k j))) := ⟨hga.cell hHeld.1 (by simp), hga.cell hHeld.2.1 (by simp), hga.cell hHeld.2.2 (by simp)⟩
            have hB4 := Aside0.mk (hB3.out.alloc hlt3.out (.cells #[.int .i64 (X k j), .string (Y k j)] 60))
            have hG4 := Aside0.mk (hG3.out.alloc (.cells #[.int .i64 (X k j), .string (Y k j)] 60))
            have ho4 := Aside0.mk (ho3.out.alloc (.cells #[.int .i64 (X k j), .string (Y k j)] 60))
            have hz4 := Aside0.mk ((World.frozen?_of_block (a := ⟨g, j, none⟩) (hga.block g (Nat.lt_of_lt_of_le hG3.out.lt (Nat.le_refl _)) (by simp))).trans hz3.out)
            have hs4 := Aside0.mk (show g + 1 ≤ (w3.alloc (.cells #[.int .i64 (X k j), .string (Y k j)] 60)).heap.size from Nat.le_trans hG3.out.lt hga.size)
            clear hga
            generalize w3.alloc (.cells #[.int .i64 (X k j), .string (Y k j)] 60) = w4 at hnew hc7 hB4 hG4 ho4 hz4 hs4 ⊢
            generalize w3.heap.size = b4 at hnew ⊢
            refine hK.out _ _ ⟨hc7.out.1, hc7.out.2.1, hc7.out.2.2⟩ (fun hHeld => ?_)
            clear hK K
            refine norm_ (a' := ?_) ?_ ?_
            rotate_left
            · show Act.put _ (some 42) _ = _
              simp only [Act.put, List.setIfInBounds_toArray, List.set_cons_zero, List.set_cons_succ, i64_w, i32_w]
              rfl
            refine one_ (i := 8) (N := some 43) #[true, true, true, true, true, true, true, true, true, false, false] rfl rfl (by kernel_rfl) (by decide) (fun K hK => ?_)
            refine append_step rfl (.tmp 40) (.tmp 42) 35 rfl (g + 1) 60 ev (.agg #[.int .i64 0, .string ByteArray.empty]) 2 24 Tryz.underlying35 HV.out.1 HV.out.2.1 HV.out.2.2.1 HV.out.2.2.2 rfl (by decide) v _ _ rfl ho4.out hs4.out ⟨b4, 0, none⟩ 1 1 [.int .i64 (X k j), .string (Y k j)] rfl rfl (news2 hnew.out) (by intro u hu; simp at hu; rcases hu with rfl | rfl <;> rfl) (by simp only [maxLen]; omega) (by omega) ?_
            intro v5 w5 ho5 hg5 hf5
            have hc5 : w5.cell? ⟨g, j, none⟩ = some v := hg5.cell hc7.out.1 hgne.out
            have hz5 : w5.frozen? ⟨g, j, none⟩ = false := (World.frozen?_of_block (a := ⟨g, j, none⟩) (hg5.block g hG4.out.lt hgne.out)).trans hz4.out
            have hx5 := hg5.cell hc7.out.2.1 hbne.out
            have hy5 := hg5.cell hc7.out.2.2 hbne.out
            obtain ⟨g5, cap5, rfl⟩ := form ho5 (Nat.succ_ne_zero _)
            have h5 := Aside0.mk (And.intro ho5 (And.intro hg5 hf5))
            clear ho5 hg5 hf5
            refine hK.out _ _ ⟨hc5, hx5, hy5⟩ (fun hHeld => ?_)
            clear hK K
            refine norm_ (a' := ?_) ?_ ?_
            rotate_left
            · show Act.put _ (some 43) _ = _
              simp only [Act.put, List.setIfInBounds_toArray, List.set_cons_zero, List.set_cons_succ, i64_w, i32_w]
              rfl
            refine pure_ (i := 9) (N := some 44) (v := ?_) (a' := ?_) #[true, true, true, true, true, true, true, true, true, true, false] rfl rfl (by kernel_rfl) (fun _ _ _ h => h) (Or.inl ⟨by rfl, ?_⟩) ?_ ?_
            rotate_left
            · intro w'
              go_simp
              with_reducible rfl
            rotate_left
            · simp only [Act.put, List.setIfInBounds_toArray, List.set_cons_zero, List.set_cons_succ, i64_w, i32_w]
              rfl
            refine last_ (i := 10) (N := none) #[true, true, true, true, true, true, true, true, true, true, true] rfl rfl (by kernel_rfl) (by decide) (fun K hK => ?_)
            refine skip_ (w1 := ?_) (by rfl) rfl ?_ ?_
            rotate_left
            · go_simp
              rfl
            refine hK.out _ _ ?_
            clear hK K
            refine done_ (by kernel_rfl) ?_
            go_wp2
            go_roundw
            case rel => exact ⟨j + 1, by omega, by simp, (hB4.out.grown h5.out.2.1 (Nat.le_of_lt hs4.out) (fun q hq => Nat.le_of_lt (ho4.out.lt q hq).1)).setCell (Nat.le_refl g) _, hG4.out.step hlj hc7.out.1 h5.out.1 h5.out.2.1 h5.out.2.2 (fun i _ => steps_m i j k) (fun i _ => by rw [steps_m i j k]; by_cases h : i = j <;> simp [h, cellsOf_succ])⟩
            case measure => simp [intOf]; omega
          · obtain rfl : j = L 0 := by omega
            clear hlj
            go_wp2_with fail
            refine ⟨⟨k + 1, by omega, by simp, ⟨fun q hq => ?_, HY.out.1, HY.out.2.congr (fun i hi => by simp [hi]) (fun i hi => by simp [hi])⟩⟩, by simp [intOf]; omega⟩
            by_cases hqk : q = k
            · rw [hqk]; exact HQ.out
            · exact HX.out.1 q (by omega)
      · have heq' : ((L k : Int) == (L 0 : Int)) = false := by simpa using fun e => heq (by omega)
        go_wp2
        go_ret2
        exact ⟨HX.out.2.1, .inl ⟨⟨k, hlt, heq⟩, rfl⟩⟩
    · obtain rfl : k = nC := by omega
      clear hlt
      go_wp2
      go_ret2
      exact ⟨HX.out.2.1, .inr ⟨HX.out.1, rfl, HX.out.2.2⟩⟩
end Go.Proofs.Rws
