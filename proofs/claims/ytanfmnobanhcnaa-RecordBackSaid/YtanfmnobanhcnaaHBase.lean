import Derived.Test.YtanfmnobanhcnaaWWords
import Derived.Test.YtanfmnobanhcnaaWLast
import Derived.Test.YtanfmnobanhcnaaWMore
import Derived.Lib.SlBytesConst
set_option linter.unusedVariables false
set_option linter.unusedSimpArgs false
namespace Go.Proofs.YtanfmnobanhcnaaH
open Go.RowKit Go.Proofs.YtanfmnobanhcnaaW.PrintWords Go.Proofs.YtanfmnobanhcnaaW.PrintLast Go.Proofs.YtanfmnobanhcnaaW.PrintMore

theorem cell_blk {W : World} {g : Nat} {C : Array Value} {e : TypeId} {fz : Nat × Nat} (hb : W.heap[g]? = some (.cells C e fz)) (i : Nat) : W.cell? ⟨g, i, none⟩ = C[i]? := by
  unfold World.cell?
  simp only [hb]
  exact if_neg (by simp)
theorem heap_alloc (w : World) (o : Obj) : (w.alloc o).heap[w.heap.size]? = some o := by
  show (w.heap.push _)[w.heap.size]? = _
  simp
/-- A block of numbers reads as they are. -/
theorem C_blk (k : IntKind) {W : World} {g : Nat} {e : TypeId} {fz : Nat × Nat} {C : Array Value} (hb : W.heap[g]? = some (.cells C e fz)) (xs : List Int) (n : Nat) (hn : n = xs.length) (hC : C = (xs.map (Value.int k)).toArray) (hl : xs.length ≤ 9223372036854775807) :
    Kd.C (Kd.int k) W (some ⟨g, 0, none⟩) n xs := by
  subst hn
  refine ⟨rfl, hl, fun _ => ⟨_, rfl, fun j p hj => ⟨[.int k p], rfl, rfl, fun i u hu => ?_⟩⟩⟩
  have hi : i = 0 := by
    rcases Nat.eq_zero_or_pos i with h | h
    · exact h
    · rw [List.getElem?_eq_none (by simp; omega)] at hu
      cases hu
  subst hi
  have hu' : u = .int k p := by simpa using hu.symm
  subst hu'
  have hz : (Kd.int k).sz = 1 := rfl
  rw [hz, Nat.mul_one, Nat.add_zero]
  have ha : Addr.add ⟨g, 0, none⟩ j = ⟨g, j, none⟩ := by
    unfold Addr.add
    by_cases h0 : j = 0
    · subst h0; rfl
    · simp [h0]
  rw [ha, cell_blk hb, hC]
  simp [hj]
theorem C_lit (k : IntKind) (w : World) (e : Nat) (fz : Nat × Nat) (xs : List Int) (C : Array Value) (n : Nat) (hn : n = xs.length) (hC : C = (xs.map (Value.int k)).toArray) (hl : xs.length ≤ 9223372036854775807) :
    Kd.C (Kd.int k) (w.alloc (.cells C e fz)) (some ⟨w.heap.size, 0, none⟩) n xs := C_blk k (heap_alloc w _) xs n hn hC hl
/-- The same, and it stays so as long as that block stays. -/
theorem V_lit (k : IntKind) (w : World) (base e t : Nat) (fz : Nat × Nat) (xs : List Int) (C : Array Value) (n : Nat) (hn : n = xs.length) (hC : C = (xs.map (Value.int k)).toArray) (hl : xs.length ≤ 9223372036854775807) :
    Kd.V (Kd.int k) e (w.alloc (.cells C t fz)) base (fun k_ => w.heap.size ≤ k_) (.slice (some ⟨w.heap.size, 0, none⟩) n n) xs := by
  subst hn
  refine Kd.V_mk (Nat.le_refl _) (fun W' hW => ?_)
  have hb := (hW w.heap.size (Nat.le_refl _) (by show w.heap.size < (w.heap.push _).size; simp)).trans (heap_alloc w _)
  exact C_blk k hb xs _ rfl hC hl

theorem below_alloc1 (w : World) (o : Obj) : Below w.heap.size w (w.alloc o) := (Below.refl _ _).alloc (Nat.le_refl _) _

theorem V_string {P : Program} {w : World} {src dst e : TypeId} {e0 base : Nat} {ok : Nat → Prop} {v : Value} {xs : List Int} (hs : P.underlying src = some (.slice e)) (he : P.underlying e = some (.int .u8)) (hd : P.underlying dst = some .string)
    (h : Kd.V (Kd.int .u8) e0 w base ok v xs) : (convert src dst v).run P w = .ok (.string (strOfNums xs)) w := by
  obtain ⟨A, c, rfl, _, hf⟩ := h
  exact Kd.C_string hs he hd (Kd.F_now hf)
/-- An own row of bytes, whatever it is kept apart from. -/
def ownB (w : World) (base e : Nat) (v : Value) (xs : List Int) : Prop := ∃ ok, Kd.R (Kd.int .u8) e w base ok v xs
theorem ownB_string {P : Program} {w : World} {base e0 : Nat} {src dst e : TypeId} {v : Value} {xs : List Int} (hs : P.underlying src = some (.slice e)) (he : P.underlying e = some (.int .u8)) (hd : P.underlying dst = some .string)
    (h : ownB w base e0 v xs) : (convert src dst v).run P w = .ok (.string (strOfNums xs)) w := by
  obtain ⟨ok, h⟩ := h
  exact own_string hs he hd (Kd.own_of_R h)
/-- A row in a row of rows. -/
theorem at_row {α : Type} {d : Kd α} {e : Nat} {w : World} {A : Option Addr} {n : Nat} {xs : List (List α)} (h : Kd.C (Kd.slice e d) w A n xs) (k : Nat) (hk : k < xs.length) :
    ∃ ad A0 c0, A = some ad ∧ w.cell? (ad.add k) = some (.slice A0 xs[k].length c0) ∧ xs[k].length ≤ c0 ∧ d.C w A0 xs[k].length xs[k] := by
  obtain ⟨ad, c, eA, _, hK, hc0⟩ := Kd.C_get h ([] : List α) (k : Int) (by omega) (by have := h.1; omega)
  obtain ⟨A0, c0, rfl, l0, g0⟩ := hK
  have hx : xs.getD (k : Int).toNat [] = xs[k] := by simp [hk]
  rw [hx] at l0 g0 hc0
  refine ⟨ad, A0, c0, eA, ?_, l0, g0⟩
  have hq := hc0 0 _ rfl
  have hz : (Kd.slice e d).sz = 1 := rfl
  rw [hz, Nat.mul_one, Nat.add_zero, Int.toNat_natCast] at hq
  exact hq
theorem flat_take_le {α : Type} (l : List (List α)) (k : Nat) : (l.take k).flatten.length ≤ l.flatten.length := by
  conv => rhs; rw [← List.take_append_drop k l]
  rw [List.flatten_append, List.length_append]
  omega
theorem flat_take_succ {α : Type} (l : List (List α)) (k : Nat) (h : k < l.length) : (l.take (k + 1)).flatten = (l.take k).flatten ++ l[k] := by
  rw [List.take_succ_eq_append_getElem h, List.flatten_append]
  simp
/-- How long the first k rows are together. -/
def flen {α : Type} (l : List (List α)) (k : Nat) : Nat := (l.take k).flatten.length
theorem flen_le {α : Type} (l : List (List α)) (k : Nat) : flen l k ≤ l.flatten.length := flat_take_le l k
theorem flen_zero {α : Type} (l : List (List α)) : flen l 0 = 0 := rfl
theorem flen_succ {α : Type} (l : List (List α)) (k : Nat) (h : k < l.length) : flen l (k + 1) = flen l k + l[k].length := by
  unfold flen
  rw [flat_take_succ l k h, List.length_append]
theorem flen_all {α : Type} (l : List (List α)) : flen l l.length = l.flatten.length := by
  unfold flen
  rw [List.take_length]
/-- A number's eight bytes. -/
def le8 (x : Int) : List Int := (List.range 8).map fun i => x / 2 ^ (8 * i) % 256
theorem drawn_trans {w w1 w2 : World} (h : Drawn0 w w1) (k : Drawn0 w1 w2) : Drawn0 w w2 := by
  obtain ⟨⟨n, rfl⟩⟩ := k
  exact h.step n
section
open Go.RowKit
variable {P : Program} {ops : Array Oper} {Q : Exit → Act → World → Prop}
/-- A call of a function value that names a function, in a plain region. -/
theorem gate_calleeT {rest : List Oper} {o : Oper} {a : Act} {W : World} {t : Tmp} {as : Array Operand} {ts : Array TypeId} (_ho : o.op = .call { callee := .value (.tmp t), args := as, argTypes := ts }) (h : wpList P ops Q (o :: rest) a W) : wpList P ops Q (o :: rest) a W := h
theorem goesLT_ {rest : List Oper} {oi : Oper} {a : Act} {w : World} (t : Tmp) (N : Option Tmp) (hd : oi.dst = N) (hg : oi.guard = none) {f : FuncId} {fn : Func} {as : Array Operand} {ts : Array TypeId} (hf : P.funcs[f]? = some fn) (hname : (fn.name == "runtime.NumGoroutine") = false) (hb : fn.body.isSome = true) (args : Array Value)
    (hop : oi.op = .call { callee := .value (.tmp t), args := as, argTypes := ts }) (ht : a.eval (.tmp t) = .func (.func f) #[] #[]) (hargs : as.map a.eval = args)
    (h : Calls P f args w fun e w' => ∃ v, e = .returned v ∧ wpList P ops Q rest (a.put N v) w') : wpList P ops Q (oi :: rest) a w := by
  refine wpList_plain hg fun K hK => ?_
  have he := enters_ hf hname hb args w
  have hrun : (execOp a.eval oi).run P w = .ok (.enter f args) w := by
    unfold execOp
    simp [hop, resolve, Deferred.ofValue, invoke, ht, hargs, he]
  unfold Oper.wp
  rw [hrun, Oper.upon_enter]
  refine h.mono fun e w'' hh => ?_
  obtain ⟨v, rfl, hk⟩ := hh
  subst hd
  exact hK _ _ hk
end
/-- What a call on the state at block g (its row: 'row') has turned. -/
structure Mut (g : Nat) (row : Option Nat) (w w' : World) : Prop where
  os : w'.os = w.os
  tape : w'.tape = w.tape
  output : w'.output = w.output
  keep : KeepBut w w' g row
theorem Mut.refl (g : Nat) (row : Option Nat) (w : World) : Mut g row w w := ⟨rfl, rfl, rfl, KeepBut.refl _ _ _⟩
theorem Mut.below_ {g : Nat} {row : Option Nat} {w w1 w2 : World} (h : Mut g row w w1) (k : Below w1.heap.size w1 w2) : Mut g row w w2 :=
  ⟨k.os.trans h.os, k.tape.trans h.tape, k.output.trans h.output, h.keep.trans (KeepBut.of_below k g row) (.inl rfl)⟩
theorem Mut.grown_ {g : Nat} {row row1 : Option Nat} {w w1 w2 : World} (h : Mut g row w w1) (k : w1.grownBy w2 row1) (hr : row1 = row ∨ ∃ b, row1 = some b ∧ w.heap.size ≤ b) : Mut g row w w2 :=
  ⟨k.os.trans h.os, k.tape.trans h.tape, k.output.trans h.output, h.keep.trans (KeepBut.of_grown k g) hr⟩
theorem Mut.set_ {g : Nat} {row : Option Nat} {w w1 : World} (h : Mut g row w w1) (j : Nat) (u : Value) : Mut g row w (w1.setCell ⟨g, j, none⟩ u) :=
  ⟨h.os, h.tape, h.output, h.keep.set_ j u⟩
theorem Mut.new_ {g : Nat} {row : Option Nat} {w w1 : World} (h : Mut g row w w1) {gb : Nat} (hg : w.heap.size ≤ gb) (j : Nat) (u : Value) : Mut g row w (w1.setCell ⟨gb, j, none⟩ u) :=
  ⟨h.os, h.tape, h.output, ⟨by simpa [World.setCell] using h.keep.1, fun i hi hn hr => (Below.heap_setCell w1 ⟨gb, j, none⟩ u i (by show i ≠ gb; omega)).trans (h.keep.2 i hi hn hr)⟩⟩
theorem Mut.new4 {g : Nat} {row : Option Nat} {w w1 : World} (h : Mut g row w w1) {gb : Nat} (hg : w.heap.size ≤ gb) (a b c d : Value) :
    Mut g row w ((((w1.setCell ⟨gb, 0, none⟩ a).setCell ⟨gb, 1, none⟩ b).setCell ⟨gb, 2, none⟩ c).setCell ⟨gb, 3, none⟩ d) := (((h.new_ hg 0 a).new_ hg 1 b).new_ hg 2 c).new_ hg 3 d
theorem Mut.trans_ {g : Nat} {row row1 : Option Nat} {w w1 w2 : World} (h : Mut g row w w1) (k : Mut g row1 w1 w2) (hr : row1 = row ∨ ∃ b, row1 = some b ∧ w.heap.size ≤ b) : Mut g row w w2 :=
  ⟨k.os.trans h.os, k.tape.trans h.tape, k.output.trans h.output, h.keep.trans k.keep hr⟩
theorem Mut.under {g : Nat} {row : Option Nat} {w0 w w1 : World} {base : Nat} (h : Mut g row w w1) (hb : Below base w0 w) (hw : base ≤ w.heap.size) (hg : base ≤ g) (hr : ∀ k, row = some k → base ≤ k) : Below base w0 w1 :=
  ⟨h.os.trans hb.os, h.tape.trans hb.tape, h.output.trans hb.output, Nat.le_trans hb.size h.keep.1, fun k hk =>
    (h.keep.2 k (Nat.lt_of_lt_of_le hk hw) (by omega) (fun e => by have := hr k e.symm; omega)).trans (hb.block k hk)⟩
theorem Mut.R {α : Type} {d : Kd α} {e : Nat} {g : Nat} {row : Option Nat} {w w1 : World} {base : Nat} {ok : Nat → Prop} {v : Value} {xs : List α} (h : Mut g row w w1) (hr : d.R e w base ok v xs) (hok : ∀ k, ok k → k ≠ g ∧ some k ≠ row) : d.R e w1 base ok v xs :=
  Kd.R_step hr (fun k ho hlt => h.keep.2 k hlt (hok k ho).1 (hok k ho).2)
theorem Mut.blk {g g' : Nat} {row : Option Nat} {w w1 : World} {o : Obj} (h : Mut g row w w1) (hb : w.heap[g']? = some o) (hg : g' ≠ g) (hr : some g' ≠ row) : w1.heap[g']? = some o := h.keep.blk hb hg hr
/-- A new row of whole numbers. -/
theorem R_lits (k : IntKind) (W : World) (base e : Nat) (ok : Nat → Prop) (xs : List Int) (hb : base ≤ W.heap.size) (hok : ok W.heap.size) (hm : xs.length ≤ 9223372036854775807) :
    Kd.R (Kd.int k) e (W.alloc (.cells (xs.map (Value.int k)).toArray e)) base ok (.slice (some ⟨W.heap.size, 0, none⟩) xs.length xs.length) xs := by
  refine ⟨fun j hj => ?_, OwnRow.lit W base (Kd.reps_scalar xs) hb hm⟩
  have : W.heap.size = j := by simpa [Value.ownBlock] using hj
  exact this ▸ hok
theorem cellv {w : World} {g : Nat} {t : TypeId} {cs : Array Value} (h : w.heap[g]? = some (.cells cs t (0, 0))) (i : Nat) (v : Value) (hv : cs[i]? = some v) : w.cell? ⟨g, i, none⟩ = some v := (blk_cell h i).trans hv
/-- A row's block is none of another type. -/
theorem R_ne {α : Type} {d : Kd α} {e : Nat} {w : World} {base : Nat} {ok : Nat → Prop} {v : Value} {xs : List α} {g t : Nat} {cs : Array Value} (h : d.R e w base ok v xs) (hg : w.heap[g]? = some (.cells cs t (0, 0))) (ht : e ≠ t) : some g ≠ v.ownBlock := fun he => by
  obtain ⟨cs2, hc⟩ := Kd.R_typed h _ he.symm
  rw [hg] at hc
  injection hc with hc
  injection hc with _ hc
  exact ht hc.symm
theorem C_nil {α : Type} (d : Kd α) (w : World) : d.C w none 0 ([] : List α) := ⟨rfl, by omega, fun h => absurd h (by omega)⟩
/-- A struct of four cells, stored. -/
theorem set4 {w : World} {g t : Nat} {a b c d : Value} (h : w.heap[g]? = some (.cells #[a, b, c, d] t (0, 0))) (a' b' c' d' : Value) :
    ((((w.setCell ⟨g, 0, none⟩ a').setCell ⟨g, 1, none⟩ b').setCell ⟨g, 2, none⟩ c').setCell ⟨g, 3, none⟩ d').heap[g]? = some (.cells #[a', b', c', d'] t (0, 0)) :=
  blk_set (blk_set (blk_set (blk_set h 0 a') 1 b') 2 c') 3 d'
theorem below4 {w W : World} {g : Nat} (h : Below w.heap.size w W) (hg : w.heap.size ≤ g) (a b c d : Value) :
    Below w.heap.size w ((((W.setCell ⟨g, 0, none⟩ a).setCell ⟨g, 1, none⟩ b).setCell ⟨g, 2, none⟩ c).setCell ⟨g, 3, none⟩ d) :=
  below_set (below_set (below_set (below_set h hg) hg) hg) hg
theorem far4 {w : World} {g t : Nat} {cs : Array Value} (h : w.heap[g]? = some (.cells cs t (0, 0))) {gb : Nat} (hp : g ≠ gb) (a b c d : Value) :
    ((((w.setCell ⟨gb, 0, none⟩ a).setCell ⟨gb, 1, none⟩ b).setCell ⟨gb, 2, none⟩ c).setCell ⟨gb, 3, none⟩ d).heap[g]? = some (.cells cs t (0, 0)) :=
  blk_far (p := ⟨gb, 3, none⟩) (blk_far (p := ⟨gb, 2, none⟩) (blk_far (p := ⟨gb, 1, none⟩) (blk_far (p := ⟨gb, 0, none⟩) h hp a) hp b) hp c) hp d
theorem Vfar4 {α : Type} {d : Kd α} {e : Nat} {w : World} {base : Nat} {ok : Nat → Prop} {v : Value} {xs : List α} (h : Kd.V d e w base ok v xs) {gb : Nat} (hok : ∀ k, ok k → k ≠ gb) (u0 u1 u2 u3 : Value) :
    Kd.V d e ((((w.setCell ⟨gb, 0, none⟩ u0).setCell ⟨gb, 1, none⟩ u1).setCell ⟨gb, 2, none⟩ u2).setCell ⟨gb, 3, none⟩ u3) base ok v xs :=
  Kd.V_far (p := ⟨gb, 3, none⟩) (Kd.V_far (p := ⟨gb, 2, none⟩) (Kd.V_far (p := ⟨gb, 1, none⟩) (Kd.V_far (p := ⟨gb, 0, none⟩) h hok u0) hok u1) hok u2) hok u3
/-- Where the first one of some kind stands, from k on; -1: nowhere. -/
def idxFrom {α : Type} (p : α → Bool) (k : Nat) : List α → Int
  | [] => -1
  | x :: r => if p x = true then (k : Int) else idxFrom p (k + 1) r
def idx {α : Type} (p : α → Bool) (l : List α) : Int := idxFrom p 0 l
theorem idxFrom_any' {α : Type} (p : α → Bool) : ∀ (l : List α) (k : Nat), 0 ≤ idxFrom p k l ↔ l.any p = true
  | [], k => by simp [idxFrom]
  | x :: r, k => by
    have ih := idxFrom_any' p r (k + 1)
    rw [List.any_cons]
    unfold idxFrom
    by_cases h : p x = true
    · rw [if_pos h, h]
      simp
    · rw [if_neg h, ih]
      simp [h]
theorem idxFrom_any {α : Type} (p : α → Bool) (l : List α) (k : Nat) : decide (0 ≤ idxFrom p k l) = l.any p := by
  rw [Bool.eq_iff_iff, decide_eq_true_iff]
  exact idxFrom_any' p l k
theorem idx_any {α : Type} (p : α → Bool) (l : List α) : decide (0 ≤ idx p l) = l.any p := idxFrom_any p l 0
/-- Whether one of them is, by a function that may be none. -/
def anyO {α : Type} (f : α → Option Bool) (l : List α) : Option Bool := if l.all (fun x => (f x).isSome) = true then some (l.any fun x => (f x).getD false) else none
theorem anyO_some {α : Type} {f : α → Option Bool} {l : List α} {r : Bool} (h : anyO f l = some r) : ∃ p : α → Bool, (∀ x ∈ l, f x = some (p x)) ∧ l.any p = r := by
  unfold anyO at h
  split at h
  · rename_i ha
    refine ⟨fun x => (f x).getD false, fun x hx => ?_, Option.some.inj h⟩
    have := List.all_eq_true.1 ha x hx
    cases hf : f x with
    | none => rw [hf] at this; cases this
    | some b => show some b = some ((f x).getD false); rw [hf]; rfl
  · cases h
theorem anyO_of {α : Type} {f : α → Option Bool} {p : α → Bool} {l : List α} (h : ∀ x ∈ l, f x = some (p x)) : anyO f l = some (l.any p) := by
  unfold anyO
  rw [if_pos (List.all_eq_true.2 fun x hx => by rw [h x hx]; rfl)]
  congr 1
  induction l with
  | nil => rfl
  | cons x r ih => rw [List.any_cons, List.any_cons, h x List.mem_cons_self, ih (fun y hy => h y (List.mem_cons_of_mem _ hy))]; rfl
/-- A whole number in a row. -/
theorem at_int {k : IntKind} {w : World} {A : Option Addr} {n : Nat} {xs : List Int} (h : Kd.C (Kd.int k) w A n xs) (i : Nat) (hi : i < xs.length) : ∃ ad, A = some ad ∧ w.cell? (ad.add i) = some (.int k xs[i]) := by
  obtain ⟨ad, c, eA, _, hK, hc0⟩ := Kd.C_get h (0 : Int) (i : Int) (by omega) (by have := h.1; omega)
  have hx : xs.getD (i : Int).toNat 0 = xs[i] := by simp [hi]
  rw [hx] at hK
  have hK' : c = [Value.int k xs[i]] := hK
  subst hK'
  refine ⟨ad, eA, ?_⟩
  have hq := hc0 0 _ rfl
  have hz : (Kd.int k).sz = 1 := rfl
  rw [hz, Nat.mul_one, Nat.add_zero, Int.toNat_natCast] at hq
  exact hq
/-- An array of eight bytes, of which the first k are set. -/
def le8c (x : Int) (k : Nat) : Array Value := ((List.range 8).map fun i => Value.int .u8 (if i < k then x / 2 ^ (8 * i) % 256 else 0)).toArray

end Go.Proofs.YtanfmnobanhcnaaH
