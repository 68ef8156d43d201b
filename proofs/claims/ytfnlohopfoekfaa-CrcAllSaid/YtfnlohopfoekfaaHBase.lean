import Derived.Test.YtfnlohopfoekfaaWWords
import Derived.Test.YtfnlohopfoekfaaWLast
import Derived.Test.YtfnlohopfoekfaaWMore
import Derived.Lib.SlBytesConst
set_option linter.unusedVariables false
set_option linter.unusedSimpArgs false
namespace Go.Proofs.YtfnlohopfoekfaaH
open Go.RowKit Go.Proofs.YtfnlohopfoekfaaW.PrintWords Go.Proofs.YtfnlohopfoekfaaW.PrintLast Go.Proofs.YtfnlohopfoekfaaW.PrintMore

theorem cell_blk {W : World} {g : Nat} {C : Array Value} {e : TypeId} {fz : Nat × Nat} (hb : W.heap[g]? = some (.cells C e fz)) (i : Nat) : W.cell? ⟨g, i, none⟩ = C[i]? := by
  unfold World.cell?
  simp only [hb]
  exact if_neg (by simp)
theorem heap_alloc (w : World) (o : Obj) : (w.alloc o).heap[w.heap.size]? = some o := by
  show (w.heap.push _)[w.heap.size]? = _
  simp
/-- A block of numbers reads as they are. -/
theorem C_blk (k : IntKind) {W : World} {g : Nat} {e : TypeId} {fz : Nat × Nat} {C : Array Value} (hb : W.heap[g]? = some (.cells C e fz)) (xs : List Int) (n : Nat) (hn : n = xs.length) (hC : C = (xs.map (Value.int k)).toArray) (hl : xs.length ≤ 9223372036854775807) :
    Kd.C (Kd.int k) W (some ⟨g, 0, none⟩) n xs := by
  subst hn
  refine ⟨rfl, hl, fun _ => ⟨_, rfl, fun j p hj => ⟨[.int k p], rfl, rfl, fun i u hu => ?_⟩⟩⟩
  have hi : i = 0 := by
    rcases Nat.eq_zero_or_pos i with h | h
    · exact h
    · rw [List.getElem?_eq_none (by simp; omega)] at hu
      cases hu
  subst hi
  have hu' : u = .int k p := by simpa using hu.symm
  subst hu'
  have hz : (Kd.int k).sz = 1 := rfl
  rw [hz, Nat.mul_one, Nat.add_zero]
  have ha : Addr.add ⟨g, 0, none⟩ j = ⟨g, j, none⟩ := by
    unfold Addr.add
    by_cases h0 : j = 0
    · subst h0; rfl
    · simp [h0]
  rw [ha, cell_blk hb, hC]
  simp [hj]
theorem C_lit (k : IntKind) (w : World) (e : Nat) (fz : Nat × Nat) (xs : List Int) (C : Array Value) (n : Nat) (hn : n = xs.length) (hC : C = (xs.map (Value.int k)).toArray) (hl : xs.length ≤ 9223372036854775807) :
    Kd.C (Kd.int k) (w.alloc (.cells C e fz)) (some ⟨w.heap.size, 0, none⟩) n xs := C_blk k (heap_alloc w _) xs n hn hC hl
/-- The same, and it stays so as long as that block stays. -/
theorem V_lit (k : IntKind) (w : World) (base e t : Nat) (fz : Nat × Nat) (xs : List Int) (C : Array Value) (n : Nat) (hn : n = xs.length) (hC : C = (xs.map (Value.int k)).toArray) (hl : xs.length ≤ 9223372036854775807) :
    Kd.V (Kd.int k) e (w.alloc (.cells C t fz)) base (fun k_ => w.heap.size ≤ k_) (.slice (some ⟨w.heap.size, 0, none⟩) n n) xs := by
  subst hn
  refine Kd.V_mk (Nat.le_refl _) (fun W' hW => ?_)
  have hb := (hW w.heap.size (Nat.le_refl _) (by show w.heap.size < (w.heap.push _).size; simp)).trans (heap_alloc w _)
  exact C_blk k hb xs _ rfl hC hl

theorem below_alloc1 (w : World) (o : Obj) : Below w.heap.size w (w.alloc o) := (Below.refl _ _).alloc (Nat.le_refl _) _

theorem V_string {P : Program} {w : World} {src dst e : TypeId} {e0 base : Nat} {ok : Nat → Prop} {v : Value} {xs : List Int} (hs : P.underlying src = some (.slice e)) (he : P.underlying e = some (.int .u8)) (hd : P.underlying dst = some .string)
    (h : Kd.V (Kd.int .u8) e0 w base ok v xs) : (convert src dst v).run P w = .ok (.string (strOfNums xs)) w := by
  obtain ⟨A, c, rfl, _, hf⟩ := h
  exact Kd.C_string hs he hd (Kd.F_now hf)
/-- An own row of bytes, whatever it is kept apart from. -/
def ownB (w : World) (base e : Nat) (v : Value) (xs : List Int) : Prop := ∃ ok, Kd.R (Kd.int .u8) e w base ok v xs
theorem ownB_string {P : Program} {w : World} {base e0 : Nat} {src dst e : TypeId} {v : Value} {xs : List Int} (hs : P.underlying src = some (.slice e)) (he : P.underlying e = some (.int .u8)) (hd : P.underlying dst = some .string)
    (h : ownB w base e0 v xs) : (convert src dst v).run P w = .ok (.string (strOfNums xs)) w := by
  obtain ⟨ok, h⟩ := h
  exact own_string hs he hd (Kd.own_of_R h)
/-- A row in a row of rows. -/
theorem at_row {α : Type} {d : Kd α} {e : Nat} {w : World} {A : Option Addr} {n : Nat} {xs : List (List α)} (h : Kd.C (Kd.slice e d) w A n xs) (k : Nat) (hk : k < xs.length) :
    ∃ ad A0 c0, A = some ad ∧ w.cell? (ad.add k) = some (.slice A0 xs[k].length c0) ∧ xs[k].length ≤ c0 ∧ d.C w A0 xs[k].length xs[k] := by
  obtain ⟨ad, c, eA, _, hK, hc0⟩ := Kd.C_get h ([] : List α) (k : Int) (by omega) (by have := h.1; omega)
  obtain ⟨A0, c0, rfl, l0, g0⟩ := hK
  have hx : xs.getD (k : Int).toNat [] = xs[k] := by simp [hk]
  rw [hx] at l0 g0 hc0
  refine ⟨ad, A0, c0, eA, ?_, l0, g0⟩
  have hq := hc0 0 _ rfl
  have hz : (Kd.slice e d).sz = 1 := rfl
  rw [hz, Nat.mul_one, Nat.add_zero, Int.toNat_natCast] at hq
  exact hq
theorem flat_take_le {α : Type} (l : List (List α)) (k : Nat) : (l.take k).flatten.length ≤ l.flatten.length := by
  conv => rhs; rw [← List.take_append_drop k l]
  rw [List.flatten_append, List.length_append]
  omega
theorem flat_take_succ {α : Type} (l : List (List α)) (k : Nat) (h : k < l.length) : (l.take (k + 1)).flatten = (l.take k).flatten ++ l[k] := by
  rw [List.take_succ_eq_append_getElem h, List.flatten_append]
  simp
/-- How long the first k rows are together. -/
def flen {α : Type} (l : List (List α)) (k : Nat) : Nat := (l.take k).flatten.length
theorem flen_le {α : Type} (l : List (List α)) (k : Nat) : flen l k ≤ l.flatten.length := flat_take_le l k
theorem flen_zero {α : Type} (l : List (List α)) : flen l 0 = 0 := rfl
theorem flen_succ {α : Type} (l : List (List α)) (k : Nat) (h : k < l.length) : flen l (k + 1) = flen l k + l[k].length := by
  unfold flen
  rw [flat_take_succ l k h, List.length_append]
theorem flen_all {α : Type} (l : List (List α)) : flen l l.length = l.flatten.length := by
  unfold flen
  rw [List.take_length]
/-- A number's eight bytes. -/
def le8 (x : Int) : List Int := (List.range 8).map fun i => x / 2 ^ (8 * i) % 256
/-- An array of eight bytes, of which the first k are set. -/
def le8c (x : Int) (k : Nat) : Array Value := ((List.range 8).map fun i => Value.int .u8 (if i < k then x / 2 ^ (8 * i) % 256 else 0)).toArray

end Go.Proofs.YtfnlohopfoekfaaH
