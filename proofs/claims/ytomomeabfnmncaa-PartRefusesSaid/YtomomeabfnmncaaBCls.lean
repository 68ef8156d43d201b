/- CELLS of data, as simp's rules (texts that use them say: attribute [-simp] D.cells). -/
import Derived.Test.YtomomeabfnmncaaBEq
import Derived.Test.YtomomeabfnmncaaBF53
set_option linter.all false
namespace Go.Ab
@[simp] theorem cells_agg (l : List D) : (D.agg l).cells = l := rfl
@[simp] theorem cells_int (k : IntKind) (n : Int) : (D.int k n).cells = [.int k n] := rfl
@[simp] theorem cells_str (s : List UInt8) : (D.str s).cells = [.str s] := rfl
@[simp] theorem cells_bool (b : Bool) : (D.bool b).cells = [.bool b] := rfl
@[simp] theorem cells_slc (c : Bool) (s : Nat) (l : List D) : (D.slc c s l).cells = [.slc c s l] := rfl
@[simp] theorem cells_sl (g a n l : Nat) : (D.sl g a n l).cells = [.sl g a n l] := rfl
@[simp] theorem cells_ptr (g a n l : Nat) : (D.ptr g a n l).cells = [.ptr g a n l] := rfl
end Go.Ab
/- CELLS OF VALUES, as simp's rules (texts that use them say: attribute [-simp] D.cells). -/
set_option linter.all false
namespace Go.Ab
@[simp high] theorem cells_va (x : List Va) : ((List.map Va.d x).all fun e => e.cells.length == 2) = true := by
  simp only [List.all_eq_true, beq_iff_eq]
  intro e he
  obtain ⟨p, _, rfl⟩ := List.mem_map.1 he
  rfl
@[simp high] theorem cells_va1 (x : Va) : (Va.d x).cells.length = 2 := rfl
/-! Long lists: a place is found ahead of the general rule about what is within bounds, which works out the list's length (a second of the kernel's time each). -/
@[simp high] theorem get_0 {α : Type} (a : α) (l : List α) : (a :: l)[0]? = some a := rfl
@[simp high] theorem get_1 {α : Type} (a : α) (l : List α) (k : Nat) : (a :: l)[k + 1]? = l[k]? := rfl
@[simp high] theorem set_32 {α : Type} (a0 a1 a2 a3 a4 a5 a6 a7 a8 a9 a10 a11 a12 a13 a14 a15 a16 a17 a18 a19 a20 a21 a22 a23 a24 a25 a26 a27 a28 a29 a30 a31 : α) (l : List α) (k : Nat) (d : α) : (a0 :: a1 :: a2 :: a3 :: a4 :: a5 :: a6 :: a7 :: a8 :: a9 :: a10 :: a11 :: a12 :: a13 :: a14 :: a15 :: a16 :: a17 :: a18 :: a19 :: a20 :: a21 :: a22 :: a23 :: a24 :: a25 :: a26 :: a27 :: a28 :: a29 :: a30 :: a31 :: l).set (k + 32) d = a0 :: a1 :: a2 :: a3 :: a4 :: a5 :: a6 :: a7 :: a8 :: a9 :: a10 :: a11 :: a12 :: a13 :: a14 :: a15 :: a16 :: a17 :: a18 :: a19 :: a20 :: a21 :: a22 :: a23 :: a24 :: a25 :: a26 :: a27 :: a28 :: a29 :: a30 :: a31 :: l.set k d := rfl
@[simp high] theorem get_32 {α : Type} (a0 a1 a2 a3 a4 a5 a6 a7 a8 a9 a10 a11 a12 a13 a14 a15 a16 a17 a18 a19 a20 a21 a22 a23 a24 a25 a26 a27 a28 a29 a30 a31 : α) (l : List α) (k : Nat) : (a0 :: a1 :: a2 :: a3 :: a4 :: a5 :: a6 :: a7 :: a8 :: a9 :: a10 :: a11 :: a12 :: a13 :: a14 :: a15 :: a16 :: a17 :: a18 :: a19 :: a20 :: a21 :: a22 :: a23 :: a24 :: a25 :: a26 :: a27 :: a28 :: a29 :: a30 :: a31 :: l)[k + 32]? = l[k]? := rfl
@[simp high] theorem set_8 {α : Type} (a0 a1 a2 a3 a4 a5 a6 a7 : α) (l : List α) (k : Nat) (d : α) : (a0 :: a1 :: a2 :: a3 :: a4 :: a5 :: a6 :: a7 :: l).set (k + 8) d = a0 :: a1 :: a2 :: a3 :: a4 :: a5 :: a6 :: a7 :: l.set k d := rfl
@[simp high] theorem get_8 {α : Type} (a0 a1 a2 a3 a4 a5 a6 a7 : α) (l : List α) (k : Nat) : (a0 :: a1 :: a2 :: a3 :: a4 :: a5 :: a6 :: a7 :: l)[k + 8]? = l[k]? := rfl
end Go.Ab
