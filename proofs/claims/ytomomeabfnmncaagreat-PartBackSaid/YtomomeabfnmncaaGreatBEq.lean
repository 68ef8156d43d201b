/- THE FUNCTIONS' EQUATIONS: the base: which machine, and what simp is to know. -/
import Derived.Test.YtomomeabfnmncaaGreatBSim
import Derived.Test.YtomomeabfnmncaaGreatBOraU
import Derived.IntWalk
set_option linter.all false
namespace Go.Ab
open Go.Proofs

/-- Which calls take their slices as they are, and which give theirs so. -/
def cf0 : Cfg := ⟨fun _ => false, fun f => f == 71 || f == 94⟩
noncomputable def fs0 : Nat → Option Fn' := compF Tryz.prog
theorem keep0 (f : Nat) : cf0.keep f = (f == 71 || f == 94) := rfl
theorem live0 (f : Nat) : cf0.live f = false := rfl
attribute [simp] keep0 live0
/-- THE MACHINE. -/
noncomputable abbrev K0 := K cf0 fs0 oraG

theorem oraG_none {f : Nat} {a : List D} {H : List Obj} (h : f ≠ 85) (h' : f ≠ 108 ∧ f ≠ 89 ∧ noU f) : oraG f a H = none := by
  unfold oraG
  split
  · rw [if_neg, oraU_none h'.2.2]; rintro (⟨e, _⟩ | ⟨e, _⟩)
    · exact h e
    · exact h'.1 e
  · rw [if_neg h'.2.1, oraU_none h'.2.2]
  · exact oraU_none h'.2.2
theorem toU8_map (l : List Int) : toU8 (l.map (.int .u8)) = some (l.map fun x => UInt8.ofNat x.toNat) := by
  induction l with
  | nil => rfl
  | cons x l ih => simp [toU8, ih]
theorem take_map_len {α β : Type} (f : α → β) (l : List α) : (l.map f).take l.length = l.map f := by simp [List.take_of_length_le]
theorem bin_str (op : BinOp) (fl : List Nat) (a b : List UInt8) : binD op fl (.str a) (.str b) = strOp op a b := rfl
theorem like_int (k : IntKind) (n : Int) (d : D) : (D.int k n).like [d] = some d := rfl
theorem like_bool (b : Bool) (d : D) : (D.bool b).like [d] = some d := rfl
theorem like_str (l : List UInt8) (d : D) : (D.str l).like [d] = some d := rfl
theorem like_slc (c : Bool) (s : Nat) (es : List D) (d : D) : (D.slc c s es).like [d] = some d := rfl
theorem like_agg (a cs : List D) : (D.agg a).like cs = some (.agg cs) := rfl
theorem w64 (n : Int) (h : 0 ≤ n ∧ n ≤ 9223372036854775807) : IntKind.i64.wrap n = n := IntWalk.i64_in n (by omega)
theorem intoK_cons (g : Nat) (o : Obj) (r : Wr) (k : Nat) : intoK ((g, o) :: r) k = if g == k then 0 else intoK r k + 1 := by
  unfold intoK
  rw [List.findIdx_cons]
  cases h : (g == k) <;> simp [h]
section
variable {cf : Cfg} {call : CallFn} {k : List Kn} {dst : Option Nat} {T : List D} {H : List Obj}
theorem Ek_mkmap : Ek cf call (.op ⟨dst, none, .mkmap⟩ :: k) ⟨T, H⟩ = hpK cf call (applyW H [(H.length, .mp [])]) (.map H.length) dst k T := by rw [Ek_of]; rfl
theorem Ek_mget (ok : Bool) (fl : List Nat) (z : D) (m x : X) : Ek cf call (.op ⟨dst, none, .mget ok fl z m x⟩ :: k) ⟨T, H⟩ = outK cf call ((mgetM ok fl z (m.ev T) (x.ev T)).run (H[·]?)) dst k T H := by
  rw [Ek_of]; simp only [Ins.go, M.run_bind]; exact wrK_map
theorem Ek_mset (fl : List Nat) (m x v : X) : Ek cf call (.op ⟨dst, none, .mset fl m x v⟩ :: k) ⟨T, H⟩ = stK cf call ((msetM fl (m.ev T) (x.ev T) (v.ev T)).run (H[·]?)) dst k T H := by
  rw [Ek_of]; simp only [Ins.go, M.run_bind]
  cases (msetM fl (m.ev T) (x.ev T) (v.ev T)).run (H[·]?) <;> rfl
end
attribute [simp] Ek_mkmap Ek_mget Ek_mset mgetM msetM mgetO msetO keyEq
attribute [simp] intoK_cons like_int like_bool like_str like_slc like_agg toU8_map take_map_len bin_str
end Go.Ab
