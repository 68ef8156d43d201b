/- THE ABSTRACT MACHINE: what its oracle says of replay.unlike (its soundness: Unl). -/
import Derived.Test.YtdopbfjebjnpkaaATop
set_option linter.all false
namespace Go.Ab
/-- Numbers that are unlike, and all below another one. -/
def unl (l : List Int) (n : Int) : Bool := decide l.Nodup && l.all fun x => decide (x < n)
def intsOf : List D → Option (List Int)
  | [] => some []
  | .int .i64 x :: r => (intsOf r).map (x :: ·)
  | _ => none
theorem intsOf_map (l : List Int) : intsOf (l.map (.int .i64)) = some l := by
  induction l with
  | nil => rfl
  | cons x l ih => simp [intsOf, ih]
theorem intsOf_eq : ∀ (es : List D) (l : List Int), intsOf es = some l → es = l.map (.int .i64)
  | [], l, h => by
    simp only [intsOf, Option.some.injEq] at h
    subst h
    rfl
  | e :: r, l, h => by
    unfold intsOf at h
    split at h
    · rename_i heq; cases heq
    · rename_i x r' heq
      injection heq with h1 h2
      subst h1 h2
      obtain ⟨u, hu, rfl⟩ := Option.map_eq_some_iff.1 h
      rw [intsOf_eq r u hu]
      rfl
    · cases h
def oraU : CallFn := fun f args H => if f = 30 then (match args, H with
  | [.slc _ _ es, .int .i64 n], [] => (intsOf es).bind fun l => if l.length ≤ 1048576 then some (.bool (unl l n), []) else none
  | _, _ => none) else if f = 31 then (match args, H with
  | [.slc _ _ []], [] => some (.slc true 1 [], [])
  | _, _ => none) else none
theorem oraU_none {f : Nat} {a : List D} {H : List Obj} (h : f ≠ 30 ∧ f ≠ 31) : oraU f a H = none := by
  unfold oraU
  rw [if_neg h.1, if_neg h.2]
end Go.Ab
