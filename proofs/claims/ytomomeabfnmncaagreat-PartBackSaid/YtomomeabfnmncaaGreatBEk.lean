/- THE ABSTRACT MACHINE: the evaluator with what is left to do as a list: for rewriting. -/
import Derived.Test.YtomomeabfnmncaaGreatBLim
set_option linter.all false
namespace Go.Ab

inductive Kn where
  | c (x : C)
  | op (o : Ope)
  | ops (l : List Ope) (acc : List (List Nat × List Nat)) (ps : List (Nat × Nat))
  | blk (id : Nat)

section
variable (cf : Cfg) (call : CallFn)

def opsB (l : List Ope) (acc : List (List Nat × List Nat)) (ps : List (Nat × Nat)) (s : St) : Option St :=
  match evOps cf call l s with
  | some (s', ls) => if allFree (acc.reverse ++ ls) ps then some s' else none
  | none => none

/-- What is left, behind an exit. -/
noncomputable def Ks : List Kn → Ex → St → Option (Ex × St)
  | [], e, s => some (e, s)
  | .c x :: k, .nrm, s => match E cf call x s with
    | some (e, s') => Ks k e s'
    | none => none
  | .op o :: k, .nrm, s => match evOp cf call o s with
    | some (s', _) => Ks k .nrm s'
    | none => none
  | .ops l acc ps :: k, .nrm, s => match opsB cf call l acc ps s with
    | some s' => Ks k .nrm s'
    | none => none
  | .blk id :: k, .exit i, s => if i = id then Ks k .nrm s else Ks k (.exit i) s
  | _ :: k, e, s => Ks k e s

noncomputable abbrev Ek (k : List Kn) (s : St) : Option (Ex × St) := Ks cf call k .nrm s

/-! (These say Ks, not Ek: the kernel unfolds what stands higher first, and must not unfold Ks.) -/
noncomputable def opK (r : Option (St × List Nat × List Nat)) (k : List Kn) : Option (Ex × St) :=
  match r with | some (s', _) => Ks cf call k .nrm s' | none => none

noncomputable def opsK (r : Option (St × List Nat × List Nat)) (l : List Ope) (acc : List (List Nat × List Nat)) (ps : List (Nat × Nat)) (k : List Kn) : Option (Ex × St) :=
  match r with | some (s', lg) => Ks cf call (.ops l (lg :: acc) ps :: k) .nrm s' | none => none

noncomputable def condK (d : D) (a b : C) (k : List Kn) (s : St) : Option (Ex × St) :=
  match d with | .bool true => Ks cf call (.c a :: k) .nrm s | .bool false => Ks cf call (.c b :: k) .nrm s | _ => none

noncomputable def loopK (r : Option (Ex × St)) (k : List Kn) : Option (Ex × St) :=
  match r with | some (e, s') => Ks cf call k e s' | none => none

/-- A loop of a body. -/
noncomputable def LpB (b : C) (T0 : List D) (n0 : Nat) (s : St) : Option (Ex × St) := Lp (fun s => E cf call b s) T0 n0 s

noncomputable def roundK (b : C) (T0 : List D) (n0 : Nat) (r : Option (Ex × St)) : Option (Ex × St) :=
  match r with
  | some (.nrm, s') => match reset T0 n0 s' with
    | some s'' => LpB cf call b T0 n0 s''
    | none => none
  | some (.ret, s') => some (.ret, s')
  | some (.exit i, s') => match reset T0 n0 s' with
    | some s'' => some (.exit i, s'')
    | none => none
  | none => none

noncomputable def nextK (b : C) (T0 : List D) (n0 : Nat) (r : Option St) : Option (Ex × St) :=
  match r with | some s'' => LpB cf call b T0 n0 s'' | none => none

def leaveK (i : Nat) (r : Option St) : Option (Ex × St) :=
  match r with | some s'' => some (.exit i, s'') | none => none

variable {cf call} {k : List Kn} {s : St}

theorem Ks_nil {e : Ex} : Ks cf call [] e s = some (e, s) := rfl
theorem Ek_skip : Ek cf call (.c .skip :: k) s = Ek cf call k s := rfl
theorem Ek_ret : Ek cf call (.c .ret :: k) s = Ks cf call k .ret s := rfl
theorem Ek_exit {i : Nat} : Ek cf call (.c (.exit i) :: k) s = Ks cf call k (.exit i) s := rfl
theorem Ek_blk {i : Nat} : Ek cf call (.blk i :: k) s = Ek cf call k s := by simp [Ek, Ks]
theorem Ks_blk_exit {i j : Nat} : Ks cf call (.blk j :: k) (.exit i) s = if i = j then Ek cf call k s else Ks cf call k (.exit i) s := by rw [Ks]
theorem Ks_c_exit {x : C} {i : Nat} : Ks cf call (.c x :: k) (.exit i) s = Ks cf call k (.exit i) s := by simp [Ks]
theorem Ks_c_ret {x : C} : Ks cf call (.c x :: k) .ret s = Ks cf call k .ret s := by simp [Ks]
theorem Ks_blk_ret {j : Nat} : Ks cf call (.blk j :: k) .ret s = Ks cf call k .ret s := by simp [Ks]

theorem Ek_seq {a b : C} : Ek cf call (.c (.seq a b) :: k) s = Ek cf call (.c a :: .c b :: k) s := by
  simp only [Ek]
  rw [Ks, Ks, E]
  cases E cf call a s with
  | none => rfl
  | some p =>
    obtain ⟨e, s'⟩ := p
    cases e with
    | nrm => rfl
    | exit i => simp only []; rw [Ks_c_exit]
    | ret => simp only []; rw [Ks_c_ret]

theorem Ek_cond {x : X} {a b : C} : Ek cf call (.c (.cond x a b) :: k) s = condK cf call (x.ev s.T) a b k s := by
  simp only [Ek]
  rw [Ks, E]
  unfold condK
  cases x.ev s.T with
  | bool t => cases t <;> rfl
  | _ => rfl

theorem Ek_block {i : Nat} {b : C} : Ek cf call (.c (.block i b) :: k) s = Ek cf call (.c b :: .blk i :: k) s := by
  simp only [Ek]
  rw [Ks, Ks, E]
  cases E cf call b s with
  | none => rfl
  | some p =>
    obtain ⟨e, s'⟩ := p
    cases e with
    | nrm => simp only []; exact Ek_blk.symm
    | exit j =>
      simp only []
      rw [Ks_blk_exit]
      by_cases h : j = i <;> simp [h]
    | ret => simp only []; rw [Ks_blk_ret]

theorem Ek_reg {ops : List Ope} : Ek cf call (.c (.reg none ops) :: k) s = Ek cf call (ops.map .op ++ k) s := by
  simp only [Ek]
  rw [Ks, E]
  unfold evReg
  induction ops generalizing s with
  | nil => rfl
  | cons o l ih =>
    rw [evOps]
    simp only [List.map_cons, List.cons_append]
    rw [Ks]
    cases evOp cf call o s with
    | none => rfl
    | some p =>
      simp only
      rw [← ih]
      cases evOps cf call l p.1 <;> rfl

theorem Ek_regD {ops : List Ope} {ps : List (Nat × Nat)} : Ek cf call (.c (.reg (some ps) ops) :: k) s = Ek cf call (.ops ops [] ps :: k) s := by
  simp only [Ek]
  rw [Ks, Ks, E]
  unfold evReg opsB
  cases evOps cf call ops s with
  | none => rfl
  | some p =>
    simp only [List.reverse_nil, List.nil_append]
    by_cases h : allFree p.2 ps = true
    · simp [h]
    · simp [h]

theorem Ek_op {o : Ope} : Ek cf call (.op o :: k) s = opK cf call (evOp cf call o s) k := by
  simp only [Ek]
  rw [Ks]
  unfold opK
  cases evOp cf call o s <;> rfl

theorem opK_some {s' : St} {l : List Nat × List Nat} : opK cf call (some (s', l)) k = Ek cf call k s' := rfl

theorem Ek_ops_cons {o : Ope} {l : List Ope} {acc ps} : Ek cf call (.ops (o :: l) acc ps :: k) s = opsK cf call (evOp cf call o s) l acc ps k := by
  simp only [Ek]
  rw [Ks]
  unfold opsK opsB
  rw [evOps]
  cases evOp cf call o s with
  | none => rfl
  | some p =>
    simp only [Ek]
    rw [Ks]
    unfold opsB
    cases evOps cf call l p.1 with
    | none => rfl
    | some q =>
      simp only [List.reverse_cons, List.append_assoc, List.singleton_append]

theorem opsK_some {s' : St} {lg : List Nat × List Nat} {l : List Ope} {acc ps} : opsK cf call (some (s', lg)) l acc ps k = Ek cf call (.ops l (lg :: acc) ps :: k) s' := rfl

theorem Ek_ops_nil {acc ps} (h : allFree acc.reverse ps = true) : Ek cf call (.ops [] acc ps :: k) s = Ek cf call k s := by
  simp only [Ek]
  rw [Ks]
  unfold opsB
  simp only [evOps, List.append_nil, h, if_true]

theorem condK_true {a b : C} : condK cf call (.bool true) a b k s = Ek cf call (.c a :: k) s := rfl
theorem condK_false {a b : C} : condK cf call (.bool false) a b k s = Ek cf call (.c b :: k) s := rfl

theorem Ek_loop {b : C} : Ek cf call (.c (.loop b) :: k) s = loopK cf call (LpB cf call b s.T s.H.length s) k := by
  simp only [Ek]
  rw [Ks, E]
  unfold loopK LpB
  cases Lp (fun s => E cf call b s) s.T s.H.length s <;> rfl

theorem loopK_some {e : Ex} {s' : St} : loopK cf call (some (e, s')) k = Ks cf call k e s' := rfl

theorem E_Ek {x : C} : E cf call x s = Ek cf call [.c x] s := by
  simp only [Ek]
  rw [Ks]
  cases E cf call x s with
  | none => rfl
  | some p => simp only []; rw [Ks]

/-- One round of a loop. -/
theorem LpB_eq {b : C} {T0 : List D} {n0 : Nat} : LpB cf call b T0 n0 s = roundK cf call b T0 n0 (Ek cf call [.c b] s) := by
  rw [← E_Ek]
  unfold LpB
  rw [Lp_eq]
  rfl

theorem roundK_nrm {b : C} {T0 : List D} {n0 : Nat} {s' : St} : roundK cf call b T0 n0 (some (.nrm, s')) = nextK cf call b T0 n0 (reset T0 n0 s') := rfl
theorem roundK_ret {b : C} {T0 : List D} {n0 : Nat} {s' : St} : roundK cf call b T0 n0 (some (.ret, s')) = some (.ret, s') := rfl
theorem roundK_exit {b : C} {T0 : List D} {n0 i : Nat} {s' : St} : roundK cf call b T0 n0 (some (.exit i, s')) = leaveK i (reset T0 n0 s') := rfl
theorem nextK_some {b : C} {T0 : List D} {n0 : Nat} {s'' : St} : nextK cf call b T0 n0 (some s'') = LpB cf call b T0 n0 s'' := rfl
theorem leaveK_some {i : Nat} {s'' : St} : leaveK i (some s'') = some (.exit i, s'') := rfl
end

/-- The end of a call. -/
def finK (keep : Bool) (np : Nat) (res : List Rs) (r : Option (Ex × St)) : Option (D × List Obj) :=
  match r with
  | some (e, s) => if e = .nrm ∨ e = .ret then (finM keep np res s.T).run (s.H[·]?) else none
  | none => none

theorem finK_some {keep : Bool} {np : Nat} {res : List Rs} {e : Ex} {s : St} (h : e = .nrm ∨ e = .ret) : finK keep np res (some (e, s)) = (finM keep np res s.T).run (s.H[·]?) := by
  unfold finK
  simp only [if_pos h]

section
variable {cf : Cfg} {fs : Nat → Option Fn'} {ora : CallFn}

/-- THE CALL OF A FUNCTION, for rewriting. -/
theorem K_call {f : Nat} {fn : Fn'} {args : List D} {H : List Obj} {r} (hf : fs f = some fn) (ho : ora f args H = none)
    (ha : args.length ≤ fn.ntmps ∧ args.all (D.under H.length) = true ∧ H.all (Obj.under H.length) = true)
    (h : finK (cf.keep f) H.length fn.res (Ek cf (K cf fs ora) [.c fn.body] ⟨args ++ List.replicate (fn.ntmps - args.length) .undef, H⟩) = some r) : K cf fs ora f args H = some r := by
  refine K_run ho ?_
  unfold runF
  rw [hf]
  simp only
  rw [if_pos ha, E_Ek]
  exact h
end
end Go.Ab
