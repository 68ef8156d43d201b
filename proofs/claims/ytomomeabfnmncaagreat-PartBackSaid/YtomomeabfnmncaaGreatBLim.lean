/- THE ABSTRACT MACHINE: the evaluator as equations (no fuel is seen any more). -/
import Derived.Test.YtomomeabfnmncaaGreatBDef
set_option linter.all false
namespace Go.Ab

@[simp] theorem M.run_pure {α : Type} (a : α) (H : Hp) : (Pure.pure a : M α).run H = some a := rfl
@[simp] theorem M.run_pure' {α : Type} (a : α) (H : Hp) : (M.pure a).run H = some a := rfl
@[simp] theorem M.run_fail {α : Type} (H : Hp) : (M.fail : M α).run H = none := rfl
@[simp] theorem M.log_pure {α : Type} (a : α) (H : Hp) : (Pure.pure a : M α).log H = [] := rfl
@[simp] theorem M.log_pure' {α : Type} (a : α) (H : Hp) : (M.pure a).log H = [] := rfl
@[simp] theorem M.log_fail {α : Type} (H : Hp) : (M.fail : M α).log H = [] := rfl

theorem M.run_bind' {α β : Type} (m : M α) (f : α → M β) (H : Hp) : (m.bind f).run H = (m.run H).bind fun a => (f a).run H := by
  induction m with
  | pure a => rfl
  | look g k ih => simp only [M.bind, M.run]; cases H g <;> simp_all
  | fail => rfl

@[simp] theorem M.run_bind {α β : Type} (m : M α) (f : α → M β) (H : Hp) : (m >>= f).run H = (m.run H).bind fun a => (f a).run H := M.run_bind' m f H

theorem M.log_bind' {α β : Type} (m : M α) (f : α → M β) (H : Hp) : (m.bind f).log H = m.log H ++ (match m.run H with | some a => (f a).log H | none => []) := by
  induction m with
  | pure a => rfl
  | look g k ih => simp only [M.bind, M.log, M.run]; cases H g <;> simp_all
  | fail => rfl

@[simp] theorem M.log_bind {α β : Type} (m : M α) (f : α → M β) (H : Hp) : (m >>= f).log H = m.log H ++ (match m.run H with | some a => (f a).log H | none => []) := M.log_bind' m f H

@[simp] theorem run_look (g : Nat) (H : Hp) : (look g).run H = H g := by
  simp only [look, M.run]; cases H g <;> rfl
@[simp] theorem log_look (g : Nat) (H : Hp) : (look g).log H = (match H g with | some _ => [g] | none => []) := by
  simp only [look, M.log]; cases H g <;> rfl
@[simp] theorem run_ofO {α : Type} (o : Option α) (H : Hp) : (ofO o).run H = o := by cases o <;> rfl
@[simp] theorem log_ofO {α : Type} (o : Option α) (H : Hp) : (ofO o).log H = [] := by cases o <;> rfl

/-- What a computation comes to hangs on the objects that it has looked at alone. -/
theorem M.run_congr {α : Type} (m : M α) (H H' : Hp) (a : α) (h : m.run H = some a) (hl : ∀ k ∈ m.log H, H' k = H k) : m.run H' = some a ∧ m.log H' = m.log H := by
  induction m with
  | pure b => exact ⟨h, rfl⟩
  | fail => cases h
  | look g k ih =>
    simp only [M.run, M.log] at *
    cases hg : H g with
    | none => simp [hg] at h
    | some o =>
      simp only [hg] at h hl
      have h0 := hl g (by simp)
      rw [hg] at h0
      simp only [h0]
      have := ih o h (fun k hk => hl k (by simp [hk]))
      exact ⟨this.1, by rw [this.2]⟩

/-! ### Limits -/

theorem up {α : Type} {g : Nat → Option α} (hm : ∀ n r, g n = some r → g (n + 1) = some r) {n m : Nat} {r : α} (h : g n = some r) (hnm : n ≤ m) : g m = some r := by
  induction hnm with
  | refl => exact h
  | step _ ih => exact hm _ _ ih

theorem lim_some {α : Type} {g : Nat → Option α} (hm : ∀ n r, g n = some r → g (n + 1) = some r) {r : α} : lim g = some r ↔ ∃ n, g n = some r := by
  unfold lim
  constructor
  · intro h
    split at h
    · rename_i hh
      obtain ⟨n, hn⟩ := Classical.choose_spec hh
      injection h with h
      exact ⟨n, h ▸ hn⟩
    · cases h
  · rintro ⟨n, hn⟩
    have hh : ∃ r n, g n = some r := ⟨r, n, hn⟩
    rw [dif_pos hh]
    obtain ⟨m, hm'⟩ := Classical.choose_spec hh
    congr 1
    have h1 := up hm hn (Nat.le_max_left n m)
    have h2 := up hm hm' (Nat.le_max_right n m)
    rw [h1] at h2
    exact (Option.some.inj h2).symm

theorem iter_up (g : St → Option (Ex × St)) (T0 : List D) (n0 : Nat) : ∀ (n : Nat) (s : St) (r : Ex × St), iter g T0 n0 n s = some r → iter g T0 n0 (n + 1) s = some r := by
  intro n
  induction n with
  | zero => intro s r h; cases h
  | succ n ih =>
    intro s r h
    rw [iter] at h ⊢
    cases hg : g s with
    | none => rw [hg] at h; cases h
    | some p =>
      obtain ⟨e, s'⟩ := p
      rw [hg] at h
      cases e with
      | nrm =>
        simp only at h ⊢
        cases hr : reset T0 n0 s' with
        | none => rw [hr] at h; cases h
        | some s'' => rw [hr] at h; exact ih _ _ h
      | exit i => exact h
      | ret => exact h

theorem Lp_some {g : St → Option (Ex × St)} {T0 : List D} {n0 : Nat} {s : St} {r : Ex × St} : Lp g T0 n0 s = some r ↔ ∃ n, iter g T0 n0 n s = some r :=
  lim_some fun n r h => iter_up g T0 n0 n s r h

/-- One round. -/
theorem Lp_eq (g : St → Option (Ex × St)) (T0 : List D) (n0 : Nat) (s : St) : Lp g T0 n0 s = match g s with
    | some (.nrm, s') => match reset T0 n0 s' with
      | some s'' => Lp g T0 n0 s''
      | none => none
    | some (.ret, s') => some (.ret, s')
    | some (.exit i, s') => match reset T0 n0 s' with
      | some s'' => some (.exit i, s'')
      | none => none
    | none => none := by
  cases hg : g s with
  | none =>
    cases hl : Lp g T0 n0 s with
    | none => rfl
    | some r =>
      obtain ⟨n, hn⟩ := Lp_some.1 hl
      cases n with
      | zero => cases hn
      | succ n => rw [iter, hg] at hn; cases hn
  | some p =>
    obtain ⟨e, s'⟩ := p
    apply Option.ext
    intro r
    rw [Lp_some]
    constructor
    · rintro ⟨n, hn⟩
      cases n with
      | zero => cases hn
      | succ n =>
        rw [iter, hg] at hn
        cases e with
        | nrm =>
          simp only at hn ⊢
          cases hr : reset T0 n0 s' with
          | none => rw [hr] at hn; cases hn
          | some s'' => rw [hr] at hn; exact Lp_some.2 ⟨n, hn⟩
        | exit i => exact hn
        | ret => exact hn
    · intro h
      cases e with
      | nrm =>
        simp only at h
        cases hr : reset T0 n0 s' with
        | none => rw [hr] at h; cases h
        | some s'' =>
          rw [hr] at h
          obtain ⟨n, hn⟩ := Lp_some.1 h
          exact ⟨n + 1, by rw [iter, hg]; simp only [hr]; exact hn⟩
      | exit i => exact ⟨1, by rw [iter, hg]; exact h⟩
      | ret => exact ⟨1, by rw [iter, hg]; exact h⟩

/-! ### More calls, more answers -/

def Le (c d : CallFn) : Prop := ∀ f a H r, c f a H = some r → d f a H = some r

theorem callM_le {c d : CallFn} {live : Bool} {nk f : Nat} {args : List D} {H : Hp} (h : ∀ a H r, c f a H = some r → d f a H = some r) {r : D × Wr} (hr : (callM c live nk f args).run H = some r) :
    (callM d live nk f args).run H = some r ∧ (callM d live nk f args).log H = (callM c live nk f args).log H := by
  unfold callM at hr ⊢
  rw [M.run_bind] at hr
  rw [M.run_bind, M.log_bind, M.log_bind]
  cases hv : (inM live args).run H with
  | none => rw [hv] at hr; cases hr
  | some p =>
    rw [hv] at hr
    simp only [Option.bind_some] at hr ⊢
    split at hr
    · rename_i hk
      simp only [hk, if_true]
      unfold callP at hr ⊢
      cases hc : c f p.1 [] with
      | none => rw [hc] at hr; cases hr
      | some q =>
        rw [h _ _ _ hc]
        rw [hc] at hr
        exact ⟨hr, rfl⟩
    · rename_i hk
      simp only [hk, if_false]
      rw [M.run_bind] at hr
      rw [M.run_bind, M.log_bind, M.log_bind]
      cases ho : (reach p.2 reachFuel (keysL p.1) []).run H with
      | none => rw [ho] at hr; cases hr
      | some os =>
        rw [ho] at hr
        simp only [Option.bind_some] at hr ⊢
        unfold callO at hr ⊢
        cases hc : c f (renL (intoK os) p.1) (os.map fun (_, o) => o.ren (intoK os)) with
        | none => rw [hc] at hr; cases hr
        | some q =>
          rw [h _ _ _ hc]
          rw [hc] at hr
          exact ⟨hr, rfl⟩

theorem go_le {cf : Cfg} {c d : CallFn} (h : Le c d) {nk : Nat} {T : List D} {i : Ins} {H : Hp} {r : D × Wr} (hr : (i.go cf c nk T).run H = some r) :
    (i.go cf d nk T).run H = some r ∧ (i.go cf d nk T).log H = (i.go cf c nk T).log H := by
  cases i with
  | call f args =>
    simp only [Ins.go] at hr ⊢
    cases hf : f.ev T <;> rw [hf] at hr <;> first | exact callM_le (h _) hr | cases hr
  | _ => exact ⟨hr, rfl⟩

theorem evM_le {m m' : M (D × Wr)} {dst : Option Nat} {s : St} (h : ∀ r, m.run (s.H[·]?) = some r → m'.run (s.H[·]?) = some r ∧ m'.log (s.H[·]?) = m.log (s.H[·]?)) {r} (hr : evM m dst s = some r) : evM m' dst s = some r := by
  unfold evM at hr ⊢
  cases hm : m.run (s.H[·]?) with
  | none => rw [hm] at hr; cases hr
  | some p =>
    obtain ⟨h1, h2⟩ := h p hm
    rw [h1, h2]
    rw [hm] at hr
    exact hr

theorem evOp_le {cf : Cfg} {c d : CallFn} (h : Le c d) {o : Ope} {s : St} {r} (hr : evOp cf c o s = some r) : evOp cf d o s = some r := by
  unfold evOp at hr ⊢
  cases hw : wants s.T o.guard with
  | none => rw [hw] at hr; cases hr
  | some b =>
    rw [hw] at hr
    cases b with
    | true => exact evM_le (fun r h' => go_le h h') hr
    | false => exact hr

theorem evOps_le {cf : Cfg} {c d : CallFn} (h : Le c d) : ∀ {ops : List Ope} {s : St} {r}, evOps cf c ops s = some r → evOps cf d ops s = some r
  | [], _, _, hr => hr
  | o :: ops, s, r, hr => by
    rw [evOps] at hr ⊢
    cases ho : evOp cf c o s with
    | none => rw [ho] at hr; cases hr
    | some p =>
      rw [evOp_le h ho]
      rw [ho] at hr
      simp only at hr ⊢
      cases hq : evOps cf c ops p.1 with
      | none => rw [hq] at hr; cases hr
      | some q => rw [evOps_le h hq]; rw [hq] at hr; exact hr

theorem evReg_le {cf : Cfg} {c d : CallFn} (h : Le c d) {dr} {ops : List Ope} {s s' : St} (hr : evReg cf c dr ops s = some s') : evReg cf d dr ops s = some s' := by
  unfold evReg at hr ⊢
  cases ho : evOps cf c ops s with
  | none => rw [ho] at hr; cases hr
  | some p => rw [evOps_le h ho]; rw [ho] at hr; exact hr

theorem iter_le {g g' : St → Option (Ex × St)} (h : ∀ s r, g s = some r → g' s = some r) (T0 : List D) (n0 : Nat) : ∀ (n : Nat) (s : St) (r : Ex × St), iter g T0 n0 n s = some r → iter g' T0 n0 n s = some r := by
  intro n
  induction n with
  | zero => intro s r hr; cases hr
  | succ n ih =>
    intro s r hr
    rw [iter] at hr ⊢
    cases hg : g s with
    | none => rw [hg] at hr; cases hr
    | some p =>
      rw [h _ _ hg]
      rw [hg] at hr
      obtain ⟨e, s'⟩ := p
      cases e with
      | nrm =>
        simp only at hr ⊢
        cases hq : reset T0 n0 s' with
        | none => rw [hq] at hr; cases hr
        | some s'' => rw [hq] at hr; exact ih _ _ hr
      | exit i => exact hr
      | ret => exact hr

theorem E_le {cf : Cfg} {c d : CallFn} (h : Le c d) : ∀ (x : C) (s : St) (r : Ex × St), E cf c x s = some r → E cf d x s = some r := by
  intro x
  induction x with
  | skip => exact fun _ _ h => h
  | reg dr ops =>
    intro s r hr
    rw [E] at hr ⊢
    cases ho : evReg cf c dr ops s with
    | none => rw [ho] at hr; cases hr
    | some p => rw [evReg_le h ho]; rw [ho] at hr; exact hr
  | seq a b iha ihb =>
    intro s r hr
    rw [E] at hr ⊢
    cases ho : E cf c a s with
    | none => rw [ho] at hr; cases hr
    | some p =>
      rw [iha _ _ ho]
      rw [ho] at hr
      obtain ⟨e, s'⟩ := p
      cases e with
      | nrm => exact ihb _ _ hr
      | exit i => exact hr
      | ret => exact hr
  | cond x a b iha ihb =>
    intro s r hr
    rw [E] at hr ⊢
    cases hx : x.ev s.T with
    | bool t =>
      rw [hx] at hr
      cases t with
      | true => exact iha _ _ hr
      | false => exact ihb _ _ hr
    | _ => rw [hx] at hr; cases hr
  | block id b ih =>
    intro s r hr
    rw [E] at hr ⊢
    cases ho : E cf c b s with
    | none => rw [ho] at hr; cases hr
    | some p => rw [ih _ _ ho]; rw [ho] at hr; exact hr
  | loop b ih =>
    intro s r hr
    rw [E] at hr ⊢
    obtain ⟨n, hn⟩ := Lp_some.1 hr
    exact Lp_some.2 ⟨n, iter_le (fun s r => ih s r) _ _ _ _ _ hn⟩
  | exit id => exact fun _ _ h => h
  | ret => exact fun _ _ h => h

theorem runF_le {cf : Cfg} {fs : Nat → Option Fn'} {c d : CallFn} (h : Le c d) : Le (runF cf c fs) (runF cf d fs) := by
  intro f args H r hr
  unfold runF at hr ⊢
  cases hf : fs f with
  | none => rw [hf] at hr; cases hr
  | some fn =>
    rw [hf] at hr
    simp only at hr ⊢
    split at hr
    · rename_i hc
      rw [if_pos hc]
      cases he : E cf c fn.body ⟨args ++ List.replicate (fn.ntmps - args.length) .undef, H⟩ with
      | none => rw [he] at hr; cases hr
      | some p =>
        rw [E_le h _ _ _ he]
        rw [he] at hr
        exact hr
    · cases hr

theorem evF_succ (cf : Cfg) (fs : Nat → Option Fn') (ora : CallFn) (n f : Nat) (a : List D) (H : List Obj) :
    evF cf fs ora (n + 1) f a H = (match ora f a H with | some r => some r | none => runF cf (evF cf fs ora n) fs f a H) := rfl

theorem evF_up (cf : Cfg) (fs : Nat → Option Fn') (ora : CallFn) : ∀ n, Le (evF cf fs ora n) (evF cf fs ora (n + 1)) := by
  intro n
  induction n with
  | zero =>
    intro f a H r h
    rw [evF_succ, show ora f a H = some r from h]
  | succ n ih =>
    intro f a H r h
    rw [evF_succ] at h ⊢
    cases ho : ora f a H with
    | some q => rw [ho] at h; exact h
    | none => rw [ho] at h; exact runF_le ih f a H r h

theorem K_some {cf : Cfg} {fs : Nat → Option Fn'} {ora : CallFn} {f : Nat} {a : List D} {H : List Obj} {r} : K cf fs ora f a H = some r ↔ ∃ n, evF cf fs ora n f a H = some r :=
  lim_some fun n r h => evF_up cf fs ora n f a H r h

theorem evF_mono (cf : Cfg) (fs : Nat → Option Fn') (ora : CallFn) {n m : Nat} (h : n ≤ m) : Le (evF cf fs ora n) (evF cf fs ora m) :=
  fun f a H r hr => up (g := fun n => evF cf fs ora n f a H) (fun n r h => evF_up cf fs ora n f a H r h) hr h

/-! ### Continuity: what the limit answers is answered with fuel enough -/

section
variable {cf : Cfg} {fs : Nat → Option Fn'} {ora : CallFn}

theorem go_lim {nk : Nat} {T : List D} {i : Ins} {H : Hp} {r : D × Wr} (hr : (i.go cf (K cf fs ora) nk T).run H = some r) :
    ∃ n, (i.go cf (evF cf fs ora n) nk T).run H = some r ∧ (i.go cf (evF cf fs ora n) nk T).log H = (i.go cf (K cf fs ora) nk T).log H := by
  cases i with
  | call f args =>
    simp only [Ins.go] at hr ⊢
    cases hf : f.ev T <;> rw [hf] at hr <;> first | (cases hr; done) | skip
    rename_i m a b
    simp only at hr ⊢
    -- the one call that is asked
    have key : ∃ n, (callM (evF cf fs ora n) (cf.live m) nk m (a ++ args.map (X.ev T) ++ b)).run H = some r := by
      unfold callM at hr ⊢
      simp only [M.run_bind] at hr ⊢
      cases hv : (inM (cf.live m) (a ++ args.map (X.ev T) ++ b)).run H with
      | none => rw [hv] at hr; cases hr
      | some p =>
        rw [hv] at hr
        simp only [Option.bind_some] at hr ⊢
        split at hr
        · rename_i hk
          simp only [hk, if_true]
          unfold callP at hr ⊢
          cases hc : K cf fs ora m p.1 [] with
          | none => rw [hc] at hr; cases hr
          | some q =>
            obtain ⟨n, hn⟩ := K_some.1 hc
            exact ⟨n, by rw [hn]; rw [hc] at hr; exact hr⟩
        · rename_i hk
          simp only [hk, if_false]
          simp only [M.run_bind] at hr ⊢
          cases ho : (reach p.2 reachFuel (keysL p.1) []).run H with
          | none => rw [ho] at hr; cases hr
          | some os =>
            rw [ho] at hr
            simp only [Option.bind_some] at hr ⊢
            unfold callO at hr ⊢
            cases hc : K cf fs ora m (renL (intoK os) p.1) (os.map fun (_, o) => o.ren (intoK os)) with
            | none => rw [hc] at hr; cases hr
            | some q =>
              obtain ⟨n, hn⟩ := K_some.1 hc
              exact ⟨n, by rw [hn]; rw [hc] at hr; exact hr⟩
    obtain ⟨n, hn⟩ := key
    exact ⟨n, hn, ((callM_le (fun a H r h => K_some.2 ⟨n, h⟩) hn).2).symm⟩
  | _ => exact ⟨0, hr, rfl⟩

theorem evOp_lim {o : Ope} {s : St} {r} (hr : evOp cf (K cf fs ora) o s = some r) : ∃ n, evOp cf (evF cf fs ora n) o s = some r := by
  unfold evOp at hr ⊢
  cases hw : wants s.T o.guard with
  | none => rw [hw] at hr; cases hr
  | some b =>
    rw [hw] at hr
    cases b with
    | false => exact ⟨0, hr⟩
    | true =>
      simp only at hr ⊢
      cases hm : (o.ins.go cf (K cf fs ora) s.H.length s.T).run (s.H[·]?) with
      | none => unfold evM at hr; rw [hm] at hr; cases hr
      | some p =>
        obtain ⟨n, h1, h2⟩ := go_lim hm
        exact ⟨n, evM_le (fun r h' => by rw [hm] at h'; injection h' with h'; subst h'; exact ⟨h1, h2⟩) hr⟩

theorem evOps_lim : ∀ {ops : List Ope} {s : St} {r}, evOps cf (K cf fs ora) ops s = some r → ∃ n, evOps cf (evF cf fs ora n) ops s = some r
  | [], _, _, hr => ⟨0, hr⟩
  | o :: ops, s, r, hr => by
    rw [evOps] at hr
    cases ho : evOp cf (K cf fs ora) o s with
    | none => rw [ho] at hr; cases hr
    | some p =>
      rw [ho] at hr
      simp only at hr
      cases hq : evOps cf (K cf fs ora) ops p.1 with
      | none => rw [hq] at hr; cases hr
      | some q =>
        obtain ⟨n, hn⟩ := evOp_lim ho
        obtain ⟨m, hm⟩ := evOps_lim hq
        refine ⟨max n m, ?_⟩
        rw [evOps, evOp_le (evF_mono cf fs ora (Nat.le_max_left n m)) hn]
        simp only
        rw [evOps_le (evF_mono cf fs ora (Nat.le_max_right n m)) hm]
        rw [hq] at hr
        exact hr

theorem E_lim : ∀ (x : C) (s : St) (r : Ex × St), E cf (K cf fs ora) x s = some r → ∃ n, E cf (evF cf fs ora n) x s = some r := by
  intro x
  induction x with
  | skip => exact fun _ _ h => ⟨0, h⟩
  | reg dr ops =>
    intro s r hr
    rw [E] at hr
    cases ho : evReg cf (K cf fs ora) dr ops s with
    | none => rw [ho] at hr; cases hr
    | some p =>
      unfold evReg at ho
      cases hq : evOps cf (K cf fs ora) ops s with
      | none => rw [hq] at ho; cases ho
      | some q =>
        obtain ⟨n, hn⟩ := evOps_lim hq
        refine ⟨n, ?_⟩
        have h2 : evReg cf (evF cf fs ora n) dr ops s = some p := by unfold evReg; rw [hn]; rw [hq] at ho; exact ho
        rw [E, h2]
        unfold evReg at hr
        rw [hq] at hr ho
        rw [ho] at hr
        exact hr
  | seq a b iha ihb =>
    intro s r hr
    rw [E] at hr
    cases ho : E cf (K cf fs ora) a s with
    | none => rw [ho] at hr; cases hr
    | some p =>
      rw [ho] at hr
      obtain ⟨e, s'⟩ := p
      obtain ⟨n, hn⟩ := iha _ _ ho
      cases e with
      | nrm =>
        obtain ⟨m, hm⟩ := ihb _ _ hr
        refine ⟨max n m, ?_⟩
        rw [E, E_le (evF_mono cf fs ora (Nat.le_max_left n m)) _ _ _ hn]
        exact E_le (evF_mono cf fs ora (Nat.le_max_right n m)) _ _ _ hm
      | exit i => exact ⟨n, by rw [E, hn]; exact hr⟩
      | ret => exact ⟨n, by rw [E, hn]; exact hr⟩
  | cond x a b iha ihb =>
    intro s r hr
    rw [E] at hr
    cases hx : x.ev s.T with
    | bool t =>
      rw [hx] at hr
      cases t with
      | true =>
        obtain ⟨n, hn⟩ := iha _ _ hr
        exact ⟨n, by rw [E, hx]; exact hn⟩
      | false =>
        obtain ⟨n, hn⟩ := ihb _ _ hr
        exact ⟨n, by rw [E, hx]; exact hn⟩
    | _ => rw [hx] at hr; cases hr
  | block id b ih =>
    intro s r hr
    rw [E] at hr
    cases ho : E cf (K cf fs ora) b s with
    | none => rw [ho] at hr; cases hr
    | some p =>
      obtain ⟨n, hn⟩ := ih _ _ ho
      exact ⟨n, by rw [E, hn]; rw [ho] at hr; exact hr⟩
  | loop b ih =>
    intro s r hr
    rw [E] at hr
    obtain ⟨k, hk⟩ := Lp_some.1 hr
    have key : ∀ (T0 : List D) (n0 k : Nat) (s : St) (r : Ex × St), iter (fun s => E cf (K cf fs ora) b s) T0 n0 k s = some r → ∃ n, iter (fun s => E cf (evF cf fs ora n) b s) T0 n0 k s = some r := by
      intro T0 n0 k
      induction k with
      | zero => intro s r h; cases h
      | succ k ihk =>
        intro s r h
        rw [iter] at h
        cases hg : E cf (K cf fs ora) b s with
        | none => rw [hg] at h; cases h
        | some p =>
          obtain ⟨n, hn⟩ := ih _ _ hg
          rw [hg] at h
          obtain ⟨e, s'⟩ := p
          cases e with
          | nrm =>
            simp only at h
            cases hq : reset T0 n0 s' with
            | none => rw [hq] at h; cases h
            | some s'' =>
              rw [hq] at h
              obtain ⟨m, hm⟩ := ihk _ _ h
              refine ⟨max n m, ?_⟩
              rw [iter, E_le (evF_mono cf fs ora (Nat.le_max_left n m)) _ _ _ hn]
              simp only [hq]
              exact iter_le (fun s r => E_le (evF_mono cf fs ora (Nat.le_max_right n m)) b s r) _ _ _ _ _ hm
          | exit i => exact ⟨n, by rw [iter, hn]; exact h⟩
          | ret => exact ⟨n, by rw [iter, hn]; exact h⟩
    obtain ⟨n, hn⟩ := key _ _ _ _ _ hk
    exact ⟨n, by rw [E]; exact Lp_some.2 ⟨k, hn⟩⟩
  | exit id => exact fun _ _ h => ⟨0, h⟩
  | ret => exact fun _ _ h => ⟨0, h⟩

/-- THE CALL OF A FUNCTION, out of its body. -/
theorem K_run {f : Nat} {args : List D} {H : List Obj} {r} (ho : ora f args H = none) (h : runF cf (K cf fs ora) fs f args H = some r) : K cf fs ora f args H = some r := by
  unfold runF at h
  cases hf : fs f with
  | none => rw [hf] at h; cases h
  | some fn =>
    rw [hf] at h
    simp only at h
    split at h
    · rename_i hc
      cases he : E cf (K cf fs ora) fn.body ⟨args ++ List.replicate (fn.ntmps - args.length) .undef, H⟩ with
      | none => rw [he] at h; cases h
      | some p =>
        obtain ⟨n, hn⟩ := E_lim _ _ _ he
        refine K_some.2 ⟨n + 1, ?_⟩
        rw [evF_succ, ho]
        simp only
        unfold runF
        rw [hf]
        simp only
        rw [if_pos hc, hn]
        rw [he] at h
        exact h
    · cases h

theorem K_ora {f : Nat} {args : List D} {H : List Obj} {r} (ho : ora f args H = some r) : K cf fs ora f args H = some r := K_some.2 ⟨0, ho⟩
end
end Go.Ab
