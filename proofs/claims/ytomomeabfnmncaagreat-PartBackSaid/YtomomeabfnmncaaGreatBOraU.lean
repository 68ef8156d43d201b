/- THE ABSTRACT MACHINE: what its oracle says of grain.Rows, strings.Compare, and slices.Clone of no value (its soundness: OraOk). -/
import Derived.Test.YtomomeabfnmncaaGreatBTop
import Derived.Lib.Bytealg
import Derived.Test.YtomomeabfnmncaaGreatProg
import Derived.KernelRfl
import Derived.WalkKit
import Derived.OwnWalk
set_option linter.all false
namespace Go.Ab
def vaOf : D → Option (Int × List UInt8)
  | .agg [.int .i64 n, .str t] => some (n, t)
  | _ => none
def vasOf : List D → Option (List (Int × List UInt8))
  | [] => some []
  | d :: r => (vaOf d).bind fun v => (vasOf r).map (v :: ·)
def colsOf : List D → Option (List (List (Int × List UInt8)))
  | [] => some []
  | .slc _ _ es :: r => (vasOf es).bind fun v => (colsOf r).map (v :: ·)
  | _ => none
abbrev vaD (p : Int × List UInt8) : D := .agg [.int .i64 p.1, .str p.2]
abbrev rowD (r : List (Int × List UInt8)) : D := .slc false 2 (r.map vaD)
/-- The rows of columns of one length. -/
def rowsOf (cols : List (List (Int × List UInt8))) : Option (List (List (Int × List UInt8))) := match cols with
  | [] => none
  | c :: _ => if cols.all (fun x => x.length == c.length) then some ((List.range c.length).map fun i => cols.map fun x => x[i]?.getD (0, [])) else none
theorem vaOf_eq {d : D} {v : Int × List UInt8} (h : vaOf d = some v) : d = vaD v := by
  unfold vaOf at h
  split at h
  · simp only [Option.some.injEq] at h
    subst h
    rfl
  · cases h
theorem vasOf_eq : ∀ (es : List D) (l : List (Int × List UInt8)), vasOf es = some l → es = l.map vaD
  | [], l, h => by
    simp only [vasOf, Option.some.injEq] at h
    subst h
    rfl
  | e :: r, l, h => by
    unfold vasOf at h
    obtain ⟨v, hv, h2⟩ := Option.bind_eq_some_iff.1 h
    obtain ⟨u, hu, rfl⟩ := Option.map_eq_some_iff.1 h2
    rw [vaOf_eq hv, vasOf_eq r u hu]
    rfl
theorem vasOf_map (l : List (Int × List UInt8)) : vasOf (l.map vaD) = some l := by
  induction l with
  | nil => rfl
  | cons x l ih => simp only [List.map_cons, vasOf, vaOf, Option.bind_some, ih, Option.map_some]
/-- Columns, each with its flags. -/
theorem colsOf_eq : ∀ (es : List D) (l : List (List (Int × List UInt8))), colsOf es = some l → es.length = l.length ∧ ∀ (i : Nat) (e : D) (x : List (Int × List UInt8)), es[i]? = some e → l[i]? = some x → ∃ c s, e = .slc c s (x.map vaD)
  | [], l, h => by
    simp only [colsOf, Option.some.injEq] at h
    subst h
    exact ⟨rfl, fun i e x h => by simp at h⟩
  | e :: r, l, h => by
    unfold colsOf at h
    split at h
    · rename_i heq; cases heq
    · rename_i c s es r' heq
      injection heq with h1 h2
      subst h1 h2
      obtain ⟨v, hv, h3⟩ := Option.bind_eq_some_iff.1 h
      obtain ⟨u, hu, rfl⟩ := Option.map_eq_some_iff.1 h3
      obtain ⟨q1, q2⟩ := colsOf_eq r u hu
      refine ⟨by simp [q1], fun i e x he hx => ?_⟩
      cases i with
      | zero =>
        simp at he hx
        subst he hx
        exact ⟨c, s, by rw [vasOf_eq _ _ hv]⟩
      | succ i => exact q2 i e x (by simpa using he) (by simpa using hx)
    · cases h
theorem colsOf_map (f : List (Int × List UInt8) → Bool × Nat) (l : List (List (Int × List UInt8))) : colsOf (l.map fun x => .slc (f x).1 (f x).2 (x.map vaD)) = some l := by
  induction l with
  | nil => rfl
  | cons x l ih => simp only [List.map_cons, colsOf, vasOf_map, Option.bind_some, ih, Option.map_some]
/-- It says nothing of f. -/
abbrev noU (f : Nat) : Prop := f ≠ 116 ∧ f ≠ 123 ∧ f ≠ 47
def oraU : CallFn := fun f args H => if f = 116 then (match args, H with
  | [.slc _ _ es], [] => (colsOf es).bind fun cols => if cols.length ≤ 1048576 ∧ (cols.headD []).length ≤ 1048576 then
      some (match rowsOf cols with | some rows => .tuple [.slc true 1 (rows.map rowD), .bool true] | none => .tuple [.slc true 0 [], .bool false], []) else none
  | _, _ => none) else if f = 123 then (match args, H with
  | [.str a, .str b], [] => some (.int .i64 (Lib.compareBytes a b), [])
  | _, _ => none) else if f = 47 then (match args, H with
  | [.slc _ _ []], [] => some (.slc true 2 [], [])
  | _, _ => none) else none
theorem oraU_none {f : Nat} {a : List D} {H : List Obj} (h : noU f) : oraU f a H = none := by
  unfold oraU
  rw [if_neg h.1, if_neg h.2.1, if_neg h.2.2]
end Go.Ab
/- THE ABSTRACT MACHINE: slices.Grow of nil, walked by hand: what the machine's oracle answers. (for the seat's own program) -/
set_option linter.all false
namespace Go.Ab
open Go.Proofs Go.RowKit

theorem run_appz {P : Program} {w : World} {t u ty e : TypeId} {i : TypeInfo} {z : Value} {k kx : IntKind} {n : Nat} (ht : P.underlying t = some (.slice e)) (hu : P.underlying u = some (.int k)) (hi : P.info? e = some i) (hz : i.zero = some z) (hs : 0 < i.size) (h0 : 0 < n)
    (hb : n * i.bytes ≤ capBound) (hb0 : 0 < i.bytes) : (Builtin.append_ #[t, u] ty #[.slice none 0 0, .int kx n]).run P w = .ok (.slice (some ⟨w.heap.size, 0, none⟩) n (grownCap w n 0 e))
      (w.drew.alloc (.cells (Builtin.zeroCells z.cells n ++ Builtin.zeroCells z.cells (grownCap w n 0 e - n)) e)) := by
  have hbb : n * i.bytes ≤ 140737488355328 := by unfold capBound at hb; omega
  have h63 : n ≤ n * i.bytes := Nat.le_mul_of_pos_right _ hb0
  have h48' : ¬ (281474976710656 < Builtin.nextslicecap n 0 * i.bytes) := by have := growslice_fits (need := n) (old := 0) (bytes := i.bytes) h0 hbb; omega
  have hw : IntKind.i64.wrap (n : Int) = n := by exact IntWalk.i64_in _ (by omega)
  have hneg : ¬ ((n : Int) < 0) := by omega
  have h48 : ¬ (281474976710656 < (n : Int) * i.bytes) := by
    have : ((n * i.bytes : Nat) : Int) ≤ ((140737488355328 : Nat) : Int) := Int.ofNat_le.2 hbb
    rw [Int.natCast_mul] at this
    omega
  have h63' : ¬ (9223372036854775807 < (n : Int)) := by omega
  have hns : ¬ (n = 0 ∨ i.size = 0) := by omega
  have hn0 : ¬ n = 0 := by omega
  simp [Builtin.append_, run_underlying ht, run_underlying hu, sizeOf, typeInfo, zeroValue, hi, hz, asInt, asIntOf, hw, hneg, h48, h63', h48', hns, hn0, Question.forced, newRow, grownCap, Builtin.firstCells]
  intro h
  exact absurd h (Nat.ne_of_gt (Nat.mul_pos h0 hs))

section
variable {P : Program} {ops : Array Oper} {Q : Exit → Act → World → Prop} {rest : List Oper} {o : Oper} {a : Act} {w : World}
theorem appz_wp (hgd : o.guard = none) (s x : Operand) (t ti e : TypeId) (sz bytes : Nat) (z : Value) (ho : o.op = .call { callee := .builtin .append, args := #[s, x], argTypes := #[t, ti] })
    (ht : P.underlying t = some (.slice e)) {k : IntKind} (hti : P.underlying ti = some (.int k)) (hinfo : (P.info? e).map (fun i => (i.zero, i.size, i.bytes)) = some (some z, sz, bytes)) (hs0 : 0 < sz) (hb0 : 0 < bytes)
    {kx : IntKind} (n : Nat) (hs : a.eval s = .slice none 0 0) (hx : a.eval x = .int kx n) (h0 : 0 < n) (hl : n * bytes ≤ capBound)
    (h : wpList P ops Q rest (a.put o.dst (.slice (some ⟨w.heap.size, 0, none⟩) n (grownCap w n 0 e))) (w.drew.alloc (.cells (Builtin.zeroCells z.cells n ++ Builtin.zeroCells z.cells (grownCap w n 0 e - n)) e))) :
    wpList P ops Q (o :: rest) a w := by
  obtain ⟨i, hi, h9⟩ := Option.map_eq_some_iff.1 hinfo
  simp only [Prod.mk.injEq] at h9
  obtain ⟨hz, rfl, rfl⟩ := h9
  have hr1 := run_appz (P := P) (w := w) (ty := o.type) (kx := kx) ht hti hi hz hs0 h0 hl hb0
  refine wpList_plain hgd fun K hK => ?_
  unfold Oper.wp execOp
  simp only [ho, resolve, invoke, builtin, Sem.run_bind, Sem.run_pure, Result.andThen_ok, List.map_toArray, List.map_cons, List.map_nil, hs, hx, hr1]
  exact hK _ _ h
end

/-- What Grow of nil has left. -/
def Grown0 (e : TypeId) (w : World) (v : Value) (w' : World) : Prop :=
  (v = .slice none 0 0 ∧ w' = w) ∨ ∃ cap c, v = .slice (some ⟨w.heap.size, 0, none⟩) 0 cap ∧ w' = w.drew.alloc (.cells c e) ∧ cap ≤ c.size

set_option maxHeartbeats 1000000 in
set_option maxRecDepth 100000 in
theorem grow88 (n : Int) (w : World) (h0 : 0 ≤ n) (hn : n.toNat * 1 ≤ capBound) : Calls Tryz.prog 85 #[.slice none 0 0, .int .i64 n] w fun e w' => ∃ v, e = .returned v ∧ Grown0 5 w v w' := by
  have hn' : n ≤ 70368744177664 := by unfold capBound at hn; omega
  have h0b : decide (n < 0) = false := by simpa using h0
  by_cases hp : 0 < n
  · have hpb : decide (0 < n) = true := by simpa using hp
    obtain ⟨m, rfl⟩ : ∃ m : Nat, n = m := ⟨n.toNat, by omega⟩
    go_enter Tryz.func85, Tryz.ntmps85
    go_wp2_with (first | (at_builtin; refine appz_wp rfl _ _ 37 3 5 1 1 (.int .u8 0) rfl Tryz.underlying37 Tryz.underlying3 (by kernel_rfl) (by decide) (by decide) m rfl rfl (by omega) (by simpa using hn) ?_))
    go_ret
    exact ⟨_, rfl, .inr ⟨_, _, rfl, rfl, by rw [Array.size_append, size_zeroCells, size_zeroCells]; have := grownCap_ge w m 0 5; simp [Value.cells]; omega⟩⟩
  · have hz : n = 0 := by omega
    subst hz
    go_enter Tryz.func85, Tryz.ntmps85
    go_wp2
    go_ret
    exact ⟨_, rfl, .inl ⟨rfl, rfl⟩⟩

set_option maxHeartbeats 1000000 in
set_option maxRecDepth 100000 in
theorem grow108 (n : Int) (w : World) (h0 : 0 ≤ n) (hn : n.toNat * 8 ≤ capBound) : Calls Tryz.prog 108 #[.slice none 0 0, .int .i64 n] w fun e w' => ∃ v, e = .returned v ∧ Grown0 3 w v w' := by
  have hn' : n ≤ 70368744177664 := by unfold capBound at hn; omega
  have h0b : decide (n < 0) = false := by simpa using h0
  by_cases hp : 0 < n
  · have hpb : decide (0 < n) = true := by simpa using hp
    obtain ⟨m, rfl⟩ : ∃ m : Nat, n = m := ⟨n.toNat, by omega⟩
    go_enter Tryz.func108, Tryz.ntmps108
    go_wp2_with (first | (at_builtin; refine appz_wp rfl _ _ 28 3 3 1 8 (.int .i64 0) rfl Tryz.underlying28 Tryz.underlying3 (by kernel_rfl) (by decide) (by decide) m rfl rfl (by omega) (by simpa using hn) ?_))
    go_ret
    exact ⟨_, rfl, .inr ⟨_, _, rfl, rfl, by rw [Array.size_append, size_zeroCells, size_zeroCells]; have := grownCap_ge w m 0 3; simp [Value.cells]; omega⟩⟩
  · have hz : n = 0 := by omega
    subst hz
    go_enter Tryz.func108, Tryz.ntmps108
    go_wp2
    go_ret
    exact ⟨_, rfl, .inl ⟨rfl, rfl⟩⟩

theorem run_eqls {P : Program} (w : World) (t e : TypeId) (a : Option Addr) (l c : Nat) (h : P.underlying t = some (.slice e)) : (binOp .eql t (.slice a l c) (.slice none 0 0)).run P w = .ok (.bool a.isNone) w := by
  simp only [binOp]
  simp [run_equal_slice_nil w t e a l c h]
set_option maxHeartbeats 1000000 in
set_option maxRecDepth 100000 in
theorem clone76n (w : World) : Calls Tryz.prog 89 #[.slice none 0 0] w fun e w' => e = .returned (.slice none 0 0) ∧ w' = w := by
  have q2 := fun w => run_eqls (P := Tryz.prog) w 37 5 none 0 0 Tryz.underlying37
  go_enter Tryz.func89, Tryz.ntmps89
  go_wp2
  go_ret
  exact ⟨rfl, rfl⟩
set_option maxHeartbeats 1000000 in
set_option maxRecDepth 100000 in
theorem clone76e (a : Addr) (cap : Nat) (w : World) : Calls Tryz.prog 89 #[.slice (some a) 0 cap] w fun e w' => ∃ b, e = .returned (.slice (some b) 0 0) ∧ w' = w.alloc (.cells #[] 5) := by
  have q2 := fun w => run_eqls (P := Tryz.prog) w 37 5 (some a) 0 cap Tryz.underlying37
  go_enter Tryz.func89, Tryz.ntmps89
  go_wp2
  go_ret
  exact ⟨_, rfl, rfl⟩
/-- What the machine is told of Grow, and of Clone of an empty slice. -/
def oraG : CallFn := fun f args H => match args, H with
  | [.slc true 0 [], .int .i64 n], [] => if (f = 85 ∧ 0 ≤ n ∧ n.toNat * 1 ≤ capBound) ∨ (f = 108 ∧ 0 ≤ n ∧ n.toNat * 8 ≤ capBound) then some (.sl 0 0 0 0, [.row 1 [] 0]) else oraU f args H
  | [.slc _ _ []], [] => if f = 89 then some (.slc true 1 [], []) else oraU f args H
  | _, _ => oraU f args H

theorem grown_ok {w w' : World} {F : Fz} {μ : Mu} {Pr : Nat → Prop} {e : TypeId} {v : Value} (R : Rel w F μ (hp []) Pr) (h : Grown0 e w v w') : ∃ F' μ', Nx Pr w F μ (hp []) w' F' μ' (hp [.row 1 [] 0]) ∧ Rd w' F' (env μ' (hp [.row 1 [] 0])) v (.sl 0 0 0 0) := by
  have hup : (hp [.row 1 [] 0] : Hp) = upd (hp []) 0 (some (.row 1 [] 0)) := by
    funext k
    cases k with
    | zero => simp [hp]
    | succ k => simp [hp, upd]
  rw [hup]
  rcases h with ⟨rfl, rfl⟩ | ⟨cap, c, rfl, rfl, hc⟩
  · refine ⟨F, upd μ 0 none, Nx.one R (Stp.refl _ _ _) (fun g' b z hne hs hm => ⟨rfl, fun _ h => h⟩) (fun o0 ho => by simp [hp] at ho) (fun _ => .vrow 1) (fun b z h => by cases h) R.fc, ?_⟩
    exact .slv _ 0 (by rw [env_upd_same]; rfl)
  · refine ⟨F, upd μ 0 (some (w.heap.size, c.size)), Nx.newRow R (drew_alloc w _) (fun o _ h => by simp at h) (by simp [hp]) (by omega) (fun e he => by cases he) (by simp) (fun j d h => by simp at h), ?_⟩
    exact .sl _ 0 w.heap.size 1 0 c.size 0 0 0 cap (by rw [env_upd_same]; rfl) (by omega) (by omega) (.inl (by omega)) (by omega)

theorem oraG_ok (hU : CallOk Tryz.prog oraU) : CallOk Tryz.prog oraG := by
  intro f args H d H' h
  unfold oraG at h
  split at h
  · rename_i n
    split at h
    · rename_i hc
      simp only [Option.some.injEq, Prod.mk.injEq] at h
      obtain ⟨rfl, rfl⟩ := h
      have hv : ∀ {w F κ} {vs : List Value}, RdL w F κ vs [.slc true 0 [], .int .i64 n] → vs = [.slice none 0 0, .int .i64 n] := by
        intro w F κ vs hv
        match vs, hv.1 with
        | [a, b], _ =>
          rw [isNil_rd (hv.2 0 a _ rfl rfl) rfl, rd_int (hv.2 1 b _ rfl rfl)]
      rcases hc with ⟨rfl, h0, hn⟩ | ⟨rfl, h0, hn⟩
      · refine ⟨fun vs w => callFunc_enter (b := _) Tryz.func85 rfl (by decide) vs w, fun w F μ Pr vs R hr => ?_⟩
        rw [hv hr]
        refine (grow88 n w h0 hn).mono ?_
        rintro e w' ⟨v, rfl, hg⟩
        obtain ⟨F', μ', n1, h1⟩ := grown_ok R hg
        exact ⟨v, rfl, F', μ', n1, h1⟩
      · refine ⟨fun vs w => callFunc_enter (b := _) Tryz.func108 rfl (by decide) vs w, fun w F μ Pr vs R hr => ?_⟩
        rw [hv hr]
        refine (grow108 n w h0 hn).mono ?_
        rintro e w' ⟨v, rfl, hg⟩
        obtain ⟨F', μ', n1, h1⟩ := grown_ok R hg
        exact ⟨v, rfl, F', μ', n1, h1⟩
    · exact hU _ _ _ _ _ h
  · rename_i c s
    split at h
    · rename_i hc
      subst hc
      simp only [Option.some.injEq, Prod.mk.injEq] at h
      obtain ⟨rfl, rfl⟩ := h
      refine ⟨fun vs w => callFunc_enter (b := _) Tryz.func89 rfl (by decide) vs w, fun w F μ Pr vs R hr => ?_⟩
      match vs, hr.1 with
      | [v], _ =>
        have hv := hr.2 0 v _ rfl rfl
        rcases (show v = .slice none 0 0 ∨ ∃ a cap, v = .slice (some a) 0 cap by cases hv with
          | nils => exact .inl rfl
          | emp _ a => exact .inr ⟨a, 0, rfl⟩
          | slc => exact .inr ⟨_, _, rfl⟩) with rfl | ⟨a, cap, rfl⟩
        · refine (clone76n w).mono ?_
          rintro e w' ⟨rfl, rfl⟩
          exact ⟨_, rfl, F, μ, Nx.refl R, .nils _ _ _⟩
        · refine (clone76e a cap w).mono ?_
          rintro e w' ⟨b, rfl, rfl⟩
          obtain ⟨F', n1, _⟩ := Nx.newFz R (w' := w.alloc (.cells #[] 5)) (c := #[]) (el := 5) ⟨rfl, rfl, rfl, rfl⟩
          exact ⟨_, rfl, F', μ, n1, .emp _ _ _ _ (by decide)⟩
    · exact hU _ _ _ _ _ h
  · exact hU _ _ _ _ _ h
end Go.Ab
