/- THE ABSTRACT MACHINE: the rules by which simp carries a function out. -/
import Derived.Test.YtomomeabfnmncaaGreatBEk
set_option linter.all false
namespace Go.Ab

section
variable (cf : Cfg) (call : CallFn)

noncomputable def hpK (r : Option (List Obj)) (d : D) (dst : Option Nat) (k : List Kn) (T : List D) : Option (Ex × St) :=
  match r with | some H => Ks cf call k .nrm ⟨setD T dst d, H⟩ | none => none
noncomputable def outK (r : Option D) (dst : Option Nat) (k : List Kn) (T : List D) (H : List Obj) : Option (Ex × St) :=
  match r with | some d => Ks cf call k .nrm ⟨setD T dst d, H⟩ | none => none
noncomputable def wrK (r : Option (D × Wr)) (dst : Option Nat) (k : List Kn) (T : List D) (H : List Obj) : Option (Ex × St) :=
  match r with | some (d, wr) => hpK cf call (applyW H wr) d dst k T | none => none
noncomputable def gdK (r : Option Bool) (dst : Option Nat) (i : Ins) (k : List Kn) (T : List D) (H : List Obj) : Option (Ex × St) :=
  match r with | some true => Ks cf call (.op ⟨dst, none, i⟩ :: k) .nrm ⟨T, H⟩ | some false => Ks cf call k .nrm ⟨setD T dst (.tuple []), H⟩ | none => none
noncomputable def ansK (r : Option (D × List Obj)) (ov : Wr) (dst : Option Nat) (k : List Kn) (T : List D) (H : List Obj) : Option (Ex × St) :=
  match r with
  | some (d, H') => if H' = [] then hpK cf call (applyW H ov.reverse) d dst k T else hpK cf call (applyW H (ov.reverse ++ H'.zipIdx.map fun (o, j) => (H.length + j, o.ren (H.length + ·)))) (d.ren (H.length + ·)) dst k T
  | none => none
noncomputable def ansO (r : Option (D × List Obj)) (os ov : Wr) (dst : Option Nat) (k : List Kn) (T : List D) (H : List Obj) : Option (Ex × St) :=
  match r with
  | some (d, H') => if os.length ≤ H'.length then hpK cf call (applyW H (ov.reverse ++ H'.zipIdx.map fun (o, j) => (backK os H.length j, o.ren (backK os H.length)))) (d.ren (backK os H.length)) dst k T else none
  | none => none
noncomputable def osK (r : Option Wr) (n : Nat) (args : List D) (ov : Wr) (dst : Option Nat) (k : List Kn) (T : List D) (H : List Obj) : Option (Ex × St) :=
  match r with
  | some os => ansO cf call (call n (renL (intoK os) args) (os.map fun (_, o) => o.ren (intoK os))) os ov dst k T H
  | none => none
noncomputable def argK (r : Option (List D × Wr)) (n : Nat) (dst : Option Nat) (k : List Kn) (T : List D) (H : List Obj) : Option (Ex × St) :=
  match r with
  | some (args, ov) => if keysL args = [] then ansK cf call (call n args []) ov dst k T H else osK cf call ((reach ov reachFuel (keysL args) []).run (H[·]?)) n args ov dst k T H
  | none => none
noncomputable def fnK (f : D) (args : List D) (dst : Option Nat) (k : List Kn) (T : List D) (H : List Obj) : Option (Ex × St) :=
  match f with
  | .func n a b => argK cf call ((inM (cf.live n) (a ++ args ++ b)).run (H[·]?)) n dst k T H
  | _ => none

variable {cf call} {k : List Kn} {dst : Option Nat} {T : List D} {H : List Obj}

theorem Ek_of (i : Ins) : Ek cf call (.op ⟨dst, none, i⟩ :: k) ⟨T, H⟩ = wrK cf call ((i.go cf call H.length T).run (H[·]?)) dst k T H := by
  rw [Ek_op]
  show opK cf call (evM _ dst ⟨T, H⟩) k = _
  unfold evM opK wrK hpK
  cases (i.go cf call H.length T).run (H[·]?) with
  | none => rfl
  | some p =>
    simp only
    cases applyW H p.2 <;> rfl

theorem hpK_some {d : D} {H' : List Obj} : hpK cf call (some H') d dst k T = Ek cf call k ⟨setD T dst d, H'⟩ := rfl
theorem outK_some {d : D} : outK cf call (some d) dst k T H = Ek cf call k ⟨setD T dst d, H⟩ := rfl
theorem wrK_some {d : D} {wr : Wr} : wrK cf call (some (d, wr)) dst k T H = hpK cf call (applyW H wr) d dst k T := rfl
theorem wrK_map {r : Option D} : wrK cf call (r.bind fun d => some (d, [])) dst k T H = outK cf call r dst k T H := by cases r <;> rfl
theorem gdK_true {i : Ins} : gdK cf call (some true) dst i k T H = Ek cf call (.op ⟨dst, none, i⟩ :: k) ⟨T, H⟩ := rfl
theorem gdK_false {i : Ins} : gdK cf call (some false) dst i k T H = Ek cf call k ⟨setD T dst (.tuple []), H⟩ := rfl

theorem Ek_guard (g : Option Nat × Bool) (i : Ins) : Ek cf call (.op ⟨dst, some g, i⟩ :: k) ⟨T, H⟩ = gdK cf call (wants T (some g)) dst i k T H := by
  rw [Ek_op]
  unfold evOp gdK
  cases h : wants T (some g) with
  | none => rfl
  | some b =>
    cases b with
    | true => exact (show _ = Ek cf call _ _ by rw [Ek_op]; rfl)
    | false => rfl

theorem Ek_mv (x : X) : Ek cf call (.op ⟨dst, none, .mv x⟩ :: k) ⟨T, H⟩ = Ek cf call k ⟨setD T dst (x.ev T), H⟩ := by rw [Ek_of]; rfl
theorem Ek_nilrow : Ek cf call (.op ⟨dst, none, .nilrow⟩ :: k) ⟨T, H⟩ = hpK cf call (applyW H [(H.length, .row 0 [] 0)]) (.sl H.length 0 0 0) dst k T := by rw [Ek_of]; rfl

def pickD (c a b : D) : Option D := match c with | .bool t => some (if t then a else b) | _ => none
theorem pickD_true (a b : D) : pickD (.bool true) a b = some a := rfl
theorem pickD_false (a b : D) : pickD (.bool false) a b = some b := rfl
theorem Ek_pick (c a b : X) : Ek cf call (.op ⟨dst, none, .pick c a b⟩ :: k) ⟨T, H⟩ = outK cf call (pickD (c.ev T) (a.ev T) (b.ev T)) dst k T H := by
  rw [Ek_of]; simp only [Ins.go]; cases c.ev T <;> rfl

theorem Ek_alloc (v : Bool) (cs : List D) : Ek cf call (.op ⟨dst, none, .alloc v cs⟩ :: k) ⟨T, H⟩ = wrK cf call (some (mkBox v H.length cs)) dst k T H := by rw [Ek_of]; rfl
theorem Ek_allocA (s : Nat) (es : List D) : Ek cf call (.op ⟨dst, none, .allocA s es⟩ :: k) ⟨T, H⟩ = hpK cf call (applyW H [(H.length, .row s es 0)]) (.aptr H.length es.length) dst k T := by rw [Ek_of]; rfl

def boxD (v : Bool) (nk : Nat) (d : D) : Option (D × Wr) := if d.cells.all D.one then some (mkBox v nk d.cells) else none
theorem Ek_box (v : Bool) (x : X) : Ek cf call (.op ⟨dst, none, .box v x⟩ :: k) ⟨T, H⟩ = wrK cf call (boxD v H.length (x.ev T)) dst k T H := by
  rw [Ek_of]; simp only [Ins.go, boxD]; split <;> rfl

def boxAD (nk n s : Nat) (d : D) : Option (D × Wr) := if d.cells.all D.flat ∧ d.cells.length = n * s ∧ 0 < s then some (.aptr nk (chunks n s d.cells).length, [(nk, .row s (chunks n s d.cells) 0)]) else none
theorem Ek_boxA (n s : Nat) (x : X) : Ek cf call (.op ⟨dst, none, .boxA n s x⟩ :: k) ⟨T, H⟩ = wrK cf call (boxAD H.length n s (x.ev T)) dst k T H := by
  rw [Ek_of]; simp only [Ins.go, boxAD]; split <;> rfl

theorem Ek_bld (z : List D) (ps : List (Nat × Nat × X)) : Ek cf call (.op ⟨dst, none, .bld z ps⟩ :: k) ⟨T, H⟩ = outK cf call ((bldD z (ps.map fun p => (p.1, p.2.1, p.2.2.ev T))).map .agg) dst k T H := by
  rw [Ek_of]; simp only [Ins.go]
  cases bldD z (ps.map fun p => (p.1, p.2.1, p.2.2.ev T)) <;> rfl

def litD (live : Bool) (s nk n : Nat) (ov : Wr) (r : Option (List D)) : Option (D × Wr) :=
  match r with
  | some es => if live then some (.sl nk 0 n n, ov.reverse ++ [(nk, .row s es 0)]) else some (.slc true s es, ov.reverse)
  | none => none
def litF (live : Bool) (s nk n : Nat) (z : List D) (is : List Nat) (r : Option (List D × Wr)) : Option (D × Wr) :=
  match r with
  | some (ds, ov) => litD live s nk n ov (bslE s (List.replicate n (if s = 1 then z.headD .undef else .agg z)) (is.zip ds))
  | none => none
theorem litF_some {live : Bool} {s nk n : Nat} {z : List D} {is : List Nat} {ds : List D} {ov : Wr} : litF live s nk n z is (some (ds, ov)) = litD live s nk n ov (bslE s (List.replicate n (if s = 1 then z.headD .undef else .agg z)) (is.zip ds)) := rfl
theorem litD_false {s nk n : Nat} {ov : Wr} {es : List D} : litD false s nk n ov (some es) = some (.slc true s es, ov.reverse) := rfl
theorem litD_true {s nk n : Nat} {ov : Wr} {es : List D} : litD true s nk n ov (some es) = some (.sl nk 0 n n, ov.reverse ++ [(nk, .row s es 0)]) := rfl
theorem Ek_bsl (live : Bool) (s n : Nat) (z : List D) (ps : List (Nat × X)) : Ek cf call (.op ⟨dst, none, .bsl live s n z ps⟩ :: k) ⟨T, H⟩ =
    wrK cf call (litF live s H.length n z (ps.map (·.1)) ((fzL true [] (ps.map fun p => p.2.ev T)).run (H[·]?))) dst k T H := by
  rw [Ek_of]; simp only [Ins.go, M.run_bind]
  cases (fzL true [] (ps.map fun p => p.2.ev T)).run (H[·]?) with
  | none => rfl
  | some p =>
    simp only [Option.bind_some, litF, litD]
    cases bslE s (List.replicate n (if s = 1 then z.headD .undef else .agg z)) ((ps.map (·.1)).zip p.1) with
    | none => rfl
    | some es => simp only []; cases live <;> rfl

theorem Ek_ld (ag : Option Nat) (x : X) : Ek cf call (.op ⟨dst, none, .ld ag x⟩ :: k) ⟨T, H⟩ = outK cf call ((ldM ag (x.ev T)).run (H[·]?)) dst k T H := by
  rw [Ek_of]; simp only [Ins.go, M.run_bind]; exact wrK_map
noncomputable def stK (cf : Cfg) (call : CallFn) (r : Option Wr) (dst : Option Nat) (k : List Kn) (T : List D) (H : List Obj) : Option (Ex × St) :=
  match r with | some wr => hpK cf call (applyW H wr) .undef dst k T | none => none
theorem stK_some {wr : Wr} : stK cf call (some wr) dst k T H = hpK cf call (applyW H wr) .undef dst k T := rfl
theorem Ek_st (n : Nat) (x v : X) : Ek cf call (.op ⟨dst, none, .st n x v⟩ :: k) ⟨T, H⟩ = stK cf call ((stM n (x.ev T) (v.ev T)).run (H[·]?)) dst k T H := by
  rw [Ek_of]; simp only [Ins.go, M.run_bind]
  cases (stM n (x.ev T) (v.ev T)).run (H[·]?) <;> rfl

def ncD : D → Option D
  | .ptr g i o L => some (.ptr g i o L)
  | .aptr g L => some (.aptr g L)
  | .fptr d => some (.fptr d)
  | .func f a b => some (.func f a b)
  | _ => none
theorem Ek_nc (x : X) : Ek cf call (.op ⟨dst, none, .nc x⟩ :: k) ⟨T, H⟩ = outK cf call (ncD (x.ev T)) dst k T H := by
  rw [Ek_of]; simp only [Ins.go]; cases x.ev T <;> rfl
theorem Ek_bin (op : BinOp) (fl : List Nat) (x y : X) : Ek cf call (.op ⟨dst, none, .bin op fl x y⟩ :: k) ⟨T, H⟩ = outK cf call (binD op fl (x.ev T) (y.ev T)) dst k T H := by
  rw [Ek_of]; simp only [Ins.go, M.run_bind, run_ofO]; exact wrK_map
theorem Ek_un (op : UnOp) (x : X) : Ek cf call (.op ⟨dst, none, .un op x⟩ :: k) ⟨T, H⟩ = outK cf call (unD op (x.ev T)) dst k T H := by
  rw [Ek_of]; simp only [Ins.go, M.run_bind, run_ofO]; exact wrK_map
theorem Ek_cvt (c : Cv) (x : X) : Ek cf call (.op ⟨dst, none, .cvt c x⟩ :: k) ⟨T, H⟩ = wrK cf call ((cvtM H.length c (x.ev T)).run (H[·]?)) dst k T H := by rw [Ek_of]; rfl
theorem Ek_fn (f : Nat) (a b : List X) : Ek cf call (.op ⟨dst, none, .fn f a b⟩ :: k) ⟨T, H⟩ = Ek cf call k ⟨setD T dst (.func f (a.map (X.ev T)) (b.map (X.ev T))), H⟩ := by rw [Ek_of]; rfl
theorem Ek_sub (kd s : Nat) (x : X) (lo hi m : Option X) : Ek cf call (.op ⟨dst, none, .sub kd s x lo hi m⟩ :: k) ⟨T, H⟩ = outK cf call ((subM kd s (x.ev T) (lo.map (X.ev T)) (hi.map (X.ev T)) (m.map (X.ev T))).run (H[·]?)) dst k T H := by
  rw [Ek_of]; simp only [Ins.go, M.run_bind]; exact wrK_map
theorem Ek_fa (o s : Nat) (ag : Bool) (x : X) : Ek cf call (.op ⟨dst, none, .fa o s ag x⟩ :: k) ⟨T, H⟩ = outK cf call (faD o s ag (x.ev T)) dst k T H := by
  rw [Ek_of]; simp only [Ins.go, M.run_bind, run_ofO]; exact wrK_map
def fldD (o s : Nat) (ag : Bool) : D → Option D
  | .agg cs => partD o s ag cs
  | _ => none
theorem Ek_fld (o s : Nat) (ag : Bool) (x : X) : Ek cf call (.op ⟨dst, none, .fld o s ag x⟩ :: k) ⟨T, H⟩ = outK cf call (fldD o s ag (x.ev T)) dst k T H := by
  rw [Ek_of]; simp only [Ins.go, fldD]
  cases x.ev T <;> first | rfl | (simp only [M.run_bind, run_ofO]; exact wrK_map)
theorem Ek_ia (arr : Option Nat) (s : Nat) (ag : Bool) (x i : X) : Ek cf call (.op ⟨dst, none, .ia arr s ag x i⟩ :: k) ⟨T, H⟩ = outK cf call ((iaM arr s ag (x.ev T) (i.ev T)).run (H[·]?)) dst k T H := by
  rw [Ek_of]; simp only [Ins.go, M.run_bind]; exact wrK_map
theorem Ek_ix (kd n s : Nat) (ag : Bool) (x i : X) : Ek cf call (.op ⟨dst, none, .ix kd n s ag x i⟩ :: k) ⟨T, H⟩ = outK cf call (ixD kd n s ag (x.ev T) (i.ev T)) dst k T H := by
  rw [Ek_of]; simp only [Ins.go, M.run_bind, run_ofO]; exact wrK_map
def extD (n : Nat) : D → Option D
  | .tuple ds => ds[n]?
  | _ => none
theorem Ek_ext (x : X) (n : Nat) : Ek cf call (.op ⟨dst, none, .ext x n⟩ :: k) ⟨T, H⟩ = outK cf call (extD n (x.ev T)) dst k T H := by
  rw [Ek_of]; simp only [Ins.go, extD]
  cases x.ev T <;> first | rfl | (simp only [M.run_bind, run_ofO]; exact wrK_map)
theorem Ek_len (kd : Nat) (x : X) : Ek cf call (.op ⟨dst, none, .len kd x⟩ :: k) ⟨T, H⟩ = outK cf call (lenD kd (x.ev T)) dst k T H := by
  rw [Ek_of]; simp only [Ins.go, M.run_bind, run_ofO]; exact wrK_map
theorem Ek_mn (xs : List X) : Ek cf call (.op ⟨dst, none, .mn xs⟩ :: k) ⟨T, H⟩ = outK cf call (minD (xs.map (X.ev T))) dst k T H := by
  rw [Ek_of]; simp only [Ins.go, M.run_bind, run_ofO]; exact wrK_map
theorem Ek_mx (xs : List X) : Ek cf call (.op ⟨dst, none, .mx xs⟩ :: k) ⟨T, H⟩ = outK cf call (maxD (xs.map (X.ev T))) dst k T H := by
  rw [Ek_of]; simp only [Ins.go, M.run_bind, run_ofO]; exact wrK_map

def appF (nk s bytes : Nat) (x : D) (r : Option (Nat × List D)) (H : Hp) : Option (D × Wr) :=
  match r with
  | some (_, ys) => (appO nk s bytes x ys).run H
  | none => none
theorem appF_some {nk s bytes : Nat} {x : D} {a : Nat} {ys : List D} {H : Hp} : appF nk s bytes x (some (a, ys)) H = (appO nk s bytes x ys).run H := rfl
theorem Ek_app (s bytes : Nat) (x y : X) : Ek cf call (.op ⟨dst, none, .app s bytes x y⟩ :: k) ⟨T, H⟩ = wrK cf call (appF H.length s bytes (x.ev T) ((srcM (y.ev T)).run (H[·]?)) (H[·]?)) dst k T H := by
  rw [Ek_of]
  congr 1
  simp only [Ins.go, appM, M.run_bind]
  unfold appF
  cases (srcM (y.ev T)).run (H[·]?) <;> rfl

theorem Ek_call (f : X) (xs : List X) : Ek cf call (.op ⟨dst, none, .call f xs⟩ :: k) ⟨T, H⟩ = fnK cf call (f.ev T) (xs.map (X.ev T)) dst k T H := by
  rw [Ek_of]
  simp only [Ins.go]
  unfold fnK
  cases f.ev T <;> first | rfl | skip
  rename_i n a b
  simp only []
  unfold callM argK
  rw [M.run_bind]
  cases (inM (cf.live n) (a ++ xs.map (X.ev T) ++ b)).run (H[·]?) with
  | none => rfl
  | some p =>
    simp only [Option.bind_some]
    split
    · unfold callP ansK
      cases call n p.1 [] with
      | none => rfl
      | some q => simp only []; split <;> rfl
    · rw [M.run_bind]
      unfold osK
      cases (reach p.2 reachFuel (keysL p.1) []).run (H[·]?) with
      | none => rfl
      | some os =>
        simp only [Option.bind_some]
        unfold callO ansO
        cases call n (renL (intoK os) p.1) (os.map fun (_, o) => o.ren (intoK os)) with
        | none => rfl
        | some q => simp only []; split <;> rfl

theorem fnK_func {n : Nat} {a b args : List D} : fnK cf call (.func n a b) args dst k T H = argK cf call ((inM (cf.live n) (a ++ args ++ b)).run (H[·]?)) n dst k T H := rfl
theorem argK_pure {n : Nat} {args : List D} {ov : Wr} (h : keysL args = []) : argK cf call (some (args, ov)) n dst k T H = ansK cf call (call n args []) ov dst k T H := by
  unfold argK; simp only [if_pos h]
theorem argK_obj {n : Nat} {args : List D} {ov : Wr} (h : keysL args ≠ []) : argK cf call (some (args, ov)) n dst k T H = osK cf call ((reach ov reachFuel (keysL args) []).run (H[·]?)) n args ov dst k T H := by
  unfold argK; simp only [if_neg h]
theorem ansK_nil {d : D} {ov : Wr} : ansK cf call (some (d, [])) ov dst k T H = hpK cf call (applyW H ov.reverse) d dst k T := rfl
theorem ansK_cons {d : D} {ov : Wr} {o : Obj} {H' : List Obj} : ansK cf call (some (d, o :: H')) ov dst k T H = hpK cf call (applyW H (ov.reverse ++ (o :: H').zipIdx.map fun (o, j) => (H.length + j, o.ren (H.length + ·)))) (d.ren (H.length + ·)) dst k T := rfl
theorem osK_some {n : Nat} {args : List D} {os ov : Wr} : osK cf call (some os) n args ov dst k T H = ansO cf call (call n (renL (intoK os) args) (os.map fun p => p.2.ren (intoK os))) os ov dst k T H := rfl
theorem ansO_some {d : D} {os ov : Wr} {H' : List Obj} (h : os.length ≤ H'.length) : ansO cf call (some (d, H')) os ov dst k T H = hpK cf call (applyW H (ov.reverse ++ H'.zipIdx.map fun p => (backK os H.length p.2, p.1.ren (backK os H.length)))) (d.ren (backK os H.length)) dst k T := by
  unfold ansO; simp only [if_pos h]
end

theorem setD_some (T : List D) (i : Nat) (d : D) : setD T (some i) d = T.set i d := rfl
theorem setD_none (T : List D) (d : D) : setD T none d = T := rfl
theorem ev_t (T : List D) (i : Nat) : (X.t i).ev T = T[i]?.getD .undef := rfl
theorem ev_k (T : List D) (d : D) : (X.k d).ev T = d := rfl
theorem ev_f (T : List D) (n : Nat) : (X.f n).ev T = .func n [] [] := rfl
theorem bin_int (op : BinOp) (fl : List Nat) (k k' : IntKind) (a b : Int) (h1 : op ≠ .shl) (h2 : op ≠ .shr) : binD op fl (.int k a) (.int k' b) = if k = k' then intOp op k a b else none := by cases op <;> simp_all [binD]
theorem bin_shl (fl : List Nat) (k k' : IntKind) (a b : Int) : binD .shl fl (.int k a) (.int k' b) = if b < 0 then none else some (.int k (k.wrap (a * 2 ^ (min b.toNat k.bits)))) := rfl
theorem bin_shr (fl : List Nat) (k k' : IntKind) (a b : Int) : binD .shr fl (.int k a) (.int k' b) = if b < 0 then none else some (.int k (a.fdiv (2 ^ (min b.toNat k.bits)))) := rfl

attribute [simp] Ks_nil Ek_skip Ek_ret Ek_exit Ek_blk Ks_blk_exit Ks_c_exit Ks_c_ret Ks_blk_ret Ek_seq Ek_cond Ek_block Ek_reg Ek_regD opK_some opsK_some Ek_ops_cons condK_true condK_false Ek_loop loopK_some roundK_nrm roundK_ret roundK_exit nextK_some leaveK_some
  hpK_some outK_some wrK_some gdK_true gdK_false Ek_guard Ek_mv Ek_nilrow Ek_pick pickD_true pickD_false Ek_alloc Ek_allocA Ek_box Ek_boxA Ek_bld litF_some litD_false litD_true Ek_bsl Ek_ld stK_some Ek_st Ek_nc Ek_bin Ek_un Ek_cvt Ek_fn Ek_sub Ek_fa Ek_fld Ek_ia Ek_ix Ek_ext Ek_len Ek_mn Ek_mx appF_some Ek_app Ek_call fnK_func argK_pure argK_obj ansK_nil ansK_cons osK_some ansO_some
  setD_some setD_none ev_t ev_k ev_f bin_int bin_shl bin_shr
attribute [simp] finK_some
attribute [simp] boxAD D.flat chunks wants applyW intOp strOp unD cvtM fzD fzD.fzL bslE esM appO srcM D.cells D.one ldM ldO wholeOf partD stM stRow putAt lenD subM cut cutB bound faD iaM ixD ncD extD fldD boxD mkBox virt bldD minD maxD minF maxF inM D.keys D.keys.keysL D.under Obj.under Obj.keys reset finM resM Rs.ev packD lookO reach D.ren D.ren.renL Obj.ren reachFuel ofU8 toU8 eqCells eqCell capBound
end Go.Ab
