/- THE ABSTRACT MACHINE, sound: operations on values alone. -/
import Derived.Test.YtomomeabfnmncaaGreatBOp1
import Derived.Laws.StructEq
import Derived.Laws.Cover3
set_option linter.all false
namespace Go.Ab

section
variable {P : Program} {w : World} {F : Fz} {κ : Env}

theorem rd_int {v : Value} {k : IntKind} {n : Int} (h : Rd w F κ v (.int k n)) : v = .int k n := by cases h; rfl
theorem rd_bool {v : Value} {b : Bool} (h : Rd w F κ v (.bool b)) : v = .bool b := by cases h; rfl
theorem rd_str {v : Value} {s : List UInt8} (h : Rd w F κ v (.str s)) : ∃ b : ByteArray, v = .string b ∧ b.data.toList = s := by cases h with | str _ b => exact ⟨b, rfl, rfl⟩
theorem rd_tuple {v : Value} {ds : List D} (h : Rd w F κ v (.tuple ds)) : ∃ vs, v = .tuple vs ∧ RdL w F κ vs.toList ds := by
  cases h with
  | tuple _ vs _ hl h => exact ⟨vs.toArray, rfl, by simpa using hl, by simpa using h⟩

theorem run_eqGuard_oneC {op : BinOp} {t : TypeId} {x y : Operand} {u v : Value} (h : ∀ cs, u ≠ .agg cs) (h2 : u ≠ .nilIface) : (eqGuard op t x y u v).run P w = .ok () w := by
  cases u <;> first | (cases op <;> rfl) | exact absurd rfl (h _) | exact absurd rfl h2

theorem eqCell_ok {d : Nat} {f : Field} {kd : Nat} {c e : D} {x y : Value} {b : Bool} (hfk : fieldKind P f = some kd) (hc : eqCell kd c e = some b) (hx : Rd w F κ x c) (hy : Rd w F κ y e) :
    (Op.equalIn (d + 1) f.type x y).run P w = .ok b w := by
  unfold fieldKind at hfk
  cases hu : P.underlying f.type with
  | none => simp [hu] at hfk
  | some dd =>
    cases dd <;> simp [hu] at hfk <;> subst hfk <;> cases c <;> cases e <;> simp [eqCell] at hc
    · rw [rd_bool hx, rd_bool hy, run_equalIn_bool' w d _ _ _ hu, hc]
    · obtain ⟨h1, h2⟩ := hc
      subst h1
      rw [rd_int hx, rd_int hy, run_equalIn_int w d _ _ _ _ _ hu, h2]
    · obtain ⟨p, rfl, rfl⟩ := rd_str hx
      obtain ⟨q, rfl, rfl⟩ := rd_str hy
      rw [run_equalIn_string w d _ _ _ hu, ByteArray.toList_eq, ByteArray.toList_eq, hc]

theorem eqCells_ok {d : Nat} (fs : List Field) : ∀ (ks : List Nat) (n : Nat) (xs ys : Array Value) (cs ds : List D), RdL w F κ (xs.toList.drop n) cs → RdL w F κ (ys.toList.drop n) ds →
    mapO (fieldKind P) fs = some ks → (∀ (i : Nat) (f : Field), fs[i]? = some f → f.name ≠ "_" ∧ f.offset = n + i) →
    ∀ r, eqCells ks cs ds = some r → (Op.eqFields (d + 1) xs ys fs).run P w = .ok r w := by
  induction fs with
  | nil =>
    intro ks n xs ys cs ds hx hy hk hf r hr
    simp [mapO] at hk
    subst hk
    cases cs <;> cases ds <;> simp [eqCells] at hr
    subst hr
    rfl
  | cons f fs ih =>
    intro ks n xs ys cs ds hx hy hk hf r hr
    unfold mapO at hk
    cases hfk : fieldKind P f with
    | none => simp [hfk] at hk
    | some kd =>
      cases hks : mapO (fieldKind P) fs with
      | none => simp [hfk, hks] at hk
      | some ks' =>
        simp [hfk, hks] at hk
        subst hk
        cases cs with
        | nil => simp [eqCells] at hr
        | cons c cs =>
          cases ds with
          | nil => simp [eqCells] at hr
          | cons e ds =>
            obtain ⟨hn, ho⟩ := hf 0 f rfl
            have hxl : n < xs.size := by
              have := hx.1
              simp at this
              omega
            have hyl : n < ys.size := by
              have := hy.1
              simp at this
              omega
            have hxv := hx.2 0 xs[n] c (by rw [List.getElem?_drop]; simp [hxl]) rfl
            have hyv := hy.2 0 ys[n] e (by rw [List.getElem?_drop]; simp [hyl]) rfl
            have hag : ∀ (z : Array Value) (hz : n < z.size), (part f.type z f.offset).run P w = .ok z[n] w := by
              intro z hz
              unfold fieldKind at hfk
              split at hfk <;> rename_i hu <;> first | (have hr := run_underlying hu w; unfold part isAgg; simp [Sem.run_bind, hr, ho, hz]; done) | cases hfk
            rw [eqCells] at hr
            cases hc : eqCell kd c e with
            | none => simp [hc] at hr
            | some b1 =>
              cases hcs : eqCells ks' cs ds with
              | none => simp [hc, hcs] at hr
              | some b2 =>
                simp [hc, hcs] at hr
                have ih' := ih ks' (n + 1) xs ys cs ds (by
                    have := hx.drop 1
                    simpa [List.drop_drop] using this) (by
                    have := hy.drop 1
                    simpa [List.drop_drop] using this) hks (fun i g hg => by
                    obtain ⟨a1, a2⟩ := hf (i + 1) g (by simpa using hg)
                    exact ⟨a1, by omega⟩) b2 hcs
                have he : (Op.equalIn (d + 1) f.type xs[n] ys[n]).run P w = .ok b1 w := eqCell_ok hfk hc hxv hyv
                rw [Op.eqFields]
                simp only [ne_eq, hn, not_false_eq_true, if_true, Sem.run_bind, hag xs hxl, hag ys hyl, Result.andThen_ok, he]
                cases b1 with
                | true => simp only [Bool.not_true, Bool.false_eq_true, if_false, Sem.run_ite]; rw [ih']; simp at hr; rw [hr]
                | false => simp at hr; simp [← hr]

theorem mapO_ne {α β : Type} {f : α → Option β} {l : List α} {r : List β} (h : mapO f l = some r) : r = (mapO f l).getD [] := by rw [h]; rfl

theorem flat_ok {op : BinOp} {t : TypeId} {x y : Operand} {xs ys : Array Value} {cs ds : List D} {r : Bool} (hx : RdL w F κ xs.toList cs) (hy : RdL w F κ ys.toList ds) (hne : flatEq P t ≠ [])
    (hr : eqCells (flatEq P t) cs ds = some r) : (eqGuard op t x y (.agg xs) (.agg ys)).run P w = .ok () w ∧ (Op.equalIn 10000 t (.agg xs) (.agg ys)).run P w = .ok r w := by
  unfold flatEq at hne hr
  cases hu : P.underlying t with
  | none => simp [hu] at hne
  | some dd =>
    cases dd <;> simp only [hu, ne_eq, not_true_eq_false] at hne hr
    · exfalso
      cases cs with
      | nil => simp [eqCells] at hr
      | cons c cs => cases ds with
        | nil => simp [eqCells] at hr
        | cons e ds => rw [eqCells] at hr; cases c <;> cases e <;> simp [eqCell] at hr
    · exfalso
      cases cs with
      | nil => simp [eqCells] at hr
      | cons c cs => cases ds with
        | nil => simp [eqCells] at hr
        | cons e ds => rw [eqCells] at hr; cases c <;> cases e <;> simp [eqCell] at hr
    · exfalso
      cases cs with
      | nil => simp [eqCells] at hr
      | cons c cs => cases ds with
        | nil => simp [eqCells] at hr
        | cons e ds => rw [eqCells] at hr; cases c <;> cases e <;> simp [eqCell] at hr
    rename_i fs
    split at hne
    · rename_i hc
      rw [if_pos hc] at hr
      obtain ⟨h1, h2, h3⟩ := hc
      refine ⟨run_eqGuard_agg w op t x y xs ys h2, ?_⟩
      have hfo : P.fieldsOf t = fs := by simp [Program.fieldsOf, hu]
      rw [run_equalIn_agg w 9999 t xs ys (by rw [hfo]; exact hu) h1, hfo]
      cases hm : mapO (fieldKind P) fs.toList with
      | none => simp [hm] at hne
      | some ks =>
        rw [hm] at hr
        refine eqCells_ok (d := 9998) fs.toList ks 0 xs ys cs ds (by simpa using hx) (by simpa using hy) hm (fun i f hf => ?_) r hr
        rw [List.all_eq_true] at h3
        have := h3 (f, i) (List.mem_iff_getElem?.2 ⟨i, by rw [List.getElem?_zipIdx, hf]; simp⟩)
        simp at this
        exact ⟨this.1, by simpa using this.2⟩
    · exact absurd rfl hne

/-- An operation on two values. -/
theorem bin_ok {op : BinOp} {t : TypeId} {x y : Operand} {u v : Value} {d1 d2 d : D} (hu : Rd w F κ u d1) (hv : Rd w F κ v d2) (hb : binD op (flatEq P t) d1 d2 = some d) :
    ∃ r, (do eqGuard op t x y u v; binOp op t u v : Sem Value).run P w = .ok r w ∧ Rd w F κ r d := by
  unfold binD at hb
  split at hb
  · rename_i k a k' b
    rw [rd_int hu, rd_int hv]
    simp only [Sem.run_bind, run_eqGuard_oneC (u := .int k a) (by simp) (by simp), Result.andThen_ok]
    have hk : ∀ {z}, (if k = k' then intOp op k a b else none) = some z → op ≠ .shl → op ≠ .shr → ∃ r, (binOp op t (.int k a) (.int k' b)).run P w = .ok r w ∧ Rd w F κ r z := by
      intro z hz h1 h2
      split at hz
      · rename_i he
        subst he
        cases op <;> simp only [intOp, reduceCtorEq] at hz <;> first
          | (injection hz with hz; subst hz; simp [binOp, Op.intArith, Op.intBits, Op.intCmp]; first | exact .int _ _ _ | exact .bool _ _)
          | (split at hz
             · cases hz
             · rename_i h0; injection hz with hz; subst hz; simp [binOp, Op.intDiv, h0]; exact .int _ _ _)
          | exact absurd rfl h1
          | exact absurd rfl h2
      · cases hz
    split at hb
    · split at hb
      · cases hb
      · rename_i h0
        injection hb with hb
        subst hb
        simp [binOp, Op.shift, h0]
        exact .int _ _ _
    · split at hb
      · cases hb
      · rename_i h0
        injection hb with hb
        subst hb
        simp [binOp, Op.shift, h0]
        exact .int _ _ _
    · exact hk hb (by assumption) (by assumption)
  · rename_i a b
    obtain ⟨p, rfl, rfl⟩ := rd_str hu
    obtain ⟨q, rfl, rfl⟩ := rd_str hv
    simp only [Sem.run_bind, run_eqGuard_oneC (u := .string p) (by simp) (by simp), Result.andThen_ok]
    cases op <;> simp only [strOp, reduceCtorEq] at hb <;> first
      | (injection hb with hb; subst hb; simp [binOp, Op.stringOp, ByteArray.toList_eq]; exact .bool _ _)
      | (split at hb
         · rename_i h0
           injection hb with hb
           subst hb
           have hle : ¬ ((p.size + q.size : Nat) : Int) > IntKind.i64.max := by
             rw [IntKind.max_i64]
             have h1 : p.data.toList.length = p.size := Array.length_toList
             have h2 : q.data.toList.length = q.size := Array.length_toList
             omega
           refine ⟨.string (p ++ q), ?_, ?_⟩
           · simp only [binOp, Op.stringOp]
             rw [if_neg hle]
             rfl
           · have := Rd.str (w := w) (F := F) κ (p ++ q)
             simpa using this
         · cases hb)
  · rename_i a b
    rw [rd_bool hu, rd_bool hv]
    simp only [Sem.run_bind, run_eqGuard_oneC (u := .bool a) (by simp) (by simp), Result.andThen_ok]
    have hty : flatEq P t = [3] → P.underlying t = some .bool := by
      intro h
      unfold flatEq at h
      cases hu : P.underlying t with
      | none => simp [hu] at h
      | some dd =>
        cases dd <;> simp only [hu, reduceCtorEq] at h <;> first | rfl | (exfalso; cases h; done) | (exfalso; split at h <;> first | cases h | skip)
        rename_i fs _
        cases hm : mapO (fieldKind P) fs.toList with
        | none => simp [hm] at h
        | some ks =>
          rw [hm] at h
          simp at h
          subst h
          have hl := mapO_len hm
          cases hfs : fs.toList with
          | nil => rw [hfs] at hl; cases hl
          | cons f r =>
            rw [hfs] at hm
            obtain ⟨y, h1, h2⟩ := mapO_get hm 0 f rfl
            simp at h2
            subst h2
            unfold fieldKind at h1
            split at h1 <;> simp at h1
    split at hb
    · split at hb
      · rename_i h3
        injection hb with hb; subst hb
        simp [binOp, Op.equal, Op.maxDepth, run_equalIn_bool' w 9999 t a b (hty h3)]
        exact .bool _ _
      · cases hb
    · split at hb
      · rename_i h3
        injection hb with hb; subst hb
        simp [binOp, Op.equal, Op.maxDepth, run_equalIn_bool' w 9999 t a b (hty h3)]
        exact .bool _ _
      · cases hb
    · cases hb
  · rename_i cs ds
    obtain ⟨xs, rfl, hx⟩ := hu.toAgg
    obtain ⟨ys, rfl, hy⟩ := hv.toAgg
    split at hb
    · split at hb
      · cases hb
      · rename_i hne
        obtain ⟨b, hb', rfl⟩ := Option.map_eq_some_iff.1 hb
        obtain ⟨h1, h2⟩ := flat_ok (op := .eql) (x := x) (y := y) hx hy hne hb'
        simp only [Sem.run_bind, h1, Result.andThen_ok, run_eql_struct, h2]
        exact ⟨_, rfl, .bool _ _⟩
    · split at hb
      · cases hb
      · rename_i hne
        obtain ⟨b, hb', rfl⟩ := Option.map_eq_some_iff.1 hb
        obtain ⟨h1, h2⟩ := flat_ok (op := .neq) (x := x) (y := y) hx hy hne hb'
        simp only [Sem.run_bind, h1, Result.andThen_ok, run_neq_struct, h2]
        exact ⟨_, rfl, .bool _ _⟩
    · cases hb
  · rename_i c s e es
    have hty : flatEq P t = [4] → ∃ e, P.underlying t = some (.slice e) := by
      intro h
      unfold flatEq at h
      cases hu : P.underlying t with
      | none => simp [hu] at h
      | some dd =>
        cases dd <;> simp only [hu, reduceCtorEq] at h <;> first | exact ⟨_, rfl⟩ | (exfalso; split at h <;> first | cases h | skip) | cases h
        rename_i fs _
        cases hm : mapO (fieldKind P) fs.toList with
        | none => simp [hm] at h
        | some ks =>
          rw [hm] at h
          simp at h
          subst h
          have hl := mapO_len hm
          cases hfs : fs.toList with
          | nil => rw [hfs] at hl; cases hl
          | cons f r =>
            rw [hfs] at hm
            obtain ⟨y, h1, h2⟩ := mapO_get hm 0 f rfl
            simp at h2
            subst h2
            unfold fieldKind at h1
            split at h1 <;> simp at h1
    have hv' : v = .slice none 0 0 := by cases hv with
      | nils => rfl
      | emp _ a c s hs => cases hs
      | slc _ b o cap c s es vs hs => cases hs
    subst hv'
    obtain ⟨a, n, k, rfl⟩ : ∃ a n k, u = .slice (some a) n k := by cases hu with
      | slc => exact ⟨_, _, _, rfl⟩
    simp only [Sem.run_bind, run_eqGuard_oneC (u := .slice (some a) n k) (by simp) (by simp), Result.andThen_ok]
    split at hb
    · split at hb
      · rename_i h4
        obtain ⟨e1, he1⟩ := hty h4
        injection hb with hb; subst hb
        simp [binOp, run_equal_slice_nil w t e1 (some a) n k he1]
        exact .bool _ _
      · cases hb
    · split at hb
      · rename_i h4
        obtain ⟨e1, he1⟩ := hty h4
        injection hb with hb; subst hb
        simp [binOp, run_equal_slice_nil w t e1 (some a) n k he1]
        exact .bool _ _
      · cases hb
    · cases hb
  · rename_i d1' hn1
    have hty : flatEq P t = [5] → ∃ e, P.underlying t = some (.pointer e) := by
      intro h
      unfold flatEq at h
      cases hu : P.underlying t with
      | none => simp [hu] at h
      | some dd =>
        cases dd <;> simp only [hu, reduceCtorEq] at h <;> first | exact ⟨_, rfl⟩ | (exfalso; split at h <;> first | cases h | skip) | cases h
        rename_i fs _
        cases hm : mapO (fieldKind P) fs.toList with
        | none => simp [hm] at h
        | some ks =>
          rw [hm] at h
          simp at h
          subst h
          have hl := mapO_len hm
          cases hfs : fs.toList with
          | nil => rw [hfs] at hl; cases hl
          | cons f r =>
            rw [hfs] at hm
            obtain ⟨y, h1, h2⟩ := mapO_get hm 0 f rfl
            simp at h2
            subst h2
            unfold fieldKind at h1
            split at h1 <;> simp at h1
    have hv' : v = .pointer none := by cases hv; rfl
    subst hv'
    have key : ∀ b, d1.isNilptr = some b → ∃ q : Option Addr, u = .pointer q ∧ q.isNone = b := by
      intro b hb'
      cases hu <;> simp [D.isNilptr] at hb' <;> subst hb' <;> exact ⟨_, rfl, rfl⟩
    split at hb
    · split at hb
      · rename_i h5
        obtain ⟨e1, he1⟩ := hty h5
        obtain ⟨b, hb', rfl⟩ := Option.map_eq_some_iff.1 hb
        obtain ⟨q, rfl, rfl⟩ := key b hb'
        simp only [Sem.run_bind, run_eqGuard_oneC (u := .pointer q) (by simp) (by simp), Result.andThen_ok]
        have h6 : ∀ d, (Op.equalIn (d + 1) t (.pointer q) (.pointer none)).run P w = .ok q.isNone w := fun d => by cases q <;> simp [Op.equalIn, run_underlying he1]
        simp [binOp, Op.equal, Op.maxDepth, h6 9999]
        exact .bool _ _
      · cases hb
    · split at hb
      · rename_i h5
        obtain ⟨e1, he1⟩ := hty h5
        obtain ⟨b, hb', rfl⟩ := Option.map_eq_some_iff.1 hb
        obtain ⟨q, rfl, rfl⟩ := key b hb'
        simp only [Sem.run_bind, run_eqGuard_oneC (u := .pointer q) (by simp) (by simp), Result.andThen_ok]
        have h6 : ∀ d, (Op.equalIn (d + 1) t (.pointer q) (.pointer none)).run P w = .ok q.isNone w := fun d => by cases q <;> simp [Op.equalIn, run_underlying he1]
        simp [binOp, Op.equal, Op.maxDepth, h6 9999]
        exact .bool _ _
      · cases hb
    · cases hb
  · cases hb

theorem un_ok {op : UnOp} {v : Value} {d1 d : D} (hv : Rd w F κ v d1) (hb : unD op d1 = some d) : ∃ r, (Op.unary op v).run P w = .ok r w ∧ Rd w F κ r d := by
  unfold unD at hb
  split at hb
  · rw [rd_int hv]
    split at hb <;> first | (injection hb with hb; subst hb; simp [Op.unary, Op.intArith, Op.intBits]; exact .int _ _ _) | cases hb
  · rw [rd_bool hv]
    split at hb <;> first | (injection hb with hb; subst hb; simp [Op.unary]; exact .bool _ _) | cases hb
  · cases hb
end
end Go.Ab
