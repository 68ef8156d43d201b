/- THE FUNCTIONS' EQUATIONS: part.take (a block of each type, as rows). -/
import Derived.Test.YtomomeabfnmncaaGreatBF255
import Derived.Test.YtomomeabfnmncaaGreatBF94
import Derived.Test.YtomomeabfnmncaaGreatBF53
set_option linter.all false
set_option maxRecDepth 100000
namespace Go.Ab
open Go.Proofs Go.Proofs.YtomomeabfnmncaaGreatH Go.Proofs.YtomomeabfnmncaaGreatH.Crc Go.Proofs.YtomomeabfnmncaaGreatH.Var Go.Proofs.YtomomeabfnmncaaGreatH.Fr
def b272_0 : C := (.seq (.reg none [⟨(some 18), none, (.bin .lss [] (.t 17) (.t 16))⟩]) (.seq (.cond (.t 18) .skip (.exit 0)) (.seq (.block 1 (.seq (.reg none [⟨(some 19), none, (.ia none 1 false (.t 15) (.t 17))⟩, ⟨(some 20), none, (.ld none (.t 19))⟩, ⟨(some 9), none, (.mv (.t 20))⟩]) (.seq (.reg none [⟨(some 22), none, (.mv (.t 9))⟩, ⟨(some 23), none, (.mv (.t 1))⟩, ⟨(some 24), none, (.call (.f 115) [(.t 22), (.t 23)])⟩, ⟨(some 21), none, (.mv (.t 24))⟩, ⟨(some 25), none, (.ext (.t 21) 0)⟩, ⟨(some 26), none, (.ext (.t 21) 1)⟩, ⟨(some 27), none, (.ext (.t 21) 2)⟩, ⟨(some 10), none, (.mv (.t 25))⟩, ⟨(some 11), none, (.mv (.t 26))⟩, ⟨(some 12), none, (.mv (.t 27))⟩]) (.seq (.seq (.reg none [⟨(some 28), none, (.mv (.t 12))⟩, ⟨(some 29), none, (.bin .neq [] (.t 28) (.k (.int .i64 0)))⟩]) (.cond (.t 29) (.seq (.reg none [⟨(some 4), none, (.mv (.k nilS))⟩, ⟨(some 5), none, (.mv (.k nilS))⟩, ⟨(some 6), none, (.mv (.k (.bool false)))⟩]) .ret) .skip)) (.reg (some [(2, 6), (3, 6)]) [⟨(some 30), none, (.mv (.t 7))⟩, ⟨(some 31), none, (.mv (.t 10))⟩, ⟨(some 32), none, (.bsl false 1 1 [nilS] [(0, (.t 31))])⟩, ⟨(some 33), none, (.app 1 24 (.t 30) (.t 32))⟩, ⟨(some 34), none, (.mv (.t 1))⟩, ⟨(some 35), none, (.mv (.t 11))⟩, ⟨(some 36), none, (.sub 1 1 (.t 34) (some (.t 35)) none none)⟩, ⟨(some 7), none, (.mv (.t 33))⟩, ⟨(some 1), none, (.mv (.t 36))⟩]))))) (.reg none [⟨(some 37), none, (.bin .add [] (.t 17) (.k (.int .i64 1)))⟩, ⟨(some 17), none, (.mv (.t 37))⟩]))))
def r272 : C := (.seq (.reg none [⟨(some 39), none, (.mv (.t 7))⟩, ⟨(some 40), none, (.call (.f 116) [(.t 39)])⟩, ⟨(some 38), none, (.mv (.t 40))⟩, ⟨(some 41), none, (.ext (.t 38) 0)⟩, ⟨(some 42), none, (.ext (.t 38) 1)⟩, ⟨(some 13), none, (.mv (.t 41))⟩, ⟨(some 14), none, (.mv (.t 42))⟩]) (.seq (.reg none [⟨(some 43), none, (.mv (.t 13))⟩, ⟨(some 44), none, (.mv (.t 1))⟩, ⟨(some 45), none, (.mv (.t 14))⟩, ⟨(some 4), none, (.mv (.t 43))⟩, ⟨(some 5), none, (.mv (.t 44))⟩, ⟨(some 6), none, (.mv (.t 45))⟩]) .ret))
def c272 : Fn' := ⟨46, [(.tmp 4), (.tmp 5), (.tmp 6)], (.seq (.reg none [⟨(some 4), none, (.mv (.k nilS))⟩, ⟨(some 5), none, (.mv (.k nilS))⟩, ⟨(some 6), none, (.mv (.k (.bool false)))⟩]) (.seq (.reg none [⟨(some 7), none, .nilrow⟩]) (.seq (.seq (.reg none [⟨(some 15), none, (.mv (.t 0))⟩, ⟨(some 16), none, (.len 1 (.t 15))⟩, ⟨(some 17), none, (.mv (.k (.int .i64 0)))⟩]) (.block 0 (.loop b272_0))) r272)))⟩
theorem k272 : compF Tryz.prog 90 = some c272 := by kernel_rfl
attribute [local simp] op_or op_an op_add op_sub op_mul oq_eql oq_neq oq_lss oq_gtr oq_leq oq_geq
attribute [-simp] intOp bin_shl bin_shr D.cells
/-- A block of each type, and what is behind. -/
def takeC : List Int → List Int → Option (List (List Va) × List Int)
  | [], b => some ([], b)
  | t :: ts, b => if (takeI t b).2.2 ≠ 0 then none else (takeC ts (b.drop (takeI t b).2.1.toNat)).map fun q => ((takeI t b).1 :: q.1, q.2)
/-- The same, as rows. -/
def takeT (ts : List Int) (b : List Int) : Option (List (List Va) × List Int) :=
  match takeC ts b with
  | none => none
  | some q => (rowsOf q.1).map fun l => (l, q.2)
theorem cells_cv (x : List Va) : (cvV x).cells = [cvV x] := by unfold cvV; split <;> rfl
theorem one_cv (x : List Va) : D.one (cvV x) = true := by unfold cvV; split <;> rfl
theorem fz_cv (b : Bool) (ov : Wr) (x : List Va) : fzD b ov (cvV x) = pure (cvV x, ov) := by unfold cvV; split <;> rfl
theorem keys_cv (x : List Va) : (cvV x).keys = [] := by unfold cvV; split <;> simp [D.keys]
theorem cells_cvs (l : List (List Va)) : ((List.map cvV l).all fun e => e.cells.length == 1) = true := by
  rw [List.all_eq_true]
  intro e he
  obtain ⟨x, _, rfl⟩ := List.mem_map.1 he
  rw [cells_cv]; rfl
theorem like_cv (x : List Va) (d : D) : (cvV x).like [d] = some d := by unfold cvV; split <;> rfl
theorem cvV_flags (x : List Va) : cvV x = .slc x.isEmpty (if x = [] then 0 else 2) (x.map Va.d) := by
  unfold cvV
  cases x <;> rfl
theorem colsOf_cv (l : List (List Va)) : colsOf (l.map cvV) = some l := by
  have := colsOf_map (fun x : List Va => (x.isEmpty, if x = [] then 0 else 2)) l
  rw [← this]
  congr 1
  refine List.map_congr_left fun x _ => ?_
  rw [cvV_flags]
  rfl
theorem takeI_ok {t : Int} {b : List Int} (hB : isB b) (h : (takeI t b).2.2 = 0) : 0 < (takeI t b).2.1 ∧ (takeI t b).2.1 ≤ b.length ∧ (takeI t b).1.length ≤ 2000 := by
  obtain ⟨h1, h2, h3, h4⟩ := take_some t b hB h
  obtain ⟨_, h5, _⟩ := (blockOk_eq _ _).1 h1
  refine ⟨?_, h4, h5⟩
  rw [h3]
  unfold blockI
  rw [frameI_len]
  omega
def rowC (acc : List (List Va)) : Obj := .row (if acc = [] then 0 else 1) (acc.map cvV) 0
def t272 (cu : Bool) (U : List Int) (cb : Bool) (b : List Int) (a i : Nat) : List D := [.slc cu 1 (U.map (.int .i64)), .slc cb 1 (b.map (.int .u8)), .undef, .undef, nilS, nilS, .bool false, .sl 0 0 a a, .undef, .undef, .undef, .undef, .undef, .undef, .undef, .slc cu 1 (U.map (.int .i64)), .int .i64 U.length, .int .i64 i, .undef, .undef, .undef, .undef, .undef, .undef, .undef, .undef, .undef, .undef, .undef, .undef, .undef, .undef, .undef, .undef, .undef, .undef, .undef, .undef, .undef, .undef, .undef, .undef, .undef, .undef, .undef, .undef]
theorem oraG_U {f : Nat} {a : List D} {H : List Obj} (h : f ≠ 85) (h2 : f ≠ 108) (h3 : f ≠ 89) : oraG f a H = oraU f a H := by
  unfold oraG
  split
  · rw [if_neg]; rintro (⟨e, _⟩ | ⟨e, _⟩)
    · exact h e
    · exact h2 e
  · rw [if_neg h3]
  · rfl
theorem K276 (c : Bool) (s : Nat) (l : List (List Va)) (hl : l.length ≤ 1048576) (hl2 : ∀ x ∈ l, x.length ≤ 2000) : K0 116 [.slc c s (l.map cvV)] [] = some (match rowsOf l with | some rows => .tuple [.slc true 1 (rows.map rowD), .bool true] | none => .tuple [nilS, .bool false], []) := K_ora (by
  have hh : (l.headD []).length ≤ 1048576 := by
    cases l with
    | nil => simp
    | cons x l => have := hl2 x List.mem_cons_self; simp; omega
  have e : oraU 116 [.slc c s (l.map cvV)] [] = some (match rowsOf l with | some rows => .tuple [.slc true 1 (rows.map rowD), .bool true] | none => .tuple [nilS, .bool false], []) := by
    unfold oraU
    rw [if_pos rfl]
    dsimp only
    rw [colsOf_cv, Option.bind_some, if_pos ⟨hl, hh⟩]
    rfl
  rw [oraG_U (by decide) (by decide) (by decide)]
  exact e)
set_option maxHeartbeats 8000000 in
attribute [local simp high] cells_cvs in
theorem L272 (cu : Bool) (U : List Int) (hU : U.length ≤ 2 ^ 20) (c0 : Bool) (b0 : List Int) : ∀ (u pre : List Int) (cb : Bool) (b : List Int) (acc : List (List Va)) (a i : Nat), U = pre ++ u → i = pre.length → a = acc.length → acc.length = i → b.length ≤ 2 ^ 39 → isB b → (∀ x ∈ acc, x.length ≤ 2000) →
    ∃ c1 c2, (∀ q, takeC u b = some q → isB q.2 ∧ q.2.length ≤ b.length) ∧ finK false 0 [.tmp 4, .tmp 5, .tmp 6] (loopK cf0 K0 (LpB cf0 K0 b272_0 (t272 cu U c0 b0 0 0) 1 ⟨t272 cu U cb b a i, [rowC acc]⟩) [.blk 0, .c r272]) =
      some (match takeC u b with
        | none => .tuple [nilS, nilS, .bool false]
        | some q => match rowsOf (acc ++ q.1) with
          | some l => .tuple [.slc true 1 (l.map rowD), .slc c1 1 (q.2.map (.int .u8)), .bool true]
          | none => .tuple [nilS, .slc c2 1 (q.2.map (.int .u8)), .bool false], []) := by
  intro u
  induction u with
  | nil =>
    intro pre cb b acc a i h hi ha hb hbl hB hacc
    have : U = pre := by simpa using h
    subst this
    have z1 : ltI (i : Int) U.length = false := ltI_f (by omega)
    refine ⟨cb, cb, fun q hq => by simp [takeC] at hq; subst hq; exact ⟨hB, Nat.le_refl _⟩, ?_⟩
    simp only [takeC, List.append_nil]
    have hO := fun c s => K276 c s acc (by omega) hacc
    rw [LpB_eq]
    simp only [t272, rowC]
    by_cases hn : acc = []
    · subst hn
      have hO := hO true 0
      have hr : rowsOf [] = none := rfl
      rw [hr] at hO ⊢
      simp only at hO ⊢
      simp [b272_0, z1, r272, ha, hO]
      simp at hO
      simp [hO]
    · have hO := hO false 1
      cases hr : rowsOf acc with
      | none =>
        rw [hr] at hO
        simp only at hO ⊢
        simp [b272_0, z1, r272, ha, hO, hn]
      | some l =>
        rw [hr] at hO
        simp only at hO ⊢
        simp [b272_0, z1, r272, ha, hO, hn]
  | cons t u ih =>
    intro pre cb b acc a i h hi ha hb hbl hB hacc
    have hll : i < U.length := by rw [h, hi]; simp
    have z1 : ltI (i : Int) U.length = true := ltI_t (by omega)
    have hget : U[i]? = some t := by rw [h, hi]; simp
    have hgi : U[i]'hll = t := by rw [List.getElem?_eq_getElem hll] at hget; exact Option.some.inj hget
    have hw := w64 (i + 1) (by omega)
    have hK := K28 t cb b hbl hB
    by_cases he : (takeI t b).2.2 = 0
    · obtain ⟨k1, k2, k3⟩ := takeI_ok hB he
      have hC : takeC (t :: u) b = (takeC u (b.drop (takeI t b).2.1.toNat)).map fun q => ((takeI t b).1 :: q.1, q.2) := by
        simp only [takeC]
        rw [if_neg (by simp [he])]
      rw [hC]
      rw [he] at hK
      clear hC he
      generalize takeI t b = T at *
      obtain ⟨x, n, e⟩ := T
      simp only at hK k1 k2 k3 ⊢
      obtain ⟨N, rfl⟩ : ∃ N : Nat, n = N := ⟨n.toNat, by omega⟩
      simp only [Int.toNat_natCast]
      have hbN : (b.drop N).length ≤ b.length := by simp
      have m1 : List.drop N (b.map (D.int .u8)) = (b.drop N).map (D.int .u8) := by rw [List.map_drop]
      obtain ⟨c1, c2, h3, ih⟩ := ih (pre ++ [t]) cb (b.drop N) (acc ++ [x]) (acc ++ [x]).length (i + 1) (by rw [h]; simp) (by simp [hi]) rfl (by simp [hb]) (by omega) (isB_drop hB _) (by intro y hy; rcases List.mem_append.1 hy with hy | hy; exact hacc y hy; simp at hy; subst hy; exact k3)
      refine ⟨c1, c2, ?_, ?_⟩
      · intro q hq
        cases ht : takeC u (b.drop N) with
        | none => rw [ht] at hq; cases hq
        | some p =>
          rw [ht] at hq
          simp at hq
          subst hq
          have := h3 p ht
          exact ⟨this.1, by have := this.2; simp only at this ⊢; omega⟩
      have e1 : (match (takeC u (b.drop N)).map fun q => (x :: q.1, q.2) with
        | none => D.tuple [nilS, nilS, .bool false]
        | some q => match rowsOf (acc ++ q.1) with
          | some l => .tuple [.slc true 1 (l.map rowD), .slc c1 1 (q.2.map (.int .u8)), .bool true]
          | none => .tuple [nilS, .slc c2 1 (q.2.map (.int .u8)), .bool false]) = (match takeC u (b.drop N) with
        | none => .tuple [nilS, nilS, .bool false]
        | some q => match rowsOf (acc ++ [x] ++ q.1) with
          | some l => .tuple [.slc true 1 (l.map rowD), .slc c1 1 (q.2.map (.int .u8)), .bool true]
          | none => .tuple [nilS, .slc c2 1 (q.2.map (.int .u8)), .bool false]) := by
        cases takeC u (b.drop N) with
        | none => rfl
        | some p => simp
      rw [e1]
      refine Eq.trans ?_ ih
      clear ih e1 h3
      obtain ⟨fx, sx, hx⟩ : ∃ c s, cvV x = .slc c s (x.map Va.d) := ⟨_, _, cvV_flags x⟩
      rw [hx] at hK
      obtain ⟨B, hBB⟩ : ∃ B, b.drop N = B := ⟨_, rfl⟩
      rw [hBB] at m1 ⊢
      have z2 : neI 0 0 = false := rfl
      have b1 : N ≤ b.length := by omega
      have b3 : (acc.length + 1) * 24 ≤ 70368744177664 := by omega
      rw [LpB_eq]
      simp only [t272, rowC]
      by_cases hn : acc = []
      · subst hn
        subst ha
        conv => lhs; arg 4; arg 3; arg 6; simp [evOp, evM, wants, Ins.go, X.ev, iaM, ldM, binD, setD, applyW, Ek_ops_nil, allFree, free, callM, callP, callO, appM, b272_0, z1, hll, hgi, hw, hK, z2, m1, b1]
        simp [hx]
      · conv => lhs; arg 4; arg 3; arg 6; simp [evOp, evM, wants, Ins.go, X.ev, iaM, ldM, binD, setD, applyW, Ek_ops_nil, allFree, free, callM, callP, callO, appM, b272_0, z1, hll, hgi, hw, hK, z2, m1, b1, hn, ha, b3]
        simp [hn, hx]
    · refine ⟨true, true, fun q hq => by simp [takeC, he] at hq, ?_⟩
      have hC : takeC (t :: u) b = none := by simp [takeC, he]
      rw [hC]
      have z2 : neI (takeI t b).2.2 0 = true := neI_t he
      simp only
      generalize takeI t b = T at *
      obtain ⟨x, n, e⟩ := T
      simp only at hK z2
      rw [LpB_eq]
      simp only [t272, rowC]
      by_cases hn : acc = []
      · subst hn
        subst ha
        conv => lhs; arg 4; arg 3; arg 6; simp [evOp, evM, wants, Ins.go, X.ev, iaM, ldM, binD, setD, applyW, Ek_ops_nil, allFree, free, callM, callP, callO, appM, b272_0, z1, hll, hgi, hw, hK, z2]
        simp
      · conv => lhs; arg 4; arg 3; arg 6; simp [evOp, evM, wants, Ins.go, X.ev, iaM, ldM, binD, setD, applyW, Ek_ops_nil, allFree, free, callM, callP, callO, appM, b272_0, z1, hll, hgi, hw, hK, z2, hn, ha]
        simp
theorem takeC_lt {ts : List Int} (hn : ts ≠ []) {b : List Int} (hB : isB b) {q : List (List Va) × List Int} (h : takeC ts b = some q) : q.2.length < b.length := by
  have le : ∀ (ts : List Int) (b : List Int), isB b → ∀ q, takeC ts b = some q → q.2.length ≤ b.length := by
    intro ts
    induction ts with
    | nil => intro b _ q h; simp [takeC] at h; subst h; exact Nat.le_refl _
    | cons t ts ih =>
      intro b hB q h
      simp only [takeC] at h
      split at h
      · cases h
      · obtain ⟨p, hp, rfl⟩ := Option.map_eq_some_iff.1 h
        have := ih _ (isB_drop hB _) p hp
        simp at this ⊢; omega
  cases ts with
  | nil => exact absurd rfl hn
  | cons t ts =>
    simp only [takeC] at h
    split at h
    · cases h
    · rename_i he
      obtain ⟨p, hp, rfl⟩ := Option.map_eq_some_iff.1 h
      have h1 := le ts _ (isB_drop hB _) p hp
      obtain ⟨k1, k2, _⟩ := takeI_ok hB (by simpa using he)
      simp at h1 ⊢; omega
set_option maxHeartbeats 8000000 in
/-- part.take. -/
theorem K272 (cu : Bool) (U : List Int) (hn : U ≠ []) (hU : U.length ≤ 2 ^ 20) (cb : Bool) (b : List Int) (hbl : b.length ≤ 2 ^ 39) (hB : isB b) :
    (∀ l r, takeT U b = some (l, r) → isB r ∧ r.length < b.length ∧ ∃ c1, K0 90 [.slc cu 1 (U.map (.int .i64)), .slc cb 1 (b.map (.int .u8))] [] = some (.tuple [.slc true 1 (l.map rowD), .slc c1 1 (r.map (.int .u8)), .bool true], [])) ∧
    (takeT U b = none → ∃ d, K0 90 [.slc cu 1 (U.map (.int .i64)), .slc cb 1 (b.map (.int .u8))] [] = some (.tuple [nilS, d, .bool false], [])) := by
  obtain ⟨c1, c2, h1, h2⟩ := L272 cu U hU cb b U [] cb b [] 0 0 rfl rfl rfl rfl hbl hB (fun x hx => by cases hx)
  have hK : K0 90 [.slc cu 1 (U.map (.int .i64)), .slc cb 1 (b.map (.int .u8))] [] = some (match takeC U b with
        | none => .tuple [nilS, nilS, .bool false]
        | some q => match rowsOf ([] ++ q.1) with
          | some l => .tuple [.slc true 1 (l.map rowD), .slc c1 1 (q.2.map (.int .u8)), .bool true]
          | none => .tuple [nilS, .slc c2 1 (q.2.map (.int .u8)), .bool false], []) := by
    refine K_call k272 (oraG_none (by decide) (by decide)) (by simp [c272]) ?_
    refine Eq.trans ?_ h2
    simp [c272, t272, rowC]
  unfold takeT
  cases hC : takeC U b with
  | none =>
    rw [hC] at hK
    exact ⟨fun l r h => (by cases h), fun _ => ⟨_, hK⟩⟩
  | some q =>
    rw [hC] at hK
    have hlt := takeC_lt hn hB hC
    have hq := h1 q hC
    simp only [List.nil_append] at hK ⊢
    cases hr : rowsOf q.1 with
    | none =>
      rw [hr] at hK
      exact ⟨fun l r h => (by cases h), fun _ => ⟨_, hK⟩⟩
    | some l =>
      rw [hr] at hK
      refine ⟨fun l' r h => ?_, fun h => by cases h⟩
      simp only [Option.map_some, Option.some.injEq, Prod.mk.injEq] at h
      obtain ⟨rfl, rfl⟩ := h
      exact ⟨hq.1, hlt, c1, hK⟩
end Go.Ab
/- THE FUNCTIONS' EQUATIONS: part.read. -/
set_option linter.all false
set_option maxRecDepth 100000
namespace Go.Ab
open Go.Proofs Go.Proofs.YtomomeabfnmncaaGreatH Go.Proofs.YtomomeabfnmncaaGreatH.Crc Go.Proofs.YtomomeabfnmncaaGreatH.Var Go.Proofs.YtomomeabfnmncaaGreatH.Fr
def b261_0 : C := (.seq (.seq (.reg none [⟨(some 12), none, (.mv (.t 1))⟩, ⟨(some 13), none, (.len 1 (.t 12))⟩, ⟨(some 14), none, (.mv (.t 2))⟩, ⟨(some 15), none, (.bin .gtr [] (.t 13) (.t 14))⟩]) (.cond (.t 15) .skip (.exit 0))) (.block 1 (.seq (.reg none [⟨(some 17), none, (.fa 0 1 false (.t 3))⟩, ⟨(some 18), none, (.ld none (.t 17))⟩, ⟨(some 19), none, (.mv (.t 1))⟩, ⟨(some 20), none, (.call (.f 90) [(.t 18), (.t 19)])⟩, ⟨(some 16), none, (.mv (.t 20))⟩, ⟨(some 21), none, (.ext (.t 16) 0)⟩, ⟨(some 22), none, (.ext (.t 16) 1)⟩, ⟨(some 23), none, (.ext (.t 16) 2)⟩, ⟨(some 9), none, (.mv (.t 21))⟩, ⟨(some 10), none, (.mv (.t 22))⟩, ⟨(some 11), none, (.mv (.t 23))⟩]) (.seq (.seq (.reg none [⟨(some 24), none, (.mv (.t 11))⟩, ⟨(some 25), none, (.un .not (.t 24))⟩, ⟨(some 26), none, (.mv (.t 25))⟩, ⟨(some 27), (some ((some 26), false)), (.mv (.t 8))⟩, ⟨(some 28), (some ((some 26), false)), (.len 1 (.t 27))⟩, ⟨(some 29), (some ((some 26), false)), (.mv (.t 9))⟩, ⟨(some 30), (some ((some 26), false)), (.len 1 (.t 29))⟩, ⟨(some 31), (some ((some 26), false)), (.bin .add [] (.t 28) (.t 30))⟩, ⟨(some 32), (some ((some 26), false)), (.bin .gtr [] (.t 31) (.k (.int .i64 2000)))⟩, ⟨(some 33), none, (.pick (.t 26) (.k (.bool true)) (.t 32))⟩]) (.cond (.t 33) (.seq (.reg none [⟨(some 6), none, (.mv (.k nilS))⟩, ⟨(some 7), none, (.mv (.k (.bool false)))⟩]) .ret) .skip)) (.reg none [⟨(some 34), none, (.mv (.t 8))⟩, ⟨(some 35), none, (.mv (.t 9))⟩, ⟨(some 36), none, (.app 1 24 (.t 34) (.t 35))⟩, ⟨(some 37), none, (.mv (.t 10))⟩, ⟨(some 8), none, (.mv (.t 36))⟩, ⟨(some 1), none, (.mv (.t 37))⟩])))))
def r261 : C := (.seq (.reg none [⟨(some 38), none, (.mv (.t 8))⟩, ⟨(some 6), none, (.mv (.t 38))⟩, ⟨(some 7), none, (.mv (.k (.bool true)))⟩]) .ret)
def c261 : Fn' := ⟨39, [(.tmp 6), (.tmp 7)], (.seq (.reg none [⟨(some 3), none, (.box false (.t 0))⟩, ⟨(some 6), none, (.mv (.k nilS))⟩, ⟨(some 7), none, (.mv (.k (.bool false)))⟩]) (.seq (.reg none [⟨(some 8), none, .nilrow⟩]) (.seq (.block 0 (.loop b261_0)) r261)))⟩
theorem k261 : compF Tryz.prog 43 = some c261 := by kernel_rfl
attribute [local simp] op_or op_an op_add op_sub op_mul oq_eql oq_neq oq_lss oq_gtr oq_leq oq_geq
attribute [-simp] intOp bin_shl bin_shr D.cells
/-- Rows read up to so many bytes of what is left. -/
def readI (ts : List Int) (left : Nat) : Nat → List Int → List (List Va) → Option (List (List Va))
  | 0, b, acc => if b.length ≤ left then some acc else none
  | n + 1, b, acc => if b.length ≤ left then some acc else match takeT ts b with
    | none => none
    | some (l, r) => if 2000 < acc.length + l.length then none else readI ts left n r (acc ++ l)
theorem takeT_len {ts : List Int} (hn : ts ≠ []) {b : List Int} (hB : isB b) {l : List (List Va)} {r : List Int} (h : takeT ts b = some (l, r)) : l.length ≤ 2000 := by
  unfold takeT at h
  cases hC : takeC ts b with
  | none => rw [hC] at h; cases h
  | some q =>
    rw [hC] at h
    simp only at h
    obtain ⟨l', hl', e⟩ := Option.map_eq_some_iff.1 h
    simp only [Prod.mk.injEq] at e
    obtain ⟨rfl, rfl⟩ := e
    cases ts with
    | nil => exact absurd rfl hn
    | cons t ts =>
      simp only [takeC] at hC
      split at hC
      · cases hC
      · rename_i he
        obtain ⟨p, hp, rfl⟩ := Option.map_eq_some_iff.1 hC
        obtain ⟨_, _, k3⟩ := takeI_ok hB (by simpa using he)
        unfold rowsOf at hl'
        simp only at hl'
        split at hl'
        · simp only [Option.some.injEq] at hl'
          rw [← hl']
          simpa using k3
        · cases hl'
def rwF (r : List Va) : Rw := ⟨false, 2, r, .inl rfl⟩
theorem rwF_d (r : List Va) : (rwF r).d = rowD r := rfl
theorem map_rwF (l : List (List Va)) : (l.map rwF).map Rw.d = l.map rowD := by rw [List.map_map]; rfl
theorem cells_rowD (l : List (List Va)) : ((List.map rowD l).all fun e => e.cells.length == 1) = true := by
  rw [List.all_eq_true]
  intro e he
  obtain ⟨x, _, rfl⟩ := List.mem_map.1 he
  rfl
def rowQ (acc : List (List Va)) : Obj := .row (if acc = [] then 0 else 1) (acc.map rowD) 0
def t261 (cc : Bool) (ts : List Int) (k m g : Int) (cb : Bool) (b : List Int) (left : Nat) (a : Nat) : List D := [.agg [.slc cc 1 (ts.map (.int .i64)), .int .i64 k, .int .i64 m, .int .i64 g], .slc cb 1 (b.map (.int .u8)), .int .i64 left, .ptr 0 0 0 0, .undef, .undef, nilS, .bool false, .sl 1 0 a a, .undef, .undef, .undef, .undef, .undef, .undef, .undef, .undef, .undef, .undef, .undef, .undef, .undef, .undef, .undef, .undef, .undef, .undef, .undef, .undef, .undef, .undef, .undef, .undef, .undef, .undef, .undef, .undef, .undef, .undef]
set_option maxHeartbeats 8000000 in
attribute [local simp high] cells_rowD in
theorem L261 (cc : Bool) (ts : List Int) (hts : ts ≠ []) (htl : ts.length ≤ 64) (k m g : Int) (c0 : Bool) (b0 : List Int) (left : Nat) (hleft : left ≤ 2 ^ 40) : ∀ (n : Nat) (cb : Bool) (b : List Int) (acc : List (List Va)) (a : Nat), b.length ≤ n → b.length ≤ 2 ^ 39 → isB b → a = acc.length → acc.length ≤ 2000 →
    finK false 0 [.tmp 6, .tmp 7] (loopK cf0 K0 (LpB cf0 K0 b261_0 (t261 cc ts k m g c0 b0 left 0) 2 ⟨t261 cc ts k m g cb b left a, [.box [.slc cc 1 (ts.map (.int .i64)), .int .i64 k, .int .i64 m, .int .i64 g], rowQ acc]⟩) [.blk 0, .c r261]) =
      some (match readI ts left n b acc with
        | none => .tuple [nilS, .bool false]
        | some l => .tuple [.slc l.isEmpty (if l = [] then 0 else 1) (l.map rowD), .bool true], []) := by
  have done : ∀ (cb : Bool) (b : List Int) (acc : List (List Va)) (a : Nat), b.length ≤ left → b.length ≤ 2 ^ 39 → a = acc.length → 
    finK false 0 [.tmp 6, .tmp 7] (loopK cf0 K0 (LpB cf0 K0 b261_0 (t261 cc ts k m g c0 b0 left 0) 2 ⟨t261 cc ts k m g cb b left a, [.box [.slc cc 1 (ts.map (.int .i64)), .int .i64 k, .int .i64 m, .int .i64 g], rowQ acc]⟩) [.blk 0, .c r261]) =
      some (.tuple [.slc acc.isEmpty (if acc = [] then 0 else 1) (acc.map rowD), .bool true], []) := by
    intro cb b acc a h hb ha
    have z1 : ltI (left : Int) b.length = false := ltI_f (by omega)
    rw [LpB_eq]
    simp only [t261, rowQ]
    by_cases hn : acc = []
    · subst hn
      subst ha
      conv => lhs; arg 4; arg 3; arg 6; simp [b261_0, z1]
      simp [r261]
    · have he : acc.isEmpty = false := by cases acc with
        | nil => exact absurd rfl hn
        | cons x l => rfl
      conv => lhs; arg 4; arg 3; arg 6; simp [b261_0, z1]
      simp [r261, ha, hn, he, List.take_of_length_le]
  intro n
  induction n with
  | zero =>
    intro cb b acc a h1 h2 h3 h4 h5
    have : readI ts left 0 b acc = some acc := by simp only [readI]; rw [if_pos (by omega)]
    rw [this]
    exact done cb b acc a (by omega) h2 h4
  | succ n ih =>
    intro cb b acc a h1 h2 h3 h4 h5
    by_cases hle : b.length ≤ left
    · have : readI ts left (n + 1) b acc = some acc := by simp only [readI]; rw [if_pos hle]
      rw [this]
      exact done cb b acc a hle h2 h4
    · have z1 : ltI (left : Int) b.length = true := ltI_t (by omega)
      obtain ⟨hS, hN⟩ := K272 cc ts hts (by omega) cb b h2 h3
      cases hT : takeT ts b with
      | none =>
        have : readI ts left (n + 1) b acc = none := by simp only [readI]; rw [if_neg hle, hT]
        rw [this]
        obtain ⟨d, hK⟩ := hN hT
        simp only
        rw [LpB_eq]
        simp only [t261, rowQ]
        conv => lhs; arg 4; arg 3; arg 6; simp [b261_0, z1, hK]
        simp
      | some q =>
        obtain ⟨l, r⟩ := q
        obtain ⟨g1, g2, c1, hK⟩ := hS l r hT
        have hrd : readI ts left (n + 1) b acc = if 2000 < acc.length + l.length then none else readI ts left n r (acc ++ l) := by simp only [readI]; rw [if_neg hle, hT]
        rw [hrd]
        have hll : l.length ≤ 2000 := takeT_len hts h3 hT
        have w := w64 ((acc.length : Int) + l.length) (by omega)
        by_cases hm : 2000 < acc.length + l.length
        · rw [if_pos hm]
          have z2 : ltI 2000 ((acc.length : Int) + l.length) = true := ltI_t (by omega)
          simp only
          rw [LpB_eq]
          simp only [t261, rowQ]
          conv => lhs; arg 4; arg 3; arg 6; simp [b261_0, z1, hK, w, z2, h4]
          simp
        · rw [if_neg hm]
          have z2 : ltI 2000 ((acc.length : Int) + l.length) = false := ltI_f (by omega)
          have ih := ih c1 r (acc ++ l) (acc ++ l).length (by omega) (by omega) g1 rfl (by simp; omega)
          refine Eq.trans ?_ ih
          clear ih hrd hS hN
          have b1 : (acc.length + l.length) * 24 ≤ 70368744177664 := by omega
          have b2 : l.length * 24 ≤ 70368744177664 := by omega
          have b3 : acc.length * 24 ≤ 70368744177664 := by omega
          rw [LpB_eq]
          simp only [t261, rowQ]
          by_cases hl : l = []
          · subst hl
            by_cases hn : acc = []
            · subst hn
              subst h4
              simp at w z2
              conv => lhs; arg 4; arg 3; arg 6; simp [b261_0, z1, hK, w, z2]
              simp
            · simp at w z2
              conv => lhs; arg 4; arg 3; arg 6; simp [b261_0, z1, hK, w, z2, h4, hn, b1, b2, b3]
              simp [hn]
          · by_cases hn : acc = []
            · subst hn
              subst h4
              simp at w z2
              conv => lhs; arg 4; arg 3; arg 6; simp [b261_0, z1, hK, w, z2, hl, b1, b2, b3]
              simp [hl]
            · conv => lhs; arg 4; arg 3; arg 6; simp [b261_0, z1, hK, w, z2, h4, hn, hl, b1, b2, b3]
              simp [hn]
set_option maxHeartbeats 8000000 in
/-- part.read. -/
theorem K261 (cc : Bool) (ts : List Int) (hts : ts ≠ []) (htl : ts.length ≤ 64) (k m g : Int) (cb : Bool) (b : List Int) (left : Nat) (hleft : left ≤ 2 ^ 40) (hbl : b.length ≤ 2 ^ 39) (hB : isB b) :
    K0 43 [Sd cc 1 ts k m g, .slc cb 1 (b.map (.int .u8)), .int .i64 left] [] =
      some (match readI ts left b.length b [] with
        | none => .tuple [nilS, .bool false]
        | some l => .tuple [.slc l.isEmpty (if l = [] then 0 else 1) (l.map rowD), .bool true], []) := by
  refine K_call k261 (oraG_none (by decide) (by decide)) (by simp [c261, Sd]) ?_
  refine Eq.trans ?_ (L261 cc ts hts htl k m g cb b left hleft b.length cb b [] 0 (Nat.le_refl _) hbl hB rfl (by simp))
  simp [c261, Sd, t261, rowQ]
end Go.Ab
