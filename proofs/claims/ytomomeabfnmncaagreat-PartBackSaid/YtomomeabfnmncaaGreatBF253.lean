/- THE FUNCTIONS' EQUATIONS: thresherref04.Compare, thresherref09.Sorted. -/
import Derived.Test.YtomomeabfnmncaaGreatBF255
import Derived.Test.YtomomeabfnmncaaGreatBF53
set_option linter.all false
set_option maxRecDepth 100000
namespace Go.Ab
open Go.Proofs Go.Proofs.YtomomeabfnmncaaGreatH
def b252_0 : C := (.seq (.seq (.reg none [⟨(some 9), none, (.mv (.t 7))⟩, ⟨(some 10), none, (.fa 1 1 false (.t 3))⟩, ⟨(some 11), none, (.ld none (.t 10))⟩, ⟨(some 12), none, (.bin .lss [] (.t 9) (.t 11))⟩, ⟨(some 13), none, (.mv (.t 12))⟩, ⟨(some 14), (some ((some 13), true)), (.mv (.t 7))⟩, ⟨(some 15), (some ((some 13), true)), (.fa 0 1 false (.t 3))⟩, ⟨(some 16), (some ((some 13), true)), (.ld none (.t 15))⟩, ⟨(some 17), (some ((some 13), true)), (.len 1 (.t 16))⟩, ⟨(some 18), (some ((some 13), true)), (.bin .lss [] (.t 14) (.t 17))⟩, ⟨(some 19), none, (.pick (.t 13) (.t 18) (.k (.bool false)))⟩, ⟨(some 20), none, (.mv (.t 19))⟩, ⟨(some 21), (some ((some 20), true)), (.mv (.t 7))⟩, ⟨(some 22), (some ((some 20), true)), (.mv (.t 1))⟩, ⟨(some 23), (some ((some 20), true)), (.len 1 (.t 22))⟩, ⟨(some 24), (some ((some 20), true)), (.bin .lss [] (.t 21) (.t 23))⟩, ⟨(some 25), none, (.pick (.t 20) (.t 24) (.k (.bool false)))⟩, ⟨(some 26), none, (.mv (.t 25))⟩, ⟨(some 27), (some ((some 26), true)), (.mv (.t 7))⟩, ⟨(some 28), (some ((some 26), true)), (.mv (.t 2))⟩, ⟨(some 29), (some ((some 26), true)), (.len 1 (.t 28))⟩, ⟨(some 30), (some ((some 26), true)), (.bin .lss [] (.t 27) (.t 29))⟩, ⟨(some 31), none, (.pick (.t 26) (.t 30) (.k (.bool false)))⟩]) (.cond (.t 31) .skip (.exit 0))) (.seq (.block 1 (.seq (.reg (some [(1, 7), (3, 7), (4, 7), (1, 8), (3, 8), (4, 8), (1, 11), (3, 11), (4, 11), (7, 11), (8, 11), (1, 12), (3, 12), (4, 12), (7, 12), (8, 12)]) [⟨(some 34), none, (.fa 0 1 false (.t 3))⟩, ⟨(some 35), none, (.ld none (.t 34))⟩, ⟨(some 36), none, (.mv (.t 7))⟩, ⟨(some 37), none, (.ia none 1 false (.t 35) (.t 36))⟩, ⟨(some 38), none, (.ld none (.t 37))⟩, ⟨(some 39), none, (.mv (.t 1))⟩, ⟨(some 40), none, (.mv (.t 7))⟩, ⟨(some 41), none, (.ia none 2 true (.t 39) (.t 40))⟩, ⟨(some 42), none, (.ld (some 2) (.t 41))⟩, ⟨(some 43), none, (.mv (.t 2))⟩, ⟨(some 44), none, (.mv (.t 7))⟩, ⟨(some 45), none, (.ia none 2 true (.t 43) (.t 44))⟩, ⟨(some 46), none, (.ld (some 2) (.t 45))⟩, ⟨(some 47), none, (.call (.f 48) [(.t 38), (.t 42), (.t 46)])⟩, ⟨(some 8), none, (.mv (.t 47))⟩]) (.seq (.reg none [⟨(some 48), none, (.mv (.t 8))⟩, ⟨(some 49), none, (.bin .neq [] (.t 48) (.k (.int .i64 0)))⟩]) (.cond (.t 49) (.seq (.reg none [⟨(some 50), none, (.mv (.t 8))⟩, ⟨(some 6), none, (.mv (.t 50))⟩]) .ret) .skip)))) (.reg none [⟨(some 32), none, (.mv (.t 7))⟩, ⟨(some 33), none, (.bin .add [] (.t 32) (.k (.int .i64 1)))⟩, ⟨(some 7), none, (.mv (.t 33))⟩])))
def r252 : C := (.seq (.reg none [⟨(some 6), none, (.mv (.k (.int .i64 0)))⟩]) .ret)
def c252 : Fn' := ⟨51, [(.tmp 6)], (.seq (.reg none [⟨(some 3), none, (.box false (.t 0))⟩, ⟨(some 6), none, (.mv (.k (.int .i64 0)))⟩]) (.seq (.seq (.reg none [⟨(some 7), none, (.mv (.k (.int .i64 0)))⟩]) (.block 0 (.loop b252_0))) r252))⟩
theorem k252 : compF Tryz.prog 17 = some c252 := by kernel_rfl
def b249_0 : C := (.seq (.seq (.reg none [⟨(some 6), none, (.mv (.t 5))⟩, ⟨(some 7), none, (.mv (.t 1))⟩, ⟨(some 8), none, (.len 1 (.t 7))⟩, ⟨(some 9), none, (.bin .lss [] (.t 6) (.t 8))⟩]) (.cond (.t 9) .skip (.exit 0))) (.seq (.block 1 (.seq (.reg (some [(0, 4), (0, 5), (0, 8), (4, 8), (5, 8), (0, 9), (4, 9), (5, 9)]) [⟨(some 12), none, (.ld (some 4) (.t 2))⟩, ⟨(some 13), none, (.mv (.t 1))⟩, ⟨(some 14), none, (.mv (.t 5))⟩, ⟨(some 15), none, (.bin .sub [] (.t 14) (.k (.int .i64 1)))⟩, ⟨(some 16), none, (.ia none 1 false (.t 13) (.t 15))⟩, ⟨(some 17), none, (.ld none (.t 16))⟩, ⟨(some 18), none, (.mv (.t 1))⟩, ⟨(some 19), none, (.mv (.t 5))⟩, ⟨(some 20), none, (.ia none 1 false (.t 18) (.t 19))⟩, ⟨(some 21), none, (.ld none (.t 20))⟩, ⟨(some 22), none, (.call (.f 17) [(.t 12), (.t 17), (.t 21)])⟩, ⟨(some 23), none, (.bin .gtr [] (.t 22) (.k (.int .i64 0)))⟩]) (.cond (.t 23) (.seq (.reg none [⟨(some 4), none, (.mv (.k (.bool false)))⟩]) .ret) .skip))) (.reg none [⟨(some 10), none, (.mv (.t 5))⟩, ⟨(some 11), none, (.bin .add [] (.t 10) (.k (.int .i64 1)))⟩, ⟨(some 5), none, (.mv (.t 11))⟩])))
def r249 : C := (.seq (.reg none [⟨(some 4), none, (.mv (.k (.bool true)))⟩]) .ret)
def c249 : Fn' := ⟨24, [(.tmp 4)], (.seq (.reg none [⟨(some 2), none, (.box false (.t 0))⟩, ⟨(some 4), none, (.mv (.k (.bool false)))⟩]) (.seq (.seq (.reg none [⟨(some 5), none, (.mv (.k (.int .i64 1)))⟩]) (.block 0 (.loop b249_0))) r249))⟩
theorem k249 : compF Tryz.prog 53 = some c249 := by kernel_rfl
attribute [local simp] op_or op_an op_add op_sub op_mul oq_eql oq_neq oq_lss oq_gtr oq_leq oq_geq
attribute [-simp] intOp bin_shl D.cells
/-- A row of values that there may be. -/
def inR (r : List Va) : Prop := ∀ p ∈ r, i64R p.1 ∧ p.2.length ≤ 2 ^ 47
def t252 (c : Bool) (s : Nat) (ts : List Int) (k m g : Int) (a b : Rw) (i : Nat) : List D := [.agg [.slc c s (ts.map (.int .i64)), .int .i64 k, .int .i64 m, .int .i64 g], .slc a.c a.s (a.r.map Va.d), .slc b.c b.s (b.r.map Va.d), .ptr 0 0 0 0, .undef, .undef, .int .i64 0, .int .i64 i, .undef, .undef, .undef, .undef, .undef, .undef, .undef, .undef, .undef, .undef, .undef, .undef, .undef, .undef, .undef, .undef, .undef, .undef, .undef, .undef, .undef, .undef, .undef, .undef, .undef, .undef, .undef, .undef, .undef, .undef, .undef, .undef, .undef, .undef, .undef, .undef, .undef, .undef, .undef, .undef, .undef, .undef, .undef]
set_option maxHeartbeats 8000000 in
theorem L252 (c : Bool) (s : Nat) (ts : List Int) (hs : s = 1 ∨ ts = []) (k m g : Int) (a b : Rw) (ha : inR a.r) (hb : inR b.r) (hl : ts.length ≤ 2 ^ 47) : ∀ (u : List Int) (x y : List Va) (pu : List Int) (pa pb : List Va) (i : Nat), ts = pu ++ u → a.r = pa ++ x → b.r = pb ++ y → i = pu.length → i = pa.length → i = pb.length →
    finK false 0 [Rs.tmp 6] (loopK cf0 K0 (LpB cf0 K0 b252_0 (t252 c s ts k m g a b 0) 1 ⟨t252 c s ts k m g a b i, [ScB c s ts k m g]⟩) [.blk 0, .c r252]) = some (.int .i64 (cmpL (u.take (k - i).toNat) x y), []) := by
  intro u
  induction u with
  | nil =>
    intro x y pu pa pb i h1 h2 h3 h4 h5 h6
    have e1 : ts.length = i := by rw [h1]; simp [h4]
    have z2 : ltI (i : Int) ts.length = false := ltI_f (by omega)
    rw [List.take_nil, cmpL_nil, LpB_eq]
    cases z1 : ltI (i : Int) k <;> simp [t252, b252_0, z1, z2, ScB, r252]
  | cons t u ih =>
    intro x y pu pa pb i h1 h2 h3 h4 h5 h6
    have l0 : i < ts.length := by rw [h1]; simp [h4]
    have z2 : ltI (i : Int) ts.length = true := ltI_t (by omega)
    by_cases hk : (i : Int) < k
    · have z1 : ltI (i : Int) k = true := ltI_t hk
      have ek : (k - i).toNat = (k - ((i + 1 : Nat) : Int)).toNat + 1 := by omega
      match x, y with
      | [], y =>
        have e1 : a.r.length = i := by rw [h2]; simp [h5]
        have z3 : ltI (i : Int) a.r.length = false := ltI_f (by omega)
        have e0 : cmpL ((t :: u).take (k - i).toNat) [] y = 0 := by rw [ek]; rfl
        rw [e0, LpB_eq]
        simp [t252, b252_0, z1, z2, z3, ScB, r252]
      | p :: x, [] =>
        have e1 : b.r.length = i := by rw [h3]; simp [h6]
        have l1 : i < a.r.length := by rw [h2]; simp [h5]
        have z3 : ltI (i : Int) a.r.length = true := ltI_t (by omega)
        have z4 : ltI (i : Int) b.r.length = false := ltI_f (by omega)
        have e0 : cmpL ((t :: u).take (k - i).toNat) (p :: x) [] = 0 := by rw [ek]; rfl
        rw [e0, LpB_eq]
        simp [t252, b252_0, z1, z2, z3, z4, ScB, r252]
      | p :: x, q :: y =>
        have l1 : i < a.r.length := by rw [h2]; simp [h5]
        have l2 : i < b.r.length := by rw [h3]; simp [h6]
        have z3 : ltI (i : Int) a.r.length = true := ltI_t (by omega)
        have z4 : ltI (i : Int) b.r.length = true := ltI_t (by omega)
        have g0 : ts[i]'l0 = t := by
          have : ts[i]? = some t := by rw [h1, h4]; simp
          rw [List.getElem?_eq_getElem l0] at this
          exact Option.some.inj this
        have g1 : a.r[i]'l1 = p := by
          have : a.r[i]? = some p := by rw [h2, h5]; simp
          rw [List.getElem?_eq_getElem l1] at this
          exact Option.some.inj this
        have g2 : b.r[i]'l2 = q := by
          have : b.r[i]? = some q := by rw [h3, h6]; simp
          rw [List.getElem?_eq_getElem l2] at this
          exact Option.some.inj this
        have hw := w64 (i + 1) (by omega)
        have hp := ha p (by rw [h2]; simp)
        have hq := hb q (by rw [h3]; simp)
        have hK := K264 t p q hp.1 hq.1 hp.2 hq.2
        have hih := ih x y (pu ++ [t]) (pa ++ [p]) (pb ++ [q]) (i + 1) (by rw [h1]; simp) (by rw [h2]; simp) (by rw [h3]; simp) (by simp [h4]) (by simp [h5]) (by simp [h6])
        have sa : a.s = 2 := a.h.resolve_right (by intro e; rw [e] at l1; simp at l1)
        have sb : b.s = 2 := b.h.resolve_right (by intro e; rw [e] at l2; simp at l2)
        obtain rfl := hs.resolve_right (by intro e; rw [e] at l0; simp at l0)
        have e0 : cmpL ((t :: u).take (k - i).toNat) (p :: x) (q :: y) = if vcmp t p q = 0 then cmpL (u.take (k - ((i + 1 : Nat) : Int)).toNat) x y else vcmp t p q := by rw [ek]; rfl
        rw [e0, LpB_eq]
        unfold Va.d at hK
        clear ek e0 h1 h2 h3 ha hb hp hq
        obtain ⟨ac, as_, ar, ah⟩ := a
        obtain ⟨bc, bs, br, bh⟩ := b
        simp only at sa sb l1 l2 z3 z4 g1 g2 hih
        subst sa sb
        by_cases hz : vcmp t p q = 0
        · have z5 : neI (vcmp t p q) 0 = false := neI_f hz
          rw [if_pos hz]
          generalize cmpL (u.take (k - ((i + 1 : Nat) : Int)).toNat) x y = R at *
          simp only [t252, ScB] at hih ⊢
          conv => lhs; arg 4; arg 3; arg 6; simp [evOp, evM, wants, Ins.go, X.ev, iaM, ldM, binD, setD, applyW, Ek_ops_nil, allFree, free, callM, callP, callO, appM, b252_0, z1, z2, z3, z4, l0, l1, l2, g0, g1, g2, hw, Va.d, hK, z5]
          simp at hih ⊢
          exact hih
        · have z5 : neI (vcmp t p q) 0 = true := neI_t hz
          rw [if_neg hz]
          simp only [t252, ScB]
          conv => lhs; arg 4; arg 3; arg 6; simp [evOp, evM, wants, Ins.go, X.ev, iaM, ldM, binD, setD, applyW, Ek_ops_nil, allFree, free, callM, callP, callO, appM, b252_0, z1, z2, z3, z4, l0, l1, l2, g0, g1, g2, hw, Va.d, hK, z5]
          simp
    · have z1 : ltI (i : Int) k = false := ltI_f hk
      have e0 : (k - (i : Int)).toNat = 0 := by omega
      rw [e0, List.take_zero, cmpL_nil, LpB_eq]
      simp [t252, b252_0, z1, ScB, r252]
set_option maxHeartbeats 4000000 in
/-- thresherref04.Compare. -/
theorem K252 (c : Bool) (s : Nat) (ts : List Int) (hs : s = 1 ∨ ts = []) (k m g : Int) (a b : Rw) (ha : inR a.r) (hb : inR b.r) (hl : ts.length ≤ 2 ^ 47) :
    K0 17 [Sd c s ts k m g, a.d, b.d] [] = some (.int .i64 (cmpK ts k a.r b.r), []) := by
  refine K_call k252 (oraG_none (by decide) (by decide)) (by simp [c252, Sd, Rw.d]) ?_
  have h := L252 c s ts hs k m g a b ha hb hl ts a.r b.r [] [] [] 0 rfl rfl rfl rfl rfl rfl
  have e : (k - ((0 : Nat) : Int)).toNat = k.toNat := by omega
  rw [e] at h
  refine Eq.trans ?_ h
  simp [c252, Sd, Rw.d, t252, ScB]
/-- As the reference has it: the first n pairs, from pair i on. -/
def okAt' (ts : List Int) (k : Int) (L : List Rw) (j : Nat) : Bool := !ltI 0 (cmpK ts k ((L[j]?.map Rw.r).getD []) ((L[j + 1]?.map Rw.r).getD []))
def srt' (ts : List Int) (k : Int) (L : List Rw) (i n : Nat) : Bool := (List.range' i n).all (okAt' ts k L)
def t249 (cc : Bool) (s : Nat) (ts : List Int) (k m g : Int) (c : Bool) (L : List Rw) (i : Nat) : List D := [.agg [.slc cc s (ts.map (.int .i64)), .int .i64 k, .int .i64 m, .int .i64 g], .slc c 1 (L.map Rw.d), .ptr 0 0 0 0, .undef, .bool false, .int .i64 i, .undef, .undef, .undef, .undef, .undef, .undef, .undef, .undef, .undef, .undef, .undef, .undef, .undef, .undef, .undef, .undef, .undef, .undef]
set_option maxHeartbeats 8000000 in
theorem L249 (c : Bool) (L : List Rw) (hR : ∀ x ∈ L, inR x.r) (cc : Bool) (s : Nat) (ts : List Int) (hs : s = 1 ∨ ts = []) (k m g : Int) (hl : ts.length ≤ 2 ^ 47) (hL : L.length ≤ 2 ^ 47) : ∀ (n i : Nat), i + n = L.length → 1 ≤ i →
    finK false 0 [Rs.tmp 4] (loopK cf0 K0 (LpB cf0 K0 b249_0 (t249 cc s ts k m g c L 1) 1 ⟨t249 cc s ts k m g c L i, [ScB cc s ts k m g]⟩) [.blk 0, .c r249]) = some (.bool (srt' ts k L (i - 1) n), [])
  | 0, i, h, hi => by
    have z1 : ltI (i : Int) L.length = false := ltI_f (by omega)
    rw [LpB_eq]
    simp [b249_0, t249, z1, r249, srt', ScB]
  | n + 1, i, h, hi => by
    obtain ⟨j, rfl⟩ : ∃ j, i = j + 1 := ⟨i - 1, by omega⟩
    have l1 : j + 1 < L.length := by omega
    have l0 : j < L.length := by omega
    have z1 : ltI ((j + 1 : Nat) : Int) L.length = true := ltI_t (by omega)
    have w1 : IntKind.i64.wrap (((j + 1 : Nat) : Int) - 1) = j := by rw [w64 _ (by omega)]; omega
    have w2 : IntKind.i64.wrap (((j + 1 : Nat) : Int) + 1) = ((j + 2 : Nat) : Int) := by rw [w64 _ (by omega)]; omega
    have hK := K252 cc s ts hs k m g (L[j]'l0) (L[j + 1]'l1) (hR _ (List.getElem_mem l0)) (hR _ (List.getElem_mem l1)) hl
    have hs2 : srt' ts k L j (n + 1) = (!ltI 0 (cmpK ts k (L[j]'l0).r (L[j + 1]'l1).r) && srt' ts k L (j + 1) n) := by
      unfold srt'
      rw [List.range'_succ, List.all_cons]
      congr 1
      unfold okAt'
      rw [List.getElem?_eq_getElem l1, List.getElem?_eq_getElem l0]
      rfl
    have ih := L249 c L hR cc s ts hs k m g hl hL n (j + 2) (by omega) (by omega)
    simp only [Nat.add_sub_cancel]
    rw [show j + 2 - 1 = j + 1 by omega] at ih
    rw [hs2]
    clear hs2
    obtain ⟨I, hI⟩ : ∃ I, I = j + 1 := ⟨_, rfl⟩
    obtain ⟨J, hJ⟩ : ∃ J, J = j + 2 := ⟨_, rfl⟩
    obtain ⟨b, hb⟩ : ∃ b, L[j + 1]'l1 = b := ⟨_, rfl⟩
    obtain ⟨a, ha⟩ : ∃ a, L[j]'l0 = a := ⟨_, rfl⟩
    rw [ha, hb] at hK ⊢
    generalize srt' ts k L (j + 1) n = R at *
    rw [← hI, ← hJ] at w2
    rw [← hJ] at ih
    rw [← hI] at z1 w1 l1 ⊢
    have hb' : L[I]'l1 = b := by rw [← hb]; congr 1
    clear hb
    unfold Sd at hK
    rw [LpB_eq]
    cases hc : ltI 0 (cmpK ts k a.r b.r) with
    | true =>
      simp only [t249, Rw.d, ScB] at hK ⊢
      conv => lhs; arg 4; arg 3; arg 6; simp [evOp, evM, wants, Ins.go, X.ev, iaM, ldM, binD, setD, applyW, Ek_ops_nil, allFree, free, callM, callP, callO, appM, b249_0, z1, l0, l1, ha, hb', w1, w2, Rw.d, hK, hc]
      simp
    | false =>
      simp only [t249, Rw.d, ScB] at hK ih ⊢
      conv => lhs; arg 4; arg 3; arg 6; simp [evOp, evM, wants, Ins.go, X.ev, iaM, ldM, binD, setD, applyW, Ek_ops_nil, allFree, free, callM, callP, callO, appM, b249_0, z1, l0, l1, ha, hb', w1, w2, Rw.d, hK, hc]
      simp at ih ⊢
      exact ih
set_option maxHeartbeats 4000000 in
/-- thresherref09.Sorted. -/
theorem K249 (c : Bool) (s' : Nat) (L : List Rw) (hs' : s' = 1 ∨ L = []) (hR : ∀ x ∈ L, inR x.r) (cc : Bool) (s : Nat) (ts : List Int) (hs : s = 1 ∨ ts = []) (k m g : Int) (hl : ts.length ≤ 2 ^ 47) (hL : L.length ≤ 2 ^ 47) :
    K0 53 [Sd cc s ts k m g, .slc c s' (L.map Rw.d)] [] = some (.bool (srt' ts k L 0 (L.length - 1)), []) := by
  refine K_call k249 (oraG_none (by decide) (by decide)) (by simp [c249, Sd]) ?_
  by_cases hn : L = []
  · subst hn
    have z1 : ltI 1 0 = false := rfl
    simp [c249, Sd]
    rw [LpB_eq]
    simp [b249_0, z1, r249, srt']
  · obtain rfl := hs'.resolve_right hn
    have hp : 0 < L.length := by cases L with
      | nil => exact absurd rfl hn
      | cons a l => simp
    have h := L249 c L hR cc s ts hs k m g hl hL (L.length - 1) 1 (by omega) (Nat.le_refl _)
    refine Eq.trans ?_ h
    simp [c249, Sd, t249, ScB]
end Go.Ab
/- THE FUNCTIONS' EQUATIONS: thresherref04.Fit, Fits. -/
set_option linter.all false
set_option maxRecDepth 100000
namespace Go.Ab
open Go.Proofs Go.Proofs.YtomomeabfnmncaaGreatH
def b253_0 : C := (.seq (.seq (.reg none [⟨(some 10), none, (.mv (.t 6))⟩, ⟨(some 11), none, (.fa 0 1 false (.t 2))⟩, ⟨(some 12), none, (.ld none (.t 11))⟩, ⟨(some 13), none, (.len 1 (.t 12))⟩, ⟨(some 14), none, (.bin .lss [] (.t 10) (.t 13))⟩]) (.cond (.t 14) .skip (.exit 0))) (.seq (.block 1 (.seq (.reg none [⟨(some 17), none, (.bld [(.int .i64 0), (.str [])] [])⟩, ⟨(some 7), none, (.alloc false [(.int .i64 0), (.str [])])⟩, ⟨none, none, (.st 2 (.t 7) (.t 17))⟩]) (.seq (.seq (.reg none [⟨(some 18), none, (.mv (.t 6))⟩, ⟨(some 19), none, (.mv (.t 1))⟩, ⟨(some 20), none, (.len 1 (.t 19))⟩, ⟨(some 21), none, (.bin .lss [] (.t 18) (.t 20))⟩]) (.cond (.t 21) (.reg none [⟨(some 22), none, (.mv (.t 1))⟩, ⟨(some 23), none, (.mv (.t 6))⟩, ⟨(some 24), none, (.ia none 2 true (.t 22) (.t 23))⟩, ⟨(some 25), none, (.ld (some 2) (.t 24))⟩, ⟨none, none, (.st 2 (.t 7) (.t 25))⟩]) .skip)) (.seq (.reg none [⟨(some 26), none, (.fa 0 1 false (.t 2))⟩, ⟨(some 27), none, (.ld none (.t 26))⟩, ⟨(some 28), none, (.mv (.t 6))⟩, ⟨(some 29), none, (.ia none 1 false (.t 27) (.t 28))⟩, ⟨(some 30), none, (.ld none (.t 29))⟩, ⟨(some 31), none, (.bin .eql [] (.t 30) (.k (.int .i64 3)))⟩]) (.cond (.t 31) (.seq (.reg none [⟨(some 32), none, (.fa 1 1 false (.t 7))⟩, ⟨(some 33), none, (.ld none (.t 32))⟩, ⟨(some 8), none, (.mv (.t 33))⟩]) (.seq (.seq (.reg none [⟨(some 34), none, (.mv (.t 8))⟩, ⟨(some 35), none, (.len 0 (.t 34))⟩, ⟨(some 36), none, (.bin .gtr [] (.t 35) (.k (.int .i64 60)))⟩]) (.cond (.t 36) (.reg none [⟨(some 37), none, (.mv (.t 8))⟩, ⟨(some 38), none, (.sub 0 1 (.t 37) none (some (.k (.int .i64 60))) none)⟩, ⟨(some 8), none, (.mv (.t 38))⟩]) .skip)) (.reg none [⟨(some 39), none, (.mv (.t 5))⟩, ⟨(some 40), none, (.mv (.t 8))⟩, ⟨(some 41), none, (.bld [(.int .i64 0), (.str [])] [(1, (1, (.t 40)))])⟩, ⟨(some 42), none, (.bsl false 2 1 [(.int .i64 0), (.str [])] [(0, (.t 41))])⟩, ⟨(some 43), none, (.app 2 24 (.t 39) (.t 42))⟩, ⟨(some 5), none, (.mv (.t 43))⟩]))) (.reg none [⟨(some 44), none, (.mv (.t 5))⟩, ⟨(some 45), none, (.fa 0 1 false (.t 7))⟩, ⟨(some 46), none, (.ld none (.t 45))⟩, ⟨(some 47), none, (.bld [(.int .i64 0), (.str [])] [(0, (1, (.t 46)))])⟩, ⟨(some 48), none, (.bsl false 2 1 [(.int .i64 0), (.str [])] [(0, (.t 47))])⟩, ⟨(some 49), none, (.app 2 24 (.t 44) (.t 48))⟩, ⟨(some 5), none, (.mv (.t 49))⟩])))))) (.reg none [⟨(some 15), none, (.mv (.t 6))⟩, ⟨(some 16), none, (.bin .add [] (.t 15) (.k (.int .i64 1)))⟩, ⟨(some 6), none, (.mv (.t 16))⟩])))
def r253 : C := (.seq (.reg none [⟨(some 50), none, (.mv (.t 5))⟩, ⟨(some 4), none, (.mv (.t 50))⟩]) .ret)
def c253 : Fn' := ⟨51, [(.tmp 4)], (.seq (.reg none [⟨(some 2), none, (.box false (.t 0))⟩, ⟨(some 4), none, (.mv (.k nilS))⟩]) (.seq (.reg none [⟨(some 9), none, (.bsl true 2 0 [(.int .i64 0), (.str [])] [])⟩, ⟨(some 5), none, (.mv (.t 9))⟩]) (.seq (.seq (.reg none [⟨(some 6), none, (.mv (.k (.int .i64 0)))⟩]) (.block 0 (.loop b253_0))) r253)))⟩
theorem k253 : compF Tryz.prog 26 = some c253 := by kernel_rfl
def b245_0 : C := (.seq (.seq (.reg none [⟨(some 10), none, (.mv (.t 8))⟩, ⟨(some 11), none, (.mv (.t 1))⟩, ⟨(some 12), none, (.len 1 (.t 11))⟩, ⟨(some 13), none, (.bin .lss [] (.t 10) (.t 12))⟩, ⟨(some 14), none, (.mv (.t 13))⟩, ⟨(some 15), (some ((some 14), true)), (.mv (.t 8))⟩, ⟨(some 16), (some ((some 14), true)), (.mv (.t 2))⟩, ⟨(some 17), (some ((some 14), true)), (.bin .lss [] (.t 15) (.t 16))⟩, ⟨(some 18), none, (.pick (.t 14) (.t 17) (.k (.bool false)))⟩]) (.cond (.t 18) .skip (.exit 0))) (.seq (.block 1 (.reg (some [(1, 4), (1, 5)]) [⟨(some 21), none, (.mv (.t 7))⟩, ⟨(some 22), none, (.ld (some 4) (.t 3))⟩, ⟨(some 23), none, (.mv (.t 1))⟩, ⟨(some 24), none, (.mv (.t 8))⟩, ⟨(some 25), none, (.ia none 1 false (.t 23) (.t 24))⟩, ⟨(some 26), none, (.ld none (.t 25))⟩, ⟨(some 27), none, (.call (.f 26) [(.t 22), (.t 26)])⟩, ⟨(some 28), none, (.bsl false 1 1 [nilS] [(0, (.t 27))])⟩, ⟨(some 29), none, (.app 1 24 (.t 21) (.t 28))⟩, ⟨(some 7), none, (.mv (.t 29))⟩])) (.reg none [⟨(some 19), none, (.mv (.t 8))⟩, ⟨(some 20), none, (.bin .add [] (.t 19) (.k (.int .i64 1)))⟩, ⟨(some 8), none, (.mv (.t 20))⟩])))
def r245 : C := (.seq (.reg none [⟨(some 30), none, (.mv (.t 7))⟩, ⟨(some 6), none, (.mv (.t 30))⟩]) .ret)
def c245 : Fn' := ⟨31, [(.tmp 6)], (.seq (.reg none [⟨(some 3), none, (.box false (.t 0))⟩, ⟨(some 6), none, (.mv (.k nilS))⟩]) (.seq (.reg none [⟨(some 9), none, (.bsl true 1 0 [nilS] [])⟩, ⟨(some 7), none, (.mv (.t 9))⟩]) (.seq (.seq (.reg none [⟨(some 8), none, (.mv (.k (.int .i64 0)))⟩]) (.block 0 (.loop b245_0))) r245)))⟩
theorem k245 : compF Tryz.prog 9 = some c245 := by kernel_rfl
attribute [local simp] op_or op_an op_add op_sub op_mul oq_eql oq_neq oq_lss oq_gtr oq_leq oq_geq
attribute [-simp] intOp bin_shl D.cells
/-- A value that fits a type. -/
def fitV (t : Int) (v : Va) : Va := if eqI t 3 then (0, v.2.take 60) else (v.1, [])
/-- A row that fits a schema. -/
def fitR : List Int → List Va → List Va
  | [], _ => []
  | t :: ts, r => fitV t (r.headD (0, [])) :: fitR ts r.tail
theorem fitR_len : ∀ (ts : List Int) (r : List Va), (fitR ts r).length = ts.length
  | [], _ => rfl
  | t :: ts, r => by simp [fitR, fitR_len ts]
def rowVs2 (l : List Va) : Obj := .row 2 (l.map Va.d) 0
def t253 (c : Bool) (s : Nat) (ts : List Int) (k m g : Int) (cr : Bool) (sr : Nat) (r : List Va) (a i : Nat) : List D := [.agg [.slc c s (ts.map (.int .i64)), .int .i64 k, .int .i64 m, .int .i64 g], .slc cr sr (r.map Va.d), .ptr 0 0 0 0, .undef, nilS, .sl 1 0 a a, .int .i64 i, .undef, .undef, .sl 1 0 0 0, .undef, .undef, .undef, .undef, .undef, .undef, .undef, .undef, .undef, .undef, .undef, .undef, .undef, .undef, .undef, .undef, .undef, .undef, .undef, .undef, .undef, .undef, .undef, .undef, .undef, .undef, .undef, .undef, .undef, .undef, .undef, .undef, .undef, .undef, .undef, .undef, .undef, .undef, .undef, .undef, .undef]
set_option maxHeartbeats 8000000 in
attribute [local simp high] cells_va in
theorem L253 (c : Bool) (s : Nat) (ts : List Int) (hs : s = 1 ∨ ts = []) (k m g : Int) (cr : Bool) (sr : Nat) (r : List Va) (hr : sr = 2 ∨ r = []) (hl : ts.length ≤ 2 ^ 30) (hrl : r.length ≤ 2 ^ 60) : ∀ (u pu : List Int) (x : List Va) (acc : List Va) (a i : Nat), ts = pu ++ u → x = r.drop i → i = pu.length → a = acc.length → acc.length = i →
    LpB cf0 K0 b253_0 (t253 c s ts k m g cr sr r 0 0) 2 ⟨t253 c s ts k m g cr sr r a i, [.box [.slc c s (ts.map (.int .i64)), .int .i64 k, .int .i64 m, .int .i64 g], rowVs2 acc]⟩ =
      some (.exit 0, ⟨t253 c s ts k m g cr sr r (acc ++ fitR u x).length ts.length, [.box [.slc c s (ts.map (.int .i64)), .int .i64 k, .int .i64 m, .int .i64 g], rowVs2 (acc ++ fitR u x)]⟩) := by
  intro u
  induction u with
  | nil =>
    intro pu x acc a i h1 h2 h3 h4 h5
    have e1 : ts.length = i := by rw [h1]; simp [h3]
    have z1 : ltI (i : Int) ts.length = false := ltI_f (by omega)
    rw [LpB_eq]
    simp only [t253, rowVs2, fitR, List.append_nil]
    conv => lhs; arg 6; simp [b253_0, z1]
    simp [h4, e1]
  | cons t u ih =>
    intro pu x acc a i h1 h2 h3 h4 h5
    have l0 : i < ts.length := by rw [h1]; simp [h3]
    have z1 : ltI (i : Int) ts.length = true := ltI_t (by omega)
    have g0 : ts[i]'l0 = t := by
      have : ts[i]? = some t := by rw [h1, h3]; simp
      rw [List.getElem?_eq_getElem l0] at this
      exact Option.some.inj this
    have hw := w64 (i + 1) (by omega)
    obtain rfl := hs.resolve_right (by intro e; rw [e] at l0; simp at l0)
    have hb1 : (acc.length + 1) * 24 ≤ 70368744177664 := by omega
    have ih := ih (pu ++ [t]) x.tail (acc ++ [fitV t (x.headD (0, []))]) (acc ++ [fitV t (x.headD (0, []))]).length (i + 1) (by rw [h1]; simp) (by rw [h2, List.tail_drop]) (by simp [h3]) rfl (by simp [h5])
    rw [show acc ++ fitR (t :: u) x = acc ++ [fitV t (x.headD (0, []))] ++ fitR u x.tail by simp [fitR]]
    refine Eq.trans ?_ ih
    clear ih
    generalize acc ++ [fitV t (x.headD (0, []))] ++ fitR u x.tail = W
    obtain ⟨z3, hz3⟩ : ∃ z, eqI t 3 = z := ⟨_, rfl⟩
    rcases Nat.lt_or_ge i r.length with hir | hir
    · have z2 : ltI (i : Int) r.length = true := ltI_t (by omega)
      obtain rfl := hr.resolve_right (by intro e; rw [e] at hir; simp at hir)
      have hx : x.headD (0, []) = r[i]'hir := by rw [h2, List.drop_eq_getElem_cons hir]; rfl
      rw [hx]
      clear hx h2
      generalize hv : r[i]'hir = v at *
      obtain ⟨vn, vs⟩ := v
      rw [LpB_eq]
      simp only [t253, rowVs2]
      cases z3
      · have hf : fitV t (vn, vs) = (vn, []) := by unfold fitV; rw [hz3]; rfl
        rw [hf]
        conv => lhs; arg 6; simp [b253_0, z1, z2, l0, g0, hir, hv, hz3, hw, h4, hb1, Va.d]
        simp [Va.d]
      · by_cases h6 : 60 < vs.length
        · have hf : fitV t (vn, vs) = (0, vs.take 60) := by unfold fitV; rw [hz3]; rfl
          rw [hf]
          have z4 : ltI 60 (vs.length : Int) = true := ltI_t (by omega)
          have h60 : 60 ≤ vs.length := by omega
          have h60' : 60 ≤ (vs.length : Int) := by omega
          conv => lhs; arg 6; simp [b253_0, z1, z2, l0, g0, hir, hv, hz3, hw, h4, hb1, Va.d, z4, h60, h60']
          simp [Va.d]
        · have hf : fitV t (vn, vs) = (0, vs) := by unfold fitV; rw [hz3, if_pos rfl, List.take_of_length_le (by dsimp only; omega)]
          rw [hf]
          have z4 : ltI 60 (vs.length : Int) = false := ltI_f (by omega)
          conv => lhs; arg 6; simp [b253_0, z1, z2, l0, g0, hir, hv, hz3, hw, h4, hb1, Va.d, z4]
          simp [Va.d]
    · have z2 : ltI (i : Int) r.length = false := ltI_f (by omega)
      have hx : x.headD (0, []) = (0, []) := by rw [h2, List.drop_eq_nil_of_le hir]; rfl
      rw [hx]
      clear hx h2
      have z4 : ltI 60 0 = false := rfl
      have hf : fitV t (0, []) = (0, []) := by unfold fitV; rw [hz3]; cases z3 <;> rfl
      rw [hf]
      rw [LpB_eq]
      simp only [t253, rowVs2]
      cases z3
      · conv => lhs; arg 6; simp [b253_0, z1, z2, l0, g0, hz3, hw, h4, hb1, Va.d]
        simp [Va.d]
      · conv => lhs; arg 6; simp [b253_0, z1, z2, l0, g0, hz3, hw, h4, hb1, Va.d, z4]
        simp [Va.d]
set_option maxHeartbeats 8000000 in
/-- thresherref04.Fit. -/
theorem K253 (c : Bool) (s : Nat) (ts : List Int) (hs : s = 1 ∨ ts = []) (k m g : Int) (x : Rw) (hl : ts.length ≤ 2 ^ 30) (hrl : x.r.length ≤ 2 ^ 60) :
    K0 26 [Sd c s ts k m g, x.d] [] = some (.slc false 2 ((fitR ts x.r).map Va.d), []) := by
  refine K_call k253 (oraG_none (by decide) (by decide)) (by simp [c253, Sd, Rw.d]) ?_
  have h := L253 c s ts hs k m g x.c x.s x.r x.h hl hrl ts [] x.r [] 0 0 rfl rfl rfl rfl rfl
  rw [List.nil_append] at h
  generalize fitR ts x.r = R at *
  simp only [t253, rowVs2] at h
  simp [c253, Sd, Rw.d]
  simp at h
  rw [h]
  simp [r253, List.take_of_length_le]
/-- A row as Fit gives it. -/
def fitW (ts : List Int) (x : Rw) : Rw := ⟨false, 2, fitR ts x.r, .inl rfl⟩
def rowR1 (acc : List Rw) : Obj := .row 1 (acc.map Rw.d) 0
def t245 (cc : Bool) (s : Nat) (ts : List Int) (k m g : Int) (c : Bool) (s' : Nat) (L : List Rw) (n a i : Nat) : List D := [.agg [.slc cc s (ts.map (.int .i64)), .int .i64 k, .int .i64 m, .int .i64 g], .slc c s' (L.map Rw.d), .int .i64 n, .ptr 0 0 0 0, .undef, .undef, nilS, .sl 1 0 a a, .int .i64 i, .sl 1 0 0 0, .undef, .undef, .undef, .undef, .undef, .undef, .undef, .undef, .undef, .undef, .undef, .undef, .undef, .undef, .undef, .undef, .undef, .undef, .undef, .undef, .undef]
set_option maxHeartbeats 8000000 in
attribute [local simp high] cells_rws in
theorem L245 (cc : Bool) (s : Nat) (ts : List Int) (hs : s = 1 ∨ ts = []) (k m g : Int) (hl : ts.length ≤ 2 ^ 30) (c : Bool) (s' : Nat) (L : List Rw) (hs' : s' = 1 ∨ L = []) (hL : L.length ≤ 2 ^ 60) (hr : ∀ x ∈ L, x.r.length ≤ 2 ^ 60) (n : Nat) (hn : n ≤ 2 ^ 20) : ∀ (j i : Nat) (acc : List Rw) (a : Nat), j + i = n → a = acc.length → acc.length ≤ i →
    ∃ i', LpB cf0 K0 b245_0 (t245 cc s ts k m g c s' L n 0 0) 2 ⟨t245 cc s ts k m g c s' L n a i, [ScB cc s ts k m g, rowR1 acc]⟩ =
      some (.exit 0, ⟨t245 cc s ts k m g c s' L n (acc ++ ((L.drop i).take j).map (fitW ts)).length i', [ScB cc s ts k m g, rowR1 (acc ++ ((L.drop i).take j).map (fitW ts))]⟩)
  | 0, i, acc, a, hj, ha, hb => by
    have z2 : ltI (i : Int) n = false := ltI_f (by omega)
    refine ⟨i, ?_⟩
    rw [List.take_zero, List.map_nil, List.append_nil, LpB_eq]
    simp only [t245, rowR1, ScB]
    cases z1 : ltI (i : Int) L.length
    · conv => lhs; arg 6; simp [b245_0, z1, z2]
      simp [ha]
    · conv => lhs; arg 6; simp [b245_0, z1, z2]
      simp [ha]
  | j + 1, i, acc, a, hj, ha, hb => by
    have z2 : ltI (i : Int) n = true := ltI_t (by omega)
    rcases Nat.lt_or_ge i L.length with hll | hll
    · have z1 : ltI (i : Int) L.length = true := ltI_t (by omega)
      obtain ⟨x, hx⟩ : ∃ x, L[i]'hll = x := ⟨_, rfl⟩
      have hxm : x ∈ L := by rw [← hx]; exact List.getElem_mem hll
      have hw := w64 (i + 1) (by omega)
      obtain rfl := hs'.resolve_right (by intro e; subst e; simp at hll)
      have e : acc ++ ((L.drop i).take (j + 1)).map (fitW ts) = acc ++ [fitW ts x] ++ ((L.drop (i + 1)).take j).map (fitW ts) := by
        rw [List.drop_eq_getElem_cons hll, hx, List.take_succ_cons]; simp
      have hK := K253 cc s ts hs k m g x hl (hr x hxm)
      have hd : (fitW ts x).d = .slc false 2 ((fitR ts x.r).map Va.d) := rfl
      obtain ⟨i', ih⟩ := L245 cc s ts hs k m g hl c 1 L hs' hL hr n hn j (i + 1) (acc ++ [fitW ts x]) (acc ++ [fitW ts x]).length (by omega) rfl (by simp; omega)
      refine ⟨i', ?_⟩
      rw [e]
      refine Eq.trans ?_ ih
      clear ih e
      have hb1 : (acc.length + 1) * 24 ≤ 70368744177664 := by omega
      generalize acc ++ [fitW ts x] ++ ((L.drop (i + 1)).take j).map (fitW ts) = W at *
      generalize fitW ts x = y at *
      generalize fitR ts x.r = R at *
      unfold Sd at hK
      rw [LpB_eq]
      simp only [t245, rowR1, ScB]
      unfold Rw.d at hK hd
      conv => lhs; arg 6; simp [evOp, evM, wants, Ins.go, X.ev, iaM, ldM, binD, setD, applyW, Ek_ops_nil, allFree, free, callM, callP, callO, appM, b245_0, z1, z2, hll, hx, Rw.d, hw, hb1, ha, hK]
      simp [Rw.d, hd]
    · have z1 : ltI (i : Int) L.length = false := ltI_f (by omega)
      refine ⟨i, ?_⟩
      rw [List.drop_eq_nil_of_le hll, List.take_nil, List.map_nil, List.append_nil, LpB_eq]
      simp only [t245, rowR1, ScB]
      conv => lhs; arg 6; simp [b245_0, z1, z2]
      simp [ha]
set_option maxHeartbeats 8000000 in
/-- thresherref04.Fits. -/
theorem K245 (cc : Bool) (s : Nat) (ts : List Int) (hs : s = 1 ∨ ts = []) (k m g : Int) (hl : ts.length ≤ 2 ^ 30) (c : Bool) (s' : Nat) (L : List Rw) (hs' : s' = 1 ∨ L = []) (hL : L.length ≤ 2 ^ 60) (hr : ∀ x ∈ L, x.r.length ≤ 2 ^ 60) (n : Nat) (hn : n ≤ 2 ^ 20) :
    K0 9 [Sd cc s ts k m g, .slc c s' (L.map Rw.d), .int .i64 n] [] = some (.slc false 1 (((L.take n).map (fitW ts)).map Rw.d), []) := by
  refine K_call k245 (oraG_none (by decide) (by decide)) (by simp [c245, Sd]) ?_
  obtain ⟨i', h⟩ := L245 cc s ts hs k m g hl c s' L hs' hL hr n hn n 0 [] 0 (by omega) rfl (Nat.le_refl _)
  rw [List.nil_append, List.drop_zero] at h
  generalize (L.take n).map (fitW ts) = R at *
  simp only [t245, rowR1, ScB] at h
  simp [c245, Sd]
  simp at h
  rw [h]
  simp [r245, List.take_of_length_le]
end Go.Ab
/- THE FUNCTIONS' EQUATIONS: thresherref09.Sort. -/
set_option linter.all false
set_option maxRecDepth 100000
namespace Go.Ab
open Go.Proofs Go.Proofs.YtomomeabfnmncaaGreatH
def b244_0 : C := (.seq (.seq (.reg none [⟨(some 18), none, (.mv (.t 9))⟩, ⟨(some 19), none, (.mv (.t 5))⟩, ⟨(some 20), none, (.len 1 (.t 19))⟩, ⟨(some 21), none, (.bin .lss [] (.t 18) (.t 20))⟩]) (.cond (.t 21) .skip (.exit 2))) (.seq (.block 3 (.seq (.seq (.reg (some [(3, 6), (3, 7), (3, 10), (6, 10), (7, 10), (3, 11), (6, 11), (7, 11)]) [⟨(some 24), none, (.mv (.t 8))⟩, ⟨(some 25), none, (.un .not (.t 24))⟩, ⟨(some 26), none, (.mv (.t 25))⟩, ⟨(some 27), (some ((some 26), true)), (.ld (some 4) (.t 2))⟩, ⟨(some 28), (some ((some 26), true)), (.mv (.t 5))⟩, ⟨(some 29), (some ((some 26), true)), (.mv (.t 9))⟩, ⟨(some 30), (some ((some 26), true)), (.ia none 1 false (.t 28) (.t 29))⟩, ⟨(some 31), (some ((some 26), true)), (.ld none (.t 30))⟩, ⟨(some 32), (some ((some 26), true)), (.mv (.t 1))⟩, ⟨(some 33), (some ((some 26), true)), (.mv (.t 6))⟩, ⟨(some 34), (some ((some 26), true)), (.ia none 1 false (.t 32) (.t 33))⟩, ⟨(some 35), (some ((some 26), true)), (.ld none (.t 34))⟩, ⟨(some 36), (some ((some 26), true)), (.call (.f 17) [(.t 27), (.t 31), (.t 35)])⟩, ⟨(some 37), (some ((some 26), true)), (.bin .gtr [] (.t 36) (.k (.int .i64 0)))⟩, ⟨(some 38), none, (.pick (.t 26) (.t 37) (.k (.bool false)))⟩]) (.cond (.t 38) (.seq (.reg none [⟨(some 39), none, (.mv (.t 7))⟩, ⟨(some 40), none, (.mv (.t 1))⟩, ⟨(some 41), none, (.mv (.t 6))⟩, ⟨(some 42), none, (.ia none 1 false (.t 40) (.t 41))⟩, ⟨(some 43), none, (.ld none (.t 42))⟩, ⟨(some 44), none, (.bsl false 1 1 [nilS] [(0, (.t 43))])⟩, ⟨(some 45), none, (.app 1 24 (.t 39) (.t 44))⟩, ⟨(some 7), none, (.mv (.t 45))⟩]) (.reg none [⟨(some 8), none, (.mv (.k (.bool true)))⟩])) .skip)) (.reg none [⟨(some 46), none, (.mv (.t 7))⟩, ⟨(some 47), none, (.mv (.t 5))⟩, ⟨(some 48), none, (.mv (.t 9))⟩, ⟨(some 49), none, (.ia none 1 false (.t 47) (.t 48))⟩, ⟨(some 50), none, (.ld none (.t 49))⟩, ⟨(some 51), none, (.bsl false 1 1 [nilS] [(0, (.t 50))])⟩, ⟨(some 52), none, (.app 1 24 (.t 46) (.t 51))⟩, ⟨(some 7), none, (.mv (.t 52))⟩]))) (.reg none [⟨(some 22), none, (.mv (.t 9))⟩, ⟨(some 23), none, (.bin .add [] (.t 22) (.k (.int .i64 1)))⟩, ⟨(some 9), none, (.mv (.t 23))⟩])))
def b244_1 : C := (.seq (.seq (.reg none [⟨(some 11), none, (.mv (.t 6))⟩, ⟨(some 12), none, (.mv (.t 1))⟩, ⟨(some 13), none, (.len 1 (.t 12))⟩, ⟨(some 14), none, (.bin .lss [] (.t 11) (.t 13))⟩]) (.cond (.t 14) .skip (.exit 0))) (.seq (.block 1 (.seq (.reg none [⟨(some 17), none, (.bsl true 1 0 [nilS] [])⟩, ⟨(some 7), none, (.mv (.t 17))⟩]) (.seq (.reg none [⟨(some 8), none, (.mv (.k (.bool false)))⟩]) (.seq (.seq (.reg none [⟨(some 9), none, (.mv (.k (.int .i64 0)))⟩]) (.block 2 (.loop b244_0))) (.seq (.seq (.reg none [⟨(some 53), none, (.mv (.t 8))⟩, ⟨(some 54), none, (.un .not (.t 53))⟩]) (.cond (.t 54) (.reg none [⟨(some 55), none, (.mv (.t 7))⟩, ⟨(some 56), none, (.mv (.t 1))⟩, ⟨(some 57), none, (.mv (.t 6))⟩, ⟨(some 58), none, (.ia none 1 false (.t 56) (.t 57))⟩, ⟨(some 59), none, (.ld none (.t 58))⟩, ⟨(some 60), none, (.bsl false 1 1 [nilS] [(0, (.t 59))])⟩, ⟨(some 61), none, (.app 1 24 (.t 55) (.t 60))⟩, ⟨(some 7), none, (.mv (.t 61))⟩]) .skip)) (.reg none [⟨(some 62), none, (.mv (.t 7))⟩, ⟨(some 5), none, (.mv (.t 62))⟩])))))) (.reg none [⟨(some 15), none, (.mv (.t 6))⟩, ⟨(some 16), none, (.bin .add [] (.t 15) (.k (.int .i64 1)))⟩, ⟨(some 6), none, (.mv (.t 16))⟩])))
def r244 : C := (.seq (.reg none [⟨(some 63), none, (.mv (.t 5))⟩, ⟨(some 4), none, (.mv (.t 63))⟩]) .ret)
def c244 : Fn' := ⟨64, [(.tmp 4)], (.seq (.reg none [⟨(some 2), none, (.box false (.t 0))⟩, ⟨(some 4), none, (.mv (.k nilS))⟩]) (.seq (.reg none [⟨(some 10), none, (.bsl false 1 0 [nilS] [])⟩, ⟨(some 5), none, (.mv (.t 10))⟩]) (.seq (.seq (.reg none [⟨(some 6), none, (.mv (.k (.int .i64 0)))⟩]) (.block 0 (.loop b244_1))) r244)))⟩
theorem k244 : compF Tryz.prog 8 = some c244 := by kernel_rfl
attribute [local simp] op_or op_an op_add op_sub op_mul oq_eql oq_neq oq_lss oq_gtr oq_leq oq_geq
attribute [-simp] intOp bin_shl D.cells
/-- A row put behind those that are not above it. -/
def insW (ts : List Int) (k : Int) (x : Rw) : List Rw → List Rw
  | [] => [x]
  | y :: l => if ltI 0 (cmpK ts k y.r x.r) then x :: y :: l else y :: insW ts k x l
def sortW (ts : List Int) (k : Int) (L : List Rw) : List Rw := L.foldl (fun out x => insW ts k x out) []
theorem insW_len (ts : List Int) (k : Int) (x : Rw) : ∀ l : List Rw, (insW ts k x l).length = l.length + 1
  | [] => rfl
  | y :: l => by
    unfold insW
    split
    · rfl
    · simp [insW_len ts k x l]
theorem insW_mem (ts : List Int) (k : Int) (x : Rw) : ∀ l : List Rw, ∀ y, y ∈ insW ts k x l → y = x ∨ y ∈ l
  | [], y, h => by simp [insW] at h; exact .inl h
  | z :: l, y, h => by
    unfold insW at h
    split at h
    · simp at h; simpa using h
    · rcases List.mem_cons.1 h with rfl | h
      · exact .inr List.mem_cons_self
      · rcases insW_mem ts k x l y h with h | h
        · exact .inl h
        · exact .inr (List.mem_cons_of_mem _ h)
/-- The inner loop: what is put into the next row, and whether the row is in. -/
def wlk (ts : List Int) (k : Int) (x : Rw) : Bool → List Rw → List Rw × Bool
  | put, [] => ([], put)
  | put, y :: l => if (!put && ltI 0 (cmpK ts k y.r x.r)) = true then (x :: y :: (wlk ts k x true l).1, (wlk ts k x true l).2) else (y :: (wlk ts k x put l).1, (wlk ts k x put l).2)
theorem wlk_true (ts : List Int) (k : Int) (x : Rw) : ∀ l, wlk ts k x true l = (l, true)
  | [] => rfl
  | y :: l => by simp [wlk, wlk_true ts k x l]
theorem wlk_ins (ts : List Int) (k : Int) (x : Rw) : ∀ l, insW ts k x l = (wlk ts k x false l).1 ++ (if (wlk ts k x false l).2 then [] else [x])
  | [] => rfl
  | y :: l => by
    cases hc : ltI 0 (cmpK ts k y.r x.r) with
    | true => simp [insW, wlk, hc, wlk_true]
    | false => simp [insW, wlk, hc, wlk_ins ts k x l]
theorem wlk_len (ts : List Int) (k : Int) (x : Rw) : ∀ (l : List Rw) (p : Bool), (wlk ts k x p l).1.length ≤ l.length + 1
  | [], p => by simp [wlk]
  | y :: l, p => by
    unfold wlk
    split
    · rw [wlk_true]; simp
    · have := wlk_len ts k x l p
      simp; omega
section
variable {α : Type}
theorem ga0 (A : List α) (x : α) (r : List α) : (A ++ x :: r)[A.length]? = some x := by simp
theorem ga1 (A : List α) (x y : α) : (A ++ [x, y])[A.length + 1]? = some y := by
  rw [List.getElem?_append_right (by omega)]; simp
theorem sa0 (A : List α) (x z : α) (r : List α) : (A ++ x :: r).set A.length z = A ++ z :: r := by simp
theorem sa1 (A : List α) (x y z : α) : (A ++ [x, y]).set (A.length + 1) z = A ++ [x, z] := by
  rw [List.set_append_right _ _ (by omega)]; simp
theorem ta1 (A : List α) (x y : α) : (A ++ [x, y]).take (A.length + 2) = A ++ [x, y] := List.take_of_length_le (by simp)
end
/-- The objects in the inner loop. -/
def H244 (cc : Bool) (s : Nat) (ts : List Int) (k m g : Int) (A : List Obj) (out nxt : List Rw) : List Obj := ScB cc s ts k m g :: (A ++ [rowR1 out, rowR1 nxt])
def t244i (cc : Bool) (s : Nat) (ts : List Int) (k m g : Int) (c : Bool) (L : List Rw) (A : Nat) (n i : Nat) (put : Bool) (a j : Nat) : List D :=
  [.agg [.slc cc s (ts.map (.int .i64)), .int .i64 k, .int .i64 m, .int .i64 g], .slc c 1 (L.map Rw.d), .ptr 0 0 0 0, .undef, nilS, .sl (A + 1) 0 n n, .int .i64 i, .sl (A + 2) 0 a a, .bool put, .int .i64 j, .slc true 1 [], .int .i64 i, .slc c 1 (L.map Rw.d), .int .i64 L.length, .bool true, .undef, .undef, .sl (A + 2) 0 0 0, .undef, .undef, .undef, .undef, .undef, .undef, .undef, .undef, .undef, .undef, .undef, .undef, .undef, .undef, .undef, .undef, .undef, .undef, .undef, .undef, .undef, .undef, .undef, .undef, .undef, .undef, .undef, .undef, .undef, .undef, .undef, .undef, .undef, .undef, .undef, .undef, .undef, .undef, .undef, .undef, .undef, .undef, .undef, .undef, .undef, .undef]
set_option maxHeartbeats 16000000 in
attribute [local simp high] cells_rws ga0 ga1 sa0 sa1 ta1 in
theorem L244i (cc : Bool) (s : Nat) (ts : List Int) (hs : s = 1 ∨ ts = []) (k m g : Int) (hl : ts.length ≤ 2 ^ 47) (c : Bool) (L : List Rw) (i : Nat) (hi : i < L.length) (A : List Obj) (x : Rw) (hx : L[i]'hi = x) (hxr : inR x.r) (out : List Rw) (hout : out.length ≤ 2 ^ 30) (hor : ∀ y ∈ out, inR y.r) : ∀ (u pre : List Rw) (put : Bool) (nxt : List Rw) (a j : Nat), out = pre ++ u → j = pre.length → a = nxt.length → nxt.length ≤ j + put.toNat →
    LpB cf0 K0 b244_0 (t244i cc s ts k m g c L A.length out.length i false 0 0) (A.length + 3) ⟨t244i cc s ts k m g c L A.length out.length i put a j, H244 cc s ts k m g A out nxt⟩ =
      some (.exit 2, ⟨t244i cc s ts k m g c L A.length out.length i (wlk ts k x put u).2 (nxt ++ (wlk ts k x put u).1).length out.length, H244 cc s ts k m g A out (nxt ++ (wlk ts k x put u).1)⟩)
  | [], pre, put, nxt, a, j, h, hj, ha, hb => by
    have : out = pre := by simpa using h
    subst this
    have z1 : ltI (j : Int) out.length = false := ltI_f (by omega)
    rw [LpB_eq]
    simp only [t244i, H244, wlk, List.append_nil]
    conv => lhs; arg 6; simp [b244_0, z1]
    simp [hj, ha]
  | y :: u, pre, put, nxt, a, j, h, hj, ha, hb => by
    have l0 : j < out.length := by rw [h, hj]; simp
    have z1 : ltI (j : Int) out.length = true := ltI_t (by omega)
    have hg : out[j]'l0 = y := by
      have : out[j]? = some y := by rw [h, hj]; simp
      rw [List.getElem?_eq_getElem l0] at this
      exact Option.some.inj this
    have hK := K252 cc s ts hs k m g y x (hor y (by rw [h]; simp)) hxr hl
    have hb0 : nxt.length ≤ j + 1 := by cases put <;> simp at hb <;> omega
    have hb1 : (nxt.length + 1) * 24 ≤ 70368744177664 := by omega
    have hb2 : (nxt.length + 1 + 1) * 24 ≤ 70368744177664 := by clear hb1; omega
    obtain ⟨q, hq⟩ : ∃ q, ltI 0 (cmpK ts k y.r x.r) = q := ⟨_, rfl⟩
    have ih := L244i cc s ts hs k m g hl c L i hi A x hx hxr out hout hor u (pre ++ [y])
    by_cases hp : (!put && q) = true
    · obtain ⟨hp1, hp2⟩ := Bool.and_eq_true_iff.1 hp
      obtain rfl : put = false := by simpa using hp1
      obtain rfl : q = true := hp2
      have e : wlk ts k x false (y :: u) = (x :: y :: (wlk ts k x true u).1, (wlk ts k x true u).2) := by simp [wlk, hq]
      have ih := ih true (nxt ++ [x] ++ [y]) (nxt ++ [x] ++ [y]).length (j + 1) (by rw [h]; simp) (by simp [hj]) rfl (by simp at hb ⊢; omega)
      rw [e]
      rw [show nxt ++ (x :: y :: (wlk ts k x true u).1) = nxt ++ [x] ++ [y] ++ (wlk ts k x true u).1 by simp]
      refine Eq.trans ?_ ih
      clear ih e
      generalize wlk ts k x true u = W at *
      have hw := w64 (j + 1) (by omega)
      unfold Sd at hK
      rw [LpB_eq]
      simp only [t244i, H244, rowR1, ScB, Rw.d] at hK ⊢
      conv => lhs; arg 6; simp [evOp, evM, wants, Ins.go, X.ev, iaM, ldM, binD, setD, applyW, Ek_ops_nil, allFree, free, callM, callP, callO, appM, b244_0, z1, l0, hg, hi, hx, hw, hK, hq, ha, hb1, hb2, Rw.d]
      simp [Rw.d]
    · have e : wlk ts k x put (y :: u) = (y :: (wlk ts k x put u).1, (wlk ts k x put u).2) := by
        rw [wlk, hq, if_neg hp]
      have ih := ih put (nxt ++ [y]) (nxt ++ [y]).length (j + 1) (by rw [h]; simp) (by simp [hj]) rfl (by simp; omega)
      rw [e]
      rw [show nxt ++ (y :: (wlk ts k x put u).1) = nxt ++ [y] ++ (wlk ts k x put u).1 by simp]
      refine Eq.trans ?_ ih
      clear ih e
      generalize wlk ts k x put u = W at *
      have hw := w64 (j + 1) (by omega)
      unfold Sd at hK
      rw [LpB_eq]
      simp only [t244i, H244, rowR1, ScB, Rw.d] at hK ⊢
      cases put with
      | true =>
        conv => lhs; arg 6; simp [evOp, evM, wants, Ins.go, X.ev, iaM, ldM, binD, setD, applyW, Ek_ops_nil, allFree, free, callM, callP, callO, appM, b244_0, z1, l0, hg, hi, hx, hw, hK, ha, hb1, hb2, Rw.d]
        simp [Rw.d]
      | false =>
        obtain rfl : q = false := by simpa using hp
        conv => lhs; arg 6; simp [evOp, evM, wants, Ins.go, X.ev, iaM, ldM, binD, setD, applyW, Ek_ops_nil, allFree, free, callM, callP, callO, appM, b244_0, z1, l0, hg, hi, hx, hw, hK, hq, ha, hb1, hb2, Rw.d]
        simp [Rw.d]
def t244 (cc : Bool) (s : Nat) (ts : List Int) (k m g : Int) (c : Bool) (L : List Rw) (d5 : D) (i : Nat) : List D :=
  [.agg [.slc cc s (ts.map (.int .i64)), .int .i64 k, .int .i64 m, .int .i64 g], .slc c 1 (L.map Rw.d), .ptr 0 0 0 0, .undef, nilS, d5, .int .i64 i, .undef, .undef, .undef, .slc true 1 [], .undef, .undef, .undef, .undef, .undef, .undef, .undef, .undef, .undef, .undef, .undef, .undef, .undef, .undef, .undef, .undef, .undef, .undef, .undef, .undef, .undef, .undef, .undef, .undef, .undef, .undef, .undef, .undef, .undef, .undef, .undef, .undef, .undef, .undef, .undef, .undef, .undef, .undef, .undef, .undef, .undef, .undef, .undef, .undef, .undef, .undef, .undef, .undef, .undef, .undef, .undef, .undef, .undef]
theorem foldl_len (ts : List Int) (k : Int) : ∀ (u out : List Rw), (u.foldl (fun out x => insW ts k x out) out).length = out.length + u.length
  | [], out => rfl
  | x :: u, out => by rw [List.foldl_cons, foldl_len ts k u, insW_len, List.length_cons]; omega
theorem foldl_mem (ts : List Int) (k : Int) : ∀ (u out : List Rw), ∀ y ∈ u.foldl (fun out x => insW ts k x out) out, y ∈ out ∨ y ∈ u
  | [], out, y, h => .inl h
  | x :: u, out, y, h => by
    rw [List.foldl_cons] at h
    rcases foldl_mem ts k u _ y h with h | h
    · rcases insW_mem ts k x out y h with h | h
      · exact .inr (by simp [h])
      · exact .inl h
    · exact .inr (List.mem_cons_of_mem _ h)
set_option maxHeartbeats 16000000 in
attribute [local simp high] cells_rws ga0 ga1 sa0 sa1 ta1 in
theorem L244 (cc : Bool) (s : Nat) (ts : List Int) (hs : s = 1 ∨ ts = []) (k m g : Int) (hl : ts.length ≤ 2 ^ 47) (c : Bool) (L : List Rw) (hL : L.length ≤ 2 ^ 29) (hr : ∀ y ∈ L, inR y.r) : ∀ (u pre out : List Rw) (A : List Obj) (i : Nat), L = pre ++ u → i = pre.length → out.length = i → (∀ y ∈ out, inR y.r) →
    ∃ A' : List Obj, LpB cf0 K0 b244_1 (t244 cc s ts k m g c L (.slc true 1 []) 0) 1 ⟨t244 cc s ts k m g c L (.sl (A.length + 1) 0 out.length out.length) i, ScB cc s ts k m g :: (A ++ [rowR1 out])⟩ =
      some (.exit 0, ⟨t244 cc s ts k m g c L (.sl (A'.length + 1) 0 (u.foldl (fun out x => insW ts k x out) out).length (u.foldl (fun out x => insW ts k x out) out).length) L.length, ScB cc s ts k m g :: (A' ++ [rowR1 (u.foldl (fun out x => insW ts k x out) out)])⟩)
  | [], pre, out, A, i, h, hi, ho, hor => by
    have : L = pre := by simpa using h
    subst this
    have z1 : ltI (i : Int) L.length = false := ltI_f (by omega)
    refine ⟨A, ?_⟩
    rw [LpB_eq]
    simp only [t244, List.foldl_nil]
    conv => lhs; arg 6; simp [b244_1, z1]
    simp [hi]
  | x :: u, pre, out, A, i, h, hi, ho, hor => by
    have hll : i < L.length := by rw [h, hi]; simp
    have z1 : ltI (i : Int) L.length = true := ltI_t (by omega)
    have hx : L[i]'hll = x := by
      have : L[i]? = some x := by rw [h, hi]; simp
      rw [List.getElem?_eq_getElem hll] at this
      exact Option.some.inj this
    have hxr := hr x (by rw [h]; simp)
    have hI := L244i cc s ts hs k m g hl c L i hll A x hx hxr out (by omega) hor out [] false [] 0 0 rfl rfl rfl (by simp)
    rw [List.nil_append] at hI
    obtain ⟨A', ih⟩ := L244 cc s ts hs k m g hl c L hL hr u (pre ++ [x]) (insW ts k x out) (A ++ [rowR1 out]) (i + 1) (by rw [h]; simp) (by simp [hi]) (by rw [insW_len]; omega) (fun y hy => by
      rcases insW_mem ts k x out y hy with rfl | hy
      · exact hxr
      · exact hor y hy)
    refine ⟨A', ?_⟩
    rw [List.foldl_cons]
    refine Eq.trans ?_ ih
    clear ih
    have hlen := wlk_len ts k x out false
    have hins := wlk_ins ts k x out
    generalize wlk ts k x false out = W at *
    obtain ⟨nxt, put⟩ := W
    simp only at hins hlen hI ⊢
    have hb1 : (nxt.length + 1) * 24 ≤ 70368744177664 := by omega
    rw [hins]
    clear hins hlen h hr hor
    have hw := w64 (i + 1) (by omega)
    rw [LpB_eq]
    simp only [t244, t244i, H244, rowR1, ScB] at hI ⊢
    conv => lhs; arg 6; simp [b244_1, z1]
    simp at hI
    rw [hI]
    cases put with
    | true =>
      conv => lhs; arg 6; simp [hw]
      simp
    | false =>
      conv => lhs; arg 6; simp [hw, hll, hx, hb1, Rw.d]
      simp [Rw.d]
set_option maxHeartbeats 16000000 in
attribute [local simp high] cells_rws in
/-- thresherref09.Sort, of some rows. -/
theorem K244 (cc : Bool) (s : Nat) (ts : List Int) (hs : s = 1 ∨ ts = []) (k m g : Int) (hl : ts.length ≤ 2 ^ 47) (c : Bool) (s' : Nat) (L : List Rw) (hs' : s' = 1 ∨ L = []) (hL : L.length ≤ 2 ^ 29) (hr : ∀ y ∈ L, inR y.r) (hn : L ≠ []) :
    K0 8 [Sd cc s ts k m g, .slc c s' (L.map Rw.d)] [] = some (.slc false 1 ((sortW ts k L).map Rw.d), []) := by
  obtain rfl := hs'.resolve_right hn
  refine K_call k244 (oraG_none (by decide) (by decide)) (by simp [c244, Sd]) ?_
  obtain ⟨x, u, rfl⟩ : ∃ x u, L = x :: u := by cases L with
    | nil => exact absurd rfl hn
    | cons x u => exact ⟨x, u, rfl⟩
  obtain ⟨A', h⟩ := L244 cc s ts hs k m g hl c (x :: u) hL hr u [x] [x] [] 1 rfl rfl rfl (fun y hy => hr y (by simp at hy; simp [hy]))
  have hS : sortW ts k (x :: u) = u.foldl (fun out x => insW ts k x out) [x] := rfl
  have hSl := foldl_len ts k u [x]
  rw [hS]
  generalize u.foldl (fun out x => insW ts k x out) [x] = R at *
  generalize hLL : x :: u = LL at *
  have hll : 0 < LL.length := by rw [← hLL]; simp
  have hx : LL[0]'hll = x := by simp [← hLL]
  have z1 : ltI 0 (LL.length : Int) = true := ltI_t (by omega)
  have z0 : ltI 0 0 = false := rfl
  have hw : IntKind.i64.wrap (0 + 1) = 1 := by rw [IntKind.wrap_i64]; omega
  have hw1 : IntKind.i64.wrap 1 = 1 := by rw [IntKind.wrap_i64]; omega
  simp only [t244, rowR1, ScB] at h
  simp [c244, Sd]
  rw [LpB_eq]
  conv => lhs; arg 4; arg 3; arg 6; simp [b244_1, z1]
  rw [LpB_eq]
  conv => lhs; arg 4; arg 3; arg 6; simp [b244_0, z0, hw, hw1, hll, hx, Rw.d]
  simp [Rw.d] at h ⊢
  rw [h]
  simp [r244, List.take_of_length_le]
end Go.Ab
/- THE FUNCTIONS' EQUATIONS: thresherlaw11.few. -/
set_option linter.all false
set_option maxRecDepth 100000
namespace Go.Ab
open Go.Proofs Go.Proofs.YtomomeabfnmncaaGreatH
def b246_0 : C := (.seq (.seq (.reg none [⟨(some 20), none, (.mv (.t 6))⟩, ⟨(some 21), none, (.mv (.t 0))⟩, ⟨(some 22), none, (.mv (.t 4))⟩, ⟨(some 23), none, (.ia none 1 false (.t 21) (.t 22))⟩, ⟨(some 24), none, (.ld none (.t 23))⟩, ⟨(some 25), none, (.len 1 (.t 24))⟩, ⟨(some 26), none, (.bin .lss [] (.t 20) (.t 25))⟩, ⟨(some 27), none, (.mv (.t 26))⟩, ⟨(some 28), (some ((some 27), true)), (.mv (.t 6))⟩, ⟨(some 29), (some ((some 27), true)), (.bin .lss [] (.t 28) (.k (.int .i64 70)))⟩, ⟨(some 30), none, (.pick (.t 27) (.t 29) (.k (.bool false)))⟩]) (.cond (.t 30) .skip (.exit 2))) (.seq (.block 3 (.seq (.reg none [⟨(some 33), none, (.mv (.t 0))⟩, ⟨(some 34), none, (.mv (.t 4))⟩, ⟨(some 35), none, (.ia none 1 false (.t 33) (.t 34))⟩, ⟨(some 36), none, (.ld none (.t 35))⟩, ⟨(some 37), none, (.mv (.t 6))⟩, ⟨(some 38), none, (.ia none 2 true (.t 36) (.t 37))⟩, ⟨(some 39), none, (.ld (some 2) (.t 38))⟩, ⟨(some 7), none, (.alloc false [(.int .i64 0), (.str [])])⟩, ⟨none, none, (.st 2 (.t 7) (.t 39))⟩]) (.seq (.seq (.reg none [⟨(some 40), none, (.fa 1 1 false (.t 7))⟩, ⟨(some 41), none, (.ld none (.t 40))⟩, ⟨(some 42), none, (.len 0 (.t 41))⟩, ⟨(some 43), none, (.bin .gtr [] (.t 42) (.k (.int .i64 70)))⟩]) (.cond (.t 43) (.reg none [⟨(some 44), none, (.fa 1 1 false (.t 7))⟩, ⟨(some 45), none, (.ld none (.t 44))⟩, ⟨(some 46), none, (.sub 0 1 (.t 45) none (some (.k (.int .i64 70))) none)⟩, ⟨(some 47), none, (.fa 1 1 false (.t 7))⟩, ⟨none, none, (.st 1 (.t 47) (.t 46))⟩]) .skip)) (.reg none [⟨(some 48), none, (.mv (.t 5))⟩, ⟨(some 49), none, (.ld (some 2) (.t 7))⟩, ⟨(some 50), none, (.bsl false 2 1 [(.int .i64 0), (.str [])] [(0, (.t 49))])⟩, ⟨(some 51), none, (.app 2 24 (.t 48) (.t 50))⟩, ⟨(some 5), none, (.mv (.t 51))⟩])))) (.reg none [⟨(some 31), none, (.mv (.t 6))⟩, ⟨(some 32), none, (.bin .add [] (.t 31) (.k (.int .i64 1)))⟩, ⟨(some 6), none, (.mv (.t 32))⟩])))
def b246_1 : C := (.seq (.seq (.reg none [⟨(some 9), none, (.mv (.t 4))⟩, ⟨(some 10), none, (.mv (.t 0))⟩, ⟨(some 11), none, (.len 1 (.t 10))⟩, ⟨(some 12), none, (.bin .lss [] (.t 9) (.t 11))⟩, ⟨(some 13), none, (.mv (.t 12))⟩, ⟨(some 14), (some ((some 13), true)), (.mv (.t 4))⟩, ⟨(some 15), (some ((some 13), true)), (.bin .lss [] (.t 14) (.k (.int .i64 40)))⟩, ⟨(some 16), none, (.pick (.t 13) (.t 15) (.k (.bool false)))⟩]) (.cond (.t 16) .skip (.exit 0))) (.seq (.block 1 (.seq (.reg none [⟨(some 19), none, (.bsl true 2 0 [(.int .i64 0), (.str [])] [])⟩, ⟨(some 5), none, (.mv (.t 19))⟩]) (.seq (.seq (.reg none [⟨(some 6), none, (.mv (.k (.int .i64 0)))⟩]) (.block 2 (.loop b246_0))) (.reg none [⟨(some 52), none, (.mv (.t 3))⟩, ⟨(some 53), none, (.mv (.t 5))⟩, ⟨(some 54), none, (.bsl false 1 1 [nilS] [(0, (.t 53))])⟩, ⟨(some 55), none, (.app 1 24 (.t 52) (.t 54))⟩, ⟨(some 3), none, (.mv (.t 55))⟩])))) (.reg none [⟨(some 17), none, (.mv (.t 4))⟩, ⟨(some 18), none, (.bin .add [] (.t 17) (.k (.int .i64 1)))⟩, ⟨(some 4), none, (.mv (.t 18))⟩])))
def r246 : C := (.seq (.reg none [⟨(some 56), none, (.mv (.t 3))⟩, ⟨(some 2), none, (.mv (.t 56))⟩]) .ret)
def c246 : Fn' := ⟨57, [(.tmp 2)], (.seq (.reg none [⟨(some 2), none, (.mv (.k nilS))⟩]) (.seq (.reg none [⟨(some 8), none, (.bsl true 1 0 [nilS] [])⟩, ⟨(some 3), none, (.mv (.t 8))⟩]) (.seq (.seq (.reg none [⟨(some 4), none, (.mv (.k (.int .i64 0)))⟩]) (.block 0 (.loop b246_1))) r246)))⟩
theorem k246 : compF Tryz.prog 10 = some c246 := by kernel_rfl
attribute [local simp] op_or op_an op_add op_sub op_mul oq_eql oq_neq oq_lss oq_gtr oq_leq oq_geq
attribute [-simp] intOp bin_shl D.cells
/-- few: at most 40 rows, of 70 values, of 70 bytes. -/
def cutT (p : Va) : Va := (p.1, p.2.take 70)
def fewRow (r : List Va) : List Va := (r.take 70).map cutT
def fewW (x : Rw) : Rw := ⟨false, 2, fewRow x.r, .inl rfl⟩
def fewL (L : List Rw) : List Rw := (L.take 40).map fewW
def t246i (c : Bool) (L : List Rw) (i n b j : Nat) : List D := [.slc c 1 (L.map Rw.d), .undef, nilS, .sl 0 0 n n, .int .i64 i, .sl 1 0 b b, .int .i64 j, .undef, .sl 0 0 0 0, .int .i64 i, .slc c 1 (L.map Rw.d), .int .i64 L.length, .bool true, .bool true, .int .i64 i, .bool true, .bool true, .undef, .undef, .sl 1 0 0 0, .undef, .undef, .undef, .undef, .undef, .undef, .undef, .undef, .undef, .undef, .undef, .undef, .undef, .undef, .undef, .undef, .undef, .undef, .undef, .undef, .undef, .undef, .undef, .undef, .undef, .undef, .undef, .undef, .undef, .undef, .undef, .undef, .undef, .undef, .undef, .undef, .undef]
set_option maxHeartbeats 8000000 in
attribute [local simp high] cells_va in
theorem L246i (c : Bool) (L : List Rw) (i n : Nat) (hi : i < L.length) (x : Rw) (hx : L[i]'hi = x) (es : List D) (hxl : x.r.length ≤ 2 ^ 60) : ∀ (k j : Nat) (acc : List Va) (b : Nat), k + j = 70 → acc.length ≤ j → b = acc.length →
    ∃ j', LpB cf0 K0 b246_0 (t246i c L i n 0 0) 2 ⟨t246i c L i n b j, [.row 1 es 0, rowVs2 acc]⟩ = some (.exit 2, ⟨t246i c L i n (acc ++ ((x.r.drop j).take k).map cutT).length j', [.row 1 es 0, rowVs2 (acc ++ ((x.r.drop j).take k).map cutT)]⟩)
  | 0, j, acc, b, hk, ha, hb => by
    have z2 : ltI (j : Int) 70 = false := ltI_f (by omega)
    refine ⟨j, ?_⟩
    rw [List.take_zero, List.map_nil, List.append_nil, LpB_eq]
    simp only [t246i, rowVs2]
    cases z1 : ltI (j : Int) x.r.length
    · conv => lhs; arg 6; simp [b246_0, z1, z2, hi, hx, Rw.d]
      simp [hb]
    · conv => lhs; arg 6; simp [b246_0, z1, z2, hi, hx, Rw.d]
      simp [hb]
  | k + 1, j, acc, b, hk, ha, hb => by
    have z2 : ltI (j : Int) 70 = true := ltI_t (by omega)
    rcases Nat.lt_or_ge j x.r.length with hll | hll
    · have z1 : ltI (j : Int) x.r.length = true := ltI_t (by omega)
      obtain ⟨⟨vn, vs⟩, hv⟩ : ∃ v, x.r[j]'hll = v := ⟨_, rfl⟩
      have hb1 : (acc.length + 1) * 24 ≤ 70368744177664 := by omega
      have e : acc ++ ((x.r.drop j).take (k + 1)).map cutT = acc ++ [cutT (vn, vs)] ++ ((x.r.drop (j + 1)).take k).map cutT := by
        rw [List.drop_eq_getElem_cons hll, hv, List.take_succ_cons]; simp
      obtain ⟨j', ih⟩ := L246i c L i n hi x hx es hxl k (j + 1) (acc ++ [cutT (vn, vs)]) (acc ++ [cutT (vn, vs)]).length (by omega) (by simp; omega) rfl
      refine ⟨j', ?_⟩
      rw [e]
      refine Eq.trans ?_ ih
      clear ih e
      generalize acc ++ [cutT (vn, vs)] ++ ((x.r.drop (j + 1)).take k).map cutT = W at *
      obtain ⟨xc, xs, xr, xh⟩ := x
      simp only at hll z1 hv
      obtain rfl := xh.resolve_right (by intro e; subst e; simp at hll)
      have hw := w64 (j + 1) (by omega)
      rw [LpB_eq]
      simp only [t246i, rowVs2]
      by_cases h7 : 70 < vs.length
      · have hf : cutT (vn, vs) = (vn, vs.take 70) := rfl
        rw [hf]
        have z3 : ltI 70 (vs.length : Int) = true := ltI_t (by omega)
        have h70 : 70 ≤ vs.length := by clear hw; omega
        have h70' : 70 ≤ (vs.length : Int) := by clear hw; omega
        conv => lhs; arg 6; simp [b246_0, z1, z2, z3, h70, h70', hi, hx, Rw.d, hll, hv, Va.d, hw, hb1, hb]
        simp [Va.d]
      · have hf : cutT (vn, vs) = (vn, vs) := by unfold cutT; rw [List.take_of_length_le (by dsimp only; clear hw; omega)]
        rw [hf]
        have z3 : ltI 70 (vs.length : Int) = false := ltI_f (by clear hw; omega)
        conv => lhs; arg 6; simp [b246_0, z1, z2, z3, hi, hx, Rw.d, hll, hv, Va.d, hw, hb1, hb]
        simp [Va.d]
    · have z1 : ltI (j : Int) x.r.length = false := ltI_f (by omega)
      refine ⟨j, ?_⟩
      rw [List.drop_eq_nil_of_le hll, List.take_nil, List.map_nil, List.append_nil, LpB_eq]
      simp only [t246i, rowVs2]
      conv => lhs; arg 6; simp [b246_0, z1, z2, hi, hx, Rw.d]
      simp [hb]
def t246 (c : Bool) (L : List Rw) (n i : Nat) : List D := [.slc c 1 (L.map Rw.d), .undef, nilS, .sl 0 0 n n, .int .i64 i, .undef, .undef, .undef, .sl 0 0 0 0, .undef, .undef, .undef, .undef, .undef, .undef, .undef, .undef, .undef, .undef, .undef, .undef, .undef, .undef, .undef, .undef, .undef, .undef, .undef, .undef, .undef, .undef, .undef, .undef, .undef, .undef, .undef, .undef, .undef, .undef, .undef, .undef, .undef, .undef, .undef, .undef, .undef, .undef, .undef, .undef, .undef, .undef, .undef, .undef, .undef, .undef, .undef, .undef]
set_option maxHeartbeats 8000000 in
attribute [local simp high] cells_rws in
theorem L246 (c : Bool) (s : Nat) (L : List Rw) (hs : s = 1 ∨ L = []) (hL : L.length ≤ 2 ^ 60) (hr : ∀ x ∈ L, x.r.length ≤ 2 ^ 60) : ∀ (k i : Nat) (acc : List Rw) (a : Nat), k + i = 40 → acc.length ≤ i → a = acc.length → L ≠ [] →
    ∃ i', LpB cf0 K0 b246_1 (t246 c L 0 0) 1 ⟨t246 c L a i, [rowR1 acc]⟩ = some (.exit 0, ⟨t246 c L (acc ++ ((L.drop i).take k).map fewW).length i', [rowR1 (acc ++ ((L.drop i).take k).map fewW)]⟩)
  | 0, i, acc, a, hk, ha, hb, hn => by
    have z2 : ltI (i : Int) 40 = false := ltI_f (by omega)
    refine ⟨i, ?_⟩
    rw [List.take_zero, List.map_nil, List.append_nil, LpB_eq]
    simp only [t246, rowR1]
    cases z1 : ltI (i : Int) L.length
    · conv => lhs; arg 6; simp [b246_1, z1, z2]
      simp [hb]
    · conv => lhs; arg 6; simp [b246_1, z1, z2]
      simp [hb]
  | k + 1, i, acc, a, hk, ha, hb, hn => by
    have z2 : ltI (i : Int) 40 = true := ltI_t (by omega)
    rcases Nat.lt_or_ge i L.length with hll | hll
    · have z1 : ltI (i : Int) L.length = true := ltI_t (by omega)
      obtain ⟨x, hx⟩ : ∃ x, L[i]'hll = x := ⟨_, rfl⟩
      have hxm : x ∈ L := by rw [← hx]; exact List.getElem_mem hll
      have hb1 : (acc.length + 1) * 24 ≤ 70368744177664 := by omega
      have e : acc ++ ((L.drop i).take (k + 1)).map fewW = acc ++ [fewW x] ++ ((L.drop (i + 1)).take k).map fewW := by
        rw [List.drop_eq_getElem_cons hll, hx, List.take_succ_cons]; simp
      obtain ⟨i', ih⟩ := L246 c s L hs hL hr k (i + 1) (acc ++ [fewW x]) (acc ++ [fewW x]).length (by omega) (by simp; omega) rfl hn
      obtain ⟨j', hI⟩ := L246i c L i a hll x hx (acc.map Rw.d) (hr x hxm) 70 0 [] 0 rfl (Nat.le_refl _) rfl
      have hd : (fewW x).d = .slc false 2 ((fewRow x.r).map Va.d) := rfl
      rw [List.nil_append, List.drop_zero] at hI
      have hfr : (x.r.take 70).map cutT = fewRow x.r := rfl
      rw [hfr] at hI
      refine ⟨i', ?_⟩
      rw [e]
      refine Eq.trans ?_ ih
      clear ih e hfr
      generalize acc ++ [fewW x] ++ ((L.drop (i + 1)).take k).map fewW = W at *
      generalize fewW x = y at *
      generalize fewRow x.r = R at *
      have hw := w64 (i + 1) (by omega)
      unfold Rw.d at hd
      rw [LpB_eq]
      simp only [t246, t246i, rowR1, rowVs2] at hI ⊢
      conv => lhs; arg 6; simp [b246_1, z1, z2]
      simp at hI
      rw [hI]
      conv => lhs; arg 6; simp [hw, hb1, hb, List.take_of_length_le]
      simp [Rw.d, hd]
    · have z1 : ltI (i : Int) L.length = false := ltI_f (by omega)
      refine ⟨i, ?_⟩
      rw [List.drop_eq_nil_of_le hll, List.take_nil, List.map_nil, List.append_nil, LpB_eq]
      simp only [t246, rowR1]
      conv => lhs; arg 6; simp [b246_1, z1, z2]
      simp [hb]
set_option maxHeartbeats 8000000 in
/-- few. -/
theorem K246 (c : Bool) (s : Nat) (L : List Rw) (hs : s = 1 ∨ L = []) (hL : L.length ≤ 2 ^ 60) (hr : ∀ x ∈ L, x.r.length ≤ 2 ^ 60) : K0 10 [.slc c s (L.map Rw.d)] [] = some (.slc false 1 ((fewL L).map Rw.d), []) := by
  refine K_call k246 (oraG_none (by decide) (by decide)) (by simp [c246]) ?_
  by_cases hn : L = []
  · subst hn
    have z1 : ltI 0 0 = false := rfl
    simp [c246]
    rw [LpB_eq]
    simp [b246_1, z1, r246, fewL]
  · obtain rfl := hs.resolve_right hn
    obtain ⟨i', h⟩ := L246 c 1 L hs hL hr 40 0 [] 0 rfl (Nat.le_refl _) rfl hn
    rw [List.nil_append, List.drop_zero] at h
    have hf : (L.take 40).map fewW = fewL L := rfl
    rw [hf] at h
    generalize fewL L = R at *
    simp only [t246, rowR1] at h
    simp [c246]
    simp at h
    rw [h]
    simp [r246, List.take_of_length_le]
end Go.Ab
