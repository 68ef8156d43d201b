/- THE FUNCTIONS' EQUATIONS: schema.Take. -/
import Derived.Test.YtomomeabfnmncaaGreatBBr
import Derived.Test.YtomomeabfnmncaaGreatBF247
import Derived.Test.YtomomeabfnmncaaGreatBF272
import Derived.Test.YtomomeabfnmncaaGreatBF75
set_option linter.all false
set_option maxRecDepth 100000
namespace Go.Ab
open Go.Proofs Go.Proofs.YtomomeabfnmncaaGreatH Go.Proofs.YtomomeabfnmncaaGreatH.Crc Go.Proofs.YtomomeabfnmncaaGreatH.Var Go.Proofs.YtomomeabfnmncaaGreatH.Fr Go.Proofs.YtomomeabfnmncaaGreatH.Rec
def b110_0 : C := (.seq (.seq (.reg none [⟨(some 9), none, (.mv (.t 0))⟩, ⟨(some 10), none, (.len 1 (.t 9))⟩, ⟨(some 11), none, (.bin .gtr [] (.t 10) (.k (.int .i64 0)))⟩]) (.cond (.t 11) .skip (.exit 0))) (.block 1 (.seq (.reg none [⟨(some 13), none, (.mv (.t 0))⟩, ⟨(some 14), none, (.call (.f 87) [(.t 13)])⟩, ⟨(some 12), none, (.mv (.t 14))⟩, ⟨(some 15), none, (.ext (.t 12) 0)⟩, ⟨(some 16), none, (.ext (.t 12) 1)⟩, ⟨(some 5), none, (.mv (.t 15))⟩, ⟨(some 6), none, (.mv (.t 16))⟩]) (.seq (.seq (.reg none [⟨(some 17), none, (.mv (.t 6))⟩, ⟨(some 18), none, (.bin .eql [] (.t 17) (.k (.int .i64 0)))⟩, ⟨(some 19), none, (.mv (.t 18))⟩, ⟨(some 20), (some ((some 19), false)), (.mv (.t 5))⟩, ⟨(some 21), (some ((some 19), false)), (.bin .gtr [] (.t 20) (.k (.int .u64 1048576)))⟩, ⟨(some 22), none, (.pick (.t 19) (.k (.bool true)) (.t 21))⟩]) (.cond (.t 22) (.seq (.reg none [⟨(some 23), none, (.bld [nilS, (.int .i64 0), (.int .i64 0), (.int .i64 0)] [])⟩, ⟨none, none, (.st 4 (.t 2) (.t 23))⟩, ⟨(some 3), none, (.mv (.k (.int .i64 10)))⟩]) .ret) .skip)) (.reg (some [(3, 7), (4, 7)]) [⟨(some 24), none, (.mv (.t 4))⟩, ⟨(some 25), none, (.mv (.t 5))⟩, ⟨(some 26), none, (.cvt (.int .i64) (.t 25))⟩, ⟨(some 27), none, (.bsl false 1 1 [(.int .i64 0)] [(0, (.t 26))])⟩, ⟨(some 28), none, (.app 1 8 (.t 24) (.t 27))⟩, ⟨(some 29), none, (.mv (.t 0))⟩, ⟨(some 30), none, (.mv (.t 6))⟩, ⟨(some 31), none, (.sub 1 1 (.t 29) (some (.t 30)) none none)⟩, ⟨(some 4), none, (.mv (.t 28))⟩, ⟨(some 0), none, (.mv (.t 31))⟩])))))
def c110 : Fn' := ⟨73, [(.cell 2 (some 4)), (.tmp 3)], (.seq (.reg none [⟨(some 2), none, (.alloc false [nilS, (.int .i64 0), (.int .i64 0), (.int .i64 0)])⟩, ⟨(some 3), none, (.mv (.k (.int .i64 0)))⟩]) (.seq (.reg none [⟨(some 4), none, .nilrow⟩]) (.seq (.block 0 (.loop b110_0)) (.seq (.seq (.reg none [⟨(some 32), none, (.mv (.t 4))⟩, ⟨(some 33), none, (.len 1 (.t 32))⟩, ⟨(some 34), none, (.bin .lss [] (.t 33) (.k (.int .i64 4)))⟩, ⟨(some 35), none, (.mv (.t 34))⟩, ⟨(some 36), (some ((some 35), false)), (.mv (.t 4))⟩, ⟨(some 37), (some ((some 35), false)), (.len 1 (.t 36))⟩, ⟨(some 38), (some ((some 35), false)), (.mv (.t 4))⟩, ⟨(some 39), (some ((some 35), false)), (.ia none 1 false (.t 38) (.k (.int .i64 0)))⟩, ⟨(some 40), (some ((some 35), false)), (.ld none (.t 39))⟩, ⟨(some 41), (some ((some 35), false)), (.bin .add [] (.t 40) (.k (.int .i64 4)))⟩, ⟨(some 42), (some ((some 35), false)), (.bin .neq [] (.t 37) (.t 41))⟩, ⟨(some 43), none, (.pick (.t 35) (.k (.bool true)) (.t 42))⟩]) (.cond (.t 43) (.seq (.reg none [⟨(some 44), none, (.bld [nilS, (.int .i64 0), (.int .i64 0), (.int .i64 0)] [])⟩, ⟨none, none, (.st 4 (.t 2) (.t 44))⟩, ⟨(some 3), none, (.mv (.k (.int .i64 10)))⟩]) .ret) .skip)) (.seq (.reg none [⟨(some 45), none, (.mv (.t 4))⟩, ⟨(some 46), none, (.ia none 1 false (.t 45) (.k (.int .i64 0)))⟩, ⟨(some 47), none, (.ld none (.t 46))⟩, ⟨(some 48), none, (.bin .add [] (.t 47) (.k (.int .i64 1)))⟩, ⟨(some 7), none, (.mv (.t 48))⟩]) (.seq (.reg (some [(3, 6), (3, 7), (3, 11), (6, 11), (7, 11), (3, 12), (6, 12), (7, 12), (3, 16), (6, 16), (7, 16), (11, 16), (12, 16), (3, 17), (6, 17), (7, 17), (11, 17), (12, 17), (3, 19), (6, 19), (7, 19), (11, 19), (12, 19), (16, 19), (17, 19)]) [⟨(some 49), none, (.mv (.t 4))⟩, ⟨(some 50), none, (.mv (.t 7))⟩, ⟨(some 51), none, (.mv (.t 7))⟩, ⟨(some 52), none, (.sub 1 1 (.t 49) (some (.k (.int .i64 1))) (some (.t 50)) (some (.t 51)))⟩, ⟨(some 53), none, (.mv (.t 4))⟩, ⟨(some 54), none, (.mv (.t 7))⟩, ⟨(some 55), none, (.ia none 1 false (.t 53) (.t 54))⟩, ⟨(some 56), none, (.ld none (.t 55))⟩, ⟨(some 57), none, (.mv (.t 4))⟩, ⟨(some 58), none, (.mv (.t 7))⟩, ⟨(some 59), none, (.bin .add [] (.t 58) (.k (.int .i64 1)))⟩, ⟨(some 60), none, (.ia none 1 false (.t 57) (.t 59))⟩, ⟨(some 61), none, (.ld none (.t 60))⟩, ⟨(some 62), none, (.mv (.t 4))⟩, ⟨(some 63), none, (.mv (.t 7))⟩, ⟨(some 64), none, (.bin .add [] (.t 63) (.k (.int .i64 2)))⟩, ⟨(some 65), none, (.ia none 1 false (.t 62) (.t 64))⟩, ⟨(some 66), none, (.ld none (.t 65))⟩, ⟨(some 67), none, (.bld [nilS, (.int .i64 0), (.int .i64 0), (.int .i64 0)] [(0, (1, (.t 52))), (1, (1, (.t 56))), (2, (1, (.t 61))), (3, (1, (.t 66)))])⟩, ⟨(some 8), none, (.alloc false [nilS, (.int .i64 0), (.int .i64 0), (.int .i64 0)])⟩, ⟨none, none, (.st 4 (.t 8) (.t 67))⟩]) (.seq (.seq (.reg none [⟨(some 68), none, (.ld (some 4) (.t 8))⟩, ⟨(some 69), none, (.call (.f 29) [(.t 68)])⟩, ⟨(some 70), none, (.bin .neq [] (.t 69) (.k (.int .i64 0)))⟩]) (.cond (.t 70) (.seq (.reg none [⟨(some 71), none, (.bld [nilS, (.int .i64 0), (.int .i64 0), (.int .i64 0)] [])⟩, ⟨none, none, (.st 4 (.t 2) (.t 71))⟩, ⟨(some 3), none, (.mv (.k (.int .i64 10)))⟩]) .ret) .skip)) (.seq (.reg none [⟨(some 72), none, (.ld (some 4) (.t 8))⟩, ⟨none, none, (.st 4 (.t 2) (.t 72))⟩, ⟨(some 3), none, (.mv (.k (.int .i64 0)))⟩]) .ret))))))))⟩
theorem k110 : compF Tryz.prog 41 = some c110 := by kernel_rfl
attribute [local simp] op_or op_an op_add op_eql op_neq op_lss op_gtr op_leq op_geq op_sub op_mul
attribute [-simp] intOp bin_shl
theorem Ks_ret {cf : Cfg} {call : CallFn} (k : List Kn) (s : St) : Ks cf call k .ret s = some (.ret, s) := by
  induction k with
  | nil => rfl
  | cons x k ih => cases x <;> simpa [Ks] using ih
theorem loopK_ret {cf : Cfg} {call : CallFn} (k : List Kn) (s : St) : loopK cf call (some (.ret, s)) k = some (.ret, s) := Ks_ret k s
def rowI (l : List Int) : Obj := .row (if l = [] then 0 else 1) (l.map (.int .i64)) 0
def t110 (c : Bool) (l : List Int) (a : Nat) : List D := [.slc c 1 (l.map (.int .u8)), .undef, .ptr 0 0 0 0, .int .i64 0, .sl 1 0 a a, .undef, .undef, .undef, .undef, .undef, .undef, .undef, .undef, .undef, .undef, .undef, .undef, .undef, .undef, .undef, .undef, .undef, .undef, .undef, .undef, .undef, .undef, .undef, .undef, .undef, .undef, .undef, .undef, .undef, .undef, .undef, .undef, .undef, .undef, .undef, .undef, .undef, .undef, .undef, .undef, .undef, .undef, .undef, .undef, .undef, .undef, .undef, .undef, .undef, .undef, .undef, .undef, .undef, .undef, .undef, .undef, .undef, .undef, .undef, .undef, .undef, .undef, .undef, .undef, .undef, .undef, .undef, .undef]
def b110 : Obj := .box [nilS, .int .i64 0, .int .i64 0, .int .i64 0]
set_option maxHeartbeats 4000000 in
theorem L110 (c : Bool) (y : List Int) (kn : List Kn) : ∀ (N : Nat) (l acc : List Int) (a : Nat), l.length ≤ N → a = acc.length → acc.length + l.length ≤ 2 ^ 40 → isB l →
    match nums l with
    | some v => LpB cf0 K0 b110_0 (t110 c y 0) 2 ⟨t110 c l a, [b110, rowI acc]⟩ = some (.exit 0, ⟨t110 c [] (acc ++ v).length, [b110, rowI (acc ++ v)]⟩)
    | none => finK false 0 [.cell 2 (some 4), .tmp 3] (loopK cf0 K0 (LpB cf0 K0 b110_0 (t110 c y 0) 2 ⟨t110 c l a, [b110, rowI acc]⟩) kn) = some (.tuple [.agg [nilS, .int .i64 0, .int .i64 0, .int .i64 0], .int .i64 10], []) := by
  intro N
  induction N with
  | zero =>
    intro l acc a hN ha hb hB
    have hl : l = [] := List.eq_nil_of_length_eq_zero (by omega)
    subst hl
    rw [nums_nil rfl]
    simp only
    rw [LpB_eq]
    simp only [t110]
    conv => lhs; arg 6; simp [b110_0]
    simp [ha, b110, rowI]
  | succ N ih =>
    intro l acc a hN ha hb hB
    by_cases hl : l = []
    · subst hl
      rw [nums_nil rfl]
      simp only
      rw [LpB_eq]
      simp only [t110]
      conv => lhs; arg 6; simp [b110_0]
      simp [ha, b110, rowI]
    have hl0 : ¬ l.length = 0 := fun e => hl (List.eq_nil_of_length_eq_zero e)
    have hp0 : 0 < l.length := by omega
    rw [nums_step hl0]
    have hr := varI_range l
    have hK := fun cl => K74 cl l (by omega) hB
    obtain ⟨x, hx⟩ : ∃ x : Nat, (varI l).1 = x := ⟨(varI l).1.toNat, by omega⟩
    obtain ⟨n, hn⟩ : ∃ n : Nat, (varI l).2 = n := ⟨(varI l).2.toNat, by omega⟩
    rw [hx, hn] at hK hr ⊢
    by_cases h1 : (n : Int) = 0
    · have h1' : ((n : Int) == 0) = true := by simp; omega
      rw [if_pos h1]
      simp only
      rw [LpB_eq]
      simp only [t110, b110]
      conv => lhs; arg 4; arg 3; arg 6; simp [b110_0, hp0, hK, h1']
      simp [Ks_ret]
    · have h1' : ((n : Int) == 0) = false := by simp; omega
      rw [if_neg h1]
      by_cases h2 : 1048576 < (x : Int)
      · rw [if_pos h2]
        simp only
        rw [LpB_eq]
        simp only [t110, b110]
        conv => lhs; arg 4; arg 3; arg 6; simp [b110_0, hp0, hK, h1', h2]
        simp [Ks_ret]
      · rw [if_neg h2]
        have hwx : IntKind.i64.wrap (x : Int) = x := w64 _ (by omega)
        have ih' := ih (l.drop n) (acc ++ [(x : Int)]) (acc ++ [(x : Int)]).length (by simp; omega) rfl (by simp; omega) (isB_drop hB _)
        have hnl : n ≤ l.length := by omega
        have m1 : List.drop n (l.map (D.int .u8)) = (l.drop n).map (D.int .u8) := by simp [List.map_drop]
        have e : (Int.toNat (n : Int)) = n := by omega
        rw [e]
        obtain ⟨r, hr2⟩ : ∃ r, l.drop n = r := ⟨_, rfl⟩
        rw [hr2] at m1 ih' ⊢
        have hb1 : (acc.length + 1) * 8 ≤ 70368744177664 := by omega
        cases hnm : nums r with
        | some v =>
          rw [hnm] at ih'
          simp only [Option.map_some] at ih' ⊢
          rw [show acc ++ ((x : Int) :: v) = acc ++ [(x : Int)] ++ v by simp]
          rw [LpB_eq]
          simp only [t110, b110, rowI] at ih' ⊢
          by_cases hacc : acc = []
          · subst hacc
            subst ha
            conv => lhs; arg 6; simp [b110_0, hp0, hK, h1', h2, hwx, hnl, m1, evOp, evM, wants, Ins.go, X.ev, iaM, ldM, binD, intOp, setD, applyW, Ek_ops_nil, allFree, free, callM, callP, appM]
            simp at ih' ⊢
            exact ih'
          · conv => lhs; arg 6; simp [b110_0, hp0, hK, h1', h2, hwx, hnl, m1, hacc, ha, hb1, evOp, evM, wants, Ins.go, X.ev, iaM, ldM, binD, intOp, setD, applyW, Ek_ops_nil, allFree, free, callM, callP, appM]
            simp [hacc] at ih' ⊢
            exact ih'
        | none =>
          rw [hnm] at ih'
          simp only [Option.map_none] at ih' ⊢
          rw [LpB_eq]
          simp only [t110, b110, rowI] at ih' ⊢
          by_cases hacc : acc = []
          · subst hacc
            subst ha
            conv => lhs; arg 4; arg 3; arg 6; simp [b110_0, hp0, hK, h1', h2, hwx, hnl, m1, evOp, evM, wants, Ins.go, X.ev, iaM, ldM, binD, intOp, setD, applyW, Ek_ops_nil, allFree, free, callM, callP, appM]
            simp at ih' ⊢
            exact ih'
          · conv => lhs; arg 4; arg 3; arg 6; simp [b110_0, hp0, hK, h1', h2, hwx, hnl, m1, hacc, ha, hb1, evOp, evM, wants, Ins.go, X.ev, iaM, ldM, binD, intOp, setD, applyW, Ek_ops_nil, allFree, free, callM, callP, appM]
            simp [hacc] at ih' ⊢
            exact ih'
theorem nums_range : ∀ (N : Nat) (l v : List Int), l.length ≤ N → nums l = some v → ∀ x ∈ v, 0 ≤ x ∧ x ≤ 1048576
  | 0, l, v, hN, h => by
    rw [nums_nil (by omega)] at h
    intro x hx
    rw [← Option.some.inj h] at hx
    cases hx
  | N + 1, l, v, hN, h => by
    by_cases hl : l.length = 0
    · rw [nums_nil hl] at h
      intro x hx
      rw [← Option.some.inj h] at hx
      cases hx
    · rw [nums_step hl] at h
      have hr := varI_range l
      by_cases h1 : (varI l).2 = 0
      · rw [if_pos h1] at h; cases h
      · rw [if_neg h1] at h
        by_cases h2 : 1048576 < (varI l).1
        · rw [if_pos h2] at h; cases h
        · rw [if_neg h2] at h
          obtain ⟨u, hu, rfl⟩ := Option.map_eq_some_iff.1 h
          intro x hx
          rcases List.mem_cons.1 hx with rfl | hx
          · omega
          · exact nums_range N _ u (by simp; omega) hu x hx
theorem getD_of {v : List Int} {i : Nat} {x : Int} (h : v[i]? = some x) : v.getD i 0 = x := by rw [List.getD_eq_getElem?_getD, h]; rfl
theorem schT_none {l : List Int} (h : nums l = none) : schT l = noSch := by unfold schT; rw [h]
theorem schT_short {l v : List Int} (h : nums l = some v) (h4 : v.length < 4) : schT l = noSch := by unfold schT; rw [h]; simp only; rw [if_pos h4]
theorem schT_ne {l v : List Int} (h : nums l = some v) (h4 : ¬ v.length < 4) (x : Int) (h0 : v[0]? = some x) (hne : ¬ (v.length : Int) = x + 4) : schT l = noSch := by
  unfold schT; rw [h]; simp only; rw [if_neg h4, getD_of h0, if_neg hne]
theorem schT_eq {l v : List Int} (h : nums l = some v) (q : Nat) (h0 : v[0]? = some (q : Int)) (hq : v.length = q + 4) (k m g : Int) (hk : v[q + 1]? = some k) (hm : v[q + 2]? = some m) (hg : v[q + 3]? = some g) :
    schT l = if schemaOk ((v.drop 1).take q) k m g = true then (((v.drop 1).take q, k, m, g), 0) else noSch := by
  unfold schT; rw [h]; simp only; rw [if_neg (by omega), getD_of h0, if_pos (by omega)]
  have e : (q : Int).toNat = q := by omega
  rw [e, getD_of hk, getD_of hm, getD_of hg]
set_option maxHeartbeats 8000000 in
/-- schema.Take. -/
theorem K110 (c : Bool) (l : List Int) (hl : l.length ≤ 2 ^ 39) (hB : isB l) : ∃ c' s, (s = 1 ∨ (schT l).1.1 = []) ∧ K0 41 [.slc c 1 (l.map (.int .u8))] [] = some (.tuple [Sd c' s (schT l).1.1 (schT l).1.2.1 (schT l).1.2.2.1 (schT l).1.2.2.2, .int .i64 (schT l).2], []) := by
  have h := fun kn => L110 c l kn l.length l [] 0 (Nat.le_refl _) rfl (by simp; omega) hB
  cases hn : nums l with
  | none =>
    rw [schT_none hn]
    refine ⟨true, 0, .inr rfl, K_call k110 (oraG_none (by decide) (by decide)) (by simp [c110]) ?_⟩
    rw [hn] at h
    simp only [t110, b110, rowI] at h
    simp [c110]
    simp at h
    exact h _
  | some v =>
    rw [hn] at h
    simp only [List.nil_append] at h
    have h := h []
    have hv := nums_range _ l v (Nat.le_refl _) hn
    by_cases h4 : v.length < 4
    · rw [schT_short hn h4]
      refine ⟨true, 0, .inr rfl, K_call k110 (oraG_none (by decide) (by decide)) (by simp [c110]) ?_⟩
      simp only [t110, b110, rowI] at h
      have h4' : (v.length : Int) < 4 := by omega
      simp [c110]
      simp at h
      rw [h]
      simp [h4', noSch, Sd]
    · obtain ⟨x, hx0⟩ : ∃ x, v[0]? = some x := ⟨v[0]'(by omega), List.getElem?_eq_getElem _⟩
      have hxr := hv x (List.mem_of_getElem? hx0)
      obtain ⟨q, rfl⟩ := Int.eq_ofNat_of_zero_le hxr.1
      have h4' : ¬ (v.length : Int) < 4 := by omega
      have hvn : ¬ v = [] := by intro e; rw [e] at h4; simp at h4
      have w4 : IntKind.i64.wrap ((q : Int) + 4) = q + 4 := w64 _ (by omega)
      have hp0 : 0 < v.length := by omega
      have hgi : v[0]'hp0 = (q : Int) := by rw [List.getElem?_eq_getElem hp0] at hx0; exact Option.some.inj hx0
      by_cases hq : v.length = q + 4
      · have hne : ((v.length : Int) != (q : Int) + 4) = false := by simp; omega
        obtain ⟨A, hA⟩ : ∃ A, A = q + 1 := ⟨_, rfl⟩
        obtain ⟨B, hB2⟩ : ∃ B, B = q + 2 := ⟨_, rfl⟩
        obtain ⟨C, hC⟩ : ∃ C, C = q + 3 := ⟨_, rfl⟩
        have wA : IntKind.i64.wrap ((q : Int) + 1) = A := by rw [w64 _ (by omega)]; omega
        have wB : IntKind.i64.wrap ((A : Int) + 1) = B := by rw [w64 _ (by omega)]; omega
        have wC : IntKind.i64.wrap ((A : Int) + 2) = C := by rw [w64 _ (by omega)]; omega
        have lA : A < v.length := by omega
        have lA1 : A ≤ v.length := by omega
        have l1A : 1 ≤ A := by omega
        have i1A : 1 ≤ (A : Int) := by omega
        have lB : B < v.length := by omega
        have lC : C < v.length := by omega
        obtain ⟨k, hk⟩ : ∃ k, v[A]'lA = k := ⟨_, rfl⟩
        obtain ⟨m, hm⟩ : ∃ m, v[B]'lB = m := ⟨_, rfl⟩
        obtain ⟨g, hg⟩ : ∃ g, v[C]'lC = g := ⟨_, rfl⟩
        have hk' : v[A]? = some k := by rw [List.getElem?_eq_getElem lA, hk]
        have hm' : v[B]? = some m := by rw [List.getElem?_eq_getElem lB, hm]
        have hg' : v[C]? = some g := by rw [List.getElem?_eq_getElem lC, hg]
        obtain ⟨ts, hts⟩ : ∃ ts, (v.drop 1).take q = ts := ⟨_, rfl⟩
        have m1 : (List.take A (v.map (D.int .i64))).tail = ts.map (D.int .i64) := by
          rw [← hts, hA, ← List.drop_one, List.drop_take]
          simp
        have htl : ts.length = q := by rw [← hts]; simp; omega
        have hS := schT_eq hn q hx0 hq k m g (by rw [← hA]; exact hk') (by rw [← hB2]; exact hm') (by rw [← hC]; exact hg')
        rw [hts] at hS
        have hch := fun c => K71 c 1 ts (.inl rfl) k m g (by omega)
        unfold Sd at hch
        cases hok : schemaOk ts k m g with
        | true =>
          rw [hS, if_pos hok]
          refine ⟨false, 1, .inl rfl, K_call k110 (oraG_none (by decide) (by decide)) (by simp [c110]) ?_⟩
          have hce : checkI ts k m g = 0 := if_pos hok
          rw [hce] at hch
          simp only [t110, b110, rowI] at h
          simp [c110]
          simp [hvn] at h
          rw [h]
          simp [h4', w4, hne, hp0, hgi, wA, wB, wC, lA, lA1, l1A, i1A, lB, lC, hk, hm, hg, m1, hch, evOp, evM, wants, Ins.go, X.ev, iaM, ldM, binD, intOp, setD, applyW, Ek_ops_nil, allFree, free, callM, callP, appM]
          simp [Sd]
        | false =>
          rw [hS, if_neg (by rw [hok]; decide)]
          refine ⟨true, 0, .inr rfl, K_call k110 (oraG_none (by decide) (by decide)) (by simp [c110]) ?_⟩
          have hce : checkI ts k m g = 20 := if_neg (by rw [hok]; decide)
          rw [hce] at hch
          simp only [t110, b110, rowI] at h
          simp [c110]
          simp [hvn] at h
          rw [h]
          simp [h4', w4, hne, hp0, hgi, wA, wB, wC, lA, lA1, l1A, i1A, lB, lC, hk, hm, hg, m1, hch, noSch, Sd, evOp, evM, wants, Ins.go, X.ev, iaM, ldM, binD, intOp, setD, applyW, Ek_ops_nil, allFree, free, callM, callP, appM]
      · have hne : ((v.length : Int) != (q : Int) + 4) = true := by simp; omega
        rw [schT_ne hn h4 _ hx0 (by omega)]
        refine ⟨true, 0, .inr rfl, K_call k110 (oraG_none (by decide) (by decide)) (by simp [c110]) ?_⟩
        simp only [t110, b110, rowI] at h
        simp [c110]
        simp [hvn] at h
        rw [h]
        simp [h4', w4, hne, hp0, hgi, noSch, Sd]
end Go.Ab
/- THE FUNCTIONS' EQUATIONS: part.Open (of the second machine). -/
set_option linter.all false
set_option maxRecDepth 100000
namespace Go.Ab
open Go.Proofs Go.Proofs.YtomomeabfnmncaaGreatH Go.Proofs.YtomomeabfnmncaaGreatH.Crc Go.Proofs.YtomomeabfnmncaaGreatH.Var Go.Proofs.YtomomeabfnmncaaGreatH.Fr Go.Proofs.YtomomeabfnmncaaGreatH.Rec
def c248 : Fn' := ⟨89, [(.tmp 2), (.tmp 3)], (.seq (.reg none [⟨(some 2), none, (.mv (.k .nilptr))⟩, ⟨(some 3), none, (.mv (.k (.int .i64 0)))⟩]) (.seq (.reg none [⟨(some 14), none, (.mv (.t 0))⟩, ⟨(some 15), none, (.call (.f 40) [(.t 14)])⟩, ⟨(some 13), none, (.mv (.t 15))⟩, ⟨(some 16), none, (.ext (.t 13) 0)⟩, ⟨(some 17), none, (.ext (.t 13) 1)⟩, ⟨(some 18), none, (.ext (.t 13) 2)⟩, ⟨(some 4), none, (.mv (.t 16))⟩, ⟨(some 5), none, (.mv (.t 17))⟩, ⟨(some 6), none, (.mv (.t 18))⟩]) (.seq (.seq (.reg none [⟨(some 19), none, (.mv (.t 6))⟩, ⟨(some 20), none, (.bin .neq [] (.t 19) (.k (.int .i64 0)))⟩, ⟨(some 21), none, (.mv (.t 20))⟩, ⟨(some 22), (some ((some 21), false)), (.mv (.t 0))⟩, ⟨(some 23), (some ((some 21), false)), (.len 1 (.t 22))⟩, ⟨(some 24), (some ((some 21), false)), (.bin .lss [] (.t 23) (.k (.int .i64 8)))⟩, ⟨(some 25), none, (.pick (.t 21) (.k (.bool true)) (.t 24))⟩]) (.cond (.t 25) (.seq (.reg none [⟨(some 2), none, (.mv (.k .nilptr))⟩, ⟨(some 3), none, (.mv (.k (.int .i64 43)))⟩]) .ret) .skip)) (.seq (.reg none [⟨(some 27), none, (.mv (.t 4))⟩, ⟨(some 28), none, (.call (.f 41) [(.t 27)])⟩, ⟨(some 26), none, (.mv (.t 28))⟩, ⟨(some 29), none, (.ext (.t 26) 0)⟩, ⟨(some 30), none, (.ext (.t 26) 1)⟩, ⟨(some 7), none, (.alloc false [nilS, (.int .i64 0), (.int .i64 0), (.int .i64 0)])⟩, ⟨none, none, (.st 4 (.t 7) (.t 29))⟩, ⟨(some 6), none, (.mv (.t 30))⟩]) (.seq (.reg none [⟨(some 32), none, (.mv (.t 0))⟩, ⟨(some 33), none, (.mv (.t 0))⟩, ⟨(some 34), none, (.len 1 (.t 33))⟩, ⟨(some 35), none, (.bin .sub [] (.t 34) (.k (.int .i64 8)))⟩, ⟨(some 36), none, (.sub 1 1 (.t 32) (some (.t 35)) none none)⟩, ⟨(some 37), none, (.call (.f 42) [(.t 36)])⟩, ⟨(some 31), none, (.mv (.t 37))⟩, ⟨(some 38), none, (.ext (.t 31) 0)⟩, ⟨(some 39), none, (.ext (.t 31) 1)⟩, ⟨(some 8), none, (.mv (.t 38))⟩, ⟨(some 9), none, (.mv (.t 39))⟩]) (.seq (.seq (.reg none [⟨(some 40), none, (.mv (.t 6))⟩, ⟨(some 41), none, (.bin .neq [] (.t 40) (.k (.int .i64 0)))⟩, ⟨(some 42), none, (.mv (.t 41))⟩, ⟨(some 43), (some ((some 42), false)), (.mv (.t 8))⟩, ⟨(some 44), (some ((some 42), false)), (.mv (.t 0))⟩, ⟨(some 45), (some ((some 42), false)), (.len 1 (.t 44))⟩, ⟨(some 46), (some ((some 42), false)), (.cvt (.int .u64) (.t 45))⟩, ⟨(some 47), (some ((some 42), false)), (.bin .gtr [] (.t 43) (.t 46))⟩, ⟨(some 48), none, (.pick (.t 42) (.k (.bool true)) (.t 47))⟩]) (.cond (.t 48) (.seq (.reg none [⟨(some 2), none, (.mv (.k .nilptr))⟩, ⟨(some 3), none, (.mv (.k (.int .i64 43)))⟩]) .ret) .skip)) (.seq (.reg (some [(0, 3)]) [⟨(some 50), none, (.ld (some 4) (.t 7))⟩, ⟨(some 51), none, (.mv (.t 0))⟩, ⟨(some 52), none, (.mv (.t 5))⟩, ⟨(some 53), none, (.sub 1 1 (.t 51) (some (.t 52)) none none)⟩, ⟨(some 54), none, (.mv (.t 0))⟩, ⟨(some 55), none, (.len 1 (.t 54))⟩, ⟨(some 56), none, (.mv (.t 8))⟩, ⟨(some 57), none, (.cvt (.int .i64) (.t 56))⟩, ⟨(some 58), none, (.bin .sub [] (.t 55) (.t 57))⟩, ⟨(some 59), none, (.call (.f 43) [(.t 50), (.t 53), (.t 58)])⟩, ⟨(some 49), none, (.mv (.t 59))⟩, ⟨(some 60), none, (.ext (.t 49) 0)⟩, ⟨(some 61), none, (.ext (.t 49) 1)⟩, ⟨(some 10), none, (.mv (.t 60))⟩, ⟨(some 11), none, (.mv (.t 61))⟩]) (.seq (.seq (.reg none [⟨(some 62), none, (.mv (.t 11))⟩, ⟨(some 63), none, (.un .not (.t 62))⟩]) (.cond (.t 63) (.seq (.reg none [⟨(some 2), none, (.mv (.k .nilptr))⟩, ⟨(some 3), none, (.mv (.k (.int .i64 43)))⟩]) .ret) .skip)) (.seq (.reg none [⟨(some 65), none, (.ld (some 4) (.t 7))⟩, ⟨(some 66), none, (.mv (.t 10))⟩, ⟨(some 67), none, (.call (.f 11) [(.t 65), (.t 66)])⟩, ⟨(some 64), none, (.mv (.t 67))⟩, ⟨(some 68), none, (.ext (.t 64) 0)⟩, ⟨(some 69), none, (.ext (.t 64) 1)⟩, ⟨(some 12), none, (.mv (.t 68))⟩, ⟨(some 6), none, (.mv (.t 69))⟩]) (.seq (.seq (.reg none [⟨(some 70), none, (.mv (.t 6))⟩, ⟨(some 71), none, (.bin .neq [] (.t 70) (.k (.int .i64 0)))⟩, ⟨(some 72), none, (.mv (.t 71))⟩, ⟨(some 73), (some ((some 72), false)), (.mv (.t 12))⟩, ⟨(some 74), (some ((some 72), false)), (.mv (.t 0))⟩, ⟨(some 75), (some ((some 72), false)), (.call (.f 44) [(.t 73), (.t 74)])⟩, ⟨(some 76), (some ((some 72), false)), (.un .not (.t 75))⟩, ⟨(some 77), none, (.pick (.t 72) (.k (.bool true)) (.t 76))⟩]) (.cond (.t 77) (.seq (.reg none [⟨(some 2), none, (.mv (.k .nilptr))⟩, ⟨(some 3), none, (.mv (.k (.int .i64 43)))⟩]) .ret) .skip)) (.seq (.reg (some [(0, 2), (0, 4), (0, 5), (2, 5), (4, 5), (0, 7)]) [⟨(some 78), none, (.ld (some 4) (.t 7))⟩, ⟨(some 79), none, (.bld [nilS, (.int .i64 0), (.int .i64 0), (.int .i64 0)] [(0, (4, (.t 78)))])⟩, ⟨(some 80), none, (.ld (some 4) (.t 7))⟩, ⟨(some 81), none, (.mv (.t 10))⟩, ⟨(some 82), none, (.call (.f 34) [(.t 80), (.t 81)])⟩, ⟨(some 83), none, (.ld (some 4) (.t 7))⟩, ⟨(some 84), none, (.mv (.t 10))⟩, ⟨(some 85), none, (.call (.f 38) [(.t 83), (.t 84)])⟩, ⟨(some 86), none, (.mv (.t 10))⟩, ⟨(some 87), none, (.bld [nilS, (.int .i64 0), (.int .i64 0), (.int .i64 0), nilS, nilS, nilS] [(0, (4, (.t 79))), (4, (1, (.t 82))), (5, (1, (.t 85))), (6, (1, (.t 86)))])⟩, ⟨(some 88), none, (.box false (.t 87))⟩, ⟨(some 2), none, (.mv (.t 88))⟩, ⟨(some 3), none, (.mv (.k (.int .i64 0)))⟩]) .ret)))))))))))⟩
theorem k248 : compF Tryz.prog 12 = some c248 := by kernel_rfl
attribute [local simp] op_or op_an op_add op_sub op_mul oq_eql oq_neq oq_lss oq_gtr oq_leq oq_geq
attribute [-simp] intOp bin_shl bin_shr D.cells
theorem isB_blkO (t : Int) (l : List Va) : isB (blkO t l) := by
  unfold blkO
  split
  · rename_i h
    have := (kind_eq t).1 ((blockOk_eq t l).1 h).1
    exact isB_frame (isB_cons' (by omega) (isB_col t l))
  · exact isB_nil
theorem isB_cols (L : List Rw) : ∀ (ts : List Int) (k : Nat), isB (colsI L k ts)
  | [], _ => isB_nil
  | t :: ts, k => isB_append (isB_blkO _ _) (isB_cols L ts (k + 1))
theorem isB_grans (ts : List Int) : ∀ G : List (List Rw), isB (gransI ts G)
  | [] => isB_nil
  | x :: G => by
    have e : gransI ts (x :: G) = colsI x 0 ts ++ gransI ts G := by simp [gransI]
    rw [e]
    exact isB_append (isB_cols x ts 0) (isB_grans ts G)
theorem isB_write (ts : List Int) (k m g : Int) (L : List Rw) : isB (writeB ts k m g L) :=
  isB_append (isB_append (isB_frame (isB_putAll _)) (isB_grans _ _)) (isB_append (isB_cols _ _ _) (isB_append (isB_blkO _ _) (isB_le8 _)))
/-- Where the marks begin, by the last bytes. -/
def fromI (b : List Int) : Nat := leN ((b.drop (b.length - 8)).take 8)
/-- What bytes say as a part. -/
def openI (b : List Int) : Option ((List Int × Int × Int × Int) × List (List Va)) :=
  if ¬ (unframeI b).2.2 = 0 ∨ b.length < 8 then none
  else if ¬ (schT (unframeI b).1).2 = 0 ∨ b.length < fromI b then none
  else match readI (schT (unframeI b).1).1.1 (b.length - fromI b) (b.drop (unframeI b).2.1.toNat).length (b.drop (unframeI b).2.1.toNat) [] with
    | none => none
    | some l => if wErr (schT (unframeI b).1).1.1 (schT (unframeI b).1).1.2.1 (schT (unframeI b).1).1.2.2.1 (schT (unframeI b).1).1.2.2.2 (l.map rwF) = 0 ∧
        writeB (schT (unframeI b).1).1.1 (schT (unframeI b).1).1.2.1 (schT (unframeI b).1).1.2.2.1 (schT (unframeI b).1).1.2.2.2 (l.map rwF) = b
      then some ((schT (unframeI b).1).1, l) else none
theorem schT_ok {l : List Int} (h : (schT l).2 = 0) : schemaOk (schT l).1.1 (schT l).1.2.1 (schT l).1.2.2.1 (schT l).1.2.2.2 = true := by
  have hno : ¬ noSch.2 = 0 := by decide
  unfold schT at h ⊢
  cases hn : nums l with
  | none => rw [hn] at h; exact absurd h hno
  | some v =>
    rw [hn] at h
    simp only at h ⊢
    split at h
    · exact absurd h hno
    · rename_i h1
      rw [if_neg h1]
      split at h
      · rename_i h2
        rw [if_pos h2]
        split at h
        · rename_i h3
          rw [if_pos h3]
          exact h3
        · exact absurd h hno
      · exact absurd h hno
theorem takeC_isB : ∀ (ts b : List Int), isB b → ∀ q, takeC ts b = some q → isB q.2
  | [], b, hB, q, h => by simp [takeC] at h; subst h; exact hB
  | t :: ts, b, hB, q, h => by
    simp only [takeC] at h
    split at h
    · cases h
    · obtain ⟨p, hp, rfl⟩ := Option.map_eq_some_iff.1 h
      exact takeC_isB ts _ (isB_drop hB _) p hp
theorem readI_len {ts : List Int} (hn : ts ≠ []) {left : Nat} : ∀ (n : Nat) (b : List Int) (acc : List (List Va)), isB b → acc.length ≤ 2000 → ∀ l, readI ts left n b acc = some l → l.length ≤ 2000
  | 0, b, acc, hB, ha, l, h => by
    simp only [readI] at h
    split at h
    · cases h; exact ha
    · cases h
  | n + 1, b, acc, hB, ha, l, h => by
    simp only [readI] at h
    split at h
    · cases h; exact ha
    · cases hT : takeT ts b with
      | none => rw [hT] at h; cases h
      | some q =>
        obtain ⟨x, r⟩ := q
        rw [hT] at h
        simp only at h
        split at h
        · cases h
        · refine readI_len hn n r (acc ++ x) ?_ (by simp; omega) l h
          unfold takeT at hT
          cases hC : takeC ts b with
          | none => rw [hC] at hT; cases hT
          | some q =>
            rw [hC] at hT
            obtain ⟨x', _, e⟩ := Option.map_eq_some_iff.1 hT
            simp only [Prod.mk.injEq] at e
            rw [← e.2]
            exact takeC_isB _ _ hB _ hC
theorem wErr_len {ts : List Int} {k m g : Int} {L : List Rw} (h : wErr ts k m g L = 0) : ∀ x ∈ L, x.r.length = ts.length := by
  unfold wErr at h
  split at h
  · cases h
  · split at h
    · cases h
    · split at h
      · cases h
      · rename_i h3
        intro x hx
        have h3 : (L.any fun x => !mayR ts x.r) = false := by simpa using h3
        rw [List.any_eq_false] at h3
        have := h3 x hx
        simp at this
        exact mayR_len ts x.r this
/-- A part. -/
def PtB (c : Bool) (ts : List Int) (k m g : Int) (L : List Rw) : Obj := .box [.slc c 1 (ts.map (.int .i64)), .int .i64 k, .int .i64 m, .int .i64 g, .slc false 1 ((splitI g.toNat L).map Gr), .slc false 1 (((splitI g.toNat L).map (markR k.toNat)).map Rw.d), .slc false 1 (L.map Rw.d)]
set_option maxHeartbeats 16000000 in
/-- part.Open. -/
theorem K248 (c : Bool) (b : List Int) (hbl : b.length ≤ 2 ^ 38) (hB : isB b) :
    ∃ c', K1 12 [.slc c 1 (b.map (.int .u8))] [] = some (match openI b with
      | none => (.tuple [.nilptr, .int .i64 43], [])
      | some q => (.tuple [.ptr 0 0 0 0, .int .i64 0], [PtB c' q.1.1 q.1.2.1 q.1.2.2.1 q.1.2.2.2 (q.2.map rwF)])) := by
  obtain ⟨d, hU0, hd⟩ := K41 c b (by omega) hB
  have hU := K1_of hU0 (by decide)
  clear hU0
  have hBu := isB_unframe hB
  have hul := uI_len b
  have z00 : neI 0 0 = false := rfl
  unfold openI
  by_cases h1 : ¬ (unframeI b).2.2 = 0 ∨ b.length < 8
  · rw [if_pos h1]
    refine ⟨c, K_call k248 (ora1_none (by decide)) (by simp [c248]) ?_⟩
    by_cases he : (unframeI b).2.2 = 0
    · have h8 : b.length < 8 := h1.resolve_left (by simp [he])
      have z1 : ltI (b.length : Int) 8 = true := ltI_t (by omega)
      rw [he] at hU
      simp [c248, hU, z00, z1]
    · have z1 : neI (unframeI b).2.2 0 = true := neI_t he
      simp [c248, hU, z1]
  · rw [if_neg h1]
    have he : (unframeI b).2.2 = 0 := by by_cases h : (unframeI b).2.2 = 0; exact h; exact absurd (.inl h) h1
    have h8 : 8 ≤ b.length := by omega
    have z1 : ltI (b.length : Int) 8 = false := ltI_f (by omega)
    obtain ⟨c1, rfl⟩ := (hd.resolve_right (fun h => h.1 he)).2
    rw [he] at hU
    have hur : 0 < (unframeI b).2.1 ∧ (unframeI b).2.1 ≤ b.length := by
      have := unframe_some b hB (unframeI b).1 (unframeI b).2.1 (by rw [← he])
      exact ⟨this.2.2.2.1, this.2.2.1⟩
    generalize unframeI b = u at *
    obtain ⟨h, n, e⟩ := u
    simp only at hU hBu hul he hur ⊢
    subst he
    obtain ⟨N, rfl⟩ : ∃ N : Nat, n = N := ⟨n.toNat, by omega⟩
    obtain ⟨c2, s2, hs2, hT0⟩ := K110 c1 h (by omega) hBu
    have hT := K1_of hT0 (by decide)
    clear hT0
    obtain ⟨E8, hE8⟩ : ∃ E8, E8 = b.length - 8 := ⟨_, rfl⟩
    have w8 : IntKind.i64.wrap ((b.length : Int) - 8) = E8 := by rw [w64 _ (by omega)]; omega
    obtain ⟨bt, hbt⟩ : ∃ bt, b.drop E8 = bt := ⟨_, rfl⟩
    have m8 : List.drop E8 (b.map (D.int .u8)) = bt.map (D.int .u8) := by rw [← hbt, List.map_drop]
    have hbtl : bt.length = 8 := by rw [← hbt]; simp; omega
    have hBt : isB bt := by rw [← hbt]; exact isB_drop hB _
    have hG := fun c => K1_of (K120 c bt (by omega) hBt) (by decide)
    have hfr : fromI b = leN (bt.take 8) := by unfold fromI; rw [← hE8, hbt]
    have hfl := leN_lt (bt.take 8) (isB_take hBt 8)
    rw [← hfr] at hG
    rw [if_neg (by omega)] at hG
    have hfl2 : fromI b < 2 ^ 64 := by
      rw [hfr]
      have : (bt.take 8).length = 8 := by simp [hbtl]
      rw [this] at hfl
      simpa using hfl
    generalize fromI b = fr at *
    clear hfr hfl
    have wl : IntKind.u64.wrap (b.length : Int) = b.length := by rw [IntKind.wrap_u64]; omega
    have b8 : E8 ≤ b.length := by omega
    by_cases h2 : ¬ (schT h).2 = 0 ∨ b.length < fr
    · rw [if_pos h2]
      refine ⟨c, K_call k248 (ora1_none (by decide)) (by simp [c248]) ?_⟩
      by_cases hs : (schT h).2 = 0
      · have hlt : b.length < fr := h2.resolve_left (by simp [hs])
        have z2 : ltI (b.length : Int) fr = true := ltI_t (by omega)
        rw [hs] at hT
        generalize schT h = S at *
        unfold Sd at hT
        simp [c248, hU, z00, z1, hT, w8, m8, b8, hG, wl, z2]
      · have z2 : neI (schT h).2 0 = true := neI_t hs
        generalize schT h = S at *
        unfold Sd at hT
        simp [c248, hU, z00, z1, hT, w8, m8, b8, hG, wl, z2]
    · rw [if_neg h2]
      have hs : (schT h).2 = 0 := by by_cases h : (schT h).2 = 0; exact h; exact absurd (.inl h) h2
      have hok := schT_ok hs
      rw [hs] at hT
      generalize schT h = S at *
      obtain ⟨⟨ts, k, m, g⟩, e⟩ := S
      simp only at hT hs hok hs2 ⊢
      subst hs
      have h0 := schemaOk_iff.1 hok
      obtain ⟨hl1, ht1, hk1, hm1, hg1⟩ := h0
      have htn : ts ≠ [] := by intro e; subst e; simp at hl1
      obtain rfl := hs2.resolve_right htn
      have z2 : ltI (b.length : Int) fr = false := ltI_f (by omega)
      obtain ⟨LF, hLF⟩ : ∃ LF, LF = b.length - fr := ⟨_, rfl⟩
      have wf : IntKind.i64.wrap (fr : Int) = fr := w64 _ (by omega)
      have wLF : IntKind.i64.wrap ((b.length : Int) - fr) = LF := by rw [w64 _ (by omega)]; omega
      obtain ⟨bb, hbb⟩ : ∃ bb, b.drop N = bb := ⟨_, rfl⟩
      have mN : List.drop N (b.map (D.int .u8)) = bb.map (D.int .u8) := by rw [← hbb, List.map_drop]
      have hBb : isB bb := by rw [← hbb]; exact isB_drop hB _
      have hbbl : bb.length ≤ b.length := by rw [← hbb]; simp
      have bN : N ≤ b.length := by omega
      have hR := fun c => K1_of (K261 c2 ts htn (by omega) k m g c bb LF (by omega) (by omega) hBb) (by decide)
      simp only [Int.toNat_natCast]
      rw [hbb, ← hLF]
      cases hr : readI ts LF bb.length bb [] with
      | none =>
        rw [hr] at hR
        simp only at hR ⊢
        refine ⟨c, K_call k248 (ora1_none (by decide)) (by simp [c248]) ?_⟩
        unfold Sd at hT hR
        simp [evOp, evM, wants, Ins.go, X.ev, iaM, ldM, binD, setD, applyW, Ek_ops_nil, allFree, free, callM, callP, callO, appM, c248, hU, z00, z1, hT, w8, m8, b8, hG, wl, z2, wf, wLF, mN, bN, hR]
      | some l =>
        rw [hr] at hR
        simp only at hR ⊢
        have hll : l.length ≤ 2000 := readI_len htn bb.length bb [] hBb (by simp) _ hr
        obtain ⟨fs, hfs⟩ : ∃ fs, (if l = [] then 0 else 1) = fs := ⟨_, rfl⟩
        rw [hfs] at hR
        have hfs2 : fs = 1 ∨ l.map rwF = [] := by rw [← hfs]; by_cases hn : l = []; exact .inr (by simp [hn]); exact .inl (if_neg hn)
        have hW := K247 c2 1 ts (.inl rfl) k m g (by omega) l.isEmpty fs (l.map rwF) hfs2 (by simp; omega)
        rw [map_rwF] at hW
        have hBw := isB_write ts k m g (l.map rwF)
        by_cases he : wErr ts k m g (l.map rwF) = 0
        · rw [he] at hW
          simp only [if_true] at hW
          have hQ := K1_of (K43 false c (writeB ts k m g (l.map rwF)) b hBw hB) (by decide)
          have hln : l.map rwF ≠ [] := by
            intro e
            rw [e] at he
            unfold wErr at he
            rw [if_neg (by simp [checkI, hok]), if_pos (.inl rfl)] at he
            cases he
          obtain rfl := hfs2.resolve_right hln
          by_cases hw : writeB ts k m g (l.map rwF) = b
          · rw [if_pos ⟨he, hw⟩]
            simp only
            rw [hw] at hQ hW
            rw [show (b == b) = true by simp] at hQ
            obtain ⟨K, rfl⟩ : ∃ K : Nat, k = K := ⟨k.toNat, by omega⟩
            obtain ⟨G, rfl⟩ : ∃ G : Nat, g = G := ⟨g.toNat, by omega⟩
            have hlen : ∀ x ∈ l.map rwF, x.r.length = ts.length := wErr_len he
            have hS := K1_of (K258 c2 1 ts K m G (by omega) l.isEmpty 1 (l.map rwF) (.inl rfl) (by simp; omega) hln) (by decide)
            have hM := K1_of (K260 c2 1 ts K m G (by omega) l.isEmpty 1 (l.map rwF) (.inl rfl) (by simp; omega) hln (by omega) (fun y hy => by rw [hlen y hy]; omega)) (by decide)
            have hie : l.isEmpty = false := by cases l with
              | nil => exact absurd rfl hln
              | cons a l => rfl
            rw [map_rwF] at hS hM
            refine ⟨c2, K_call k248 (ora1_none (by decide)) (by simp [c248]) ?_⟩
            unfold PtB
            rw [map_rwF]
            simp only [Int.toNat_natCast]
            rw [hie] at hR hW hS hM
            generalize splitI G (l.map rwF) = GG at *
            generalize GG.map (markR K) = MM at *
            generalize l.map rowD = LL at *
            unfold Sd at hT hR hW hS hM
            simp [evOp, evM, wants, Ins.go, X.ev, iaM, ldM, binD, setD, applyW, Ek_ops_nil, allFree, free, callM, callP, callO, appM, c248, hU, z00, z1, hT, w8, m8, b8, hG, wl, z2, wf, wLF, mN, bN, hR, hW, hQ, hS, hM]
          · rw [if_neg (fun h => hw h.2)]
            simp only
            have hne : (writeB ts k m g (l.map rwF) == b) = false := by simpa using hw
            rw [hne] at hQ
            refine ⟨c, K_call k248 (ora1_none (by decide)) (by simp [c248]) ?_⟩
            generalize writeB ts k m g (l.map rwF) = W at *
            unfold Sd at hT hR hW
            simp [evOp, evM, wants, Ins.go, X.ev, iaM, ldM, binD, setD, applyW, Ek_ops_nil, allFree, free, callM, callP, callO, appM, c248, hU, z00, z1, hT, w8, m8, b8, hG, wl, z2, wf, wLF, mN, bN, hR, hW, hQ]
        · rw [if_neg (fun h => he h.1)]
          simp only
          rw [if_neg he] at hW
          have z5 : neI (wErr ts k m g (l.map rwF)) 0 = true := neI_t he
          refine ⟨c, K_call k248 (ora1_none (by decide)) (by simp [c248]) ?_⟩
          generalize wErr ts k m g (l.map rwF) = W at *
          unfold Sd at hT hR hW
          simp [evOp, evM, wants, Ins.go, X.ev, iaM, ldM, binD, setD, applyW, Ek_ops_nil, allFree, free, callM, callP, callO, appM, c248, hU, z00, z1, hT, w8, m8, b8, hG, wl, z2, wf, wLF, mN, bN, hR, hW, z5]
end Go.Ab
/- THE FUNCTIONS' EQUATIONS: part.Part: there, Mark, Granules. -/
set_option linter.all false
set_option maxRecDepth 100000
namespace Go.Ab
open Go.Proofs Go.Proofs.YtomomeabfnmncaaGreatH
def c262 : Fn' := ⟨16, [(.tmp 4)], (.seq (.reg none [⟨(some 4), none, (.mv (.k (.bool false)))⟩]) (.seq (.reg none [⟨(some 5), none, (.mv (.t 1))⟩, ⟨(some 6), none, (.bin .geq [] (.t 5) (.k (.int .i64 0)))⟩, ⟨(some 7), none, (.mv (.t 6))⟩, ⟨(some 8), (some ((some 7), true)), (.mv (.t 1))⟩, ⟨(some 9), (some ((some 7), true)), (.mv (.t 0))⟩, ⟨(some 10), (some ((some 7), true)), (.nc (.t 9))⟩, ⟨(some 11), (some ((some 7), true)), (.fa 4 1 false (.t 10))⟩, ⟨(some 12), (some ((some 7), true)), (.ld none (.t 11))⟩, ⟨(some 13), (some ((some 7), true)), (.len 1 (.t 12))⟩, ⟨(some 14), (some ((some 7), true)), (.bin .lss [] (.t 8) (.t 13))⟩, ⟨(some 15), none, (.pick (.t 7) (.t 14) (.k (.bool false)))⟩, ⟨(some 4), none, (.mv (.t 15))⟩]) .ret))⟩
theorem k262 : compF Tryz.prog 45 = some c262 := by kernel_rfl
def c250 : Fn' := ⟨18, [(.tmp 4), (.tmp 5)], (.seq (.reg none [⟨(some 4), none, (.mv (.k nilS))⟩, ⟨(some 5), none, (.mv (.k (.bool false)))⟩]) (.seq (.seq (.reg none [⟨(some 6), none, (.mv (.t 0))⟩, ⟨(some 7), none, (.mv (.t 1))⟩, ⟨(some 8), none, (.call (.f 45) [(.t 6), (.t 7)])⟩, ⟨(some 9), none, (.un .not (.t 8))⟩]) (.cond (.t 9) (.seq (.reg none [⟨(some 4), none, (.mv (.k nilS))⟩, ⟨(some 5), none, (.mv (.k (.bool false)))⟩]) .ret) .skip)) (.seq (.reg none [⟨(some 10), none, (.mv (.t 0))⟩, ⟨(some 11), none, (.nc (.t 10))⟩, ⟨(some 12), none, (.fa 5 1 false (.t 11))⟩, ⟨(some 13), none, (.ld none (.t 12))⟩, ⟨(some 14), none, (.mv (.t 1))⟩, ⟨(some 15), none, (.ia none 1 false (.t 13) (.t 14))⟩, ⟨(some 16), none, (.ld none (.t 15))⟩, ⟨(some 17), none, (.call (.f 47) [(.t 16)])⟩, ⟨(some 4), none, (.mv (.t 17))⟩, ⟨(some 5), none, (.mv (.k (.bool true)))⟩]) .ret)))⟩
theorem k250 : compF Tryz.prog 16 = some c250 := by kernel_rfl
def c251 : Fn' := ⟨8, [(.tmp 2)], (.seq (.reg none [⟨(some 2), none, (.mv (.k (.int .i64 0)))⟩]) (.seq (.reg none [⟨(some 3), none, (.mv (.t 0))⟩, ⟨(some 4), none, (.nc (.t 3))⟩, ⟨(some 5), none, (.fa 4 1 false (.t 4))⟩, ⟨(some 6), none, (.ld none (.t 5))⟩, ⟨(some 7), none, (.len 1 (.t 6))⟩, ⟨(some 2), none, (.mv (.t 7))⟩]) .ret))⟩
theorem k251 : compF Tryz.prog 14 = some c251 := by kernel_rfl
attribute [local simp] op_or op_an op_add op_sub op_mul oq_eql oq_neq oq_lss oq_gtr oq_leq oq_geq
attribute [-simp] intOp bin_shl bin_shr D.cells
theorem bin_ptrnil (fl : List Nat) (g i o L : Nat) : binD .eql [5] (.ptr g i o L) .nilptr = some (.bool false) := rfl
theorem bin_nilnil : binD .eql [5] .nilptr .nilptr = some (.bool true) := rfl
/-- Is there a granule? -/
def thereI (i : Int) (n : Nat) : Bool := leI 0 i && ltI i n
set_option maxHeartbeats 4000000 in
theorem K262 (c : Bool) (ts : List Int) (k m g : Int) (L : List Rw) (i : Int) :
    K0 45 [.ptr 0 0 0 0, .int .i64 i] [PtB c ts k m g L] = some (.bool (thereI i (splitI g.toNat L).length), [PtB c ts k m g L]) := by
  refine K_call k262 (oraG_none (by decide) (by decide)) (by simp [c262, PtB]) ?_
  unfold PtB thereI
  generalize splitI g.toNat L = G
  cases z : leI 0 i <;> simp [c262, z]
set_option maxHeartbeats 4000000 in
/-- Granules. -/
theorem K251 (c : Bool) (ts : List Int) (k m g : Int) (L : List Rw) :
    K0 14 [.ptr 0 0 0 0] [PtB c ts k m g L] = some (.int .i64 (splitI g.toNat L).length, [PtB c ts k m g L]) := by
  refine K_call k251 (oraG_none (by decide) (by decide)) (by simp [c251, PtB]) ?_
  unfold PtB
  generalize splitI g.toNat L = G
  simp [c251]
set_option maxHeartbeats 4000000 in
/-- Mark. -/
theorem K250 (c : Bool) (ts : List Int) (k m g : Int) (L : List Rw) (hr : ∀ y ∈ L, y.r.length ≤ 2 ^ 40) (hg : 1 ≤ g) (i : Int) :
    K0 16 [.ptr 0 0 0 0, .int .i64 i] [PtB c ts k m g L] = some (if thereI i (splitI g.toNat L).length = true then
      (.tuple [.slc (((((splitI g.toNat L)[i.toNat]?).map (markR k.toNat)).map Rw.r).getD []).isEmpty 2 ((((((splitI g.toNat L)[i.toNat]?).map (markR k.toNat)).map Rw.r).getD []).map Va.d), .bool true], [PtB c ts k m g L])
      else (.tuple [nilS, .bool false], [PtB c ts k m g L])) := by
  refine K_call k250 (oraG_none (by decide) (by decide)) (by simp [c250, PtB]) ?_
  have hT := K262 c ts k m g L i
  cases hz : thereI i (splitI g.toNat L).length with
  | false =>
    rw [hz] at hT
    rw [if_neg (by decide)]
    unfold PtB at hT ⊢
    generalize splitI g.toNat L = G at *
    generalize G.map (markR k.toNat) = Ms at *
    simp [c250, hT, backK]
  | true =>
    rw [hz] at hT
    rw [if_pos rfl]
    obtain ⟨h0, h1⟩ := Bool.and_eq_true_iff.1 hz
    have h0 := leI_le h0
    have h1 : i < (splitI g.toNat L).length := by simpa [ltI] using h1
    obtain ⟨n, rfl⟩ : ∃ n : Nat, i = n := ⟨i.toNat, by omega⟩
    have hn : n < (splitI g.toNat L).length := by omega
    have hm := split_mem L g.toNat (by omega) L.length L (Nat.le_refl _)
    have hmx := hm _ (List.getElem_mem hn)
    unfold PtB at hT ⊢
    rw [Int.toNat_natCast, List.getElem?_eq_getElem hn]
    simp only [Option.map_some, Option.getD_some]
    have hl : (markR k.toNat (splitI g.toNat L)[n]).r.length ≤ 2 ^ 40 := by
      obtain ⟨⟨y, ys, e⟩, h2⟩ := hmx
      rw [e] at h2 ⊢
      have := hr y (h2 y List.mem_cons_self)
      show ((((y :: ys).head?.map Rw.r).getD []).take k.toNat).length ≤ 2 ^ 40
      simp; omega
    have hC := K263 false 2 (markR k.toNat (splitI g.toNat L)[n]).r (.inl rfl) hl
    have hd : (markR k.toNat (splitI g.toNat L)[n]).d = .slc false 2 ((markR k.toNat (splitI g.toNat L)[n]).r.map Va.d) := rfl
    have hgi : ((splitI g.toNat L).map (markR k.toNat))[n]? = some (markR k.toNat (splitI g.toNat L)[n]) := by rw [List.getElem?_map, List.getElem?_eq_getElem hn]; rfl
    have hml : ((splitI g.toNat L).map (markR k.toNat)).length = (splitI g.toNat L).length := by simp
    generalize markR k.toNat (splitI g.toNat L)[n] = M at *
    generalize (splitI g.toNat L).map (markR k.toNat) = Ms at *
    generalize splitI g.toNat L = G at *
    have hnl : n < Ms.length := by omega
    have hge : Ms[n]'hnl = M := by rw [List.getElem?_eq_getElem hnl] at hgi; exact Option.some.inj hgi
    clear hgi hml hmx hm hr
    obtain ⟨mc, ms, mr, mh⟩ := M
    simp only [Rw.d] at hd hC hl ⊢
    simp only [D.slc.injEq] at hd
    obtain ⟨rfl, rfl, _⟩ := hd
    simp [c250, hT, backK, hnl, hge, Rw.d, hC]
end Go.Ab
/- THE FUNCTIONS' EQUATIONS: part: copied, Rows, Granule, All. -/
set_option linter.all false
set_option maxRecDepth 100000
namespace Go.Ab
open Go.Proofs Go.Proofs.YtomomeabfnmncaaGreatH
def c288 : Fn' := ⟨8, [(.tmp 2)], (.seq (.reg none [⟨(some 2), none, (.mv (.k (.int .i64 0)))⟩]) (.seq (.reg none [⟨(some 3), none, (.mv (.t 0))⟩, ⟨(some 4), none, (.nc (.t 3))⟩, ⟨(some 5), none, (.fa 6 1 false (.t 4))⟩, ⟨(some 6), none, (.ld none (.t 5))⟩, ⟨(some 7), none, (.len 1 (.t 6))⟩, ⟨(some 2), none, (.mv (.t 7))⟩]) .ret))⟩
theorem k288 : compF Tryz.prog 13 = some c288 := by kernel_rfl
def c289 : Fn' := ⟨18, [(.tmp 4), (.tmp 5)], (.seq (.reg none [⟨(some 4), none, (.mv (.k nilS))⟩, ⟨(some 5), none, (.mv (.k (.bool false)))⟩]) (.seq (.seq (.reg none [⟨(some 6), none, (.mv (.t 0))⟩, ⟨(some 7), none, (.mv (.t 1))⟩, ⟨(some 8), none, (.call (.f 45) [(.t 6), (.t 7)])⟩, ⟨(some 9), none, (.un .not (.t 8))⟩]) (.cond (.t 9) (.seq (.reg none [⟨(some 4), none, (.mv (.k nilS))⟩, ⟨(some 5), none, (.mv (.k (.bool false)))⟩]) .ret) .skip)) (.seq (.reg none [⟨(some 10), none, (.mv (.t 0))⟩, ⟨(some 11), none, (.nc (.t 10))⟩, ⟨(some 12), none, (.fa 4 1 false (.t 11))⟩, ⟨(some 13), none, (.ld none (.t 12))⟩, ⟨(some 14), none, (.mv (.t 1))⟩, ⟨(some 15), none, (.ia none 1 false (.t 13) (.t 14))⟩, ⟨(some 16), none, (.ld none (.t 15))⟩, ⟨(some 17), none, (.call (.f 46) [(.t 16)])⟩, ⟨(some 4), none, (.mv (.t 17))⟩, ⟨(some 5), none, (.mv (.k (.bool true)))⟩]) .ret)))⟩
theorem k289 : compF Tryz.prog 15 = some c289 := by kernel_rfl
def c291 : Fn' := ⟨8, [(.tmp 2)], (.seq (.reg none [⟨(some 2), none, (.mv (.k nilS))⟩]) (.seq (.reg none [⟨(some 3), none, (.mv (.t 0))⟩, ⟨(some 4), none, (.nc (.t 3))⟩, ⟨(some 5), none, (.fa 6 1 false (.t 4))⟩, ⟨(some 6), none, (.ld none (.t 5))⟩, ⟨(some 7), none, (.call (.f 46) [(.t 6)])⟩, ⟨(some 2), none, (.mv (.t 7))⟩]) .ret))⟩
theorem k291 : compF Tryz.prog 19 = some c291 := by kernel_rfl
def b295_0 : C := (.seq (.reg none [⟨(some 9), none, (.bin .lss [] (.t 8) (.t 7))⟩]) (.seq (.cond (.t 9) .skip (.exit 0)) (.seq (.block 1 (.seq (.reg none [⟨(some 10), none, (.ia none 1 false (.t 6) (.t 8))⟩, ⟨(some 11), none, (.ld none (.t 10))⟩, ⟨(some 5), none, (.mv (.t 11))⟩]) (.reg none [⟨(some 12), none, (.mv (.t 3))⟩, ⟨(some 13), none, (.mv (.t 5))⟩, ⟨(some 14), none, (.call (.f 47) [(.t 13)])⟩, ⟨(some 15), none, (.bsl false 1 1 [nilS] [(0, (.t 14))])⟩, ⟨(some 16), none, (.app 1 24 (.t 12) (.t 15))⟩, ⟨(some 3), none, (.mv (.t 16))⟩]))) (.reg none [⟨(some 17), none, (.bin .add [] (.t 8) (.k (.int .i64 1)))⟩, ⟨(some 8), none, (.mv (.t 17))⟩]))))
def r295 : C := (.seq (.reg none [⟨(some 18), none, (.mv (.t 3))⟩, ⟨(some 2), none, (.mv (.t 18))⟩]) .ret)
def c295 : Fn' := ⟨19, [(.tmp 2)], (.seq (.reg none [⟨(some 2), none, (.mv (.k nilS))⟩]) (.seq (.reg none [⟨(some 3), none, .nilrow⟩]) (.seq (.seq (.reg none [⟨(some 6), none, (.mv (.t 0))⟩, ⟨(some 7), none, (.len 1 (.t 6))⟩, ⟨(some 8), none, (.mv (.k (.int .i64 0)))⟩]) (.block 0 (.loop b295_0))) r295)))⟩
theorem k295 : compF Tryz.prog 46 = some c295 := by kernel_rfl
attribute [local simp] op_or op_an op_add op_sub op_mul oq_eql oq_neq oq_lss oq_gtr oq_leq oq_geq
attribute [-simp] intOp bin_shl bin_shr D.cells
/-- A row's copy. -/
def clR (x : Rw) : Rw := ⟨x.r.isEmpty, 2, x.r, .inl rfl⟩
def t295 (c : Bool) (L : List Rw) (a i : Nat) : List D := [.slc c 1 (L.map Rw.d), .undef, nilS, .sl 0 0 a a, .undef, .undef, .slc c 1 (L.map Rw.d), .int .i64 L.length, .int .i64 i, .undef, .undef, .undef, .undef, .undef, .undef, .undef, .undef, .undef, .undef]
set_option maxHeartbeats 8000000 in
attribute [local simp high] cells_rws in
theorem L295 (c : Bool) (L : List Rw) (hl : L.length ≤ 2 ^ 40) (hr : ∀ y ∈ L, y.r.length ≤ 2 ^ 40) : ∀ (t pre acc : List Rw) (a i : Nat), L = pre ++ t → i = pre.length → a = acc.length → acc.length = i →
    LpB cf0 K0 b295_0 (t295 c L 0 0) 1 ⟨t295 c L a i, [rowR acc]⟩ = some (.exit 0, ⟨t295 c L (acc ++ t.map clR).length L.length, [rowR (acc ++ t.map clR)]⟩)
  | [], pre, acc, a, i, h, hi, ha, hb => by
    have : L = pre := by simpa using h
    subst this
    have z1 : ltI (i : Int) L.length = false := ltI_f (by omega)
    rw [LpB_eq]
    simp only [t295, rowR, List.map_nil, List.append_nil]
    conv => lhs; arg 6; simp [b295_0, z1]
    simp [hi, ha]
  | x :: t, pre, acc, a, i, h, hi, ha, hb => by
    have hll : i < L.length := by rw [h, hi]; simp
    have z1 : ltI (i : Int) L.length = true := ltI_t (by omega)
    have hget : L[i]? = some x := by rw [h, hi]; simp
    have hgi : L[i]'hll = x := by rw [List.getElem?_eq_getElem hll] at hget; exact Option.some.inj hget
    have hb1 : (acc.length + 1) * 24 ≤ 70368744177664 := by omega
    have hK := K263 x.c x.s x.r x.h (hr x (by rw [h]; simp))
    have e : acc ++ (x :: t).map clR = acc ++ [clR x] ++ t.map clR := by simp
    rw [e]
    have ih := L295 c L hl hr t (pre ++ [x]) (acc ++ [clR x]) (acc ++ [clR x]).length (i + 1) (by rw [h]; simp) (by simp [hi]) rfl (by simp [hb])
    refine Eq.trans ?_ ih
    clear ih e
    have hd : (clR x).d = .slc x.r.isEmpty 2 (x.r.map Va.d) := rfl
    generalize acc ++ [clR x] ++ t.map clR = W at *
    generalize clR x = y at *
    generalize hq : x.r.isEmpty = q at *
    have hw := w64 (i + 1) (by omega)
    rw [LpB_eq]
    simp only [t295, rowR, Rw.d] at hd ⊢
    by_cases hacc : acc = []
    · subst hacc
      subst ha
      conv => lhs; arg 6; simp [b295_0, z1, hll, hgi, hw, Rw.d, hK]
      simp [Rw.d, hd]
    · conv => lhs; arg 6; simp [b295_0, z1, hll, hgi, hw, Rw.d, hK, hacc, ha, hb1]
      simp [hacc, Rw.d, hd]
set_option maxHeartbeats 8000000 in
/-- part.copied. -/
theorem K295 (c : Bool) (s : Nat) (L : List Rw) (hs : s = 1 ∨ L = []) (hl : L.length ≤ 2 ^ 40) (hr : ∀ y ∈ L, y.r.length ≤ 2 ^ 40) : K0 46 [.slc c s (L.map Rw.d)] [] = some (.slc L.isEmpty (if L = [] then 0 else 1) ((L.map clR).map Rw.d), []) := by
  refine K_call k295 (oraG_none (by decide) (by decide)) (by simp [c295]) ?_
  by_cases hn : L = []
  · subst hn
    have z1 : ltI 0 0 = false := rfl
    simp [c295]
    rw [LpB_eq]
    simp [b295_0, z1, r295]
  · obtain rfl := hs.resolve_right hn
    have h := L295 c L hl hr L [] [] 0 0 rfl rfl rfl rfl
    have hC : L.map clR ≠ [] := by intro e; simp at e; exact hn e
    have he : L.isEmpty = false := by cases L with
      | nil => exact absurd rfl hn
      | cons a l => rfl
    rw [List.nil_append] at h
    rw [he, if_neg hn]
    generalize L.map clR = C at *
    simp only [t295, rowR] at h
    simp [c295]
    simp [hC] at h
    rw [h]
    simp [r295, List.take_of_length_le]
set_option maxHeartbeats 4000000 in
/-- Rows. -/
theorem K288 (c : Bool) (ts : List Int) (k m g : Int) (L : List Rw) :
    K0 13 [.ptr 0 0 0 0] [PtB c ts k m g L] = some (.int .i64 L.length, [PtB c ts k m g L]) := by
  refine K_call k288 (oraG_none (by decide) (by decide)) (by simp [c288, PtB]) ?_
  unfold PtB
  generalize splitI g.toNat L = G
  generalize G.map (markR k.toNat) = Ms
  simp [c288]
set_option maxHeartbeats 4000000 in
/-- All. -/
theorem K291 (c : Bool) (ts : List Int) (k m g : Int) (L : List Rw) (hl : L.length ≤ 2 ^ 40) (hr : ∀ y ∈ L, y.r.length ≤ 2 ^ 40) :
    K0 19 [.ptr 0 0 0 0] [PtB c ts k m g L] = some (.slc L.isEmpty (if L = [] then 0 else 1) ((L.map clR).map Rw.d), [PtB c ts k m g L]) := by
  refine K_call k291 (oraG_none (by decide) (by decide)) (by simp [c291, PtB]) ?_
  have h := K295 false 1 L (.inl rfl) hl hr
  unfold PtB
  generalize splitI g.toNat L = G at *
  generalize G.map (markR k.toNat) = Ms at *
  generalize L.map clR = C at *
  generalize (if L = [] then 0 else 1) = s at *
  generalize L.isEmpty = e at *
  simp [c291, h]
set_option maxHeartbeats 4000000 in
/-- Granule. -/
theorem K289 (c : Bool) (ts : List Int) (k m g : Int) (L : List Rw) (hl : L.length ≤ 2 ^ 40) (hr : ∀ y ∈ L, y.r.length ≤ 2 ^ 40) (hg : 1 ≤ g) (i : Int) :
    K0 15 [.ptr 0 0 0 0, .int .i64 i] [PtB c ts k m g L] = some (if thereI i (splitI g.toNat L).length = true then
      (.tuple [.slc false 1 (((((splitI g.toNat L)[i.toNat]?).getD []).map clR).map Rw.d), .bool true], [PtB c ts k m g L])
      else (.tuple [nilS, .bool false], [PtB c ts k m g L])) := by
  refine K_call k289 (oraG_none (by decide) (by decide)) (by simp [c289, PtB]) ?_
  have hT := K262 c ts k m g L i
  cases hz : thereI i (splitI g.toNat L).length with
  | false =>
    rw [hz] at hT
    rw [if_neg (by decide)]
    unfold PtB at hT ⊢
    generalize splitI g.toNat L = G at *
    generalize G.map (markR k.toNat) = Ms at *
    simp [c289, hT, backK]
  | true =>
    rw [hz] at hT
    rw [if_pos rfl]
    obtain ⟨h0, h1⟩ := Bool.and_eq_true_iff.1 hz
    have h0 := leI_le h0
    have h1 : i < (splitI g.toNat L).length := by simpa [ltI] using h1
    obtain ⟨n, rfl⟩ : ∃ n : Nat, i = n := ⟨i.toNat, by omega⟩
    have hn : n < (splitI g.toNat L).length := by omega
    have hm := split_mem L g.toNat (by omega) L.length L (Nat.le_refl _) _ (List.getElem_mem hn)
    have hml := splitI_mem_len g.toNat (by omega) L.length L (Nat.le_refl _) _ (List.getElem_mem hn)
    obtain ⟨x, hx⟩ : ∃ x, (splitI g.toNat L)[n] = x := ⟨_, rfl⟩
    rw [hx] at hm hml
    have hxn : x ≠ [] := by obtain ⟨⟨y, ys, rfl⟩, _⟩ := hm; simp
    have hC := K295 true 1 x (.inl rfl) (by omega) (fun y hy => hr y (hm.2 y hy))
    have he : x.isEmpty = false := by cases x with
      | nil => exact absurd rfl hxn
      | cons a l => rfl
    rw [he, if_neg hxn] at hC
    unfold PtB at hT ⊢
    rw [Int.toNat_natCast, List.getElem?_eq_getElem hn, hx]
    simp only [Option.getD_some]
    generalize splitI g.toNat L = G at *
    generalize G.map (markR k.toNat) = Ms at *
    generalize x.map clR = C at *
    simp [c289, hT, backK, hn, hx, Gr, hC]
end Go.Ab
