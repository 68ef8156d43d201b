/- THE FUNCTIONS' EQUATIONS: schema.Take. -/
import Derived.Test.YtdopbfjebjnpkaaBF74
import Derived.Test.YtdopbfjebjnpkaaBF73
import Derived.Test.YtdopbfjebjnpkaaBF33
set_option linter.all false
set_option maxRecDepth 100000
namespace Go.Ab
open Go.Proofs Go.Proofs.YtdopbfjebjnpkaaH Go.Proofs.YtdopbfjebjnpkaaH.Crc Go.Proofs.YtdopbfjebjnpkaaH.Var Go.Proofs.YtdopbfjebjnpkaaH.Fr Go.Proofs.YtdopbfjebjnpkaaH.Rec
def b110_0 : C := (.seq (.seq (.reg none [⟨(some 9), none, (.mv (.t 0))⟩, ⟨(some 10), none, (.len 1 (.t 9))⟩, ⟨(some 11), none, (.bin .gtr [] (.t 10) (.k (.int .i64 0)))⟩]) (.cond (.t 11) .skip (.exit 0))) (.block 1 (.seq (.reg none [⟨(some 13), none, (.mv (.t 0))⟩, ⟨(some 14), none, (.call (.f 59) [(.t 13)])⟩, ⟨(some 12), none, (.mv (.t 14))⟩, ⟨(some 15), none, (.ext (.t 12) 0)⟩, ⟨(some 16), none, (.ext (.t 12) 1)⟩, ⟨(some 5), none, (.mv (.t 15))⟩, ⟨(some 6), none, (.mv (.t 16))⟩]) (.seq (.seq (.reg none [⟨(some 17), none, (.mv (.t 6))⟩, ⟨(some 18), none, (.bin .eql [] (.t 17) (.k (.int .i64 0)))⟩, ⟨(some 19), none, (.mv (.t 18))⟩, ⟨(some 20), (some ((some 19), false)), (.mv (.t 5))⟩, ⟨(some 21), (some ((some 19), false)), (.bin .gtr [] (.t 20) (.k (.int .u64 1048576)))⟩, ⟨(some 22), none, (.pick (.t 19) (.k (.bool true)) (.t 21))⟩]) (.cond (.t 22) (.seq (.reg none [⟨(some 23), none, (.bld [nilS, (.int .i64 0), (.int .i64 0), (.int .i64 0)] [])⟩, ⟨none, none, (.st 4 (.t 2) (.t 23))⟩, ⟨(some 3), none, (.mv (.k (.int .i64 10)))⟩]) .ret) .skip)) (.reg (some [(3, 7), (4, 7)]) [⟨(some 24), none, (.mv (.t 4))⟩, ⟨(some 25), none, (.mv (.t 5))⟩, ⟨(some 26), none, (.cvt (.int .i64) (.t 25))⟩, ⟨(some 27), none, (.bsl false 1 1 [(.int .i64 0)] [(0, (.t 26))])⟩, ⟨(some 28), none, (.app 1 8 (.t 24) (.t 27))⟩, ⟨(some 29), none, (.mv (.t 0))⟩, ⟨(some 30), none, (.mv (.t 6))⟩, ⟨(some 31), none, (.sub 1 1 (.t 29) (some (.t 30)) none none)⟩, ⟨(some 4), none, (.mv (.t 28))⟩, ⟨(some 0), none, (.mv (.t 31))⟩])))))
def c110 : Fn' := ⟨73, [(.cell 2 (some 4)), (.tmp 3)], (.seq (.reg none [⟨(some 2), none, (.alloc false [nilS, (.int .i64 0), (.int .i64 0), (.int .i64 0)])⟩, ⟨(some 3), none, (.mv (.k (.int .i64 0)))⟩]) (.seq (.reg none [⟨(some 4), none, .nilrow⟩]) (.seq (.block 0 (.loop b110_0)) (.seq (.seq (.reg none [⟨(some 32), none, (.mv (.t 4))⟩, ⟨(some 33), none, (.len 1 (.t 32))⟩, ⟨(some 34), none, (.bin .lss [] (.t 33) (.k (.int .i64 4)))⟩, ⟨(some 35), none, (.mv (.t 34))⟩, ⟨(some 36), (some ((some 35), false)), (.mv (.t 4))⟩, ⟨(some 37), (some ((some 35), false)), (.len 1 (.t 36))⟩, ⟨(some 38), (some ((some 35), false)), (.mv (.t 4))⟩, ⟨(some 39), (some ((some 35), false)), (.ia none 1 false (.t 38) (.k (.int .i64 0)))⟩, ⟨(some 40), (some ((some 35), false)), (.ld none (.t 39))⟩, ⟨(some 41), (some ((some 35), false)), (.bin .add [] (.t 40) (.k (.int .i64 4)))⟩, ⟨(some 42), (some ((some 35), false)), (.bin .neq [] (.t 37) (.t 41))⟩, ⟨(some 43), none, (.pick (.t 35) (.k (.bool true)) (.t 42))⟩]) (.cond (.t 43) (.seq (.reg none [⟨(some 44), none, (.bld [nilS, (.int .i64 0), (.int .i64 0), (.int .i64 0)] [])⟩, ⟨none, none, (.st 4 (.t 2) (.t 44))⟩, ⟨(some 3), none, (.mv (.k (.int .i64 10)))⟩]) .ret) .skip)) (.seq (.reg none [⟨(some 45), none, (.mv (.t 4))⟩, ⟨(some 46), none, (.ia none 1 false (.t 45) (.k (.int .i64 0)))⟩, ⟨(some 47), none, (.ld none (.t 46))⟩, ⟨(some 48), none, (.bin .add [] (.t 47) (.k (.int .i64 1)))⟩, ⟨(some 7), none, (.mv (.t 48))⟩]) (.seq (.reg (some [(3, 6), (3, 7), (3, 11), (6, 11), (7, 11), (3, 12), (6, 12), (7, 12), (3, 16), (6, 16), (7, 16), (11, 16), (12, 16), (3, 17), (6, 17), (7, 17), (11, 17), (12, 17), (3, 19), (6, 19), (7, 19), (11, 19), (12, 19), (16, 19), (17, 19)]) [⟨(some 49), none, (.mv (.t 4))⟩, ⟨(some 50), none, (.mv (.t 7))⟩, ⟨(some 51), none, (.mv (.t 7))⟩, ⟨(some 52), none, (.sub 1 1 (.t 49) (some (.k (.int .i64 1))) (some (.t 50)) (some (.t 51)))⟩, ⟨(some 53), none, (.mv (.t 4))⟩, ⟨(some 54), none, (.mv (.t 7))⟩, ⟨(some 55), none, (.ia none 1 false (.t 53) (.t 54))⟩, ⟨(some 56), none, (.ld none (.t 55))⟩, ⟨(some 57), none, (.mv (.t 4))⟩, ⟨(some 58), none, (.mv (.t 7))⟩, ⟨(some 59), none, (.bin .add [] (.t 58) (.k (.int .i64 1)))⟩, ⟨(some 60), none, (.ia none 1 false (.t 57) (.t 59))⟩, ⟨(some 61), none, (.ld none (.t 60))⟩, ⟨(some 62), none, (.mv (.t 4))⟩, ⟨(some 63), none, (.mv (.t 7))⟩, ⟨(some 64), none, (.bin .add [] (.t 63) (.k (.int .i64 2)))⟩, ⟨(some 65), none, (.ia none 1 false (.t 62) (.t 64))⟩, ⟨(some 66), none, (.ld none (.t 65))⟩, ⟨(some 67), none, (.bld [nilS, (.int .i64 0), (.int .i64 0), (.int .i64 0)] [(0, (1, (.t 52))), (1, (1, (.t 56))), (2, (1, (.t 61))), (3, (1, (.t 66)))])⟩, ⟨(some 8), none, (.alloc false [nilS, (.int .i64 0), (.int .i64 0), (.int .i64 0)])⟩, ⟨none, none, (.st 4 (.t 8) (.t 67))⟩]) (.seq (.seq (.reg none [⟨(some 68), none, (.ld (some 4) (.t 8))⟩, ⟨(some 69), none, (.call (.f 69) [(.t 68)])⟩, ⟨(some 70), none, (.bin .neq [] (.t 69) (.k (.int .i64 0)))⟩]) (.cond (.t 70) (.seq (.reg none [⟨(some 71), none, (.bld [nilS, (.int .i64 0), (.int .i64 0), (.int .i64 0)] [])⟩, ⟨none, none, (.st 4 (.t 2) (.t 71))⟩, ⟨(some 3), none, (.mv (.k (.int .i64 10)))⟩]) .ret) .skip)) (.seq (.reg none [⟨(some 72), none, (.ld (some 4) (.t 8))⟩, ⟨none, none, (.st 4 (.t 2) (.t 72))⟩, ⟨(some 3), none, (.mv (.k (.int .i64 0)))⟩]) .ret))))))))⟩
theorem k110 : compF Try.prog 81 = some c110 := by kernel_rfl
attribute [local simp] op_or op_an op_add op_eql op_neq op_lss op_gtr op_leq op_geq op_sub op_mul
attribute [-simp] intOp bin_shl
theorem Ks_ret {cf : Cfg} {call : CallFn} (k : List Kn) (s : St) : Ks cf call k .ret s = some (.ret, s) := by
  induction k with
  | nil => rfl
  | cons x k ih => cases x <;> simpa [Ks] using ih
theorem loopK_ret {cf : Cfg} {call : CallFn} (k : List Kn) (s : St) : loopK cf call (some (.ret, s)) k = some (.ret, s) := Ks_ret k s
def rowI (l : List Int) : Obj := .row (if l = [] then 0 else 1) (l.map (.int .i64)) 0
def t110 (c : Bool) (l : List Int) (a : Nat) : List D := [.slc c 1 (l.map (.int .u8)), .undef, .ptr 0 0 0 0, .int .i64 0, .sl 1 0 a a, .undef, .undef, .undef, .undef, .undef, .undef, .undef, .undef, .undef, .undef, .undef, .undef, .undef, .undef, .undef, .undef, .undef, .undef, .undef, .undef, .undef, .undef, .undef, .undef, .undef, .undef, .undef, .undef, .undef, .undef, .undef, .undef, .undef, .undef, .undef, .undef, .undef, .undef, .undef, .undef, .undef, .undef, .undef, .undef, .undef, .undef, .undef, .undef, .undef, .undef, .undef, .undef, .undef, .undef, .undef, .undef, .undef, .undef, .undef, .undef, .undef, .undef, .undef, .undef, .undef, .undef, .undef, .undef]
def b110 : Obj := .box [nilS, .int .i64 0, .int .i64 0, .int .i64 0]
set_option maxHeartbeats 4000000 in
theorem L110 (c : Bool) (y : List Int) (kn : List Kn) : ∀ (N : Nat) (l acc : List Int) (a : Nat), l.length ≤ N → a = acc.length → acc.length + l.length ≤ 2 ^ 40 → isB l →
    match nums l with
    | some v => LpB cf0 K0 b110_0 (t110 c y 0) 2 ⟨t110 c l a, [b110, rowI acc]⟩ = some (.exit 0, ⟨t110 c [] (acc ++ v).length, [b110, rowI (acc ++ v)]⟩)
    | none => finK false 0 [.cell 2 (some 4), .tmp 3] (loopK cf0 K0 (LpB cf0 K0 b110_0 (t110 c y 0) 2 ⟨t110 c l a, [b110, rowI acc]⟩) kn) = some (.tuple [.agg [nilS, .int .i64 0, .int .i64 0, .int .i64 0], .int .i64 10], []) := by
  intro N
  induction N with
  | zero =>
    intro l acc a hN ha hb hB
    have hl : l = [] := List.eq_nil_of_length_eq_zero (by omega)
    subst hl
    rw [nums_nil rfl]
    simp only
    rw [LpB_eq]
    simp only [t110]
    conv => lhs; arg 6; simp [b110_0]
    simp [ha, b110, rowI]
  | succ N ih =>
    intro l acc a hN ha hb hB
    by_cases hl : l = []
    · subst hl
      rw [nums_nil rfl]
      simp only
      rw [LpB_eq]
      simp only [t110]
      conv => lhs; arg 6; simp [b110_0]
      simp [ha, b110, rowI]
    have hl0 : ¬ l.length = 0 := fun e => hl (List.eq_nil_of_length_eq_zero e)
    have hp0 : 0 < l.length := by omega
    rw [nums_step hl0]
    have hr := varI_range l
    have hK := fun cl => K74 cl l (by omega) hB
    obtain ⟨x, hx⟩ : ∃ x : Nat, (varI l).1 = x := ⟨(varI l).1.toNat, by omega⟩
    obtain ⟨n, hn⟩ : ∃ n : Nat, (varI l).2 = n := ⟨(varI l).2.toNat, by omega⟩
    rw [hx, hn] at hK hr ⊢
    by_cases h1 : (n : Int) = 0
    · have h1' : ((n : Int) == 0) = true := by simp; omega
      rw [if_pos h1]
      simp only
      rw [LpB_eq]
      simp only [t110, b110]
      conv => lhs; arg 4; arg 3; arg 6; simp [b110_0, hp0, hK, h1']
      simp [Ks_ret]
    · have h1' : ((n : Int) == 0) = false := by simp; omega
      rw [if_neg h1]
      by_cases h2 : 1048576 < (x : Int)
      · rw [if_pos h2]
        simp only
        rw [LpB_eq]
        simp only [t110, b110]
        conv => lhs; arg 4; arg 3; arg 6; simp [b110_0, hp0, hK, h1', h2]
        simp [Ks_ret]
      · rw [if_neg h2]
        have hwx : IntKind.i64.wrap (x : Int) = x := w64 _ (by omega)
        have ih' := ih (l.drop n) (acc ++ [(x : Int)]) (acc ++ [(x : Int)]).length (by simp; omega) rfl (by simp; omega) (isB_drop hB _)
        have hnl : n ≤ l.length := by omega
        have m1 : List.drop n (l.map (D.int .u8)) = (l.drop n).map (D.int .u8) := by simp [List.map_drop]
        have e : (Int.toNat (n : Int)) = n := by omega
        rw [e]
        obtain ⟨r, hr2⟩ : ∃ r, l.drop n = r := ⟨_, rfl⟩
        rw [hr2] at m1 ih' ⊢
        have hb1 : (acc.length + 1) * 8 ≤ 70368744177664 := by omega
        cases hnm : nums r with
        | some v =>
          rw [hnm] at ih'
          simp only [Option.map_some] at ih' ⊢
          rw [show acc ++ ((x : Int) :: v) = acc ++ [(x : Int)] ++ v by simp]
          rw [LpB_eq]
          simp only [t110, b110, rowI] at ih' ⊢
          by_cases hacc : acc = []
          · subst hacc
            subst ha
            conv => lhs; arg 6; simp [b110_0, hp0, hK, h1', h2, hwx, hnl, m1, evOp, evM, wants, Ins.go, X.ev, iaM, ldM, binD, intOp, setD, applyW, Ek_ops_nil, allFree, free, callM, callP, appM]
            simp at ih' ⊢
            exact ih'
          · conv => lhs; arg 6; simp [b110_0, hp0, hK, h1', h2, hwx, hnl, m1, hacc, ha, hb1, evOp, evM, wants, Ins.go, X.ev, iaM, ldM, binD, intOp, setD, applyW, Ek_ops_nil, allFree, free, callM, callP, appM]
            simp [hacc] at ih' ⊢
            exact ih'
        | none =>
          rw [hnm] at ih'
          simp only [Option.map_none] at ih' ⊢
          rw [LpB_eq]
          simp only [t110, b110, rowI] at ih' ⊢
          by_cases hacc : acc = []
          · subst hacc
            subst ha
            conv => lhs; arg 4; arg 3; arg 6; simp [b110_0, hp0, hK, h1', h2, hwx, hnl, m1, evOp, evM, wants, Ins.go, X.ev, iaM, ldM, binD, intOp, setD, applyW, Ek_ops_nil, allFree, free, callM, callP, appM]
            simp at ih' ⊢
            exact ih'
          · conv => lhs; arg 4; arg 3; arg 6; simp [b110_0, hp0, hK, h1', h2, hwx, hnl, m1, hacc, ha, hb1, evOp, evM, wants, Ins.go, X.ev, iaM, ldM, binD, intOp, setD, applyW, Ek_ops_nil, allFree, free, callM, callP, appM]
            simp [hacc] at ih' ⊢
            exact ih'
theorem nums_range : ∀ (N : Nat) (l v : List Int), l.length ≤ N → nums l = some v → ∀ x ∈ v, 0 ≤ x ∧ x ≤ 1048576
  | 0, l, v, hN, h => by
    rw [nums_nil (by omega)] at h
    intro x hx
    rw [← Option.some.inj h] at hx
    cases hx
  | N + 1, l, v, hN, h => by
    by_cases hl : l.length = 0
    · rw [nums_nil hl] at h
      intro x hx
      rw [← Option.some.inj h] at hx
      cases hx
    · rw [nums_step hl] at h
      have hr := varI_range l
      by_cases h1 : (varI l).2 = 0
      · rw [if_pos h1] at h; cases h
      · rw [if_neg h1] at h
        by_cases h2 : 1048576 < (varI l).1
        · rw [if_pos h2] at h; cases h
        · rw [if_neg h2] at h
          obtain ⟨u, hu, rfl⟩ := Option.map_eq_some_iff.1 h
          intro x hx
          rcases List.mem_cons.1 hx with rfl | hx
          · omega
          · exact nums_range N _ u (by simp; omega) hu x hx
theorem getD_of {v : List Int} {i : Nat} {x : Int} (h : v[i]? = some x) : v.getD i 0 = x := by rw [List.getD_eq_getElem?_getD, h]; rfl
theorem schT_none {l : List Int} (h : nums l = none) : schT l = noSch := by unfold schT; rw [h]
theorem schT_short {l v : List Int} (h : nums l = some v) (h4 : v.length < 4) : schT l = noSch := by unfold schT; rw [h]; simp only; rw [if_pos h4]
theorem schT_ne {l v : List Int} (h : nums l = some v) (h4 : ¬ v.length < 4) (x : Int) (h0 : v[0]? = some x) (hne : ¬ (v.length : Int) = x + 4) : schT l = noSch := by
  unfold schT; rw [h]; simp only; rw [if_neg h4, getD_of h0, if_neg hne]
theorem schT_eq {l v : List Int} (h : nums l = some v) (q : Nat) (h0 : v[0]? = some (q : Int)) (hq : v.length = q + 4) (k m g : Int) (hk : v[q + 1]? = some k) (hm : v[q + 2]? = some m) (hg : v[q + 3]? = some g) :
    schT l = if schemaOk ((v.drop 1).take q) k m g = true then (((v.drop 1).take q, k, m, g), 0) else noSch := by
  unfold schT; rw [h]; simp only; rw [if_neg (by omega), getD_of h0, if_pos (by omega)]
  have e : (q : Int).toNat = q := by omega
  rw [e, getD_of hk, getD_of hm, getD_of hg]
set_option maxHeartbeats 8000000 in
/-- schema.Take. -/
theorem K110 (c : Bool) (l : List Int) (hl : l.length ≤ 2 ^ 39) (hB : isB l) : ∃ c' s, (s = 1 ∨ (schT l).1.1 = []) ∧ K0 81 [.slc c 1 (l.map (.int .u8))] [] = some (.tuple [Sd c' s (schT l).1.1 (schT l).1.2.1 (schT l).1.2.2.1 (schT l).1.2.2.2, .int .i64 (schT l).2], []) := by
  have h := fun kn => L110 c l kn l.length l [] 0 (Nat.le_refl _) rfl (by simp; omega) hB
  cases hn : nums l with
  | none =>
    rw [schT_none hn]
    refine ⟨true, 0, .inr rfl, K_call k110 (oraG_none (by decide) (by decide)) (by simp [c110]) ?_⟩
    rw [hn] at h
    simp only [t110, b110, rowI] at h
    simp [c110]
    simp at h
    exact h _
  | some v =>
    rw [hn] at h
    simp only [List.nil_append] at h
    have h := h []
    have hv := nums_range _ l v (Nat.le_refl _) hn
    by_cases h4 : v.length < 4
    · rw [schT_short hn h4]
      refine ⟨true, 0, .inr rfl, K_call k110 (oraG_none (by decide) (by decide)) (by simp [c110]) ?_⟩
      simp only [t110, b110, rowI] at h
      have h4' : (v.length : Int) < 4 := by omega
      simp [c110]
      simp at h
      rw [h]
      simp [h4', noSch, Sd]
    · obtain ⟨x, hx0⟩ : ∃ x, v[0]? = some x := ⟨v[0]'(by omega), List.getElem?_eq_getElem _⟩
      have hxr := hv x (List.mem_of_getElem? hx0)
      obtain ⟨q, rfl⟩ := Int.eq_ofNat_of_zero_le hxr.1
      have h4' : ¬ (v.length : Int) < 4 := by omega
      have hvn : ¬ v = [] := by intro e; rw [e] at h4; simp at h4
      have w4 : IntKind.i64.wrap ((q : Int) + 4) = q + 4 := w64 _ (by omega)
      have hp0 : 0 < v.length := by omega
      have hgi : v[0]'hp0 = (q : Int) := by rw [List.getElem?_eq_getElem hp0] at hx0; exact Option.some.inj hx0
      by_cases hq : v.length = q + 4
      · have hne : ((v.length : Int) != (q : Int) + 4) = false := by simp; omega
        obtain ⟨A, hA⟩ : ∃ A, A = q + 1 := ⟨_, rfl⟩
        obtain ⟨B, hB2⟩ : ∃ B, B = q + 2 := ⟨_, rfl⟩
        obtain ⟨C, hC⟩ : ∃ C, C = q + 3 := ⟨_, rfl⟩
        have wA : IntKind.i64.wrap ((q : Int) + 1) = A := by rw [w64 _ (by omega)]; omega
        have wB : IntKind.i64.wrap ((A : Int) + 1) = B := by rw [w64 _ (by omega)]; omega
        have wC : IntKind.i64.wrap ((A : Int) + 2) = C := by rw [w64 _ (by omega)]; omega
        have lA : A < v.length := by omega
        have lA1 : A ≤ v.length := by omega
        have l1A : 1 ≤ A := by omega
        have i1A : 1 ≤ (A : Int) := by omega
        have lB : B < v.length := by omega
        have lC : C < v.length := by omega
        obtain ⟨k, hk⟩ : ∃ k, v[A]'lA = k := ⟨_, rfl⟩
        obtain ⟨m, hm⟩ : ∃ m, v[B]'lB = m := ⟨_, rfl⟩
        obtain ⟨g, hg⟩ : ∃ g, v[C]'lC = g := ⟨_, rfl⟩
        have hk' : v[A]? = some k := by rw [List.getElem?_eq_getElem lA, hk]
        have hm' : v[B]? = some m := by rw [List.getElem?_eq_getElem lB, hm]
        have hg' : v[C]? = some g := by rw [List.getElem?_eq_getElem lC, hg]
        obtain ⟨ts, hts⟩ : ∃ ts, (v.drop 1).take q = ts := ⟨_, rfl⟩
        have m1 : (List.take A (v.map (D.int .i64))).tail = ts.map (D.int .i64) := by
          rw [← hts, hA, ← List.drop_one, List.drop_take]
          simp
        have htl : ts.length = q := by rw [← hts]; simp; omega
        have hS := schT_eq hn q hx0 hq k m g (by rw [← hA]; exact hk') (by rw [← hB2]; exact hm') (by rw [← hC]; exact hg')
        rw [hts] at hS
        have hch := fun c => K71 c 1 ts (.inl rfl) k m g (by omega)
        unfold Sd at hch
        cases hok : schemaOk ts k m g with
        | true =>
          rw [hS, if_pos hok]
          refine ⟨false, 1, .inl rfl, K_call k110 (oraG_none (by decide) (by decide)) (by simp [c110]) ?_⟩
          have hce : checkI ts k m g = 0 := if_pos hok
          rw [hce] at hch
          simp only [t110, b110, rowI] at h
          simp [c110]
          simp [hvn] at h
          rw [h]
          simp [h4', w4, hne, hp0, hgi, wA, wB, wC, lA, lA1, l1A, i1A, lB, lC, hk, hm, hg, m1, hch, evOp, evM, wants, Ins.go, X.ev, iaM, ldM, binD, intOp, setD, applyW, Ek_ops_nil, allFree, free, callM, callP, appM]
          simp [Sd]
        | false =>
          rw [hS, if_neg (by rw [hok]; decide)]
          refine ⟨true, 0, .inr rfl, K_call k110 (oraG_none (by decide) (by decide)) (by simp [c110]) ?_⟩
          have hce : checkI ts k m g = 20 := if_neg (by rw [hok]; decide)
          rw [hce] at hch
          simp only [t110, b110, rowI] at h
          simp [c110]
          simp [hvn] at h
          rw [h]
          simp [h4', w4, hne, hp0, hgi, wA, wB, wC, lA, lA1, l1A, i1A, lB, lC, hk, hm, hg, m1, hch, noSch, Sd, evOp, evM, wants, Ins.go, X.ev, iaM, ldM, binD, intOp, setD, applyW, Ek_ops_nil, allFree, free, callM, callP, appM]
      · have hne : ((v.length : Int) != (q : Int) + 4) = true := by simp; omega
        rw [schT_ne hn h4 _ hx0 (by omega)]
        refine ⟨true, 0, .inr rfl, K_call k110 (oraG_none (by decide) (by decide)) (by simp [c110]) ?_⟩
        simp only [t110, b110, rowI] at h
        simp [c110]
        simp [hvn] at h
        rw [h]
        simp [h4', w4, hne, hp0, hgi, noSch, Sd]
end Go.Ab
/- THE FUNCTIONS' EQUATIONS: thresherref16: may, numbers. -/
set_option linter.all false
set_option maxRecDepth 100000
namespace Go.Ab
open Go.Proofs Go.Proofs.YtdopbfjebjnpkaaH Go.Proofs.YtdopbfjebjnpkaaH.Crc Go.Proofs.YtdopbfjebjnpkaaH.Var Go.Proofs.YtdopbfjebjnpkaaH.Fr Go.Proofs.YtdopbfjebjnpkaaH.Rec
def b37_0 : C := (.seq (.seq (.reg none [⟨(some 14), none, (.mv (.t 5))⟩, ⟨(some 15), none, (.fa 5 1 false (.t 1))⟩, ⟨(some 16), none, (.ld none (.t 15))⟩, ⟨(some 17), none, (.len 1 (.t 16))⟩, ⟨(some 18), none, (.bin .lss [] (.t 14) (.t 17))⟩]) (.cond (.t 18) .skip (.exit 0))) (.seq (.block 1 (.seq (.reg none [⟨(some 21), none, (.fa 5 1 false (.t 1))⟩, ⟨(some 22), none, (.ld none (.t 21))⟩, ⟨(some 23), none, (.mv (.t 5))⟩, ⟨(some 24), none, (.ia none 1 false (.t 22) (.t 23))⟩, ⟨(some 25), none, (.ld none (.t 24))⟩, ⟨(some 26), none, (.bin .lss [] (.t 25) (.k (.int .i64 0)))⟩, ⟨(some 27), none, (.mv (.t 26))⟩, ⟨(some 28), (some ((some 27), false)), (.fa 5 1 false (.t 1))⟩, ⟨(some 29), (some ((some 27), false)), (.ld none (.t 28))⟩, ⟨(some 30), (some ((some 27), false)), (.mv (.t 5))⟩, ⟨(some 31), (some ((some 27), false)), (.ia none 1 false (.t 29) (.t 30))⟩, ⟨(some 32), (some ((some 27), false)), (.ld none (.t 31))⟩, ⟨(some 33), (some ((some 27), false)), (.bin .gtr [] (.t 32) (.k (.int .i64 999999)))⟩, ⟨(some 34), none, (.pick (.t 27) (.k (.bool true)) (.t 33))⟩]) (.cond (.t 34) (.seq (.reg none [⟨(some 2), none, (.mv (.k (.bool false)))⟩]) .ret) .skip))) (.reg none [⟨(some 19), none, (.mv (.t 5))⟩, ⟨(some 20), none, (.bin .add [] (.t 19) (.k (.int .i64 1)))⟩, ⟨(some 5), none, (.mv (.t 20))⟩])))
def c37 : Fn' := ⟨72, [(.tmp 2)], (.seq (.reg none [⟨(some 1), none, (.box false (.t 0))⟩, ⟨(some 2), none, (.mv (.k (.bool false)))⟩]) (.seq (.reg none [⟨(some 6), none, (.fa 1 4 true (.t 1))⟩, ⟨(some 7), none, (.ld (some 4) (.t 6))⟩, ⟨(some 8), none, (.bld [nilS, (.int .i64 0), (.int .i64 0), (.int .i64 0)] [])⟩, ⟨(some 9), none, (.call (.f 35) [(.t 7), (.t 8)])⟩, ⟨(some 3), none, (.mv (.t 9))⟩]) (.seq (.reg none [⟨(some 10), none, (.fa 1 4 true (.t 1))⟩, ⟨(some 11), none, (.ld (some 4) (.t 10))⟩, ⟨(some 12), none, (.call (.f 43) [(.t 11)])⟩, ⟨(some 13), none, (.bin .eql [] (.t 12) (.k (.int .i64 0)))⟩, ⟨(some 4), none, (.mv (.t 13))⟩]) (.seq (.seq (.reg none [⟨(some 5), none, (.mv (.k (.int .i64 0)))⟩]) (.block 0 (.loop b37_0))) (.seq (.seq (.reg none [⟨(some 35), none, (.fa 6 1 false (.t 1))⟩, ⟨(some 36), none, (.ld none (.t 35))⟩, ⟨(some 37), none, (.bin .lss [] (.t 36) (.k (.int .i64 0)))⟩, ⟨(some 38), none, (.mv (.t 37))⟩, ⟨(some 39), (some ((some 38), false)), (.fa 6 1 false (.t 1))⟩, ⟨(some 40), (some ((some 38), false)), (.ld none (.t 39))⟩, ⟨(some 41), (some ((some 38), false)), (.bin .gtr [] (.t 40) (.k (.int .i64 999999)))⟩, ⟨(some 42), none, (.pick (.t 38) (.k (.bool true)) (.t 41))⟩, ⟨(some 43), none, (.mv (.t 42))⟩, ⟨(some 44), (some ((some 43), false)), (.fa 5 1 false (.t 1))⟩, ⟨(some 45), (some ((some 43), false)), (.ld none (.t 44))⟩, ⟨(some 46), (some ((some 43), false)), (.len 1 (.t 45))⟩, ⟨(some 47), (some ((some 43), false)), (.bin .gtr [] (.t 46) (.k (.int .i64 40)))⟩, ⟨(some 48), none, (.pick (.t 43) (.k (.bool true)) (.t 47))⟩]) (.cond (.t 48) (.seq (.reg none [⟨(some 2), none, (.mv (.k (.bool false)))⟩]) .ret) .skip)) (.seq (.seq (.reg none [⟨(some 49), none, (.fa 0 1 false (.t 1))⟩, ⟨(some 50), none, (.ld none (.t 49))⟩]) (.block 2 (.seq (.reg none [⟨(some 52), none, (.bin .eql [] (.t 50) (.k (.int .i64 1)))⟩, ⟨(some 51), none, (.mv (.t 52))⟩]) (.cond (.t 51) (.seq (.reg none [⟨(some 53), none, (.mv (.t 4))⟩, ⟨(some 2), none, (.mv (.t 53))⟩]) .ret) (.seq (.reg none [⟨(some 55), none, (.bin .eql [] (.t 50) (.k (.int .i64 2)))⟩, ⟨(some 54), none, (.mv (.t 55))⟩]) (.cond (.t 54) (.seq (.reg none [⟨(some 56), none, (.mv (.t 3))⟩, ⟨(some 57), none, (.mv (.t 56))⟩, ⟨(some 58), (some ((some 57), true)), (.fa 5 1 false (.t 1))⟩, ⟨(some 59), (some ((some 57), true)), (.ld none (.t 58))⟩, ⟨(some 60), (some ((some 57), true)), (.len 1 (.t 59))⟩, ⟨(some 61), (some ((some 57), true)), (.bin .eql [] (.t 60) (.k (.int .i64 0)))⟩, ⟨(some 62), none, (.pick (.t 57) (.t 61) (.k (.bool false)))⟩, ⟨(some 2), none, (.mv (.t 62))⟩]) .ret) (.seq (.reg none [⟨(some 64), none, (.bin .eql [] (.t 50) (.k (.int .i64 3)))⟩, ⟨(some 63), none, (.mv (.t 64))⟩]) (.cond (.t 63) (.seq (.reg none [⟨(some 65), none, (.mv (.t 3))⟩, ⟨(some 66), none, (.mv (.t 65))⟩, ⟨(some 67), (some ((some 66), true)), (.fa 5 1 false (.t 1))⟩, ⟨(some 68), (some ((some 66), true)), (.ld none (.t 67))⟩, ⟨(some 69), (some ((some 66), true)), (.len 1 (.t 68))⟩, ⟨(some 70), (some ((some 66), true)), (.bin .geq [] (.t 69) (.k (.int .i64 2)))⟩, ⟨(some 71), none, (.pick (.t 66) (.t 70) (.k (.bool false)))⟩, ⟨(some 2), none, (.mv (.t 71))⟩]) .ret) .skip)))))))) (.seq (.reg none [⟨(some 2), none, (.mv (.k (.bool false)))⟩]) .ret)))))))⟩
theorem k37 : compF Try.prog 24 = some c37 := by kernel_rfl
def b40_0 : C := (.seq (.seq (.reg none [⟨(some 9), none, (.mv (.t 4))⟩, ⟨(some 10), none, (.mv (.t 0))⟩, ⟨(some 11), none, (.len 1 (.t 10))⟩, ⟨(some 12), none, (.bin .lss [] (.t 9) (.t 11))⟩]) (.cond (.t 12) .skip (.exit 0))) (.seq (.block 1 (.reg none [⟨(some 15), none, (.mv (.t 3))⟩, ⟨(some 16), none, (.mv (.t 0))⟩, ⟨(some 17), none, (.mv (.t 4))⟩, ⟨(some 18), none, (.ia none 1 false (.t 16) (.t 17))⟩, ⟨(some 19), none, (.ld none (.t 18))⟩, ⟨(some 20), none, (.cvt (.int .u64) (.t 19))⟩, ⟨(some 21), none, (.call (.f 26) [(.t 20)])⟩, ⟨(some 22), none, (.app 1 1 (.t 15) (.t 21))⟩, ⟨(some 3), none, (.mv (.t 22))⟩])) (.reg none [⟨(some 13), none, (.mv (.t 4))⟩, ⟨(some 14), none, (.bin .add [] (.t 13) (.k (.int .i64 1)))⟩, ⟨(some 4), none, (.mv (.t 14))⟩])))
def c40 : Fn' := ⟨24, [(.tmp 2)], (.seq (.reg none [⟨(some 2), none, (.mv (.k nilS))⟩]) (.seq (.reg none [⟨(some 5), none, (.mv (.t 0))⟩, ⟨(some 6), none, (.len 1 (.t 5))⟩, ⟨(some 7), none, (.cvt (.int .u64) (.t 6))⟩, ⟨(some 8), none, (.call (.f 26) [(.t 7)])⟩, ⟨(some 3), none, (.mv (.t 8))⟩]) (.seq (.seq (.reg none [⟨(some 4), none, (.mv (.k (.int .i64 0)))⟩]) (.block 0 (.loop b40_0))) (.seq (.reg none [⟨(some 23), none, (.mv (.t 3))⟩, ⟨(some 2), none, (.mv (.t 23))⟩]) .ret))))⟩
theorem k40 : compF Try.prog 27 = some c40 := by kernel_rfl
attribute [local simp] op_or op_an op_add op_sub op_mul oq_eql oq_neq oq_lss oq_gtr oq_leq oq_geq
attribute [-simp] intOp bin_shl
def t37 (kd : Int) (x : D) (k m g : Int) (y : D) (id : Int) (nn ff : Bool) (ch : Int) (i : Nat) : List D := [.agg [.int .i64 kd, x, .int .i64 k, .int .i64 m, .int .i64 g, y, .int .i64 id], .ptr 0 0 0 0, .bool false, .bool nn, .bool ff, .int .i64 i, .ptr 0 0 1 0, .agg [x, .int .i64 k, .int .i64 m, .int .i64 g], .agg [nilS, .int .i64 0, .int .i64 0, .int .i64 0], .bool nn, .ptr 0 0 1 0, .agg [x, .int .i64 k, .int .i64 m, .int .i64 g], .int .i64 ch, .bool ff, .undef, .undef, .undef, .undef, .undef, .undef, .undef, .undef, .undef, .undef, .undef, .undef, .undef, .undef, .undef, .undef, .undef, .undef, .undef, .undef, .undef, .undef, .undef, .undef, .undef, .undef, .undef, .undef, .undef, .undef, .undef, .undef, .undef, .undef, .undef, .undef, .undef, .undef, .undef, .undef, .undef, .undef, .undef, .undef, .undef, .undef, .undef, .undef, .undef, .undef, .undef, .undef, .undef, .undef, .undef, .undef, .undef, .undef]
def H37 (kd : Int) (x : D) (k m g : Int) (y : D) (id : Int) : List Obj := [.box [.int .i64 kd, x, .int .i64 k, .int .i64 m, .int .i64 g, y, .int .i64 id]]
set_option maxHeartbeats 8000000 in
theorem L37 (kd : Int) (x : D) (k m g : Int) (c : Bool) (ids : List Int) (id : Int) (nn ff : Bool) (ch : Int) (hl : ids.length ≤ 2 ^ 47) : ∀ (t pre : List Int) (i : Nat), ids = pre ++ t → i = pre.length →
    (t.any odd = false → LpB cf0 K0 b37_0 (t37 kd x k m g (Sl c ids) id nn ff ch 0) 1 ⟨t37 kd x k m g (Sl c ids) id nn ff ch i, H37 kd x k m g (Sl c ids) id⟩ = some (.exit 0, ⟨t37 kd x k m g (Sl c ids) id nn ff ch ids.length, H37 kd x k m g (Sl c ids) id⟩)) ∧
    (t.any odd = true → ∀ kn, finK false 0 [.tmp 2] (loopK cf0 K0 (LpB cf0 K0 b37_0 (t37 kd x k m g (Sl c ids) id nn ff ch 0) 1 ⟨t37 kd x k m g (Sl c ids) id nn ff ch i, H37 kd x k m g (Sl c ids) id⟩) kn) = some (.bool false, []))
  | [], pre, i, h, hi => by
    have : ids = pre := by simpa using h
    subst this
    refine ⟨fun _ => ?_, fun h => by simp at h⟩
    have z1 : ltI (i : Int) ids.length = false := ltI_f (by omega)
    rw [LpB_eq]
    simp only [t37, H37]
    conv => lhs; arg 6; simp [b37_0, z1]
    simp [hi]
  | a :: t, pre, i, h, hi => by
    have hll : i < ids.length := by rw [h, hi]; simp
    have z1 : ltI (i : Int) ids.length = true := ltI_t (by omega)
    have hget : ids[i]? = some a := by rw [h, hi]; simp
    have hgi : ids[i]'hll = a := by rw [List.getElem?_eq_getElem hll] at hget; exact Option.some.inj hget
    have hw := w64 (i + 1) (by omega)
    have eo : odd a = (ltI a 0 || ltI 999999 a) := rfl
    have ih := L37 kd x k m g c ids id nn ff ch hl t (pre ++ [a]) (i + 1) (by rw [h]; simp) (by simp [hi])
    rw [LpB_eq, List.any_cons, eo]
    cases z2 : ltI a 0 with
    | true =>
      refine ⟨fun h => by simp at h, fun _ kn => ?_⟩
      simp only [t37, H37]
      conv => lhs; arg 4; arg 3; arg 6; simp [b37_0, z1, hll, hgi, z2]
      simp [Ks_ret]
    | false =>
      cases z3 : ltI 999999 a with
      | true =>
        refine ⟨fun h => by simp at h, fun _ kn => ?_⟩
        simp only [t37, H37]
        conv => lhs; arg 4; arg 3; arg 6; simp [b37_0, z1, hll, hgi, z2, z3]
        simp [Ks_ret]
      | false =>
        refine ⟨fun h => ?_, fun h kn => ?_⟩
        · have ih' := ih.1 (by simpa using h)
          simp only [t37, H37] at ih' ⊢
          conv => lhs; arg 6; simp [b37_0, z1, hll, hgi, z2, z3, hw]
          simp at ih' ⊢
          exact ih'
        · have ih' := ih.2 (by simpa using h) kn
          simp only [t37, H37] at ih' ⊢
          conv => lhs; arg 4; arg 3; arg 6; simp [b37_0, z1, hll, hgi, z2, z3, hw]
          simp at ih' ⊢
          exact ih'
theorem leI_two (n : Nat) : leI 2 (n : Int) = ltI 1 (n : Int) := by unfold leI ltI; rw [Bool.eq_iff_iff]; simp; omega
set_option maxHeartbeats 8000000 in
/-- thresherref16.may. -/
theorem K37 (kd : Int) (c : Bool) (s : Nat) (ts : List Int) (k m g : Int) (c' : Bool) (s' : Nat) (ids : List Int) (id : Int) (hs : s = 1 ∨ ts = []) (hs' : s' = 1 ∨ ids = []) (hl : ts.length ≤ 2 ^ 47) (hl' : ids.length ≤ 2 ^ 47) :
    K0 24 [Rcd kd c s ts k m g c' s' ids id] [] = some (.bool (mayI kd ts k m g ids id), []) := by
  refine K_call k37 (oraG_none (by decide) (by decide)) (by simp [c37, Rcd]) ?_
  have h1 := K46 c true s 0 ts [] k m g 0 0 0 hs (.inr rfl) hl
  have h2 := K73 c s ts hs k m g hl
  have e1 : decide (ts = [] ∧ k = 0 ∧ m = 0 ∧ g = 0) = (eqI ts.length 0 && eqI k 0 && eqI m 0 && eqI g 0) := by
    unfold eqI
    rw [Bool.eq_iff_iff]
    simp [and_assoc]
  rw [e1] at h1
  rw [mayI_eq]
  have eo : odd id = (ltI id 0 || ltI 999999 id) := rfl
  unfold mayR
  rw [eo]
  unfold Sd at h1 h2
  unfold Rcd
  simp only [List.map_nil] at h1
  generalize (eqI ts.length 0 && eqI k 0 && eqI m 0 && eqI g 0) = nn at *
  generalize checkI ts k m g = ch at *
  obtain ⟨ff, hff⟩ : ∃ z, eqI ch 0 = z := ⟨_, rfl⟩
  rw [hff]
  have hloop : ∀ s', (s' = 1 ∨ ids = []) → (ids.any odd = false → LpB cf0 K0 b37_0 (t37 kd (.slc c s (ts.map (.int .i64))) k m g (.slc c' s' (ids.map (.int .i64))) id nn ff ch 0) 1 ⟨t37 kd (.slc c s (ts.map (.int .i64))) k m g (.slc c' s' (ids.map (.int .i64))) id nn ff ch 0, H37 kd (.slc c s (ts.map (.int .i64))) k m g (.slc c' s' (ids.map (.int .i64))) id⟩ = some (.exit 0, ⟨t37 kd (.slc c s (ts.map (.int .i64))) k m g (.slc c' s' (ids.map (.int .i64))) id nn ff ch ids.length, H37 kd (.slc c s (ts.map (.int .i64))) k m g (.slc c' s' (ids.map (.int .i64))) id⟩)) ∧
    (ids.any odd = true → ∀ kn, finK false 0 [.tmp 2] (loopK cf0 K0 (LpB cf0 K0 b37_0 (t37 kd (.slc c s (ts.map (.int .i64))) k m g (.slc c' s' (ids.map (.int .i64))) id nn ff ch 0) 1 ⟨t37 kd (.slc c s (ts.map (.int .i64))) k m g (.slc c' s' (ids.map (.int .i64))) id nn ff ch 0, H37 kd (.slc c s (ts.map (.int .i64))) k m g (.slc c' s' (ids.map (.int .i64))) id⟩) kn) = some (.bool false, [])) := by
    intro s' hs'
    rcases hs' with rfl | rfl
    · exact L37 kd (.slc c s (ts.map (.int .i64))) k m g c' ids id nn ff ch hl' ids [] 0 rfl rfl
    · refine ⟨fun _ => ?_, fun h => by simp at h⟩
      have z1 : ltI 0 0 = false := rfl
      rw [LpB_eq]
      simp only [t37, H37]
      conv => lhs; arg 6; simp [b37_0, z1]
      simp
  have hL := hloop s' hs'
  clear hloop
  cases ha : ids.any odd with
  | true =>
    have h := hL.2 ha
    simp only [t37, H37] at h
    simp [c37, h1, h2, hff]
    simp at h
    exact h _
  | false =>
    have h := hL.1 ha
    simp only [t37, H37] at h
    simp at h
    obtain ⟨i1, hi1⟩ : ∃ z, ltI id 0 = z := ⟨_, rfl⟩
    obtain ⟨i2, hi2⟩ : ∃ z, ltI 999999 id = z := ⟨_, rfl⟩
    obtain ⟨l4, hl4⟩ : ∃ z, ltI 40 ids.length = z := ⟨_, rfl⟩
    obtain ⟨k1, hk1⟩ : ∃ z, eqI kd 1 = z := ⟨_, rfl⟩
    obtain ⟨k2, hk2⟩ : ∃ z, eqI kd 2 = z := ⟨_, rfl⟩
    obtain ⟨k3, hk3⟩ : ∃ z, eqI kd 3 = z := ⟨_, rfl⟩
    obtain ⟨i0, hi0⟩ : ∃ z, eqI ids.length 0 = z := ⟨_, rfl⟩
    obtain ⟨l1, hl1⟩ : ∃ z, ltI 1 ids.length = z := ⟨_, rfl⟩
    have hl2 : leI 2 (ids.length : Int) = l1 := by rw [leI_two, hl1]
    rw [hi1, hi2, hl4, hk1, hk2, hk3, hi0, hl1]
    cases i1
    rotate_left
    · simp [c37, h1, h2, hff]
      rw [h]
      simp [hi1]
    cases i2
    rotate_left
    · simp [c37, h1, h2, hff]
      rw [h]
      simp [hi1, hi2]
    cases l4
    rotate_left
    · simp [c37, h1, h2, hff]
      rw [h]
      simp [hi1, hi2, hl4]
    cases k1
    rotate_left
    · simp [c37, h1, h2, hff]
      rw [h]
      simp [hi1, hi2, hl4, hk1]
    cases k2
    rotate_left
    · simp [c37, h1, h2, hff]
      rw [h]
      cases nn <;> simp [hi1, hi2, hl4, hk1, hk2, hi0]
    cases k3
    rotate_left
    · simp [c37, h1, h2, hff]
      rw [h]
      cases nn <;> simp [hi1, hi2, hl4, hk1, hk2, hk3, hl2]
    · simp [c37, h1, h2, hff]
      rw [h]
      simp [hi1, hi2, hl4, hk1, hk2, hk3]
end Go.Ab
