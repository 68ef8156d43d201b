/- THE FUNCTIONS' EQUATIONS: schema.Take. -/
import Derived.Test.YtanfmnobanhcnaaBF71
set_option linter.all false
set_option maxRecDepth 100000
namespace Go.Ab
open Go.Proofs Go.Proofs.YtanfmnobanhcnaaH Go.Proofs.YtanfmnobanhcnaaH.Crc Go.Proofs.YtanfmnobanhcnaaH.Var Go.Proofs.YtanfmnobanhcnaaH.Fr Go.Proofs.YtanfmnobanhcnaaH.Rec
def b110_0 : C := (.seq (.seq (.reg none [⟨(some 9), none, (.mv (.t 0))⟩, ⟨(some 10), none, (.len 1 (.t 9))⟩, ⟨(some 11), none, (.bin .gtr [] (.t 10) (.k (.int .i64 0)))⟩]) (.cond (.t 11) .skip (.exit 0))) (.block 1 (.seq (.reg none [⟨(some 13), none, (.mv (.t 0))⟩, ⟨(some 14), none, (.call (.f 74) [(.t 13)])⟩, ⟨(some 12), none, (.mv (.t 14))⟩, ⟨(some 15), none, (.ext (.t 12) 0)⟩, ⟨(some 16), none, (.ext (.t 12) 1)⟩, ⟨(some 5), none, (.mv (.t 15))⟩, ⟨(some 6), none, (.mv (.t 16))⟩]) (.seq (.seq (.reg none [⟨(some 17), none, (.mv (.t 6))⟩, ⟨(some 18), none, (.bin .eql [] (.t 17) (.k (.int .i64 0)))⟩, ⟨(some 19), none, (.mv (.t 18))⟩, ⟨(some 20), (some ((some 19), false)), (.mv (.t 5))⟩, ⟨(some 21), (some ((some 19), false)), (.bin .gtr [] (.t 20) (.k (.int .u64 1048576)))⟩, ⟨(some 22), none, (.pick (.t 19) (.k (.bool true)) (.t 21))⟩]) (.cond (.t 22) (.seq (.reg none [⟨(some 23), none, (.bld [nilS, (.int .i64 0), (.int .i64 0), (.int .i64 0)] [])⟩, ⟨none, none, (.st 4 (.t 2) (.t 23))⟩, ⟨(some 3), none, (.mv (.k (.int .i64 10)))⟩]) .ret) .skip)) (.reg (some [(3, 7), (4, 7)]) [⟨(some 24), none, (.mv (.t 4))⟩, ⟨(some 25), none, (.mv (.t 5))⟩, ⟨(some 26), none, (.cvt (.int .i64) (.t 25))⟩, ⟨(some 27), none, (.bsl false 1 1 [(.int .i64 0)] [(0, (.t 26))])⟩, ⟨(some 28), none, (.app 1 8 (.t 24) (.t 27))⟩, ⟨(some 29), none, (.mv (.t 0))⟩, ⟨(some 30), none, (.mv (.t 6))⟩, ⟨(some 31), none, (.sub 1 1 (.t 29) (some (.t 30)) none none)⟩, ⟨(some 4), none, (.mv (.t 28))⟩, ⟨(some 0), none, (.mv (.t 31))⟩])))))
def c110 : Fn' := ⟨73, [(.cell 2 (some 4)), (.tmp 3)], (.seq (.reg none [⟨(some 2), none, (.alloc false [nilS, (.int .i64 0), (.int .i64 0), (.int .i64 0)])⟩, ⟨(some 3), none, (.mv (.k (.int .i64 0)))⟩]) (.seq (.reg none [⟨(some 4), none, .nilrow⟩]) (.seq (.block 0 (.loop b110_0)) (.seq (.seq (.reg none [⟨(some 32), none, (.mv (.t 4))⟩, ⟨(some 33), none, (.len 1 (.t 32))⟩, ⟨(some 34), none, (.bin .lss [] (.t 33) (.k (.int .i64 4)))⟩, ⟨(some 35), none, (.mv (.t 34))⟩, ⟨(some 36), (some ((some 35), false)), (.mv (.t 4))⟩, ⟨(some 37), (some ((some 35), false)), (.len 1 (.t 36))⟩, ⟨(some 38), (some ((some 35), false)), (.mv (.t 4))⟩, ⟨(some 39), (some ((some 35), false)), (.ia none 1 false (.t 38) (.k (.int .i64 0)))⟩, ⟨(some 40), (some ((some 35), false)), (.ld none (.t 39))⟩, ⟨(some 41), (some ((some 35), false)), (.bin .add [] (.t 40) (.k (.int .i64 4)))⟩, ⟨(some 42), (some ((some 35), false)), (.bin .neq [] (.t 37) (.t 41))⟩, ⟨(some 43), none, (.pick (.t 35) (.k (.bool true)) (.t 42))⟩]) (.cond (.t 43) (.seq (.reg none [⟨(some 44), none, (.bld [nilS, (.int .i64 0), (.int .i64 0), (.int .i64 0)] [])⟩, ⟨none, none, (.st 4 (.t 2) (.t 44))⟩, ⟨(some 3), none, (.mv (.k (.int .i64 10)))⟩]) .ret) .skip)) (.seq (.reg none [⟨(some 45), none, (.mv (.t 4))⟩, ⟨(some 46), none, (.ia none 1 false (.t 45) (.k (.int .i64 0)))⟩, ⟨(some 47), none, (.ld none (.t 46))⟩, ⟨(some 48), none, (.bin .add [] (.t 47) (.k (.int .i64 1)))⟩, ⟨(some 7), none, (.mv (.t 48))⟩]) (.seq (.reg (some [(3, 6), (3, 7), (3, 11), (6, 11), (7, 11), (3, 12), (6, 12), (7, 12), (3, 16), (6, 16), (7, 16), (11, 16), (12, 16), (3, 17), (6, 17), (7, 17), (11, 17), (12, 17), (3, 19), (6, 19), (7, 19), (11, 19), (12, 19), (16, 19), (17, 19)]) [⟨(some 49), none, (.mv (.t 4))⟩, ⟨(some 50), none, (.mv (.t 7))⟩, ⟨(some 51), none, (.mv (.t 7))⟩, ⟨(some 52), none, (.sub 1 1 (.t 49) (some (.k (.int .i64 1))) (some (.t 50)) (some (.t 51)))⟩, ⟨(some 53), none, (.mv (.t 4))⟩, ⟨(some 54), none, (.mv (.t 7))⟩, ⟨(some 55), none, (.ia none 1 false (.t 53) (.t 54))⟩, ⟨(some 56), none, (.ld none (.t 55))⟩, ⟨(some 57), none, (.mv (.t 4))⟩, ⟨(some 58), none, (.mv (.t 7))⟩, ⟨(some 59), none, (.bin .add [] (.t 58) (.k (.int .i64 1)))⟩, ⟨(some 60), none, (.ia none 1 false (.t 57) (.t 59))⟩, ⟨(some 61), none, (.ld none (.t 60))⟩, ⟨(some 62), none, (.mv (.t 4))⟩, ⟨(some 63), none, (.mv (.t 7))⟩, ⟨(some 64), none, (.bin .add [] (.t 63) (.k (.int .i64 2)))⟩, ⟨(some 65), none, (.ia none 1 false (.t 62) (.t 64))⟩, ⟨(some 66), none, (.ld none (.t 65))⟩, ⟨(some 67), none, (.bld [nilS, (.int .i64 0), (.int .i64 0), (.int .i64 0)] [(0, (1, (.t 52))), (1, (1, (.t 56))), (2, (1, (.t 61))), (3, (1, (.t 66)))])⟩, ⟨(some 8), none, (.alloc false [nilS, (.int .i64 0), (.int .i64 0), (.int .i64 0)])⟩, ⟨none, none, (.st 4 (.t 8) (.t 67))⟩]) (.seq (.seq (.reg none [⟨(some 68), none, (.ld (some 4) (.t 8))⟩, ⟨(some 69), none, (.call (.f 71) [(.t 68)])⟩, ⟨(some 70), none, (.bin .neq [] (.t 69) (.k (.int .i64 0)))⟩]) (.cond (.t 70) (.seq (.reg none [⟨(some 71), none, (.bld [nilS, (.int .i64 0), (.int .i64 0), (.int .i64 0)] [])⟩, ⟨none, none, (.st 4 (.t 2) (.t 71))⟩, ⟨(some 3), none, (.mv (.k (.int .i64 10)))⟩]) .ret) .skip)) (.seq (.reg none [⟨(some 72), none, (.ld (some 4) (.t 8))⟩, ⟨none, none, (.st 4 (.t 2) (.t 72))⟩, ⟨(some 3), none, (.mv (.k (.int .i64 0)))⟩]) .ret))))))))⟩
theorem k110 : compF Try.prog 110 = some c110 := by kernel_rfl
attribute [local simp] op_or op_an op_add op_eql op_neq op_lss op_gtr op_leq op_geq op_sub op_mul
attribute [-simp] intOp bin_shl
theorem Ks_ret {cf : Cfg} {call : CallFn} (k : List Kn) (s : St) : Ks cf call k .ret s = some (.ret, s) := by
  induction k with
  | nil => rfl
  | cons x k ih => cases x <;> simpa [Ks] using ih
theorem loopK_ret {cf : Cfg} {call : CallFn} (k : List Kn) (s : St) : loopK cf call (some (.ret, s)) k = some (.ret, s) := Ks_ret k s
def rowI (l : List Int) : Obj := .row (if l = [] then 0 else 1) (l.map (.int .i64)) 0
def t110 (c : Bool) (l : List Int) (a : Nat) : List D := [.slc c 1 (l.map (.int .u8)), .undef, .ptr 0 0 0 0, .int .i64 0, .sl 1 0 a a, .undef, .undef, .undef, .undef, .undef, .undef, .undef, .undef, .undef, .undef, .undef, .undef, .undef, .undef, .undef, .undef, .undef, .undef, .undef, .undef, .undef, .undef, .undef, .undef, .undef, .undef, .undef, .undef, .undef, .undef, .undef, .undef, .undef, .undef, .undef, .undef, .undef, .undef, .undef, .undef, .undef, .undef, .undef, .undef, .undef, .undef, .undef, .undef, .undef, .undef, .undef, .undef, .undef, .undef, .undef, .undef, .undef, .undef, .undef, .undef, .undef, .undef, .undef, .undef, .undef, .undef, .undef, .undef]
def b110 : Obj := .box [nilS, .int .i64 0, .int .i64 0, .int .i64 0]
set_option maxHeartbeats 4000000 in
theorem L110 (c : Bool) (y : List Int) (kn : List Kn) : ∀ (N : Nat) (l acc : List Int) (a : Nat), l.length ≤ N → a = acc.length → acc.length + l.length ≤ 2 ^ 40 → isB l →
    match nums l with
    | some v => LpB cf0 K0 b110_0 (t110 c y 0) 2 ⟨t110 c l a, [b110, rowI acc]⟩ = some (.exit 0, ⟨t110 c [] (acc ++ v).length, [b110, rowI (acc ++ v)]⟩)
    | none => finK false 0 [.cell 2 (some 4), .tmp 3] (loopK cf0 K0 (LpB cf0 K0 b110_0 (t110 c y 0) 2 ⟨t110 c l a, [b110, rowI acc]⟩) kn) = some (.tuple [.agg [nilS, .int .i64 0, .int .i64 0, .int .i64 0], .int .i64 10], []) := by
  intro N
  induction N with
  | zero =>
    intro l acc a hN ha hb hB
    have hl : l = [] := List.eq_nil_of_length_eq_zero (by omega)
    subst hl
    rw [nums_nil rfl]
    simp only
    rw [LpB_eq]
    simp only [t110]
    conv => lhs; arg 6; simp [b110_0]
    simp [ha, b110, rowI]
  | succ N ih =>
    intro l acc a hN ha hb hB
    by_cases hl : l = []
    · subst hl
      rw [nums_nil rfl]
      simp only
      rw [LpB_eq]
      simp only [t110]
      conv => lhs; arg 6; simp [b110_0]
      simp [ha, b110, rowI]
    have hl0 : ¬ l.length = 0 := fun e => hl (List.eq_nil_of_length_eq_zero e)
    have hp0 : 0 < l.length := by omega
    rw [nums_step hl0]
    have hr := varI_range l
    have hK := fun cl => K74 cl l (by omega) hB
    obtain ⟨x, hx⟩ : ∃ x : Nat, (varI l).1 = x := ⟨(varI l).1.toNat, by omega⟩
    obtain ⟨n, hn⟩ : ∃ n : Nat, (varI l).2 = n := ⟨(varI l).2.toNat, by omega⟩
    rw [hx, hn] at hK hr ⊢
    by_cases h1 : (n : Int) = 0
    · have h1' : ((n : Int) == 0) = true := by simp; omega
      rw [if_pos h1]
      simp only
      rw [LpB_eq]
      simp only [t110, b110]
      conv => lhs; arg 4; arg 3; arg 6; simp [b110_0, hp0, hK, h1']
      simp [Ks_ret]
    · have h1' : ((n : Int) == 0) = false := by simp; omega
      rw [if_neg h1]
      by_cases h2 : 1048576 < (x : Int)
      · rw [if_pos h2]
        simp only
        rw [LpB_eq]
        simp only [t110, b110]
        conv => lhs; arg 4; arg 3; arg 6; simp [b110_0, hp0, hK, h1', h2]
        simp [Ks_ret]
      · rw [if_neg h2]
        have hwx : IntKind.i64.wrap (x : Int) = x := w64 _ (by omega)
        have ih' := ih (l.drop n) (acc ++ [(x : Int)]) (acc ++ [(x : Int)]).length (by simp; omega) rfl (by simp; omega) (isB_drop hB _)
        have hnl : n ≤ l.length := by omega
        have m1 : List.drop n (l.map (D.int .u8)) = (l.drop n).map (D.int .u8) := by simp [List.map_drop]
        have e : (Int.toNat (n : Int)) = n := by omega
        rw [e]
        obtain ⟨r, hr2⟩ : ∃ r, l.drop n = r := ⟨_, rfl⟩
        rw [hr2] at m1 ih' ⊢
        have hb1 : (acc.length + 1) * 8 ≤ 70368744177664 := by omega
        cases hnm : nums r with
        | some v =>
          rw [hnm] at ih'
          simp only [Option.map_some] at ih' ⊢
          rw [show acc ++ ((x : Int) :: v) = acc ++ [(x : Int)] ++ v by simp]
          rw [LpB_eq]
          simp only [t110, b110, rowI] at ih' ⊢
          by_cases hacc : acc = []
          · subst hacc
            subst ha
            conv => lhs; arg 6; simp [b110_0, hp0, hK, h1', h2, hwx, hnl, m1, evOp, evM, wants, Ins.go, X.ev, iaM, ldM, binD, intOp, setD, applyW, Ek_ops_nil, allFree, free, callM, callP, appM]
            simp at ih' ⊢
            exact ih'
          · conv => lhs; arg 6; simp [b110_0, hp0, hK, h1', h2, hwx, hnl, m1, hacc, ha, hb1, evOp, evM, wants, Ins.go, X.ev, iaM, ldM, binD, intOp, setD, applyW, Ek_ops_nil, allFree, free, callM, callP, appM]
            simp [hacc] at ih' ⊢
            exact ih'
        | none =>
          rw [hnm] at ih'
          simp only [Option.map_none] at ih' ⊢
          rw [LpB_eq]
          simp only [t110, b110, rowI] at ih' ⊢
          by_cases hacc : acc = []
          · subst hacc
            subst ha
            conv => lhs; arg 4; arg 3; arg 6; simp [b110_0, hp0, hK, h1', h2, hwx, hnl, m1, evOp, evM, wants, Ins.go, X.ev, iaM, ldM, binD, intOp, setD, applyW, Ek_ops_nil, allFree, free, callM, callP, appM]
            simp at ih' ⊢
            exact ih'
          · conv => lhs; arg 4; arg 3; arg 6; simp [b110_0, hp0, hK, h1', h2, hwx, hnl, m1, hacc, ha, hb1, evOp, evM, wants, Ins.go, X.ev, iaM, ldM, binD, intOp, setD, applyW, Ek_ops_nil, allFree, free, callM, callP, appM]
            simp [hacc] at ih' ⊢
            exact ih'
theorem nums_range : ∀ (N : Nat) (l v : List Int), l.length ≤ N → nums l = some v → ∀ x ∈ v, 0 ≤ x ∧ x ≤ 1048576
  | 0, l, v, hN, h => by
    rw [nums_nil (by omega)] at h
    intro x hx
    rw [← Option.some.inj h] at hx
    cases hx
  | N + 1, l, v, hN, h => by
    by_cases hl : l.length = 0
    · rw [nums_nil hl] at h
      intro x hx
      rw [← Option.some.inj h] at hx
      cases hx
    · rw [nums_step hl] at h
      have hr := varI_range l
      by_cases h1 : (varI l).2 = 0
      · rw [if_pos h1] at h; cases h
      · rw [if_neg h1] at h
        by_cases h2 : 1048576 < (varI l).1
        · rw [if_pos h2] at h; cases h
        · rw [if_neg h2] at h
          obtain ⟨u, hu, rfl⟩ := Option.map_eq_some_iff.1 h
          intro x hx
          rcases List.mem_cons.1 hx with rfl | hx
          · omega
          · exact nums_range N _ u (by simp; omega) hu x hx
theorem getD_of {v : List Int} {i : Nat} {x : Int} (h : v[i]? = some x) : v.getD i 0 = x := by rw [List.getD_eq_getElem?_getD, h]; rfl
theorem schT_none {l : List Int} (h : nums l = none) : schT l = noSch := by unfold schT; rw [h]
theorem schT_short {l v : List Int} (h : nums l = some v) (h4 : v.length < 4) : schT l = noSch := by unfold schT; rw [h]; simp only; rw [if_pos h4]
theorem schT_ne {l v : List Int} (h : nums l = some v) (h4 : ¬ v.length < 4) (x : Int) (h0 : v[0]? = some x) (hne : ¬ (v.length : Int) = x + 4) : schT l = noSch := by
  unfold schT; rw [h]; simp only; rw [if_neg h4, getD_of h0, if_neg hne]
theorem schT_eq {l v : List Int} (h : nums l = some v) (q : Nat) (h0 : v[0]? = some (q : Int)) (hq : v.length = q + 4) (k m g : Int) (hk : v[q + 1]? = some k) (hm : v[q + 2]? = some m) (hg : v[q + 3]? = some g) :
    schT l = if schemaOk ((v.drop 1).take q) k m g = true then (((v.drop 1).take q, k, m, g), 0) else noSch := by
  unfold schT; rw [h]; simp only; rw [if_neg (by omega), getD_of h0, if_pos (by omega)]
  have e : (q : Int).toNat = q := by omega
  rw [e, getD_of hk, getD_of hm, getD_of hg]
set_option maxHeartbeats 8000000 in
/-- schema.Take. -/
theorem K110 (c : Bool) (l : List Int) (hl : l.length ≤ 2 ^ 39) (hB : isB l) : ∃ c' s, (s = 1 ∨ (schT l).1.1 = []) ∧ K0 110 [.slc c 1 (l.map (.int .u8))] [] = some (.tuple [Sd c' s (schT l).1.1 (schT l).1.2.1 (schT l).1.2.2.1 (schT l).1.2.2.2, .int .i64 (schT l).2], []) := by
  have h := fun kn => L110 c l kn l.length l [] 0 (Nat.le_refl _) rfl (by simp; omega) hB
  cases hn : nums l with
  | none =>
    rw [schT_none hn]
    refine ⟨true, 0, .inr rfl, K_call k110 (oraG_none (by decide) (by decide)) (by simp [c110]) ?_⟩
    rw [hn] at h
    simp only [t110, b110, rowI] at h
    simp [c110]
    simp at h
    exact h _
  | some v =>
    rw [hn] at h
    simp only [List.nil_append] at h
    have h := h []
    have hv := nums_range _ l v (Nat.le_refl _) hn
    by_cases h4 : v.length < 4
    · rw [schT_short hn h4]
      refine ⟨true, 0, .inr rfl, K_call k110 (oraG_none (by decide) (by decide)) (by simp [c110]) ?_⟩
      simp only [t110, b110, rowI] at h
      have h4' : (v.length : Int) < 4 := by omega
      simp [c110]
      simp at h
      rw [h]
      simp [h4', noSch, Sd]
    · obtain ⟨x, hx0⟩ : ∃ x, v[0]? = some x := ⟨v[0]'(by omega), List.getElem?_eq_getElem _⟩
      have hxr := hv x (List.mem_of_getElem? hx0)
      obtain ⟨q, rfl⟩ := Int.eq_ofNat_of_zero_le hxr.1
      have h4' : ¬ (v.length : Int) < 4 := by omega
      have hvn : ¬ v = [] := by intro e; rw [e] at h4; simp at h4
      have w4 : IntKind.i64.wrap ((q : Int) + 4) = q + 4 := w64 _ (by omega)
      have hp0 : 0 < v.length := by omega
      have hgi : v[0]'hp0 = (q : Int) := by rw [List.getElem?_eq_getElem hp0] at hx0; exact Option.some.inj hx0
      by_cases hq : v.length = q + 4
      · have hne : ((v.length : Int) != (q : Int) + 4) = false := by simp; omega
        obtain ⟨A, hA⟩ : ∃ A, A = q + 1 := ⟨_, rfl⟩
        obtain ⟨B, hB2⟩ : ∃ B, B = q + 2 := ⟨_, rfl⟩
        obtain ⟨C, hC⟩ : ∃ C, C = q + 3 := ⟨_, rfl⟩
        have wA : IntKind.i64.wrap ((q : Int) + 1) = A := by rw [w64 _ (by omega)]; omega
        have wB : IntKind.i64.wrap ((A : Int) + 1) = B := by rw [w64 _ (by omega)]; omega
        have wC : IntKind.i64.wrap ((A : Int) + 2) = C := by rw [w64 _ (by omega)]; omega
        have lA : A < v.length := by omega
        have lA1 : A ≤ v.length := by omega
        have l1A : 1 ≤ A := by omega
        have i1A : 1 ≤ (A : Int) := by omega
        have lB : B < v.length := by omega
        have lC : C < v.length := by omega
        obtain ⟨k, hk⟩ : ∃ k, v[A]'lA = k := ⟨_, rfl⟩
        obtain ⟨m, hm⟩ : ∃ m, v[B]'lB = m := ⟨_, rfl⟩
        obtain ⟨g, hg⟩ : ∃ g, v[C]'lC = g := ⟨_, rfl⟩
        have hk' : v[A]? = some k := by rw [List.getElem?_eq_getElem lA, hk]
        have hm' : v[B]? = some m := by rw [List.getElem?_eq_getElem lB, hm]
        have hg' : v[C]? = some g := by rw [List.getElem?_eq_getElem lC, hg]
        obtain ⟨ts, hts⟩ : ∃ ts, (v.drop 1).take q = ts := ⟨_, rfl⟩
        have m1 : (List.take A (v.map (D.int .i64))).tail = ts.map (D.int .i64) := by
          rw [← hts, hA, ← List.drop_one, List.drop_take]
          simp
        have htl : ts.length = q := by rw [← hts]; simp; omega
        have hS := schT_eq hn q hx0 hq k m g (by rw [← hA]; exact hk') (by rw [← hB2]; exact hm') (by rw [← hC]; exact hg')
        rw [hts] at hS
        have hch := fun c => K71 c 1 ts (.inl rfl) k m g (by omega)
        unfold Sd at hch
        cases hok : schemaOk ts k m g with
        | true =>
          rw [hS, if_pos hok]
          refine ⟨false, 1, .inl rfl, K_call k110 (oraG_none (by decide) (by decide)) (by simp [c110]) ?_⟩
          have hce : checkI ts k m g = 0 := if_pos hok
          rw [hce] at hch
          simp only [t110, b110, rowI] at h
          simp [c110]
          simp [hvn] at h
          rw [h]
          simp [h4', w4, hne, hp0, hgi, wA, wB, wC, lA, lA1, l1A, i1A, lB, lC, hk, hm, hg, m1, hch, evOp, evM, wants, Ins.go, X.ev, iaM, ldM, binD, intOp, setD, applyW, Ek_ops_nil, allFree, free, callM, callP, appM]
          simp [Sd]
        | false =>
          rw [hS, if_neg (by rw [hok]; decide)]
          refine ⟨true, 0, .inr rfl, K_call k110 (oraG_none (by decide) (by decide)) (by simp [c110]) ?_⟩
          have hce : checkI ts k m g = 20 := if_neg (by rw [hok]; decide)
          rw [hce] at hch
          simp only [t110, b110, rowI] at h
          simp [c110]
          simp [hvn] at h
          rw [h]
          simp [h4', w4, hne, hp0, hgi, wA, wB, wC, lA, lA1, l1A, i1A, lB, lC, hk, hm, hg, m1, hch, noSch, Sd, evOp, evM, wants, Ins.go, X.ev, iaM, ldM, binD, intOp, setD, applyW, Ek_ops_nil, allFree, free, callM, callP, appM]
      · have hne : ((v.length : Int) != (q : Int) + 4) = true := by simp; omega
        rw [schT_ne hn h4 _ hx0 (by omega)]
        refine ⟨true, 0, .inr rfl, K_call k110 (oraG_none (by decide) (by decide)) (by simp [c110]) ?_⟩
        simp only [t110, b110, rowI] at h
        simp [c110]
        simp [hvn] at h
        rw [h]
        simp [h4', w4, hne, hp0, hgi, noSch, Sd]
end Go.Ab
