/- THE FUNCTIONS' EQUATIONS: thresherref04.Take. -/
import Derived.Test.YtanfmnobanhcnaaBF46
import Derived.Test.YtanfmnobanhcnaaBF79
import Derived.Test.YtanfmnobanhcnaaBF110
set_option linter.all false
set_option maxRecDepth 100000
namespace Go.Ab
open Go.Proofs Go.Proofs.YtanfmnobanhcnaaH Go.Proofs.YtanfmnobanhcnaaH.Crc Go.Proofs.YtanfmnobanhcnaaH.Var Go.Proofs.YtanfmnobanhcnaaH.Fr Go.Proofs.YtanfmnobanhcnaaH.Rec
def b81_0 : C := (.seq (.seq (.reg none [⟨(some 11), none, (.mv (.t 5))⟩, ⟨(some 12), none, (.mv (.t 0))⟩, ⟨(some 13), none, (.len 1 (.t 12))⟩, ⟨(some 14), none, (.bin .lss [] (.t 11) (.t 13))⟩]) (.cond (.t 14) .skip (.exit 0))) (.block 1 (.seq (.reg none [⟨(some 16), none, (.mv (.t 0))⟩, ⟨(some 17), none, (.mv (.t 5))⟩, ⟨(some 18), none, (.sub 1 1 (.t 16) (some (.t 17)) none none)⟩, ⟨(some 19), none, (.call (.f 79) [(.t 18)])⟩, ⟨(some 15), none, (.mv (.t 19))⟩, ⟨(some 20), none, (.ext (.t 15) 0)⟩, ⟨(some 21), none, (.ext (.t 15) 1)⟩, ⟨(some 6), none, (.mv (.t 20))⟩, ⟨(some 7), none, (.mv (.t 21))⟩]) (.seq (.seq (.reg none [⟨(some 22), none, (.mv (.t 7))⟩, ⟨(some 23), none, (.bin .eql [] (.t 22) (.k (.int .i64 0)))⟩, ⟨(some 24), none, (.mv (.t 23))⟩, ⟨(some 25), (some ((some 24), false)), (.mv (.t 6))⟩, ⟨(some 26), (some ((some 24), false)), (.bin .gtr [] (.t 25) (.k (.int .u64 1000)))⟩, ⟨(some 27), none, (.pick (.t 24) (.k (.bool true)) (.t 26))⟩]) (.cond (.t 27) (.seq (.reg none [⟨(some 28), none, (.bld [nilS, (.int .i64 0), (.int .i64 0), (.int .i64 0)] [])⟩, ⟨none, none, (.st 4 (.t 2) (.t 28))⟩, ⟨(some 3), none, (.mv (.k (.int .i64 10)))⟩]) .ret) .skip)) (.seq (.reg none [⟨(some 29), none, (.mv (.t 4))⟩, ⟨(some 30), none, (.mv (.t 6))⟩, ⟨(some 31), none, (.cvt (.int .i64) (.t 30))⟩, ⟨(some 32), none, (.bsl false 1 1 [(.int .i64 0)] [(0, (.t 31))])⟩, ⟨(some 33), none, (.app 1 8 (.t 29) (.t 32))⟩, ⟨(some 4), none, (.mv (.t 33))⟩]) (.reg none [⟨(some 34), none, (.mv (.t 5))⟩, ⟨(some 35), none, (.mv (.t 7))⟩, ⟨(some 36), none, (.bin .add [] (.t 34) (.t 35))⟩, ⟨(some 5), none, (.mv (.t 36))⟩]))))))
def c81 : Fn' := ⟨78, [(.cell 2 (some 4)), (.tmp 3)], (.seq (.reg none [⟨(some 2), none, (.alloc false [nilS, (.int .i64 0), (.int .i64 0), (.int .i64 0)])⟩, ⟨(some 3), none, (.mv (.k (.int .i64 0)))⟩]) (.seq (.reg none [⟨(some 10), none, (.bsl true 1 0 [(.int .i64 0)] [])⟩, ⟨(some 4), none, (.mv (.t 10))⟩]) (.seq (.seq (.reg none [⟨(some 5), none, (.mv (.k (.int .i64 0)))⟩]) (.block 0 (.loop b81_0))) (.seq (.seq (.reg none [⟨(some 37), none, (.mv (.t 4))⟩, ⟨(some 38), none, (.len 1 (.t 37))⟩, ⟨(some 39), none, (.bin .lss [] (.t 38) (.k (.int .i64 4)))⟩, ⟨(some 40), none, (.mv (.t 39))⟩, ⟨(some 41), (some ((some 40), false)), (.mv (.t 4))⟩, ⟨(some 42), (some ((some 40), false)), (.len 1 (.t 41))⟩, ⟨(some 43), (some ((some 40), false)), (.mv (.t 4))⟩, ⟨(some 44), (some ((some 40), false)), (.ia none 1 false (.t 43) (.k (.int .i64 0)))⟩, ⟨(some 45), (some ((some 40), false)), (.ld none (.t 44))⟩, ⟨(some 46), (some ((some 40), false)), (.bin .add [] (.t 45) (.k (.int .i64 4)))⟩, ⟨(some 47), (some ((some 40), false)), (.bin .neq [] (.t 42) (.t 46))⟩, ⟨(some 48), none, (.pick (.t 40) (.k (.bool true)) (.t 47))⟩]) (.cond (.t 48) (.seq (.reg none [⟨(some 49), none, (.bld [nilS, (.int .i64 0), (.int .i64 0), (.int .i64 0)] [])⟩, ⟨none, none, (.st 4 (.t 2) (.t 49))⟩, ⟨(some 3), none, (.mv (.k (.int .i64 10)))⟩]) .ret) .skip)) (.seq (.reg none [⟨(some 50), none, (.mv (.t 4))⟩, ⟨(some 51), none, (.ia none 1 false (.t 50) (.k (.int .i64 0)))⟩, ⟨(some 52), none, (.ld none (.t 51))⟩, ⟨(some 8), none, (.mv (.t 52))⟩]) (.seq (.reg (some [(3, 7), (3, 8), (3, 12), (7, 12), (8, 12), (3, 13), (7, 13), (8, 13), (3, 17), (7, 17), (8, 17), (12, 17), (13, 17), (3, 18), (7, 18), (8, 18), (12, 18), (13, 18), (3, 20), (7, 20), (8, 20), (12, 20), (13, 20), (17, 20), (18, 20)]) [⟨(some 53), none, (.mv (.t 4))⟩, ⟨(some 54), none, (.mv (.t 8))⟩, ⟨(some 55), none, (.bin .add [] (.k (.int .i64 1)) (.t 54))⟩, ⟨(some 56), none, (.sub 1 1 (.t 53) (some (.k (.int .i64 1))) (some (.t 55)) none)⟩, ⟨(some 57), none, (.mv (.t 4))⟩, ⟨(some 58), none, (.mv (.t 8))⟩, ⟨(some 59), none, (.bin .add [] (.k (.int .i64 1)) (.t 58))⟩, ⟨(some 60), none, (.ia none 1 false (.t 57) (.t 59))⟩, ⟨(some 61), none, (.ld none (.t 60))⟩, ⟨(some 62), none, (.mv (.t 4))⟩, ⟨(some 63), none, (.mv (.t 8))⟩, ⟨(some 64), none, (.bin .add [] (.k (.int .i64 2)) (.t 63))⟩, ⟨(some 65), none, (.ia none 1 false (.t 62) (.t 64))⟩, ⟨(some 66), none, (.ld none (.t 65))⟩, ⟨(some 67), none, (.mv (.t 4))⟩, ⟨(some 68), none, (.mv (.t 8))⟩, ⟨(some 69), none, (.bin .add [] (.k (.int .i64 3)) (.t 68))⟩, ⟨(some 70), none, (.ia none 1 false (.t 67) (.t 69))⟩, ⟨(some 71), none, (.ld none (.t 70))⟩, ⟨(some 72), none, (.bld [nilS, (.int .i64 0), (.int .i64 0), (.int .i64 0)] [(0, (1, (.t 56))), (1, (1, (.t 61))), (2, (1, (.t 66))), (3, (1, (.t 71)))])⟩, ⟨(some 9), none, (.alloc false [nilS, (.int .i64 0), (.int .i64 0), (.int .i64 0)])⟩, ⟨none, none, (.st 4 (.t 9) (.t 72))⟩]) (.seq (.seq (.reg none [⟨(some 73), none, (.ld (some 4) (.t 9))⟩, ⟨(some 74), none, (.call (.f 73) [(.t 73)])⟩, ⟨(some 75), none, (.bin .neq [] (.t 74) (.k (.int .i64 0)))⟩]) (.cond (.t 75) (.seq (.reg none [⟨(some 76), none, (.bld [nilS, (.int .i64 0), (.int .i64 0), (.int .i64 0)] [])⟩, ⟨none, none, (.st 4 (.t 2) (.t 76))⟩, ⟨(some 3), none, (.mv (.k (.int .i64 10)))⟩]) .ret) .skip)) (.seq (.reg none [⟨(some 77), none, (.ld (some 4) (.t 9))⟩, ⟨none, none, (.st 4 (.t 2) (.t 77))⟩, ⟨(some 3), none, (.mv (.k (.int .i64 0)))⟩]) .ret))))))))⟩
theorem k81 : compF Try.prog 81 = some c81 := by kernel_rfl
attribute [local simp] op_or op_an op_add op_eql op_neq op_lss op_gtr op_leq op_geq op_sub op_mul
attribute [-simp] intOp bin_shl
/-- Numbers of which one is above 1000 are no schema. -/
theorem schT_big {l v : List Int} (h : nums l = some v) {x : Int} (hx : x ∈ v) (hb : 1000 < x) : schT l = noSch := by
  unfold schT
  rw [h]
  show (if v.length < 4 then noSch else if (v.length : Int) = v.getD 0 0 + 4 then _ else noSch) = noSch
  by_cases h4 : v.length < 4
  · rw [if_pos h4]
  · rw [if_neg h4]
    by_cases h5 : (v.length : Int) = v.getD 0 0 + 4
    · rw [if_pos h5]
      refine if_neg (fun hok => ?_)
      rw [schemaOk_iff] at hok
      obtain ⟨h1, h2, h3, h6, h7⟩ := hok
      obtain ⟨i, hi, rfl⟩ := List.getElem_of_mem hx
      have hg : ∀ j (hj : j < v.length), v.getD j 0 = v[j] := fun j hj => by rw [List.getD_eq_getElem?_getD, List.getElem?_eq_getElem hj]; rfl
      have hl : ((v.drop 1).take (v.getD 0 0).toNat).length = (v.getD 0 0).toNat := by rw [List.length_take, List.length_drop]; omega
      rw [hl] at h1 h3
      generalize hv0 : (v.getD 0 0).toNat = n at *
      have hn : v.length = n + 4 := by omega
      by_cases i0 : i = 0
      · subst i0
        rw [hg 0 (by omega)] at hv0
        omega
      by_cases i1 : i ≤ n
      · have hm : v[i] ∈ (v.drop 1).take n := by
          have : ((v.drop 1).take n)[i - 1]? = some v[i] := by
            rw [List.getElem?_take, if_pos (by omega), List.getElem?_drop, show 1 + (i - 1) = i by omega, List.getElem?_eq_getElem hi]
          exact List.mem_of_getElem? this
        have := h2 _ hm
        omega
      by_cases i2 : i = n + 1
      · subst i2
        rw [hg (n + 1) (by omega)] at h3
        omega
      by_cases i3 : i = n + 2
      · subst i3
        rw [hg (n + 2) (by omega)] at h6
        omega
      · have i4 : i = n + 3 := by omega
        subst i4
        rw [hg (n + 3) (by omega)] at h7
        omega
    · rw [if_neg h5]

def t81 (c : Bool) (l : List Int) (p a : Nat) : List D := [.slc c 1 (l.map (.int .u8)), .undef, .ptr 0 0 0 0, .int .i64 0, .sl 1 0 a a, .int .i64 p, .undef, .undef, .undef, .undef, .sl 1 0 0 0, .undef, .undef, .undef, .undef, .undef, .undef, .undef, .undef, .undef, .undef, .undef, .undef, .undef, .undef, .undef, .undef, .undef, .undef, .undef, .undef, .undef, .undef, .undef, .undef, .undef, .undef, .undef, .undef, .undef, .undef, .undef, .undef, .undef, .undef, .undef, .undef, .undef, .undef, .undef, .undef, .undef, .undef, .undef, .undef, .undef, .undef, .undef, .undef, .undef, .undef, .undef, .undef, .undef, .undef, .undef, .undef, .undef, .undef, .undef, .undef, .undef, .undef, .undef, .undef, .undef, .undef, .undef]
def row1 (l : List Int) : Obj := .row 1 (l.map (.int .i64)) 0
def bad81 : Option (D × List Obj) := some (.tuple [.agg [nilS, .int .i64 0, .int .i64 0, .int .i64 0], .int .i64 10], [])
set_option maxHeartbeats 4000000 in
theorem L81 (c : Bool) (L : List Int) (hL : L.length ≤ 2 ^ 39) (hB : isB L) : ∀ (N : Nat) (l acc : List Int) (p a : Nat), l.length ≤ N → L.drop p = l → p + l.length = L.length → a = acc.length → acc.length + l.length ≤ 2 ^ 40 →
    (∃ v, nums l = some v ∧ LpB cf0 K0 b81_0 (t81 c L 0 0) 2 ⟨t81 c L p a, [b110, row1 acc]⟩ = some (.exit 0, ⟨t81 c L L.length (acc ++ v).length, [b110, row1 (acc ++ v)]⟩)) ∨
    ((nums l = none ∨ ∃ v, nums l = some v ∧ ∃ x ∈ v, 1000 < x) ∧ ∀ kn, finK false 0 [.cell 2 (some 4), .tmp 3] (loopK cf0 K0 (LpB cf0 K0 b81_0 (t81 c L 0 0) 2 ⟨t81 c L p a, [b110, row1 acc]⟩) kn) = bad81) := by
  have fin : ∀ (acc : List Int) (p a : Nat), p = L.length → a = acc.length → (∃ v, nums ([] : List Int) = some v ∧ LpB cf0 K0 b81_0 (t81 c L 0 0) 2 ⟨t81 c L p a, [b110, row1 acc]⟩ = some (.exit 0, ⟨t81 c L L.length (acc ++ v).length, [b110, row1 (acc ++ v)]⟩)) := by
    intro acc p a hp ha
    refine ⟨[], nums_nil rfl, ?_⟩
    rw [LpB_eq]
    simp only [t81]
    conv => lhs; arg 6; simp [b81_0, hp]
    simp [ha, hp, b110, row1]
  intro N
  induction N with
  | zero =>
    intro l acc p a hN hd hp ha hb
    have hl : l = [] := List.eq_nil_of_length_eq_zero (by omega)
    subst hl
    exact .inl (fin acc p a (by simpa using hp) ha)
  | succ N ih =>
    intro l acc p a hN hd hp ha hb
    by_cases hl : l = []
    · subst hl
      exact .inl (fin acc p a (by simpa using hp) ha)
    have hl0 : ¬ l.length = 0 := fun e => hl (List.eq_nil_of_length_eq_zero e)
    have hpl : p < L.length := by omega
    have hpl2 : p ≤ L.length := by omega
    have hlB : isB l := by rw [← hd]; exact isB_drop hB _
    have hr := varI_range l
    have hK := fun cl => K79 cl l (by omega) hlB
    have hstep := nums_step hl0
    have m1 : List.drop p (L.map (D.int .u8)) = l.map (D.int .u8) := by rw [← hd]; simp [List.map_drop]
    obtain ⟨x, hx⟩ : ∃ x : Nat, (varI l).1 = x := ⟨(varI l).1.toNat, by omega⟩
    obtain ⟨n, hn⟩ : ∃ n : Nat, (varI l).2 = n := ⟨(varI l).2.toNat, by omega⟩
    rw [hx, hn] at hK hr hstep
    by_cases h1 : (n : Int) = 0
    · have h1' : ((n : Int) == 0) = true := by simp; omega
      rw [if_pos h1] at hstep
      refine .inr ⟨.inl hstep, fun kn => ?_⟩
      rw [LpB_eq]
      simp only [t81, b110, bad81]
      conv => lhs; arg 4; arg 3; arg 6; simp [b81_0, hpl, hpl2, m1, hK, h1']
      simp [Ks_ret]
    · have h1' : ((n : Int) == 0) = false := by simp; omega
      rw [if_neg h1] at hstep
      by_cases h2 : 1000 < (x : Int)
      · refine .inr ⟨?_, fun kn => ?_⟩
        · by_cases h3 : 1048576 < (x : Int)
          · rw [if_pos h3] at hstep; exact .inl hstep
          · rw [if_neg h3] at hstep
            cases hnn : nums (l.drop (n : Int).toNat) with
            | none => rw [hnn] at hstep; exact .inl hstep
            | some u => rw [hnn] at hstep; exact .inr ⟨_, hstep, (x : Int), List.mem_cons_self, h2⟩
        · rw [LpB_eq]
          simp only [t81, b110, bad81]
          conv => lhs; arg 4; arg 3; arg 6; simp [b81_0, hpl, hpl2, m1, hK, h1', h2]
          simp [Ks_ret]
      · rw [if_neg (by omega)] at hstep
        have hwx : IntKind.i64.wrap (x : Int) = x := w64 _ (by omega)
        obtain ⟨P, hP⟩ : ∃ P, P = p + n := ⟨_, rfl⟩
        have hwp : IntKind.i64.wrap ((p : Int) + n) = P := by rw [w64 _ (by omega)]; omega
        have e : (Int.toNat (n : Int)) = n := by omega
        rw [e] at hstep
        obtain ⟨r, hr2⟩ : ∃ r, l.drop n = r := ⟨_, rfl⟩
        have hrl : r.length = l.length - n := by rw [← hr2]; simp
        have ih' := ih r (acc ++ [(x : Int)]) P (acc ++ [(x : Int)]).length (by omega) (by rw [← hr2, ← hd, hP, List.drop_drop]) (by omega) rfl (by simp; omega)
        rw [hr2] at hstep
        have hb1 : (acc.length + 1) * 8 ≤ 70368744177664 := by omega
        have key : LpB cf0 K0 b81_0 (t81 c L 0 0) 2 ⟨t81 c L p a, [b110, row1 acc]⟩ = LpB cf0 K0 b81_0 (t81 c L 0 0) 2 ⟨t81 c L P (acc ++ [(x : Int)]).length, [b110, row1 (acc ++ [(x : Int)])]⟩ := by
          conv => lhs; rw [LpB_eq]
          simp only [t81, b110, row1]
          conv => lhs; arg 6; simp [b81_0, hpl, hpl2, m1, hK, h1', h2, hwx, hwp, ha, hb1]
          simp
        rw [key, hstep]
        rcases ih' with ⟨v, h3, h4⟩ | ⟨h3, h4⟩
        · refine .inl ⟨(x : Int) :: v, by rw [h3]; rfl, ?_⟩
          rw [show acc ++ ((x : Int) :: v) = acc ++ [(x : Int)] ++ v by simp]
          exact h4
        · refine .inr ⟨?_, h4⟩
          rcases h3 with h3 | ⟨v, h3, y, hy, hy2⟩
          · exact .inl (by rw [h3]; rfl)
          · exact .inr ⟨_, by rw [h3]; rfl, y, List.mem_cons_of_mem _ hy, hy2⟩
set_option maxHeartbeats 8000000 in
/-- thresherref04.Take. -/
theorem K81 (c : Bool) (l : List Int) (hl : l.length ≤ 2 ^ 39) (hB : isB l) : ∃ c' s, (s = 1 ∨ (schT l).1.1 = []) ∧ K0 81 [.slc c 1 (l.map (.int .u8))] [] = some (.tuple [Sd c' s (schT l).1.1 (schT l).1.2.1 (schT l).1.2.2.1 (schT l).1.2.2.2, .int .i64 (schT l).2], []) := by
  rcases L81 c l hl hB l.length l [] 0 0 (Nat.le_refl _) rfl (by simp) rfl (by simp; omega) with ⟨v, hn, h⟩ | ⟨hbad, h⟩
  rotate_left
  · have e : schT l = noSch := by
      rcases hbad with h | ⟨v, h, x, hx, hb⟩
      · exact schT_none h
      · exact schT_big h hx hb
    rw [e]
    refine ⟨true, 0, .inr rfl, K_call k81 (oraG_none (by decide) (by decide)) (by simp [c81]) ?_⟩
    simp only [t81, b110, row1, bad81] at h
    simp [c81]
    simp at h
    simp [noSch, Sd]
    exact h _
  · simp only [List.nil_append] at h
    have hv := nums_range _ l v (Nat.le_refl _) hn
    by_cases h4 : v.length < 4
    · rw [schT_short hn h4]
      refine ⟨true, 0, .inr rfl, K_call k81 (oraG_none (by decide) (by decide)) (by simp [c81]) ?_⟩
      simp only [t81, b110, row1] at h
      have h4' : (v.length : Int) < 4 := by omega
      simp [c81]
      simp at h
      rw [h]
      simp [h4', noSch, Sd]
    · obtain ⟨x, hx0⟩ : ∃ x, v[0]? = some x := ⟨v[0]'(by omega), List.getElem?_eq_getElem _⟩
      have hxr := hv x (List.mem_of_getElem? hx0)
      obtain ⟨q, rfl⟩ := Int.eq_ofNat_of_zero_le hxr.1
      have h4' : ¬ (v.length : Int) < 4 := by omega
      have hvn : ¬ v = [] := by intro e; rw [e] at h4; simp at h4
      have w4 : IntKind.i64.wrap ((q : Int) + 4) = q + 4 := w64 _ (by omega)
      have hp0 : 0 < v.length := by omega
      have hgi : v[0]'hp0 = (q : Int) := by rw [List.getElem?_eq_getElem hp0] at hx0; exact Option.some.inj hx0
      by_cases hq : v.length = q + 4
      · have hne : ((v.length : Int) != (q : Int) + 4) = false := by simp; omega
        obtain ⟨A, hA⟩ : ∃ A, A = q + 1 := ⟨_, rfl⟩
        obtain ⟨B, hB2⟩ : ∃ B, B = q + 2 := ⟨_, rfl⟩
        obtain ⟨C, hC⟩ : ∃ C, C = q + 3 := ⟨_, rfl⟩
        have wA : IntKind.i64.wrap (1 + (q : Int)) = A := by rw [w64 _ (by omega)]; omega
        have wB : IntKind.i64.wrap (2 + (q : Int)) = B := by rw [w64 _ (by omega)]; omega
        have wC : IntKind.i64.wrap (3 + (q : Int)) = C := by rw [w64 _ (by omega)]; omega
        have lA : A < v.length := by omega
        have lA1 : A ≤ v.length := by omega
        have l1A : 1 ≤ A := by omega
        have i1A : 1 ≤ (A : Int) := by omega
        have lB : B < v.length := by omega
        have lC : C < v.length := by omega
        obtain ⟨k, hk⟩ : ∃ k, v[A]'lA = k := ⟨_, rfl⟩
        obtain ⟨m, hm⟩ : ∃ m, v[B]'lB = m := ⟨_, rfl⟩
        obtain ⟨g, hg⟩ : ∃ g, v[C]'lC = g := ⟨_, rfl⟩
        have hk' : v[A]? = some k := by rw [List.getElem?_eq_getElem lA, hk]
        have hm' : v[B]? = some m := by rw [List.getElem?_eq_getElem lB, hm]
        have hg' : v[C]? = some g := by rw [List.getElem?_eq_getElem lC, hg]
        obtain ⟨ts, hts⟩ : ∃ ts, (v.drop 1).take q = ts := ⟨_, rfl⟩
        have m1 : (List.take A (v.map (D.int .i64))).tail = ts.map (D.int .i64) := by
          rw [← hts, hA, ← List.drop_one, List.drop_take]
          simp
        have htl : ts.length = q := by rw [← hts]; simp; omega
        have hS := schT_eq hn q hx0 hq k m g (by rw [← hA]; exact hk') (by rw [← hB2]; exact hm') (by rw [← hC]; exact hg')
        rw [hts] at hS
        have hch := fun c => K73 c 1 ts (.inl rfl) k m g (by omega)
        unfold Sd at hch
        cases hok : schemaOk ts k m g with
        | true =>
          rw [hS, if_pos hok]
          refine ⟨false, 1, .inl rfl, K_call k81 (oraG_none (by decide) (by decide)) (by simp [c81]) ?_⟩
          have hce : checkI ts k m g = 0 := if_pos hok
          rw [hce] at hch
          simp only [t81, b110, row1] at h
          simp [c81]
          simp [hvn] at h
          rw [h]
          simp [h4', w4, hne, hp0, hgi, wA, wB, wC, lA, lA1, l1A, i1A, lB, lC, hk, hm, hg, m1, hch, evOp, evM, wants, Ins.go, X.ev, iaM, ldM, binD, intOp, setD, applyW, Ek_ops_nil, allFree, free, callM, callP, appM]
          simp [Sd]
        | false =>
          rw [hS, if_neg (by rw [hok]; decide)]
          refine ⟨true, 0, .inr rfl, K_call k81 (oraG_none (by decide) (by decide)) (by simp [c81]) ?_⟩
          have hce : checkI ts k m g = 20 := if_neg (by rw [hok]; decide)
          rw [hce] at hch
          simp only [t81, b110, row1] at h
          simp [c81]
          simp [hvn] at h
          rw [h]
          simp [h4', w4, hne, hp0, hgi, wA, wB, wC, lA, lA1, l1A, i1A, lB, lC, hk, hm, hg, m1, hch, noSch, Sd, evOp, evM, wants, Ins.go, X.ev, iaM, ldM, binD, intOp, setD, applyW, Ek_ops_nil, allFree, free, callM, callP, appM]
      · have hne : ((v.length : Int) != (q : Int) + 4) = true := by simp; omega
        rw [schT_ne hn h4 _ hx0 (by omega)]
        refine ⟨true, 0, .inr rfl, K_call k81 (oraG_none (by decide) (by decide)) (by simp [c81]) ?_⟩
        simp only [t81, b110, row1] at h
        simp [c81]
        simp [hvn] at h
        rw [h]
        simp [h4', w4, hne, hp0, hgi, noSch, Sd]
end Go.Ab
