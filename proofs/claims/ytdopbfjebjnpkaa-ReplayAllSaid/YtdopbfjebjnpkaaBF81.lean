/- THE FUNCTIONS' EQUATIONS: thresherref04.Take. -/
import Derived.Test.YtdopbfjebjnpkaaBF73
import Derived.Test.YtdopbfjebjnpkaaBF79
import Derived.Test.YtdopbfjebjnpkaaBF110
import Derived.Test.YtdopbfjebjnpkaaBPCrc
import Derived.Test.YtdopbfjebjnpkaaBF19
import Derived.Test.YtdopbfjebjnpkaaBF211
set_option linter.all false
set_option maxRecDepth 100000
namespace Go.Ab
open Go.Proofs Go.Proofs.YtdopbfjebjnpkaaH Go.Proofs.YtdopbfjebjnpkaaH.Crc Go.Proofs.YtdopbfjebjnpkaaH.Var Go.Proofs.YtdopbfjebjnpkaaH.Fr Go.Proofs.YtdopbfjebjnpkaaH.Rec
def b81_0 : C := (.seq (.seq (.reg none [⟨(some 11), none, (.mv (.t 5))⟩, ⟨(some 12), none, (.mv (.t 0))⟩, ⟨(some 13), none, (.len 1 (.t 12))⟩, ⟨(some 14), none, (.bin .lss [] (.t 11) (.t 13))⟩]) (.cond (.t 14) .skip (.exit 0))) (.block 1 (.seq (.reg none [⟨(some 16), none, (.mv (.t 0))⟩, ⟨(some 17), none, (.mv (.t 5))⟩, ⟨(some 18), none, (.sub 1 1 (.t 16) (some (.t 17)) none none)⟩, ⟨(some 19), none, (.call (.f 75) [(.t 18)])⟩, ⟨(some 15), none, (.mv (.t 19))⟩, ⟨(some 20), none, (.ext (.t 15) 0)⟩, ⟨(some 21), none, (.ext (.t 15) 1)⟩, ⟨(some 6), none, (.mv (.t 20))⟩, ⟨(some 7), none, (.mv (.t 21))⟩]) (.seq (.seq (.reg none [⟨(some 22), none, (.mv (.t 7))⟩, ⟨(some 23), none, (.bin .eql [] (.t 22) (.k (.int .i64 0)))⟩, ⟨(some 24), none, (.mv (.t 23))⟩, ⟨(some 25), (some ((some 24), false)), (.mv (.t 6))⟩, ⟨(some 26), (some ((some 24), false)), (.bin .gtr [] (.t 25) (.k (.int .u64 1000)))⟩, ⟨(some 27), none, (.pick (.t 24) (.k (.bool true)) (.t 26))⟩]) (.cond (.t 27) (.seq (.reg none [⟨(some 28), none, (.bld [nilS, (.int .i64 0), (.int .i64 0), (.int .i64 0)] [])⟩, ⟨none, none, (.st 4 (.t 2) (.t 28))⟩, ⟨(some 3), none, (.mv (.k (.int .i64 10)))⟩]) .ret) .skip)) (.seq (.reg none [⟨(some 29), none, (.mv (.t 4))⟩, ⟨(some 30), none, (.mv (.t 6))⟩, ⟨(some 31), none, (.cvt (.int .i64) (.t 30))⟩, ⟨(some 32), none, (.bsl false 1 1 [(.int .i64 0)] [(0, (.t 31))])⟩, ⟨(some 33), none, (.app 1 8 (.t 29) (.t 32))⟩, ⟨(some 4), none, (.mv (.t 33))⟩]) (.reg none [⟨(some 34), none, (.mv (.t 5))⟩, ⟨(some 35), none, (.mv (.t 7))⟩, ⟨(some 36), none, (.bin .add [] (.t 34) (.t 35))⟩, ⟨(some 5), none, (.mv (.t 36))⟩]))))))
def c81 : Fn' := ⟨78, [(.cell 2 (some 4)), (.tmp 3)], (.seq (.reg none [⟨(some 2), none, (.alloc false [nilS, (.int .i64 0), (.int .i64 0), (.int .i64 0)])⟩, ⟨(some 3), none, (.mv (.k (.int .i64 0)))⟩]) (.seq (.reg none [⟨(some 10), none, (.bsl true 1 0 [(.int .i64 0)] [])⟩, ⟨(some 4), none, (.mv (.t 10))⟩]) (.seq (.seq (.reg none [⟨(some 5), none, (.mv (.k (.int .i64 0)))⟩]) (.block 0 (.loop b81_0))) (.seq (.seq (.reg none [⟨(some 37), none, (.mv (.t 4))⟩, ⟨(some 38), none, (.len 1 (.t 37))⟩, ⟨(some 39), none, (.bin .lss [] (.t 38) (.k (.int .i64 4)))⟩, ⟨(some 40), none, (.mv (.t 39))⟩, ⟨(some 41), (some ((some 40), false)), (.mv (.t 4))⟩, ⟨(some 42), (some ((some 40), false)), (.len 1 (.t 41))⟩, ⟨(some 43), (some ((some 40), false)), (.mv (.t 4))⟩, ⟨(some 44), (some ((some 40), false)), (.ia none 1 false (.t 43) (.k (.int .i64 0)))⟩, ⟨(some 45), (some ((some 40), false)), (.ld none (.t 44))⟩, ⟨(some 46), (some ((some 40), false)), (.bin .add [] (.t 45) (.k (.int .i64 4)))⟩, ⟨(some 47), (some ((some 40), false)), (.bin .neq [] (.t 42) (.t 46))⟩, ⟨(some 48), none, (.pick (.t 40) (.k (.bool true)) (.t 47))⟩]) (.cond (.t 48) (.seq (.reg none [⟨(some 49), none, (.bld [nilS, (.int .i64 0), (.int .i64 0), (.int .i64 0)] [])⟩, ⟨none, none, (.st 4 (.t 2) (.t 49))⟩, ⟨(some 3), none, (.mv (.k (.int .i64 10)))⟩]) .ret) .skip)) (.seq (.reg none [⟨(some 50), none, (.mv (.t 4))⟩, ⟨(some 51), none, (.ia none 1 false (.t 50) (.k (.int .i64 0)))⟩, ⟨(some 52), none, (.ld none (.t 51))⟩, ⟨(some 8), none, (.mv (.t 52))⟩]) (.seq (.reg (some [(3, 7), (3, 8), (3, 12), (7, 12), (8, 12), (3, 13), (7, 13), (8, 13), (3, 17), (7, 17), (8, 17), (12, 17), (13, 17), (3, 18), (7, 18), (8, 18), (12, 18), (13, 18), (3, 20), (7, 20), (8, 20), (12, 20), (13, 20), (17, 20), (18, 20)]) [⟨(some 53), none, (.mv (.t 4))⟩, ⟨(some 54), none, (.mv (.t 8))⟩, ⟨(some 55), none, (.bin .add [] (.k (.int .i64 1)) (.t 54))⟩, ⟨(some 56), none, (.sub 1 1 (.t 53) (some (.k (.int .i64 1))) (some (.t 55)) none)⟩, ⟨(some 57), none, (.mv (.t 4))⟩, ⟨(some 58), none, (.mv (.t 8))⟩, ⟨(some 59), none, (.bin .add [] (.k (.int .i64 1)) (.t 58))⟩, ⟨(some 60), none, (.ia none 1 false (.t 57) (.t 59))⟩, ⟨(some 61), none, (.ld none (.t 60))⟩, ⟨(some 62), none, (.mv (.t 4))⟩, ⟨(some 63), none, (.mv (.t 8))⟩, ⟨(some 64), none, (.bin .add [] (.k (.int .i64 2)) (.t 63))⟩, ⟨(some 65), none, (.ia none 1 false (.t 62) (.t 64))⟩, ⟨(some 66), none, (.ld none (.t 65))⟩, ⟨(some 67), none, (.mv (.t 4))⟩, ⟨(some 68), none, (.mv (.t 8))⟩, ⟨(some 69), none, (.bin .add [] (.k (.int .i64 3)) (.t 68))⟩, ⟨(some 70), none, (.ia none 1 false (.t 67) (.t 69))⟩, ⟨(some 71), none, (.ld none (.t 70))⟩, ⟨(some 72), none, (.bld [nilS, (.int .i64 0), (.int .i64 0), (.int .i64 0)] [(0, (1, (.t 56))), (1, (1, (.t 61))), (2, (1, (.t 66))), (3, (1, (.t 71)))])⟩, ⟨(some 9), none, (.alloc false [nilS, (.int .i64 0), (.int .i64 0), (.int .i64 0)])⟩, ⟨none, none, (.st 4 (.t 9) (.t 72))⟩]) (.seq (.seq (.reg none [⟨(some 73), none, (.ld (some 4) (.t 9))⟩, ⟨(some 74), none, (.call (.f 43) [(.t 73)])⟩, ⟨(some 75), none, (.bin .neq [] (.t 74) (.k (.int .i64 0)))⟩]) (.cond (.t 75) (.seq (.reg none [⟨(some 76), none, (.bld [nilS, (.int .i64 0), (.int .i64 0), (.int .i64 0)] [])⟩, ⟨none, none, (.st 4 (.t 2) (.t 76))⟩, ⟨(some 3), none, (.mv (.k (.int .i64 10)))⟩]) .ret) .skip)) (.seq (.reg none [⟨(some 77), none, (.ld (some 4) (.t 9))⟩, ⟨none, none, (.st 4 (.t 2) (.t 77))⟩, ⟨(some 3), none, (.mv (.k (.int .i64 0)))⟩]) .ret))))))))⟩
theorem k81 : compF Try.prog 77 = some c81 := by kernel_rfl
attribute [local simp] op_or op_an op_add op_eql op_neq op_lss op_gtr op_leq op_geq op_sub op_mul
attribute [-simp] intOp bin_shl
/-- Numbers of which one is above 1000 are no schema. -/
theorem schT_big {l v : List Int} (h : nums l = some v) {x : Int} (hx : x ∈ v) (hb : 1000 < x) : schT l = noSch := by
  unfold schT
  rw [h]
  show (if v.length < 4 then noSch else if (v.length : Int) = v.getD 0 0 + 4 then _ else noSch) = noSch
  by_cases h4 : v.length < 4
  · rw [if_pos h4]
  · rw [if_neg h4]
    by_cases h5 : (v.length : Int) = v.getD 0 0 + 4
    · rw [if_pos h5]
      refine if_neg (fun hok => ?_)
      rw [schemaOk_iff] at hok
      obtain ⟨h1, h2, h3, h6, h7⟩ := hok
      obtain ⟨i, hi, rfl⟩ := List.getElem_of_mem hx
      have hg : ∀ j (hj : j < v.length), v.getD j 0 = v[j] := fun j hj => by rw [List.getD_eq_getElem?_getD, List.getElem?_eq_getElem hj]; rfl
      have hl : ((v.drop 1).take (v.getD 0 0).toNat).length = (v.getD 0 0).toNat := by rw [List.length_take, List.length_drop]; omega
      rw [hl] at h1 h3
      generalize hv0 : (v.getD 0 0).toNat = n at *
      have hn : v.length = n + 4 := by omega
      by_cases i0 : i = 0
      · subst i0
        rw [hg 0 (by omega)] at hv0
        omega
      by_cases i1 : i ≤ n
      · have hm : v[i] ∈ (v.drop 1).take n := by
          have : ((v.drop 1).take n)[i - 1]? = some v[i] := by
            rw [List.getElem?_take, if_pos (by omega), List.getElem?_drop, show 1 + (i - 1) = i by omega, List.getElem?_eq_getElem hi]
          exact List.mem_of_getElem? this
        have := h2 _ hm
        omega
      by_cases i2 : i = n + 1
      · subst i2
        rw [hg (n + 1) (by omega)] at h3
        omega
      by_cases i3 : i = n + 2
      · subst i3
        rw [hg (n + 2) (by omega)] at h6
        omega
      · have i4 : i = n + 3 := by omega
        subst i4
        rw [hg (n + 3) (by omega)] at h7
        omega
    · rw [if_neg h5]

def t81 (c : Bool) (l : List Int) (p a : Nat) : List D := [.slc c 1 (l.map (.int .u8)), .undef, .ptr 0 0 0 0, .int .i64 0, .sl 1 0 a a, .int .i64 p, .undef, .undef, .undef, .undef, .sl 1 0 0 0, .undef, .undef, .undef, .undef, .undef, .undef, .undef, .undef, .undef, .undef, .undef, .undef, .undef, .undef, .undef, .undef, .undef, .undef, .undef, .undef, .undef, .undef, .undef, .undef, .undef, .undef, .undef, .undef, .undef, .undef, .undef, .undef, .undef, .undef, .undef, .undef, .undef, .undef, .undef, .undef, .undef, .undef, .undef, .undef, .undef, .undef, .undef, .undef, .undef, .undef, .undef, .undef, .undef, .undef, .undef, .undef, .undef, .undef, .undef, .undef, .undef, .undef, .undef, .undef, .undef, .undef, .undef]
def row1 (l : List Int) : Obj := .row 1 (l.map (.int .i64)) 0
def bad81 : Option (D × List Obj) := some (.tuple [.agg [nilS, .int .i64 0, .int .i64 0, .int .i64 0], .int .i64 10], [])
set_option maxHeartbeats 4000000 in
theorem L81 (c : Bool) (L : List Int) (hL : L.length ≤ 2 ^ 39) (hB : isB L) : ∀ (N : Nat) (l acc : List Int) (p a : Nat), l.length ≤ N → L.drop p = l → p + l.length = L.length → a = acc.length → acc.length + l.length ≤ 2 ^ 40 →
    (∃ v, nums l = some v ∧ LpB cf0 K0 b81_0 (t81 c L 0 0) 2 ⟨t81 c L p a, [b110, row1 acc]⟩ = some (.exit 0, ⟨t81 c L L.length (acc ++ v).length, [b110, row1 (acc ++ v)]⟩)) ∨
    ((nums l = none ∨ ∃ v, nums l = some v ∧ ∃ x ∈ v, 1000 < x) ∧ ∀ kn, finK false 0 [.cell 2 (some 4), .tmp 3] (loopK cf0 K0 (LpB cf0 K0 b81_0 (t81 c L 0 0) 2 ⟨t81 c L p a, [b110, row1 acc]⟩) kn) = bad81) := by
  have fin : ∀ (acc : List Int) (p a : Nat), p = L.length → a = acc.length → (∃ v, nums ([] : List Int) = some v ∧ LpB cf0 K0 b81_0 (t81 c L 0 0) 2 ⟨t81 c L p a, [b110, row1 acc]⟩ = some (.exit 0, ⟨t81 c L L.length (acc ++ v).length, [b110, row1 (acc ++ v)]⟩)) := by
    intro acc p a hp ha
    refine ⟨[], nums_nil rfl, ?_⟩
    rw [LpB_eq]
    simp only [t81]
    conv => lhs; arg 6; simp [b81_0, hp]
    simp [ha, hp, b110, row1]
  intro N
  induction N with
  | zero =>
    intro l acc p a hN hd hp ha hb
    have hl : l = [] := List.eq_nil_of_length_eq_zero (by omega)
    subst hl
    exact .inl (fin acc p a (by simpa using hp) ha)
  | succ N ih =>
    intro l acc p a hN hd hp ha hb
    by_cases hl : l = []
    · subst hl
      exact .inl (fin acc p a (by simpa using hp) ha)
    have hl0 : ¬ l.length = 0 := fun e => hl (List.eq_nil_of_length_eq_zero e)
    have hpl : p < L.length := by omega
    have hpl2 : p ≤ L.length := by omega
    have hlB : isB l := by rw [← hd]; exact isB_drop hB _
    have hr := varI_range l
    have hK := fun cl => K79 cl l (by omega) hlB
    have hstep := nums_step hl0
    have m1 : List.drop p (L.map (D.int .u8)) = l.map (D.int .u8) := by rw [← hd]; simp [List.map_drop]
    obtain ⟨x, hx⟩ : ∃ x : Nat, (varI l).1 = x := ⟨(varI l).1.toNat, by omega⟩
    obtain ⟨n, hn⟩ : ∃ n : Nat, (varI l).2 = n := ⟨(varI l).2.toNat, by omega⟩
    rw [hx, hn] at hK hr hstep
    by_cases h1 : (n : Int) = 0
    · have h1' : ((n : Int) == 0) = true := by simp; omega
      rw [if_pos h1] at hstep
      refine .inr ⟨.inl hstep, fun kn => ?_⟩
      rw [LpB_eq]
      simp only [t81, b110, bad81]
      conv => lhs; arg 4; arg 3; arg 6; simp [b81_0, hpl, hpl2, m1, hK, h1']
      simp [Ks_ret]
    · have h1' : ((n : Int) == 0) = false := by simp; omega
      rw [if_neg h1] at hstep
      by_cases h2 : 1000 < (x : Int)
      · refine .inr ⟨?_, fun kn => ?_⟩
        · by_cases h3 : 1048576 < (x : Int)
          · rw [if_pos h3] at hstep; exact .inl hstep
          · rw [if_neg h3] at hstep
            cases hnn : nums (l.drop (n : Int).toNat) with
            | none => rw [hnn] at hstep; exact .inl hstep
            | some u => rw [hnn] at hstep; exact .inr ⟨_, hstep, (x : Int), List.mem_cons_self, h2⟩
        · rw [LpB_eq]
          simp only [t81, b110, bad81]
          conv => lhs; arg 4; arg 3; arg 6; simp [b81_0, hpl, hpl2, m1, hK, h1', h2]
          simp [Ks_ret]
      · rw [if_neg (by omega)] at hstep
        have hwx : IntKind.i64.wrap (x : Int) = x := w64 _ (by omega)
        obtain ⟨P, hP⟩ : ∃ P, P = p + n := ⟨_, rfl⟩
        have hwp : IntKind.i64.wrap ((p : Int) + n) = P := by rw [w64 _ (by omega)]; omega
        have e : (Int.toNat (n : Int)) = n := by omega
        rw [e] at hstep
        obtain ⟨r, hr2⟩ : ∃ r, l.drop n = r := ⟨_, rfl⟩
        have hrl : r.length = l.length - n := by rw [← hr2]; simp
        have ih' := ih r (acc ++ [(x : Int)]) P (acc ++ [(x : Int)]).length (by omega) (by rw [← hr2, ← hd, hP, List.drop_drop]) (by omega) rfl (by simp; omega)
        rw [hr2] at hstep
        have hb1 : (acc.length + 1) * 8 ≤ 70368744177664 := by omega
        have key : LpB cf0 K0 b81_0 (t81 c L 0 0) 2 ⟨t81 c L p a, [b110, row1 acc]⟩ = LpB cf0 K0 b81_0 (t81 c L 0 0) 2 ⟨t81 c L P (acc ++ [(x : Int)]).length, [b110, row1 (acc ++ [(x : Int)])]⟩ := by
          conv => lhs; rw [LpB_eq]
          simp only [t81, b110, row1]
          conv => lhs; arg 6; simp [b81_0, hpl, hpl2, m1, hK, h1', h2, hwx, hwp, ha, hb1]
          simp
        rw [key, hstep]
        rcases ih' with ⟨v, h3, h4⟩ | ⟨h3, h4⟩
        · refine .inl ⟨(x : Int) :: v, by rw [h3]; rfl, ?_⟩
          rw [show acc ++ ((x : Int) :: v) = acc ++ [(x : Int)] ++ v by simp]
          exact h4
        · refine .inr ⟨?_, h4⟩
          rcases h3 with h3 | ⟨v, h3, y, hy, hy2⟩
          · exact .inl (by rw [h3]; rfl)
          · exact .inr ⟨_, by rw [h3]; rfl, y, List.mem_cons_of_mem _ hy, hy2⟩
set_option maxHeartbeats 8000000 in
/-- thresherref04.Take. -/
theorem K81 (c : Bool) (l : List Int) (hl : l.length ≤ 2 ^ 39) (hB : isB l) : ∃ c' s, (s = 1 ∨ (schT l).1.1 = []) ∧ K0 77 [.slc c 1 (l.map (.int .u8))] [] = some (.tuple [Sd c' s (schT l).1.1 (schT l).1.2.1 (schT l).1.2.2.1 (schT l).1.2.2.2, .int .i64 (schT l).2], []) := by
  rcases L81 c l hl hB l.length l [] 0 0 (Nat.le_refl _) rfl (by simp) rfl (by simp; omega) with ⟨v, hn, h⟩ | ⟨hbad, h⟩
  rotate_left
  · have e : schT l = noSch := by
      rcases hbad with h | ⟨v, h, x, hx, hb⟩
      · exact schT_none h
      · exact schT_big h hx hb
    rw [e]
    refine ⟨true, 0, .inr rfl, K_call k81 (oraG_none (by decide) (by decide)) (by simp [c81]) ?_⟩
    simp only [t81, b110, row1, bad81] at h
    simp [c81]
    simp at h
    simp [noSch, Sd]
    exact h _
  · simp only [List.nil_append] at h
    have hv := nums_range _ l v (Nat.le_refl _) hn
    by_cases h4 : v.length < 4
    · rw [schT_short hn h4]
      refine ⟨true, 0, .inr rfl, K_call k81 (oraG_none (by decide) (by decide)) (by simp [c81]) ?_⟩
      simp only [t81, b110, row1] at h
      have h4' : (v.length : Int) < 4 := by omega
      simp [c81]
      simp at h
      rw [h]
      simp [h4', noSch, Sd]
    · obtain ⟨x, hx0⟩ : ∃ x, v[0]? = some x := ⟨v[0]'(by omega), List.getElem?_eq_getElem _⟩
      have hxr := hv x (List.mem_of_getElem? hx0)
      obtain ⟨q, rfl⟩ := Int.eq_ofNat_of_zero_le hxr.1
      have h4' : ¬ (v.length : Int) < 4 := by omega
      have hvn : ¬ v = [] := by intro e; rw [e] at h4; simp at h4
      have w4 : IntKind.i64.wrap ((q : Int) + 4) = q + 4 := w64 _ (by omega)
      have hp0 : 0 < v.length := by omega
      have hgi : v[0]'hp0 = (q : Int) := by rw [List.getElem?_eq_getElem hp0] at hx0; exact Option.some.inj hx0
      by_cases hq : v.length = q + 4
      · have hne : ((v.length : Int) != (q : Int) + 4) = false := by simp; omega
        obtain ⟨A, hA⟩ : ∃ A, A = q + 1 := ⟨_, rfl⟩
        obtain ⟨B, hB2⟩ : ∃ B, B = q + 2 := ⟨_, rfl⟩
        obtain ⟨C, hC⟩ : ∃ C, C = q + 3 := ⟨_, rfl⟩
        have wA : IntKind.i64.wrap (1 + (q : Int)) = A := by rw [w64 _ (by omega)]; omega
        have wB : IntKind.i64.wrap (2 + (q : Int)) = B := by rw [w64 _ (by omega)]; omega
        have wC : IntKind.i64.wrap (3 + (q : Int)) = C := by rw [w64 _ (by omega)]; omega
        have lA : A < v.length := by omega
        have lA1 : A ≤ v.length := by omega
        have l1A : 1 ≤ A := by omega
        have i1A : 1 ≤ (A : Int) := by omega
        have lB : B < v.length := by omega
        have lC : C < v.length := by omega
        obtain ⟨k, hk⟩ : ∃ k, v[A]'lA = k := ⟨_, rfl⟩
        obtain ⟨m, hm⟩ : ∃ m, v[B]'lB = m := ⟨_, rfl⟩
        obtain ⟨g, hg⟩ : ∃ g, v[C]'lC = g := ⟨_, rfl⟩
        have hk' : v[A]? = some k := by rw [List.getElem?_eq_getElem lA, hk]
        have hm' : v[B]? = some m := by rw [List.getElem?_eq_getElem lB, hm]
        have hg' : v[C]? = some g := by rw [List.getElem?_eq_getElem lC, hg]
        obtain ⟨ts, hts⟩ : ∃ ts, (v.drop 1).take q = ts := ⟨_, rfl⟩
        have m1 : (List.take A (v.map (D.int .i64))).tail = ts.map (D.int .i64) := by
          rw [← hts, hA, ← List.drop_one, List.drop_take]
          simp
        have htl : ts.length = q := by rw [← hts]; simp; omega
        have hS := schT_eq hn q hx0 hq k m g (by rw [← hA]; exact hk') (by rw [← hB2]; exact hm') (by rw [← hC]; exact hg')
        rw [hts] at hS
        have hch := fun c => K73 c 1 ts (.inl rfl) k m g (by omega)
        unfold Sd at hch
        cases hok : schemaOk ts k m g with
        | true =>
          rw [hS, if_pos hok]
          refine ⟨false, 1, .inl rfl, K_call k81 (oraG_none (by decide) (by decide)) (by simp [c81]) ?_⟩
          have hce : checkI ts k m g = 0 := if_pos hok
          rw [hce] at hch
          simp only [t81, b110, row1] at h
          simp [c81]
          simp [hvn] at h
          rw [h]
          simp [h4', w4, hne, hp0, hgi, wA, wB, wC, lA, lA1, l1A, i1A, lB, lC, hk, hm, hg, m1, hch, evOp, evM, wants, Ins.go, X.ev, iaM, ldM, binD, intOp, setD, applyW, Ek_ops_nil, allFree, free, callM, callP, appM]
          simp [Sd]
        | false =>
          rw [hS, if_neg (by rw [hok]; decide)]
          refine ⟨true, 0, .inr rfl, K_call k81 (oraG_none (by decide) (by decide)) (by simp [c81]) ?_⟩
          have hce : checkI ts k m g = 20 := if_neg (by rw [hok]; decide)
          rw [hce] at hch
          simp only [t81, b110, row1] at h
          simp [c81]
          simp [hvn] at h
          rw [h]
          simp [h4', w4, hne, hp0, hgi, wA, wB, wC, lA, lA1, l1A, i1A, lB, lC, hk, hm, hg, m1, hch, noSch, Sd, evOp, evM, wants, Ins.go, X.ev, iaM, ldM, binD, intOp, setD, applyW, Ek_ops_nil, allFree, free, callM, callP, appM]
      · have hne : ((v.length : Int) != (q : Int) + 4) = true := by simp; omega
        rw [schT_ne hn h4 _ hx0 (by omega)]
        refine ⟨true, 0, .inr rfl, K_call k81 (oraG_none (by decide) (by decide)) (by simp [c81]) ?_⟩
        simp only [t81, b110, row1] at h
        simp [c81]
        simp [hvn] at h
        rw [h]
        simp [h4', w4, hne, hp0, hgi, noSch, Sd]
end Go.Ab
/- PLAIN WORDS: how thresherref16 reads a record; that a record that was put is read so. -/
set_option linter.all false
namespace Go.Proofs.YtdopbfjebjnpkaaH.Rec
open Go.Proofs.YtdopbfjebjnpkaaH Go.Proofs.YtdopbfjebjnpkaaH.Crc Go.Proofs.YtdopbfjebjnpkaaH.Var Go.Proofs.YtdopbfjebjnpkaaH.Fr
def idsR (n : Int) : Nat → List Int → Bool → List Int × Bool
  | 0, _, is => ([], is)
  | j + 1, l, is => if is = true then ((numR l false).1 :: (idsR n j (numR l false).2.1 (!(numR l false).2.2 && decide (n ≤ 40))).1, (idsR n j (numR l false).2.1 (!(numR l false).2.2 && decide (n ≤ 40))).2) else ([], false)
def readI2 (kd : Int) (s : List Int × Int × Int × Int) (l : List Int) : RecV × Bool :=
  (fun q : Int × List Int × Bool => if q.2.2 = true ∨ kd = 2 then ((kd, s, [], q.1), !q.2.2)
    else (fun c : Int × List Int × Bool => ((kd, s, (idsR c.1 c.1.toNat c.2.1 (!c.2.2)).1, q.1), (idsR c.1 c.1.toNat c.2.1 (!c.2.2)).2)) (numR q.2.1 false)) (numR l false)
def readI (kd : Int) (l : List Int) : RecV × Bool :=
  if kd = 1 then (fun q : Int × List Int × Bool => if q.2.2 = true ∨ (q.2.1.length : Int) < q.1 then ((kd, ([], 0, 0, 0), [], 0), false)
    else if (schT (q.2.1.take q.1.toNat)).2 = 0 then readI2 kd (schT (q.2.1.take q.1.toNat)).1 (q.2.1.drop q.1.toNat) else ((kd, ([], 0, 0, 0), [], 0), false)) (numR l false)
  else readI2 kd ([], 0, 0, 0) l
theorem idsR_put (n : Int) (hn : n ≤ 40) : ∀ (ids r : List Int), (∀ x ∈ ids, 0 ≤ x ∧ x ≤ 999999) → idsR n ids.length (putAllI ids ++ r) true = (ids, true)
  | [], r, _ => rfl
  | x :: ids, r, h => by
    rw [putAllI_cons, List.append_assoc, List.length_cons]
    simp only [idsR, reduceIte]
    rw [numR_put (h x List.mem_cons_self)]
    simp only [Bool.not_false, Bool.true_and]
    rw [decide_eq_true hn, idsR_put n hn ids r (fun y hy => h y (List.mem_cons_of_mem _ hy))]
theorem readI2_put {kd : Int} {s : List Int × Int × Int × Int} {ids : List Int} {id : Int} (hid : 0 ≤ id ∧ id ≤ 999999) (hids : ∀ x ∈ ids, 0 ≤ x ∧ x ≤ 999999) (hl : ids.length ≤ 40) (h2 : kd = 2 → ids = []) (r : List Int) :
    readI2 kd s (putI id ++ (if kd = 2 then [] else putI ids.length ++ putAllI ids) ++ r) = ((kd, s, ids, id), true) := by
  unfold readI2
  rw [List.append_assoc, numR_put hid]
  simp only
  by_cases hk : kd = 2
  · rw [if_pos (.inr hk), h2 hk]
    rfl
  · rw [if_neg (by simp [hk]), if_neg hk, List.append_assoc, numR_put (by omega)]
    have e : (Int.toNat (ids.length : Int)) = ids.length := by omega
    simp only [e, Bool.not_false]
    rw [idsR_put _ (by omega) ids r hids]
theorem readI_put {kd : Int} {ts : List Int} {k m g : Int} {ids : List Int} {id : Int} (h : mayI kd ts k m g ids id = true) (r : List Int) :
    readI kd (recT kd ts k m g ids id ++ r) = ((kd, (ts, k, m, g), ids, id), true) := by
  obtain ⟨hk, hl, hid, hids⟩ := mayI_some h
  unfold readI recT
  by_cases h1 : kd = 1
  · have hs : schemaOk ts k m g = true := by
      rcases hk with ⟨_, h⟩ | ⟨h, _⟩ | ⟨h, _⟩
      · exact h
      · omega
      · omega
    rw [if_pos h1, if_pos h1]
    have e : putI ((putS ts k m g).length : Int) ++ putS ts k m g ++ putI id ++ (if kd = 2 then [] else putI ids.length ++ putAllI ids) ++ r
        = putI ((putS ts k m g).length : Int) ++ (putS ts k m g ++ (putI id ++ (if kd = 2 then [] else putI ids.length ++ putAllI ids) ++ r)) := by simp [List.append_assoc]
    have hsl := putS_len ts k m g hs
    rw [e, numR_put (by omega)]
    simp only
    have e2 : (Int.toNat ((putS ts k m g).length : Int)) = (putS ts k m g).length := by omega
    rw [if_neg (by
      rintro (h | h)
      · cases h
      · rw [List.length_append] at h; omega), e2, List.take_left, List.drop_left, schT_put hs]
    simp only [reduceIte]
    exact readI2_put hid hids hl (fun h => by omega) r
  · have hb : (ts = [] ∧ k = 0 ∧ m = 0 ∧ g = 0) ∧ (kd = 2 → ids = []) := by
      rcases hk with ⟨h, _⟩ | ⟨_, h, h0⟩ | ⟨h3, h, _⟩
      · exact absurd h h1
      · exact ⟨bare_eq h, fun _ => List.eq_nil_of_length_eq_zero h0⟩
      · exact ⟨bare_eq h, fun h => by omega⟩
    obtain ⟨⟨rfl, rfl, rfl, rfl⟩, h2⟩ := hb
    rw [if_neg h1, if_neg h1, List.nil_append]
    exact readI2_put hid hids hl h2 r
/-- What is taken is what is read, if it is put as it was. -/
theorem recTake_read {l : List Int} (hB : isB l) (h : (unframeI l).2.2 = 0) {x : Int} {r : List Int} (h2 : (unframeI l).1 = x :: r) :
    recTake l = if (readI x r).2 = true ∧ (putOf (readI x r).1).2 = true ∧ (putOf (readI x r).1).1 = l.take (unframeI l).2.1.toNat then ((readI x r).1, (unframeI l).2.1, 0) else (noRec, 0, 10) := by
  have hT : recTake l = if (recR x r false).2.2 = true ∨ (putOf (recR x r false).1).2 = false ∨ (putOf (recR x r false).1).1 ≠ l.take (unframeI l).2.1.toNat then (noRec, 0, 10) else ((recR x r false).1, (unframeI l).2.1, 0) := by
    unfold recTake; simp only; rw [if_neg (by rw [h]; decide), if_neg (by rw [h2]; simp)]
    rw [h2]
    rfl
  obtain ⟨u1, u2, u3, u4, u5, u6⟩ := unframe_some l hB (unframeI l).1 (unframeI l).2.1 (by rw [← h])
  rw [h2] at u1
  rw [hT, u1]
  have key : ∀ kd ts k m g ids id, mayI kd ts k m g ids id = true → frameI (recB kd ts k m g ids id) = frameI (x :: r) → x = kd ∧ r = recT kd ts k m g ids id ++ [] := by
    intro kd ts k m g ids id hm hf
    have e1 := unframe_frame (recB kd ts k m g ids id) [] (by have := recB_len hm; omega)
    have e2 := unframe_frame (x :: r) [] (by rw [h2] at u5; exact u5)
    rw [hf, e2] at e1
    have e3 := congrArg Prod.fst e1
    simp only at e3
    rw [recB_eq] at e3
    have := List.cons.inj e3
    rw [List.append_nil]
    exact this
  by_cases c1 : (readI x r).2 = true ∧ (putOf (readI x r).1).2 = true ∧ (putOf (readI x r).1).1 = frameI (x :: r)
  · rw [if_pos c1]
    obtain ⟨a1, a2, a3⟩ := c1
    generalize readI x r = q at *
    obtain ⟨⟨kd, ⟨ts, k, m, g⟩, ids, id⟩, ok⟩ := q
    simp only [putOf] at a1 a2 a3 ⊢
    rw [recPut_2] at a2
    unfold recPut at a3
    rw [if_pos a2] at a3
    obtain ⟨rfl, hr⟩ := key _ _ _ _ _ _ _ a2 a3
    have hR := recR_put a2 []
    rw [← hr] at hR
    rw [hR]
    refine if_neg ?_
    simp only [putOf]
    rw [recPut_2, a2]
    unfold recPut
    rw [if_pos a2]
    simp only at a3
    simp [a3]
  · rw [if_neg c1]
    by_cases c2 : (recR x r false).2.2 = true ∨ (putOf (recR x r false).1).2 = false ∨ (putOf (recR x r false).1).1 ≠ frameI (x :: r)
    · rw [if_pos c2]
    · exfalso
      apply c1
      generalize recR x r false = q at *
      obtain ⟨⟨kd, ⟨ts, k, m, g⟩, ids, id⟩, rest, bad⟩ := q
      simp only [putOf] at c2
      have a1 : mayI kd ts k m g ids id = true := by
        rw [recPut_2] at c2
        cases hm : mayI kd ts k m g ids id with
        | true => rfl
        | false => exact absurd (.inr (.inl hm)) c2
      have a2 : (recPut kd ts k m g ids id).1 = frameI (x :: r) := Classical.byContradiction fun h => c2 (.inr (.inr h))
      unfold recPut at a2
      rw [if_pos a1] at a2
      obtain ⟨rfl, hr⟩ := key _ _ _ _ _ _ _ a1 a2
      have hR := readI_put a1 []
      rw [← hr] at hR
      rw [hR]
      refine ⟨rfl, ?_, ?_⟩
      · simp only [putOf]; rw [recPut_2]; exact a1
      · simp only [putOf]; unfold recPut; rw [if_pos a1]; exact a2
end Go.Proofs.YtdopbfjebjnpkaaH.Rec
/- THE FUNCTIONS' EQUATIONS: thresherref16: number, read. -/
set_option linter.all false
set_option maxRecDepth 100000
namespace Go.Ab
open Go.Proofs Go.Proofs.YtdopbfjebjnpkaaH Go.Proofs.YtdopbfjebjnpkaaH.Crc Go.Proofs.YtdopbfjebjnpkaaH.Var Go.Proofs.YtdopbfjebjnpkaaH.Fr Go.Proofs.YtdopbfjebjnpkaaH.Rec
def b45_0 : C := (.seq (.seq (.reg none [⟨(some 85), none, (.mv (.t 16))⟩, ⟨(some 86), none, (.mv (.t 13))⟩, ⟨(some 87), none, (.bin .lss [] (.t 85) (.t 86))⟩, ⟨(some 88), none, (.mv (.t 87))⟩, ⟨(some 89), (some ((some 88), true)), (.mv (.t 15))⟩, ⟨(some 90), none, (.pick (.t 88) (.t 89) (.k (.bool false)))⟩]) (.cond (.t 90) .skip (.exit 0))) (.seq (.block 1 (.seq (.reg none [⟨(some 94), none, (.mv (.t 14))⟩, ⟨(some 95), none, (.call (.f 76) [(.t 94)])⟩, ⟨(some 93), none, (.mv (.t 95))⟩, ⟨(some 96), none, (.ext (.t 93) 0)⟩, ⟨(some 97), none, (.ext (.t 93) 1)⟩, ⟨(some 98), none, (.ext (.t 93) 2)⟩, ⟨(some 17), none, (.mv (.t 96))⟩, ⟨(some 18), none, (.mv (.t 97))⟩, ⟨(some 19), none, (.mv (.t 98))⟩]) (.seq (.reg none [⟨(some 99), none, (.mv (.t 19))⟩, ⟨(some 100), none, (.mv (.t 99))⟩, ⟨(some 101), (some ((some 100), true)), (.mv (.t 13))⟩, ⟨(some 102), (some ((some 100), true)), (.bin .leq [] (.t 101) (.k (.int .i64 40)))⟩, ⟨(some 103), none, (.pick (.t 100) (.t 102) (.k (.bool false)))⟩, ⟨(some 15), none, (.mv (.t 103))⟩]) (.seq (.reg none [⟨(some 104), none, (.fa 5 1 false (.t 4))⟩, ⟨(some 105), none, (.ld none (.t 104))⟩, ⟨(some 106), none, (.mv (.t 17))⟩, ⟨(some 107), none, (.bsl false 1 1 [(.int .i64 0)] [(0, (.t 106))])⟩, ⟨(some 108), none, (.app 1 8 (.t 105) (.t 107))⟩, ⟨(some 109), none, (.fa 5 1 false (.t 4))⟩, ⟨none, none, (.st 1 (.t 109) (.t 108))⟩]) (.reg none [⟨(some 110), none, (.mv (.t 18))⟩, ⟨(some 14), none, (.mv (.t 110))⟩]))))) (.reg none [⟨(some 91), none, (.mv (.t 16))⟩, ⟨(some 92), none, (.bin .add [] (.t 91) (.k (.int .i64 1)))⟩, ⟨(some 16), none, (.mv (.t 92))⟩])))
def r45 : C := (.seq (.reg none [⟨(some 61), none, (.mv (.t 0))⟩, ⟨(some 62), none, (.call (.f 76) [(.t 61)])⟩, ⟨(some 60), none, (.mv (.t 62))⟩, ⟨(some 63), none, (.ext (.t 60) 0)⟩, ⟨(some 64), none, (.ext (.t 60) 1)⟩, ⟨(some 65), none, (.ext (.t 60) 2)⟩, ⟨(some 10), none, (.mv (.t 63))⟩, ⟨(some 11), none, (.mv (.t 64))⟩, ⟨(some 12), none, (.mv (.t 65))⟩]) (.seq (.seq (.reg none [⟨(some 66), none, (.mv (.t 12))⟩, ⟨(some 67), none, (.un .not (.t 66))⟩, ⟨(some 68), none, (.mv (.t 67))⟩, ⟨(some 69), (some ((some 68), false)), (.fa 0 1 false (.t 4))⟩, ⟨(some 70), (some ((some 68), false)), (.ld none (.t 69))⟩, ⟨(some 71), (some ((some 68), false)), (.bin .eql [] (.t 70) (.k (.int .i64 2)))⟩, ⟨(some 72), none, (.pick (.t 68) (.k (.bool true)) (.t 71))⟩]) (.cond (.t 72) (.seq (.reg none [⟨(some 73), none, (.mv (.t 10))⟩, ⟨(some 74), none, (.fa 6 1 false (.t 4))⟩, ⟨none, none, (.st 1 (.t 74) (.t 73))⟩]) (.seq (.reg none [⟨(some 75), none, (.ld (some 7) (.t 4))⟩, ⟨(some 76), none, (.mv (.t 12))⟩, ⟨none, none, (.st 7 (.t 2) (.t 75))⟩, ⟨(some 3), none, (.mv (.t 76))⟩]) .ret)) .skip)) (.seq (.reg none [⟨(some 77), none, (.mv (.t 10))⟩, ⟨(some 78), none, (.fa 6 1 false (.t 4))⟩, ⟨none, none, (.st 1 (.t 78) (.t 77))⟩]) (.seq (.reg none [⟨(some 80), none, (.mv (.t 11))⟩, ⟨(some 81), none, (.call (.f 76) [(.t 80)])⟩, ⟨(some 79), none, (.mv (.t 81))⟩, ⟨(some 82), none, (.ext (.t 79) 0)⟩, ⟨(some 83), none, (.ext (.t 79) 1)⟩, ⟨(some 84), none, (.ext (.t 79) 2)⟩, ⟨(some 13), none, (.mv (.t 82))⟩, ⟨(some 14), none, (.mv (.t 83))⟩, ⟨(some 15), none, (.mv (.t 84))⟩]) (.seq (.seq (.reg none [⟨(some 16), none, (.mv (.k (.int .i64 0)))⟩]) (.block 0 (.loop b45_0))) (.seq (.reg none [⟨(some 111), none, (.ld (some 7) (.t 4))⟩, ⟨(some 112), none, (.mv (.t 15))⟩, ⟨none, none, (.st 7 (.t 2) (.t 111))⟩, ⟨(some 3), none, (.mv (.t 112))⟩]) .ret))))))
def c45 : Fn' := ⟨113, [(.cell 2 (some 7)), (.tmp 3)], (.seq (.reg none [⟨(some 2), none, (.alloc true [(.int .i64 0), nilS, (.int .i64 0), (.int .i64 0), (.int .i64 0), nilS, (.int .i64 0)])⟩, ⟨(some 3), none, (.mv (.k (.bool false)))⟩]) (.seq (.reg none [⟨(some 20), none, (.mv (.t 0))⟩, ⟨(some 21), none, (.ia none 1 false (.t 20) (.k (.int .i64 0)))⟩, ⟨(some 22), none, (.ld none (.t 21))⟩, ⟨(some 23), none, (.cvt (.int .i64) (.t 22))⟩, ⟨(some 24), none, (.bld [(.int .i64 0), nilS, (.int .i64 0), (.int .i64 0), (.int .i64 0), nilS, (.int .i64 0)] [(0, (1, (.t 23)))])⟩, ⟨(some 4), none, (.alloc true [(.int .i64 0), nilS, (.int .i64 0), (.int .i64 0), (.int .i64 0), nilS, (.int .i64 0)])⟩, ⟨none, none, (.st 7 (.t 4) (.t 24))⟩]) (.seq (.reg none [⟨(some 25), none, (.mv (.t 0))⟩, ⟨(some 26), none, (.sub 1 1 (.t 25) (some (.k (.int .i64 1))) none none)⟩, ⟨(some 0), none, (.mv (.t 26))⟩]) (.seq (.seq (.reg none [⟨(some 27), none, (.fa 0 1 false (.t 4))⟩, ⟨(some 28), none, (.ld none (.t 27))⟩, ⟨(some 29), none, (.bin .eql [] (.t 28) (.k (.int .i64 1)))⟩]) (.cond (.t 29) (.seq (.reg none [⟨(some 31), none, (.mv (.t 0))⟩, ⟨(some 32), none, (.call (.f 76) [(.t 31)])⟩, ⟨(some 30), none, (.mv (.t 32))⟩, ⟨(some 33), none, (.ext (.t 30) 0)⟩, ⟨(some 34), none, (.ext (.t 30) 1)⟩, ⟨(some 35), none, (.ext (.t 30) 2)⟩, ⟨(some 5), none, (.mv (.t 33))⟩, ⟨(some 6), none, (.mv (.t 34))⟩, ⟨(some 7), none, (.mv (.t 35))⟩]) (.seq (.seq (.reg none [⟨(some 36), none, (.mv (.t 7))⟩, ⟨(some 37), none, (.un .not (.t 36))⟩, ⟨(some 38), none, (.mv (.t 37))⟩, ⟨(some 39), (some ((some 38), false)), (.mv (.t 5))⟩, ⟨(some 40), (some ((some 38), false)), (.mv (.t 6))⟩, ⟨(some 41), (some ((some 38), false)), (.len 1 (.t 40))⟩, ⟨(some 42), (some ((some 38), false)), (.bin .gtr [] (.t 39) (.t 41))⟩, ⟨(some 43), none, (.pick (.t 38) (.k (.bool true)) (.t 42))⟩]) (.cond (.t 43) (.seq (.reg none [⟨(some 44), none, (.ld (some 7) (.t 4))⟩, ⟨none, none, (.st 7 (.t 2) (.t 44))⟩, ⟨(some 3), none, (.mv (.k (.bool false)))⟩]) .ret) .skip)) (.seq (.reg none [⟨(some 46), none, (.mv (.t 6))⟩, ⟨(some 47), none, (.mv (.t 5))⟩, ⟨(some 48), none, (.sub 1 1 (.t 46) none (some (.t 47)) none)⟩, ⟨(some 49), none, (.call (.f 77) [(.t 48)])⟩, ⟨(some 45), none, (.mv (.t 49))⟩, ⟨(some 50), none, (.ext (.t 45) 0)⟩, ⟨(some 51), none, (.ext (.t 45) 1)⟩, ⟨(some 8), none, (.alloc true [nilS, (.int .i64 0), (.int .i64 0), (.int .i64 0)])⟩, ⟨none, none, (.st 4 (.t 8) (.t 50))⟩, ⟨(some 9), none, (.mv (.t 51))⟩]) (.seq (.seq (.reg none [⟨(some 52), none, (.mv (.t 9))⟩, ⟨(some 53), none, (.bin .neq [] (.t 52) (.k (.int .i64 0)))⟩]) (.cond (.t 53) (.seq (.reg none [⟨(some 54), none, (.ld (some 7) (.t 4))⟩, ⟨none, none, (.st 7 (.t 2) (.t 54))⟩, ⟨(some 3), none, (.mv (.k (.bool false)))⟩]) .ret) .skip)) (.seq (.reg none [⟨(some 55), none, (.ld (some 4) (.t 8))⟩, ⟨(some 56), none, (.fa 1 4 true (.t 4))⟩, ⟨none, none, (.st 4 (.t 56) (.t 55))⟩]) (.reg none [⟨(some 57), none, (.mv (.t 6))⟩, ⟨(some 58), none, (.mv (.t 5))⟩, ⟨(some 59), none, (.sub 1 1 (.t 57) (some (.t 58)) none none)⟩, ⟨(some 0), none, (.mv (.t 59))⟩])))))) .skip)) r45))))⟩
theorem k45 : compF Try.prog 58 = some c45 := by kernel_rfl
attribute [local simp] op_or op_an op_add op_sub op_mul oq_eql oq_neq oq_lss oq_gtr oq_leq oq_geq
attribute [-simp] intOp bin_shl
/-- What is behind a number. -/
def rst (c : Bool) (q : Int × List Int × Bool) : D := if q.2.2 = true then nilS else .slc c 1 (q.2.1.map (.int .u8))
set_option maxHeartbeats 4000000 in
/-- thresherref16.number. -/
theorem K80 (c : Bool) (l : List Int) (hl : l.length ≤ 2 ^ 45) (hB : isB l) : K0 76 [.slc c 1 (l.map (.int .u8))] [] = some (.tuple [.int .i64 (numR l false).1, rst c (numR l false), .bool (!(numR l false).2.2)], []) := by
  refine K_call k80 (oraG_none (by decide) (by decide)) (by simp [c80]) ?_
  have hr := varI_range l
  have hK := K79 c l (by omega) hB
  unfold numR
  obtain ⟨x, hx⟩ : ∃ x : Nat, (varI l).1 = x := ⟨(varI l).1.toNat, by omega⟩
  obtain ⟨n, hn⟩ : ∃ n : Nat, (varI l).2 = n := ⟨(varI l).2.toNat, by omega⟩
  rw [hx, hn] at hK hr ⊢
  by_cases h1 : (n : Int) = 0
  · have z1 := eqI_t h1
    rw [if_pos h1]
    simp [c80, hK, z1, rst]
  · have z1 := eqI_f h1
    rw [if_neg h1]
    by_cases h2 : 999999 < (x : Int)
    · have z2 := ltI_t h2
      rw [if_pos h2]
      simp [c80, hK, z1, z2, rst]
    · have z2 := ltI_f h2
      rw [if_neg h2]
      have hw : IntKind.i64.wrap (x : Int) = x := w64 _ (by omega)
      have hnl : n ≤ l.length := by omega
      have e : (Int.toNat (n : Int)) = n := by omega
      rw [e]
      obtain ⟨r, hr2⟩ : ∃ r, l.drop n = r := ⟨_, rfl⟩
      have m1 : List.drop n (l.map (D.int .u8)) = r.map (D.int .u8) := by rw [← hr2]; simp [List.map_drop]
      rw [hr2]
      simp [c80, hK, z1, z2, hw, hnl, m1, rst, evOp, evM, wants, Ins.go, X.ev, iaM, ldM, binD, setD, applyW, Ek_ops_nil, allFree, free, callM, callP]
/-- What there is while a record is read. -/
def H45 (e : Bool) (kd : Int) (x : D) (k m g id : Int) (acc : List Int) : List Obj :=
  if e = true then (if acc = [] then [.row 0 [] 0, .row 0 [] 0, .box [.int .i64 0, .sl 0 0 0 0, .int .i64 0, .int .i64 0, .int .i64 0, .sl 1 0 0 0, .int .i64 0], .row 0 [] 0, .row 0 [] 0, .box [.int .i64 kd, x, .int .i64 k, .int .i64 m, .int .i64 g, nilS, .int .i64 id], .row 0 [] 0, .box [x, .int .i64 k, .int .i64 m, .int .i64 g]]
    else [.row 0 [] 0, .row 0 [] 0, .box [.int .i64 0, .sl 0 0 0 0, .int .i64 0, .int .i64 0, .int .i64 0, .sl 1 0 0 0, .int .i64 0], .row 0 [] 0, .row 0 [] 0, .box [.int .i64 kd, x, .int .i64 k, .int .i64 m, .int .i64 g, .sl 8 0 acc.length acc.length, .int .i64 id], .row 0 [] 0, .box [x, .int .i64 k, .int .i64 m, .int .i64 g], .row 1 (acc.map (.int .i64)) 0])
  else (if acc = [] then [.row 0 [] 0, .row 0 [] 0, .box [.int .i64 0, .sl 0 0 0 0, .int .i64 0, .int .i64 0, .int .i64 0, .sl 1 0 0 0, .int .i64 0], .row 0 [] 0, .row 0 [] 0, .box [.int .i64 kd, x, .int .i64 k, .int .i64 m, .int .i64 g, nilS, .int .i64 id]]
    else [.row 0 [] 0, .row 0 [] 0, .box [.int .i64 0, .sl 0 0 0 0, .int .i64 0, .int .i64 0, .int .i64 0, .sl 1 0 0 0, .int .i64 0], .row 0 [] 0, .row 0 [] 0, .box [.int .i64 kd, x, .int .i64 k, .int .i64 m, .int .i64 g, .sl 6 0 acc.length acc.length, .int .i64 id], .row 1 (acc.map (.int .i64)) 0])
def s45 (e : Bool) (c : Bool) (kd : Int) (l : List Int) (v : D) (n1 : Int) (r0 : List Int) (S u : D) : List D :=
  if e = true then [v, .undef, .ptr 2 0 0 0, .bool false, .ptr 5 0 0 0, .int .i64 n1, .slc c 1 (r0.map (.int .u8)), .bool true, .ptr 7 0 0 0, .int .i64 0, .undef, .undef, .undef, .undef, .undef, .undef, .undef, .undef, .undef, .undef, .slc c 1 ((kd :: l).map (.int .u8)), .fptr (.int .u8 kd), .int .u8 kd, .int .i64 kd, .agg [.int .i64 kd, nilS, .int .i64 0, .int .i64 0, .int .i64 0, nilS, .int .i64 0], .slc c 1 ((kd :: l).map (.int .u8)), .slc c 1 (l.map (.int .u8)), .ptr 5 0 0 0, .int .i64 kd, .bool true, .tuple [.int .i64 n1, .slc c 1 (r0.map (.int .u8)), .bool true], .slc c 1 (l.map (.int .u8)), .tuple [.int .i64 n1, .slc c 1 (r0.map (.int .u8)), .bool true], .int .i64 n1, .slc c 1 (r0.map (.int .u8)), .bool true, .bool true, .bool false, .bool false, .int .i64 n1, .slc c 1 (r0.map (.int .u8)), .int .i64 r0.length, .bool false, .bool false, .undef, .tuple [S, .int .i64 0], .slc c 1 (r0.map (.int .u8)), .int .i64 n1, u, .tuple [S, .int .i64 0], S, .int .i64 0, .int .i64 0, .bool false, .undef, S, .ptr 5 0 1 0, .slc c 1 (r0.map (.int .u8)), .int .i64 n1, v, .undef, .undef, .undef, .undef, .undef, .undef, .undef, .undef, .undef, .undef, .undef, .undef, .undef, .undef, .undef, .undef, .undef, .undef, .undef, .undef, .undef, .undef, .undef, .undef, .undef, .undef, .undef, .undef, .undef, .undef, .undef, .undef, .undef, .undef, .undef, .undef, .undef, .undef, .undef, .undef, .undef, .undef, .undef, .undef, .undef, .undef, .undef, .undef, .undef, .undef, .undef, .undef, .undef]
  else [v, .undef, .ptr 2 0 0 0, .bool false, .ptr 5 0 0 0, .undef, .undef, .undef, .undef, .undef, .undef, .undef, .undef, .undef, .undef, .undef, .undef, .undef, .undef, .undef, .slc c 1 ((kd :: l).map (.int .u8)), .fptr (.int .u8 kd), .int .u8 kd, .int .i64 kd, .agg [.int .i64 kd, nilS, .int .i64 0, .int .i64 0, .int .i64 0, nilS, .int .i64 0], .slc c 1 ((kd :: l).map (.int .u8)), .slc c 1 (l.map (.int .u8)), .ptr 5 0 0 0, .int .i64 kd, .bool false, .undef, .undef, .undef, .undef, .undef, .undef, .undef, .undef, .undef, .undef, .undef, .undef, .undef, .undef, .undef, .undef, .undef, .undef, .undef, .undef, .undef, .undef, .undef, .undef, .undef, .undef, .undef, .undef, .undef, .undef, .undef, .undef, .undef, .undef, .undef, .undef, .undef, .undef, .undef, .undef, .undef, .undef, .undef, .undef, .undef, .undef, .undef, .undef, .undef, .undef, .undef, .undef, .undef, .undef, .undef, .undef, .undef, .undef, .undef, .undef, .undef, .undef, .undef, .undef, .undef, .undef, .undef, .undef, .undef, .undef, .undef, .undef, .undef, .undef, .undef, .undef, .undef, .undef, .undef, .undef, .undef, .undef, .undef]
def t45 (e : Bool) (c : Bool) (kd : Int) (l : List Int) (v : D) (n1 : Int) (r0 : List Int) (S u : D) (id : Int) (r1 r2 : List Int) (n : Int) (y : D) (is : Bool) (i : Nat) : List D :=
  if e = true then [v, .undef, .ptr 2 0 0 0, .bool false, .ptr 5 0 0 0, .int .i64 n1, .slc c 1 (r0.map (.int .u8)), .bool true, .ptr 7 0 0 0, .int .i64 0, .int .i64 id, .slc c 1 (r1.map (.int .u8)), .bool true, .int .i64 n, y, .bool is, .int .i64 i, .undef, .undef, .undef, .slc c 1 ((kd :: l).map (.int .u8)), .fptr (.int .u8 kd), .int .u8 kd, .int .i64 kd, .agg [.int .i64 kd, nilS, .int .i64 0, .int .i64 0, .int .i64 0, nilS, .int .i64 0], .slc c 1 ((kd :: l).map (.int .u8)), .slc c 1 (l.map (.int .u8)), .ptr 5 0 0 0, .int .i64 kd, .bool true, .tuple [.int .i64 n1, .slc c 1 (r0.map (.int .u8)), .bool true], .slc c 1 (l.map (.int .u8)), .tuple [.int .i64 n1, .slc c 1 (r0.map (.int .u8)), .bool true], .int .i64 n1, .slc c 1 (r0.map (.int .u8)), .bool true, .bool true, .bool false, .bool false, .int .i64 n1, .slc c 1 (r0.map (.int .u8)), .int .i64 r0.length, .bool false, .bool false, .undef, .tuple [S, .int .i64 0], .slc c 1 (r0.map (.int .u8)), .int .i64 n1, u, .tuple [S, .int .i64 0], S, .int .i64 0, .int .i64 0, .bool false, .undef, S, .ptr 5 0 1 0, .slc c 1 (r0.map (.int .u8)), .int .i64 n1, v, .tuple [.int .i64 id, .slc c 1 (r1.map (.int .u8)), .bool true], v, .tuple [.int .i64 id, .slc c 1 (r1.map (.int .u8)), .bool true], .int .i64 id, .slc c 1 (r1.map (.int .u8)), .bool true, .bool true, .bool false, .bool false, .ptr 5 0 0 0, .int .i64 kd, .bool false, .bool false, .undef, .undef, .undef, .undef, .int .i64 id, .ptr 5 0 6 0, .tuple [.int .i64 n, .slc c 1 (r2.map (.int .u8)), .bool true], .slc c 1 (r1.map (.int .u8)), .tuple [.int .i64 n, .slc c 1 (r2.map (.int .u8)), .bool true], .int .i64 n, .slc c 1 (r2.map (.int .u8)), .bool true, .undef, .undef, .undef, .undef, .undef, .undef, .undef, .undef, .undef, .undef, .undef, .undef, .undef, .undef, .undef, .undef, .undef, .undef, .undef, .undef, .undef, .undef, .undef, .undef, .undef, .undef, .undef, .undef]
  else [v, .undef, .ptr 2 0 0 0, .bool false, .ptr 5 0 0 0, .undef, .undef, .undef, .undef, .undef, .int .i64 id, .slc c 1 (r1.map (.int .u8)), .bool true, .int .i64 n, y, .bool is, .int .i64 i, .undef, .undef, .undef, .slc c 1 ((kd :: l).map (.int .u8)), .fptr (.int .u8 kd), .int .u8 kd, .int .i64 kd, .agg [.int .i64 kd, nilS, .int .i64 0, .int .i64 0, .int .i64 0, nilS, .int .i64 0], .slc c 1 ((kd :: l).map (.int .u8)), .slc c 1 (l.map (.int .u8)), .ptr 5 0 0 0, .int .i64 kd, .bool false, .undef, .undef, .undef, .undef, .undef, .undef, .undef, .undef, .undef, .undef, .undef, .undef, .undef, .undef, .undef, .undef, .undef, .undef, .undef, .undef, .undef, .undef, .undef, .undef, .undef, .undef, .undef, .undef, .undef, .undef, .tuple [.int .i64 id, .slc c 1 (r1.map (.int .u8)), .bool true], v, .tuple [.int .i64 id, .slc c 1 (r1.map (.int .u8)), .bool true], .int .i64 id, .slc c 1 (r1.map (.int .u8)), .bool true, .bool true, .bool false, .bool false, .ptr 5 0 0 0, .int .i64 kd, .bool false, .bool false, .undef, .undef, .undef, .undef, .int .i64 id, .ptr 5 0 6 0, .tuple [.int .i64 n, .slc c 1 (r2.map (.int .u8)), .bool true], .slc c 1 (r1.map (.int .u8)), .tuple [.int .i64 n, .slc c 1 (r2.map (.int .u8)), .bool true], .int .i64 n, .slc c 1 (r2.map (.int .u8)), .bool true, .undef, .undef, .undef, .undef, .undef, .undef, .undef, .undef, .undef, .undef, .undef, .undef, .undef, .undef, .undef, .undef, .undef, .undef, .undef, .undef, .undef, .undef, .undef, .undef, .undef, .undef, .undef, .undef]
set_option maxHeartbeats 8000000 in
theorem L45 (e : Bool) (c : Bool) (kd : Int) (l0 lv lu : List Int) (cv cu : Bool) (n1 : Int) (r0 : List Int) (id : Int) (r1 r2 : List Int) (n : Int) (hn : 0 ≤ n ∧ n ≤ 999999) (cs : Bool) (ss : Nat) (ts : List Int) (k m g : Int) :
    ∀ (j i : Nat) (l acc : List Int) (is : Bool) (y : D), ((i + j : Nat) : Int) = n → acc.length ≤ i → l.length ≤ 2 ^ 38 → isB l → (is = true → y = .slc c 1 (l.map (.int .u8))) →
    ∃ y' i', LpB cf0 K0 b45_0 (t45 e c kd l0 (.slc cv 1 (lv.map (.int .u8))) n1 r0 (.agg [.slc cs ss (ts.map (.int .i64)), .int .i64 k, .int .i64 m, .int .i64 g]) (.slc cu 1 (lu.map (.int .u8))) id r1 r2 n (.slc c 1 (r2.map (.int .u8))) true 0) (if e = true then 8 else 6) ⟨t45 e c kd l0 (.slc cv 1 (lv.map (.int .u8))) n1 r0 (.agg [.slc cs ss (ts.map (.int .i64)), .int .i64 k, .int .i64 m, .int .i64 g]) (.slc cu 1 (lu.map (.int .u8))) id r1 r2 n y is i, H45 e kd (.slc cs ss (ts.map (.int .i64))) k m g id acc⟩ =
      some (.exit 0, ⟨t45 e c kd l0 (.slc cv 1 (lv.map (.int .u8))) n1 r0 (.agg [.slc cs ss (ts.map (.int .i64)), .int .i64 k, .int .i64 m, .int .i64 g]) (.slc cu 1 (lu.map (.int .u8))) id r1 r2 n y' (idsR n j l is).2 i', H45 e kd (.slc cs ss (ts.map (.int .i64))) k m g id (acc ++ (idsR n j l is).1)⟩)
  | 0, i, l, acc, is, y, hij, ha, hl, hB, hy => by
    have z1 : ltI (i : Int) n = false := ltI_f (by omega)
    refine ⟨y, i, ?_⟩
    rw [LpB_eq]
    by_cases hacc : acc = []
    · subst hacc
      cases e <;> simp [b45_0, t45, H45, z1, idsR]
    · cases e <;> simp [b45_0, t45, H45, z1, idsR, hacc]
  | j + 1, i, l, acc, false, y, hij, ha, hl, hB, hy => by
    have z1 : ltI (i : Int) n = true := ltI_t (by omega)
    refine ⟨y, i, ?_⟩
    rw [LpB_eq]
    by_cases hacc : acc = []
    · subst hacc
      cases e <;> simp [b45_0, t45, H45, z1, idsR]
    · cases e <;> simp [b45_0, t45, H45, z1, idsR, hacc]
  | j + 1, i, l, acc, true, y, hij, ha, hl, hB, hy => by
    obtain rfl := hy rfl
    have z1 : ltI (i : Int) n = true := ltI_t (by omega)
    have hw := w64 (i + 1) (by omega)
    have hK := K80 c l (by omega) hB
    have hqB := numR_B (bad := false) hB
    have hql := numR_le l false
    have hb1 : (acc.length + 1) * 8 ≤ 70368744177664 := by omega
    have ih := fun is y hy => L45 e c kd l0 lv lu cv cu n1 r0 id r1 r2 n hn cs ss ts k m g j (i + 1) (numR l false).2.1 (acc ++ [(numR l false).1]) is y (by rw [← hij]; congr 1; omega) (by simp; omega) (by omega) hqB hy
    simp only [idsR, reduceIte]
    generalize numR l false = q at *
    obtain ⟨x, r', b'⟩ := q
    simp only [rst] at hK hqB hql ih ⊢
    cases b' with
    | true =>
      simp only [reduceIte, Bool.not_true, Bool.false_and] at hK ⊢
      obtain ⟨y', i', ih⟩ := ih false nilS (fun h => by cases h)
      refine ⟨y', i', ?_⟩
      rw [LpB_eq]
      rw [show acc ++ x :: (idsR n j r' false).1 = acc ++ [x] ++ (idsR n j r' false).1 by simp]
      by_cases hacc : acc = []
      · subst hacc
        simp only [H45] at ih ⊢
        cases e
        · simp only [t45, Bool.false_eq_true, reduceIte] at ih ⊢
          conv => lhs; arg 6; simp [b45_0, z1, hK, hw]
          simp at ih ⊢
          exact ih
        · simp only [t45, reduceIte] at ih ⊢
          conv => lhs; arg 6; simp [b45_0, z1, hK, hw]
          simp at ih ⊢
          exact ih
      · simp only [H45] at ih ⊢
        cases e
        · simp only [t45, hacc, Bool.false_eq_true, reduceIte] at ih ⊢
          conv => lhs; arg 6; simp [b45_0, z1, hK, hw, hacc, hb1]
          simp [hacc] at ih ⊢
          exact ih
        · simp only [t45, hacc, reduceIte] at ih ⊢
          conv => lhs; arg 6; simp [b45_0, z1, hK, hw, hacc, hb1]
          simp [hacc] at ih ⊢
          exact ih
    | false =>
      simp only [Bool.false_eq_true, reduceIte, Bool.not_false, Bool.true_and] at hK ⊢
      obtain ⟨z40, hz40⟩ : ∃ z, leI n 40 = z := ⟨_, rfl⟩
      have hd : decide (n ≤ 40) = z40 := hz40
      rw [hd]
      obtain ⟨y', i', ih⟩ := ih z40 (.slc c 1 (r'.map (.int .u8))) (fun _ => rfl)
      refine ⟨y', i', ?_⟩
      rw [LpB_eq]
      rw [show acc ++ x :: (idsR n j r' z40).1 = acc ++ [x] ++ (idsR n j r' z40).1 by simp]
      by_cases hacc : acc = []
      · subst hacc
        simp only [H45] at ih ⊢
        cases e
        · simp only [t45, Bool.false_eq_true, reduceIte] at ih ⊢
          conv => lhs; arg 6; simp [b45_0, z1, hK, hw, hz40]
          simp at ih ⊢
          exact ih
        · simp only [t45, reduceIte] at ih ⊢
          conv => lhs; arg 6; simp [b45_0, z1, hK, hw, hz40]
          simp at ih ⊢
          exact ih
      · simp only [H45] at ih ⊢
        cases e
        · simp only [t45, hacc, Bool.false_eq_true, reduceIte] at ih ⊢
          conv => lhs; arg 6; simp [b45_0, z1, hK, hw, hz40, hacc, hb1]
          simp [hacc] at ih ⊢
          exact ih
        · simp only [t45, hacc, reduceIte] at ih ⊢
          conv => lhs; arg 6; simp [b45_0, z1, hK, hw, hz40, hacc, hb1]
          simp [hacc] at ih ⊢
          exact ih
end Go.Ab
/- THE FUNCTIONS' EQUATIONS: thresherref16: read, Take. -/
set_option linter.all false
set_option maxRecDepth 100000
namespace Go.Ab
open Go.Proofs Go.Proofs.YtdopbfjebjnpkaaH Go.Proofs.YtdopbfjebjnpkaaH.Crc Go.Proofs.YtdopbfjebjnpkaaH.Var Go.Proofs.YtdopbfjebjnpkaaH.Fr Go.Proofs.YtdopbfjebjnpkaaH.Rec
def c20 : Fn' := ⟨54, [(.cell 2 (some 7)), (.tmp 3), (.tmp 4)], (.seq (.reg none [⟨(some 2), none, (.alloc false [(.int .i64 0), nilS, (.int .i64 0), (.int .i64 0), (.int .i64 0), nilS, (.int .i64 0)])⟩, ⟨(some 3), none, (.mv (.k (.int .i64 0)))⟩, ⟨(some 4), none, (.mv (.k (.int .i64 0)))⟩]) (.seq (.reg none [⟨(some 13), none, (.mv (.t 0))⟩, ⟨(some 14), none, (.call (.f 57) [(.t 13)])⟩, ⟨(some 12), none, (.mv (.t 14))⟩, ⟨(some 15), none, (.ext (.t 12) 0)⟩, ⟨(some 16), none, (.ext (.t 12) 1)⟩, ⟨(some 17), none, (.ext (.t 12) 2)⟩, ⟨(some 5), none, (.mv (.t 15))⟩, ⟨(some 6), none, (.mv (.t 16))⟩, ⟨(some 7), none, (.mv (.t 17))⟩]) (.seq (.seq (.reg none [⟨(some 18), none, (.mv (.t 7))⟩, ⟨(some 19), none, (.bin .neq [] (.t 18) (.k (.int .i64 0)))⟩]) (.cond (.t 19) (.seq (.reg none [⟨(some 20), none, (.bld [(.int .i64 0), nilS, (.int .i64 0), (.int .i64 0), (.int .i64 0), nilS, (.int .i64 0)] [])⟩, ⟨(some 21), none, (.mv (.t 7))⟩, ⟨none, none, (.st 7 (.t 2) (.t 20))⟩, ⟨(some 3), none, (.mv (.k (.int .i64 0)))⟩, ⟨(some 4), none, (.mv (.t 21))⟩]) .ret) .skip)) (.seq (.seq (.reg none [⟨(some 22), none, (.mv (.t 5))⟩, ⟨(some 23), none, (.len 1 (.t 22))⟩, ⟨(some 24), none, (.bin .eql [] (.t 23) (.k (.int .i64 0)))⟩]) (.cond (.t 24) (.seq (.reg none [⟨(some 25), none, (.bld [(.int .i64 0), nilS, (.int .i64 0), (.int .i64 0), (.int .i64 0), nilS, (.int .i64 0)] [])⟩, ⟨none, none, (.st 7 (.t 2) (.t 25))⟩, ⟨(some 3), none, (.mv (.k (.int .i64 0)))⟩, ⟨(some 4), none, (.mv (.k (.int .i64 10)))⟩]) .ret) .skip)) (.seq (.reg none [⟨(some 27), none, (.mv (.t 5))⟩, ⟨(some 28), none, (.call (.f 58) [(.t 27)])⟩, ⟨(some 26), none, (.mv (.t 28))⟩, ⟨(some 29), none, (.ext (.t 26) 0)⟩, ⟨(some 30), none, (.ext (.t 26) 1)⟩, ⟨(some 8), none, (.alloc false [(.int .i64 0), nilS, (.int .i64 0), (.int .i64 0), (.int .i64 0), nilS, (.int .i64 0)])⟩, ⟨none, none, (.st 7 (.t 8) (.t 29))⟩, ⟨(some 9), none, (.mv (.t 30))⟩]) (.seq (.reg none [⟨(some 32), none, (.ld (some 7) (.t 8))⟩, ⟨(some 33), none, (.call (.f 13) [(.t 32)])⟩, ⟨(some 31), none, (.mv (.t 33))⟩, ⟨(some 34), none, (.ext (.t 31) 0)⟩, ⟨(some 35), none, (.ext (.t 31) 1)⟩, ⟨(some 10), none, (.mv (.t 34))⟩, ⟨(some 11), none, (.mv (.t 35))⟩]) (.seq (.seq (.reg (some [(8, 11), (8, 12)]) [⟨(some 36), none, (.mv (.t 9))⟩, ⟨(some 37), none, (.un .not (.t 36))⟩, ⟨(some 38), none, (.mv (.t 37))⟩, ⟨(some 39), (some ((some 38), false)), (.mv (.t 11))⟩, ⟨(some 40), (some ((some 38), false)), (.un .not (.t 39))⟩, ⟨(some 41), none, (.pick (.t 38) (.k (.bool true)) (.t 40))⟩, ⟨(some 42), none, (.mv (.t 41))⟩, ⟨(some 43), (some ((some 42), false)), (.mv (.t 10))⟩, ⟨(some 44), (some ((some 42), false)), (.cvt .b2s (.t 43))⟩, ⟨(some 45), (some ((some 42), false)), (.mv (.t 0))⟩, ⟨(some 46), (some ((some 42), false)), (.mv (.t 6))⟩, ⟨(some 47), (some ((some 42), false)), (.sub 1 1 (.t 45) none (some (.t 46)) none)⟩, ⟨(some 48), (some ((some 42), false)), (.cvt .b2s (.t 47))⟩, ⟨(some 49), (some ((some 42), false)), (.bin .neq [] (.t 44) (.t 48))⟩, ⟨(some 50), none, (.pick (.t 42) (.k (.bool true)) (.t 49))⟩]) (.cond (.t 50) (.seq (.reg none [⟨(some 51), none, (.bld [(.int .i64 0), nilS, (.int .i64 0), (.int .i64 0), (.int .i64 0), nilS, (.int .i64 0)] [])⟩, ⟨none, none, (.st 7 (.t 2) (.t 51))⟩, ⟨(some 3), none, (.mv (.k (.int .i64 0)))⟩, ⟨(some 4), none, (.mv (.k (.int .i64 10)))⟩]) .ret) .skip)) (.seq (.reg none [⟨(some 52), none, (.ld (some 7) (.t 8))⟩, ⟨(some 53), none, (.mv (.t 6))⟩, ⟨none, none, (.st 7 (.t 2) (.t 52))⟩, ⟨(some 3), none, (.mv (.t 53))⟩, ⟨(some 4), none, (.mv (.k (.int .i64 0)))⟩]) .ret))))))))⟩
theorem k20 : compF Try.prog 39 = some c20 := by kernel_rfl
attribute [local simp] op_or op_an op_add op_sub op_mul oq_eql oq_neq oq_lss oq_gtr oq_leq oq_geq
attribute [-simp] intOp bin_shl
set_option maxHeartbeats 8000000 in
theorem R45 (e : Bool) (c : Bool) (kd : Int) (he : eqI kd 1 = e) (l0 lv lu : List Int) (cu : Bool) (n1 : Int) (r0 : List Int) (cs : Bool) (ss : Nat) (ts : List Int) (k m g : Int) (hl : lv.length ≤ 2 ^ 38) (hB : isB lv) :
    ∃ c' s', (s' = 1 ∨ (readI2 kd (ts, k, m, g) lv).1.2.2.1 = []) ∧
    finK false 0 [.cell 2 (some 7), .tmp 3] (Ek cf0 K0 [.c r45] ⟨s45 e c kd l0 (.slc c 1 (lv.map (.int .u8))) n1 r0 (.agg [.slc cs ss (ts.map (.int .i64)), .int .i64 k, .int .i64 m, .int .i64 g]) (.slc cu 1 (lu.map (.int .u8))), H45 e kd (.slc cs ss (ts.map (.int .i64))) k m g 0 []⟩) =
      some (.tuple [Rcd kd cs ss ts k m g c' s' (readI2 kd (ts, k, m, g) lv).1.2.2.1 (readI2 kd (ts, k, m, g) lv).1.2.2.2, .bool (readI2 kd (ts, k, m, g) lv).2], []) := by
  have hK := K80 c lv (by omega) hB
  have hqB := numR_B (bad := false) hB
  have hql := numR_le lv false
  unfold readI2
  generalize numR lv false = q at *
  obtain ⟨id, r1, b1⟩ := q
  simp only [rst] at hK hqB hql ⊢
  cases b1 with
  | true =>
    rw [if_pos (.inl rfl)]
    refine ⟨true, 0, .inr rfl, ?_⟩
    simp only [H45, Rcd, reduceIte, Bool.not_true] at hK ⊢
    cases e <;> simp [r45, s45, hK]
  | false =>
    simp only [Bool.false_eq_true, reduceIte, Bool.not_false] at hK
    by_cases h2 : kd = 2
    · have z2 := eqI_t h2
      rw [if_pos (.inr h2)]
      refine ⟨true, 0, .inr rfl, ?_⟩
      simp only [H45, Rcd, reduceIte, Bool.not_false] at hK ⊢
      cases e <;> simp [r45, s45, hK, z2]
    · have z2 := eqI_f h2
      rw [if_neg (by simp [h2])]
      have hK2 := K80 c r1 (by omega) hqB
      have hqB2 := numR_B (bad := false) hqB
      have hql2 := numR_le r1 false
      have hqr2 := numR_range r1 false
      have hz : (numR r1 false).2.2 = true → (numR r1 false).1 = 0 := by
        unfold numR
        split
        · simp
        · split
          · simp
          · simp
      generalize numR r1 false = q at *
      obtain ⟨n, r2, b2⟩ := q
      simp only [rst] at hK2 hqB2 hql2 hqr2 hz ⊢
      cases b2 with
      | true =>
        obtain rfl := hz rfl
        have z3 : ltI 0 0 = false := rfl
        refine ⟨true, 0, .inr rfl, ?_⟩
        simp only [H45, Rcd, reduceIte, Bool.not_true] at hK hK2 ⊢
        cases e
        · simp [r45, s45, hK, hK2, z2]
          rw [LpB_eq]
          simp [b45_0, z3, idsR]
        · simp [r45, s45, hK, hK2, z2]
          rw [LpB_eq]
          simp [b45_0, z3, idsR]
      | false =>
        simp only [Bool.false_eq_true, reduceIte, Bool.not_false] at hK2 ⊢
        obtain ⟨y', i', hL⟩ := L45 e c kd l0 lv lu c cu n1 r0 id r1 r2 n hqr2 cs ss ts k m g n.toNat 0 r2 [] true (.slc c 1 (r2.map (.int .u8))) (by omega) (by simp) (by omega) hqB2 (fun _ => rfl)
        refine ⟨(idsR n n.toNat r2 true).1.isEmpty, if (idsR n n.toNat r2 true).1.isEmpty then 0 else 1, by cases (idsR n n.toNat r2 true).1 <;> simp, ?_⟩
        simp only [List.nil_append] at hL
        generalize idsR n n.toNat r2 true = w at *
        obtain ⟨ids, is⟩ := w
        simp only at hL ⊢
        simp only [Rcd, H45, reduceIte] at hL ⊢
        by_cases hids : ids = []
        · subst hids
          cases e
          · simp only [t45, Bool.false_eq_true, reduceIte] at hL ⊢
            simp at hL
            simp [r45, s45, hK, hK2, z2]
            rw [hL]
            simp
          · simp only [t45, reduceIte] at hL ⊢
            simp at hL
            simp [r45, s45, hK, hK2, z2]
            rw [hL]
            simp
        · have hie : ids.isEmpty = false := by cases ids <;> simp at hids ⊢
          simp only [hids, reduceIte] at hL
          cases e
          · simp only [t45, Bool.false_eq_true, reduceIte] at hL ⊢
            simp at hL
            simp [r45, s45, hK, hK2, z2]
            rw [hL]
            simp [hie, hids, List.take_of_length_le, List.lookup]
          · simp only [t45, reduceIte] at hL ⊢
            simp at hL
            simp [r45, s45, hK, hK2, z2]
            rw [hL]
            simp [hie, hids, List.take_of_length_le, List.lookup]
set_option maxHeartbeats 8000000 in
/-- thresherref16.read. -/
theorem K45 (c : Bool) (kd : Int) (l : List Int) (hk : 0 ≤ kd ∧ kd < 256) (hl : l.length ≤ 2 ^ 36) (hB : isB l) : ∃ cs ss c' s', (ss = 1 ∨ (readI kd l).1.2.1.1 = []) ∧ (s' = 1 ∨ (readI kd l).1.2.2.1 = []) ∧
    K0 58 [.slc c 1 ((kd :: l).map (.int .u8))] [] = some (.tuple [RcV (readI kd l).1 cs ss c' s', .bool (readI kd l).2], []) := by
  have wk : IntKind.i64.wrap kd = kd := by rw [IntKind.wrap_i64]; omega
  have i1 : 1 ≤ (l.length : Int) + 1 := by omega
  have h1e : ∀ s lv, (readI2 kd s lv).1.2.1 = s ∧ (readI2 kd s lv).1.1 = kd := by
    intro s lv
    unfold readI2
    simp only
    split <;> exact ⟨rfl, rfl⟩
  unfold readI
  by_cases hk1 : kd = 1
  · have z1 := eqI_t hk1
    rw [if_pos hk1]
    have hK := K80 c l (by omega) hB
    have hqB := numR_B (bad := false) hB
    have hql := numR_le l false
    have hqr := numR_range l false
    generalize numR l false = q at *
    obtain ⟨n, r, b⟩ := q
    simp only [rst] at hK hqB hql hqr ⊢
    cases b with
    | true =>
      rw [if_pos (.inl rfl)]
      refine ⟨true, 0, true, 0, .inr rfl, .inr rfl, K_call k45 (oraG_none (by decide) (by decide)) (by simp [c45]) ?_⟩
      simp only [reduceIte, Bool.not_true] at hK
      simp [c45, wk, i1, z1, hK, RcV, Rcd]
    | false =>
      simp only [Bool.false_eq_true, reduceIte, Bool.not_false] at hK
      obtain ⟨n, rfl⟩ := Int.eq_ofNat_of_zero_le hqr.1
      by_cases h2 : (r.length : Int) < n
      · have z2 := ltI_t h2
        rw [if_pos (.inr h2)]
        refine ⟨true, 0, true, 0, .inr rfl, .inr rfl, K_call k45 (oraG_none (by decide) (by decide)) (by simp [c45]) ?_⟩
        simp [c45, wk, i1, z1, hK, z2, RcV, Rcd]
      · have z2 := ltI_f h2
        rw [if_neg (by rintro (h | h); cases h; exact h2 h)]
        have e : (Int.toNat (n : Int)) = n := by omega
        rw [e]
        obtain ⟨u, hu⟩ : ∃ u, r.take n = u := ⟨_, rfl⟩
        obtain ⟨v, hv⟩ : ∃ v, r.drop n = v := ⟨_, rfl⟩
        have m1 : List.take n (r.map (D.int .u8)) = u.map (D.int .u8) := by rw [← hu]; simp [List.map_take]
        have m2 : List.drop n (r.map (D.int .u8)) = v.map (D.int .u8) := by rw [← hv]; simp [List.map_drop]
        have hub : isB u := by rw [← hu]; exact isB_take hqB _
        have hvb : isB v := by rw [← hv]; exact isB_drop hqB _
        have hul : u.length ≤ r.length := by rw [← hu]; simp; omega
        have hvl : v.length ≤ r.length := by rw [← hv]; simp
        have hnl : n ≤ r.length := by omega
        rw [hu, hv]
        obtain ⟨cs, ss, hs, hT⟩ := K81 (c && n == r.length) u (by omega) hub
        generalize schT u = t at *
        obtain ⟨⟨ts, k, m, g⟩, er⟩ := t
        simp only [Sd] at hs hT ⊢
        by_cases her : er = 0
        · subst her
          have z3 : neI 0 0 = false := rfl
          rw [if_pos rfl]
          rw [(h1e _ _).1]
          obtain ⟨c', s', hs', hR⟩ := R45 true c kd z1 l v u (c && n == r.length) n r cs ss ts k m g (by omega) hvb
          refine ⟨cs, ss, c', s', hs, hs', K_call k45 (oraG_none (by decide) (by decide)) (by simp [c45]) ?_⟩
          unfold RcV
          rw [(h1e _ _).1, (h1e _ _).2]
          rw [← hR]
          simp only [s45, H45, reduceIte]
          simp [c45, wk, i1, z1, hK, z2, m1, m2, hnl, hT, z3]
        · have z3 := neI_t her
          rw [if_neg her]
          refine ⟨true, 0, true, 0, .inr rfl, .inr rfl, K_call k45 (oraG_none (by decide) (by decide)) (by simp [c45]) ?_⟩
          simp [c45, wk, i1, z1, hK, z2, m1, m2, hnl, hT, z3, RcV, Rcd]
  · have z1 := eqI_f hk1
    rw [if_neg hk1]
    rw [(h1e _ _).1]
    obtain ⟨c', s', hs', hR⟩ := R45 false c kd z1 l l [] true 0 [] true 0 [] 0 0 0 (by omega) hB
    refine ⟨true, 0, c', s', .inr rfl, hs', K_call k45 (oraG_none (by decide) (by decide)) (by simp [c45]) ?_⟩
    unfold RcV
    rw [(h1e _ _).1, (h1e _ _).2]
    rw [← hR]
    simp only [s45, H45, Bool.false_eq_true, reduceIte]
    simp [c45, wk, i1, z1]
theorem readI_kd (kd : Int) (l : List Int) : (readI kd l).1.1 = kd := by
  have h1e : ∀ s lv, (readI2 kd s lv).1.1 = kd := by
    intro s lv
    unfold readI2
    simp only
    split <;> rfl
  unfold readI
  split
  · simp only
    split
    · rfl
    · split
      · exact h1e _ _
      · rfl
  · exact h1e _ _
theorem readI_len (kd : Int) (l : List Int) : (readI kd l).1.2.1.1.length ≤ 64 := by
  have h1e : ∀ s lv, (readI2 kd s lv).1.2.1 = s := by
    intro s lv
    unfold readI2
    simp only
    split <;> rfl
  unfold readI
  split
  · simp only
    split
    · simp
    · split
      · rw [h1e]; exact schT_len _
      · simp
  · rw [h1e]; simp
theorem idsR_len (n : Int) : ∀ (j : Nat) (l : List Int) (is : Bool), (idsR n j l is).1.length ≤ j
  | 0, _, _ => by simp [idsR]
  | j + 1, l, is => by
    simp only [idsR]
    split
    · have := idsR_len n j (numR l false).2.1 (!(numR l false).2.2 && decide (n ≤ 40))
      simp; omega
    · simp
theorem readI_ids (kd : Int) (l : List Int) (hl : l.length ≤ 2 ^ 30) : (readI kd l).1.2.2.1.length ≤ 2 ^ 30 := by
  have h1e : ∀ s lv, (readI2 kd s lv).1.2.2.1.length ≤ 2 ^ 30 := by
    intro s lv
    unfold readI2
    simp only
    split
    · simp
    · have h1 := numR_range (numR lv false).2.1 false
      have h2 := idsR_len (numR (numR lv false).2.1 false).1 (numR (numR lv false).2.1 false).1.toNat (numR (numR lv false).2.1 false).2.1 (!(numR (numR lv false).2.1 false).2.2)
      simp only
      omega
  unfold readI
  split
  · simp only
    split
    · simp
    · split
      · exact h1e _ _
      · simp
  · exact h1e _ _
set_option maxHeartbeats 8000000 in
/-- thresherref16.Take. -/
theorem K20 (c : Bool) (l : List Int) (hl : l.length ≤ 2 ^ 29) (hB : isB l) : ∃ c1 s1 c2 s2, (s1 = 1 ∨ (recTake l).1.2.1.1 = []) ∧ (s2 = 1 ∨ (recTake l).1.2.2.1 = []) ∧
    K0 39 [.slc c 1 (l.map (.int .u8))] [] = some (.tuple [RcV (recTake l).1 c1 s1 c2 s2, .int .i64 (recTake l).2.1, .int .i64 (recTake l).2.2], []) := by
  obtain ⟨d, hK, hd⟩ := K44 c l (by omega) hB
  rcases hd with ⟨he, cd, rfl⟩ | ⟨he, rfl⟩
  rotate_left
  · rw [recTake_err he]
    have z1 := neI_t he
    refine ⟨true, 0, true, 0, .inr rfl, .inr rfl, K_call k20 (oraG_none (by decide) (by decide)) (by simp [c20]) ?_⟩
    simp [c20, hK, z1, RcV, Rcd, noRec]
  · have z1 := neI_f he
    have hub := isB_unframe hB
    have hus := unframe_some l hB (unframeI l).1 (unframeI l).2.1 (by rw [← he])
    cases hdat : (unframeI l).1 with
    | nil =>
      rw [recTake_nil he hdat]
      rw [hdat] at hK
      have z2 : eqI 0 0 = true := rfl
      refine ⟨true, 0, true, 0, .inr rfl, .inr rfl, K_call k20 (oraG_none (by decide) (by decide)) (by simp [c20]) ?_⟩
      simp [c20, hK, z1, z2, RcV, Rcd, noRec]
    | cons x r =>
      have hT := recTake_read hB he hdat
      rw [hdat] at hub hus hK
      have hx := hub x List.mem_cons_self
      have hrB : isB r := fun y hy => hub y (List.mem_cons_of_mem _ hy)
      have z2 : eqI ((r.length : Int) + 1) 0 = false := eqI_f (by omega)
      obtain ⟨hu1, hu2, hu3, hu4, hu5, hu6⟩ := hus
      simp only [List.length_cons] at hu5
      obtain ⟨cs, ss, c', s', e1, e2, hR⟩ := K45 cd x r hx (by omega) hrB
      have hln := readI_len x r
      have hkd := readI_kd x r
      have hid : (readI x r).1.2.2.1.length ≤ 2 ^ 30 := readI_ids x r (by omega)
      obtain ⟨n, hn⟩ : ∃ n : Nat, (unframeI l).2.1 = n := ⟨(unframeI l).2.1.toNat, by omega⟩
      rw [hn] at hK hu1 hu3 hT
      have hne : (Int.toNat (n : Int)) = n := by omega
      rw [hne] at hu1 hT
      have hbad := fun hc => hT.trans (if_neg hc)
      have hok := fun hc => hT.trans (if_pos hc)
      clear hT
      generalize readI x r = q at *
      obtain ⟨⟨kd, ⟨ts, k, m, g⟩, ids, id⟩, ok⟩ := q
      simp only [putOf] at e1 e2 hR hln hkd hid hbad hok
      subst hkd
      have hnl : n ≤ l.length := by omega
      obtain ⟨p, hp⟩ : ∃ p, l.take n = p := ⟨_, rfl⟩
      have m1 : List.take n (l.map (D.int .u8)) = p.map (D.int .u8) := by rw [← hp]; simp [List.map_take]
      have hpB : isB p := by rw [← hp]; exact isB_take hB _
      rw [hp] at hbad hok
      simp only [RcV] at hR
      simp only [List.map_cons] at hK hR
      have fail : (ok = false ∨ mayI kd ts k m g ids id = false ∨ ¬ frameI (recB kd ts k m g ids id) = p) → K0 39 [.slc c 1 (l.map (.int .u8))] [] = some (.tuple [RcV noRec true 0 true 0, .int .i64 0, .int .i64 10], []) := by
        intro hcase
        refine K_call k20 (oraG_none (by decide) (by decide)) (by simp [c20]) ?_
        cases hm : mayI kd ts k m g ids id with
        | false =>
          have hP := K18_f kd cs ss ts k m g c' s' ids id e1 e2 (by omega) hid hm
          simp only [Rcd] at hP hR
          cases ok <;> simp [c20, hK, z1, z2, hR, hP, backK, RcV, Rcd, noRec, evOp, evM, wants, Ins.go, X.ev, iaM, ldM, binD, setD, applyW, Ek_ops_nil, allFree, free, callM, callP]
        | true =>
          have hP := K18_t kd cs ss ts k m g c' s' ids id e1 e2 hm
          have hfB := isB_frame (isB_recB hm)
          simp only [Rcd] at hP hR
          cases ok with
          | false => simp [c20, hK, z1, z2, hR, hP, backK, RcV, Rcd, noRec, evOp, evM, wants, Ins.go, X.ev, iaM, ldM, binD, setD, applyW, Ek_ops_nil, allFree, free, callM, callP]
          | true =>
            have hq := u8_beq (frameI (recB kd ts k m g ids id)) p hfB hpB
            have hf : (frameI (recB kd ts k m g ids id) == p) = false := by
              rcases hcase with h | h | h
              · cases h
              · rw [hm] at h; cases h
              · simpa using h
            rw [hf] at hq
            generalize frameI (recB kd ts k m g ids id) = F at *
            simp [c20, hK, z1, z2, hR, hP, hq, m1, hnl, backK, RcV, Rcd, noRec, evOp, evM, wants, Ins.go, X.ev, iaM, ldM, binD, setD, applyW, Ek_ops_nil, allFree, free, callM, callP]
      by_cases hcase : ok = false ∨ mayI kd ts k m g ids id = false ∨ ¬ frameI (recB kd ts k m g ids id) = p
      · have hc : ¬ (ok = true ∧ (recPut kd ts k m g ids id).2 = true ∧ (recPut kd ts k m g ids id).1 = p) := by
          rintro ⟨a1, a2, a3⟩
          rw [recPut_2] at a2
          unfold recPut at a3
          rw [if_pos a2] at a3
          rcases hcase with h | h | h
          · rw [a1] at h; cases h
          · rw [a2] at h; cases h
          · exact h a3
        rw [hbad hc]
        exact ⟨true, 0, true, 0, .inr rfl, .inr rfl, fail hcase⟩
      · have hb : ok = true := by cases ok with | true => rfl | false => exact absurd (.inl rfl) hcase
        have hm : mayI kd ts k m g ids id = true := by cases hm : mayI kd ts k m g ids id with | true => rfl | false => exact absurd (.inr (.inl hm)) hcase
        have hf : frameI (recB kd ts k m g ids id) = p := Classical.byContradiction fun h => hcase (.inr (.inr h))
        subst hb
        have hfB := isB_frame (isB_recB hm)
        rw [hok ⟨rfl, by rw [recPut_2]; exact hm, by unfold recPut; rw [if_pos hm]; exact hf⟩]
        have hP := K18_t kd cs ss ts k m g c' s' ids id e1 e2 hm
        have hq := u8_beq (frameI (recB kd ts k m g ids id)) p hfB hpB
        rw [hf] at hq hP
        have hpp : (p == p) = true := by simp
        rw [hpp] at hq
        simp only [Rcd] at hP hR
        refine ⟨cs, ss, c', s', e1, e2, K_call k20 (oraG_none (by decide) (by decide)) (by simp [c20]) ?_⟩
        simp [c20, hK, z1, z2, hR, hP, hq, m1, hnl, backK, RcV, Rcd, noRec, evOp, evM, wants, Ins.go, X.ev, iaM, ldM, binD, setD, applyW, Ek_ops_nil, allFree, free, callM, callP]
end Go.Ab
/- THE FUNCTIONS' EQUATIONS: thresherref17.All, and the same of both. -/
set_option linter.all false
set_option maxRecDepth 100000
namespace Go.Ab
open Go.Proofs Go.Proofs.YtdopbfjebjnpkaaH Go.Proofs.YtdopbfjebjnpkaaH.Crc Go.Proofs.YtdopbfjebjnpkaaH.Var Go.Proofs.YtdopbfjebjnpkaaH.Fr Go.Proofs.YtdopbfjebjnpkaaH.Rec
def b212_0 : C := (.seq (.seq (.reg none [⟨(some 13), none, (.mv (.t 6))⟩, ⟨(some 14), none, (.mv (.t 0))⟩, ⟨(some 15), none, (.len 1 (.t 14))⟩, ⟨(some 16), none, (.bin .lss [] (.t 13) (.t 15))⟩]) (.cond (.t 16) .skip (.exit 0))) (.block 1 (.seq (.reg none [⟨(some 18), none, (.mv (.t 0))⟩, ⟨(some 19), none, (.mv (.t 6))⟩, ⟨(some 20), none, (.sub 1 1 (.t 18) (some (.t 19)) none none)⟩, ⟨(some 21), none, (.call (.f 39) [(.t 20)])⟩, ⟨(some 17), none, (.mv (.t 21))⟩, ⟨(some 22), none, (.ext (.t 17) 0)⟩, ⟨(some 23), none, (.ext (.t 17) 1)⟩, ⟨(some 24), none, (.ext (.t 17) 2)⟩, ⟨(some 7), none, (.alloc false [(.int .i64 0), nilS, (.int .i64 0), (.int .i64 0), (.int .i64 0), nilS, (.int .i64 0)])⟩, ⟨none, none, (.st 7 (.t 7) (.t 22))⟩, ⟨(some 8), none, (.mv (.t 23))⟩, ⟨(some 9), none, (.mv (.t 24))⟩]) (.seq (.seq (.reg none [⟨(some 25), none, (.mv (.t 9))⟩, ⟨(some 26), none, (.bin .neq [] (.t 25) (.k (.int .i64 0)))⟩, ⟨(some 27), none, (.mv (.t 26))⟩, ⟨(some 28), (some ((some 27), false)), (.fa 0 1 false (.t 7))⟩, ⟨(some 29), (some ((some 27), false)), (.ld none (.t 28))⟩, ⟨(some 30), (some ((some 27), false)), (.bin .eql [] (.t 29) (.k (.int .i64 1)))⟩, ⟨(some 31), (some ((some 27), false)), (.mv (.t 6))⟩, ⟨(some 32), (some ((some 27), false)), (.bin .eql [] (.t 31) (.k (.int .i64 0)))⟩, ⟨(some 33), (some ((some 27), false)), (.bin .neq [3] (.t 30) (.t 32))⟩, ⟨(some 34), none, (.pick (.t 27) (.k (.bool true)) (.t 33))⟩]) (.cond (.t 34) (.exit 0) .skip)) (.seq (.reg none [⟨(some 36), none, (.ld (some 6) (.t 5))⟩, ⟨(some 37), none, (.ld (some 7) (.t 7))⟩, ⟨(some 38), none, (.call (.f 17) [(.t 36), (.t 37)])⟩, ⟨(some 35), none, (.mv (.t 38))⟩, ⟨(some 39), none, (.ext (.t 35) 0)⟩, ⟨(some 40), none, (.ext (.t 35) 1)⟩, ⟨(some 10), none, (.alloc false [nilS, (.int .i64 0), (.int .i64 0), (.int .i64 0), nilS, (.int .i64 0)])⟩, ⟨none, none, (.st 6 (.t 10) (.t 39))⟩, ⟨(some 11), none, (.mv (.t 40))⟩]) (.seq (.seq (.reg none [⟨(some 41), none, (.mv (.t 11))⟩, ⟨(some 42), none, (.un .not (.t 41))⟩]) (.cond (.t 42) (.exit 0) .skip)) (.seq (.reg none [⟨(some 43), none, (.ld (some 6) (.t 10))⟩, ⟨none, none, (.st 6 (.t 5) (.t 43))⟩]) (.reg none [⟨(some 44), none, (.mv (.t 6))⟩, ⟨(some 45), none, (.mv (.t 8))⟩, ⟨(some 46), none, (.bin .add [] (.t 44) (.t 45))⟩, ⟨(some 6), none, (.mv (.t 46))⟩]))))))))
def c212 : Fn' := ⟨51, [(.cell 2 (some 6)), (.tmp 3), (.tmp 4)], (.seq (.reg none [⟨(some 2), none, (.alloc false [nilS, (.int .i64 0), (.int .i64 0), (.int .i64 0), nilS, (.int .i64 0)])⟩, ⟨(some 3), none, (.mv (.k (.int .i64 0)))⟩, ⟨(some 4), none, (.mv (.k (.bool false)))⟩]) (.seq (.reg none [⟨(some 12), none, (.bld [nilS, (.int .i64 0), (.int .i64 0), (.int .i64 0), nilS, (.int .i64 0)] [])⟩, ⟨(some 5), none, (.alloc false [nilS, (.int .i64 0), (.int .i64 0), (.int .i64 0), nilS, (.int .i64 0)])⟩, ⟨none, none, (.st 6 (.t 5) (.t 12))⟩]) (.seq (.reg none [⟨(some 6), none, (.mv (.k (.int .i64 0)))⟩]) (.seq (.block 0 (.loop b212_0)) (.seq (.reg none [⟨(some 47), none, (.ld (some 6) (.t 5))⟩, ⟨(some 48), none, (.mv (.t 6))⟩, ⟨(some 49), none, (.mv (.t 6))⟩, ⟨(some 50), none, (.bin .gtr [] (.t 49) (.k (.int .i64 0)))⟩, ⟨none, none, (.st 6 (.t 2) (.t 47))⟩, ⟨(some 3), none, (.mv (.t 48))⟩, ⟨(some 4), none, (.mv (.t 50))⟩]) .ret)))))⟩
theorem k212 : compF Try.prog 18 = some c212 := by kernel_rfl
attribute [local simp] op_or op_an op_add op_sub op_mul oq_eql oq_neq oq_lss oq_gtr oq_leq oq_geq
attribute [-simp] intOp bin_shl
def t212 (c : Bool) (l : List Int) (i : Nat) : List D := [.slc c 1 (l.map (.int .u8)), .undef, .ptr 0 0 0 0, .int .i64 0, .bool false, .ptr 1 0 0 0, .int .i64 i, .undef, .undef, .undef, .undef, .undef, .agg [nilS, .int .i64 0, .int .i64 0, .int .i64 0, nilS, .int .i64 0], .undef, .undef, .undef, .undef, .undef, .undef, .undef, .undef, .undef, .undef, .undef, .undef, .undef, .undef, .undef, .undef, .undef, .undef, .undef, .undef, .undef, .undef, .undef, .undef, .undef, .undef, .undef, .undef, .undef, .undef, .undef, .undef, .undef, .undef, .undef, .undef, .undef, .undef]
def kn212 : List Kn := [.blk 0, .c ((C.reg none [⟨some 47, none, .ld (some 6) (.t 5)⟩, ⟨some 48, none, .mv (.t 6)⟩, ⟨some 49, none, .mv (.t 6)⟩, ⟨some 50, none, .bin .gtr [] (.t 49) (.k (.int .i64 0))⟩, ⟨none, none, .st 6 (.t 2) (.t 47)⟩, ⟨some 3, none, .mv (.t 48)⟩, ⟨some 4, none, .mv (.t 50)⟩]).seq C.ret)]
set_option maxHeartbeats 8000000 in
attribute [local simp] bin_neqb in
theorem L212 (cb : Bool) (b : List Int) (hb : b.length ≤ 2 ^ 28) (hB : isB b) : ∀ (N : Nat) (l pre : List Int) (i : Nat) (x : StV) (c : Bool) (s : Nat) (c' : Bool) (s' : Nat), l.length < N → b = pre ++ l → i = pre.length → (s = 1 ∨ x.1.1 = []) → (s' = 1 ∨ x.2.1 = []) → x.2.1.length ≤ 40 →
    ∃ c1 s1 c2 s2, (s1 = 1 ∨ (allN N l x (decide (i = 0))).1.1.1 = []) ∧ (s2 = 1 ∨ (allN N l x (decide (i = 0))).1.2.1 = []) ∧
      finK false 0 [.cell 2 (some 6), .tmp 3, .tmp 4] (loopK cf0 K0 (LpB cf0 K0 b212_0 (t212 cb b 0) 2 ⟨t212 cb b i, [bz, StB x c s c' s']⟩) kn212) =
        some (.tuple [StD (allN N l x (decide (i = 0))).1 c1 s1 c2 s2, .int .i64 ((b.length - (allN N l x (decide (i = 0))).2.length : Nat) : Int), .bool (ltI 0 ((b.length - (allN N l x (decide (i = 0))).2.length : Nat) : Int))], [])
  | 0, l, pre, i, x, c, s, c', s', hN, _, _, _, _, _ => absurd hN (by omega)
  | N + 1, l, pre, i, x, c, s, c', s', hN, h, hi, hs, hs', hx => by
    have hbl : b.length = i + l.length := by rw [h, hi]; simp
    have hil : i ≤ b.length := by omega
    have hili : (i : Int) ≤ b.length := by omega
    have hsub : b.length - l.length = i := by omega
    have m1 : List.drop i (b.map (D.int .u8)) = l.map (D.int .u8) := by rw [h, hi]; simp
    unfold allN
    by_cases hl : l = []
    · rw [if_pos hl]
      have z := ltI_f (show ¬ ((i : Int) < b.length) by rw [hbl, hl]; simp)
      refine ⟨c, s, c', s', hs, hs', ?_⟩
      dsimp only
      rw [hsub, LpB_eq]
      simp only [t212, bz, StB, StD]
      conv => lhs; arg 4; arg 3; arg 6; simp [b212_0, z]
      simp [kn212]
    · rw [if_neg hl]
      have hl0 : 0 < l.length := List.length_pos_iff.2 hl
      have z := ltI_t (show ((i : Int) < b.length) by omega)
      have hT := fun cc => K20 cc l (by omega) (by rw [h] at hB; exact fun y hy => hB y (List.mem_append_right _ hy))
      have hpos := recTake_pos l
      have hmay := recTake_may l
      generalize recTake l = T at *
      obtain ⟨r, n, e⟩ := T
      dsimp only at *
      obtain ⟨qf, hqf⟩ : ∃ q, eqI (i : Int) 0 = q := ⟨_, rfl⟩
      have hqf2 : decide (i = 0) = qf := by rw [← hqf]; unfold eqI; rw [Bool.eq_iff_iff]; simp
      have hT' : ∃ f1 f2 f3 f4, (f2 = 1 ∨ r.2.1.1 = []) ∧ (f4 = 1 ∨ r.2.2.1 = []) ∧ K0 39 [.slc cb 1 (l.map (.int .u8))] [] = some (.tuple [RcV r f1 f2 f3 f4, .int .i64 n, .int .i64 e], []) := hT cb
      obtain ⟨f1, f2, f3, f4, g1, g2, hT'⟩ := hT'
      rw [hqf2]
      by_cases he : e = 0
      · obtain ⟨hm, _⟩ := hmay he
        have hml := mayOf_len hm
        obtain ⟨hn0, hn1⟩ := hpos he
        subst he
        obtain ⟨n, rfl⟩ := Int.eq_ofNat_of_zero_le (by omega : 0 ≤ n)
        have z3 : neI 0 0 = false := rfl
        obtain ⟨qk, hqk⟩ : ∃ q, eqI r.1 1 = q := ⟨_, rfl⟩
        have hqk2 : decide (r.1 = 1) = qk := by rw [← hqk]; unfold eqI; rw [Bool.eq_iff_iff]; simp
        rw [hqk2]
        by_cases hfk : qf = qk
        · rw [if_neg (by simp [hfk])]
          obtain ⟨c1, s1, c2, s2, u1, u2, hA⟩ := K211 x c s c' s' hs hs' r f1 f2 f3 f4 g1 g2 (by omega) (by omega) (by omega)
          have hlen := applyI_len (r := r) hx
          generalize applyI x r = A at *
          obtain ⟨x2, ok⟩ := A
          dsimp only at *
          obtain ⟨⟨ts, k, m, g⟩, ids, nx⟩ := x
          obtain ⟨kd, ⟨ts', k', m', g'⟩, ids', id⟩ := r
          obtain ⟨⟨ts2, k2, m2, g2'⟩, ids2, nx2⟩ := x2
          have qff : (qk != qf) = false := by simp [hfk]
          simp only [StD, Rcd, RcV] at hA hT' hqk ⊢
          cases ok with
          | false =>
            rw [if_pos rfl]
            refine ⟨c, s, c', s', hs, hs', ?_⟩
            dsimp only
            rw [hsub, LpB_eq]
            simp only [t212, bz, StB]
            conv => lhs; arg 4; arg 3; arg 6; simp [b212_0, z, m1, hil, hili, hT', z3, hqf, hqk, qff, hA]
            simp [kn212]
          | true =>
            rw [if_neg (by decide)]
            have hw : IntKind.i64.wrap ((i : Int) + (n : Int)) = ((i + n : Nat) : Int) := by rw [w64 _ (by omega)]; omega
            have hn' : (Int.toNat (n : Int)) = n := by omega
            have ih := L212 cb b hb hB N (l.drop n) (pre ++ l.take n) (i + n) ((ts2, k2, m2, g2'), ids2, nx2) c1 s1 c2 s2 (by simp; omega) (by rw [h, List.append_assoc, List.take_append_drop]) (by simp [hi]; omega) u1 u2 hlen
            rw [hn']
            have e0 : decide (i + n = 0) = false := by simp; omega
            rw [e0] at ih
            obtain ⟨d1, d2, d3, d4, v1, v2, ih⟩ := ih
            simp only [StD] at ih
            refine ⟨d1, d2, d3, d4, v1, v2, ?_⟩
            refine Eq.trans ?_ ih
            rw [LpB_eq]
            simp only [t212, bz, StB]
            conv => lhs; arg 4; arg 3; arg 6; simp [b212_0, z, m1, hil, hili, hT', z3, hqf, hqk, qff, hA, hw]
            simp
        · rw [if_pos (.inr hfk)]
          have qff : (qk != qf) = true := by simpa using fun e => hfk (Eq.symm e)
          obtain ⟨⟨ts, k, m, g⟩, ids, nx⟩ := x
          obtain ⟨kd, ⟨ts', k', m', g'⟩, ids', id⟩ := r
          simp only [StD, Rcd, RcV] at hT' hqk ⊢
          refine ⟨c, s, c', s', hs, hs', ?_⟩
          rw [hsub, LpB_eq]
          simp only [t212, bz, StB]
          conv => lhs; arg 4; arg 3; arg 6; simp [b212_0, z, m1, hil, hili, hT', z3, hqf, hqk, qff]
          simp [kn212]
      · rw [if_pos (.inl he)]
        have z3 : neI e 0 = true := neI_t he
        obtain ⟨⟨ts, k, m, g⟩, ids, nx⟩ := x
        obtain ⟨kd, ⟨ts', k', m', g'⟩, ids', id⟩ := r
        simp only [StD, Rcd, RcV] at hT' ⊢
        refine ⟨c, s, c', s', hs, hs', ?_⟩
        rw [hsub, LpB_eq]
        simp only [t212, bz, StB]
        conv => lhs; arg 4; arg 3; arg 6; simp [b212_0, z, m1, hil, hili, hT', z3, hqf]
        simp [kn212]
set_option maxHeartbeats 2120000 in
/-- thresherref17.All. -/
theorem K212 (c : Bool) (s : Nat) (b : List Int) (hsb : s = 1 ∨ b = []) (hb : b.length ≤ 2 ^ 28) (hB : isB b) : ∃ c1 s1 c2 s2, (s1 = 1 ∨ (allI b).1.1.1 = []) ∧ (s2 = 1 ∨ (allI b).1.2.1 = []) ∧
    K0 18 [.slc c s (b.map (.int .u8))] [] = some (.tuple [StD (allI b).1 c1 s1 c2 s2, .int .i64 ((b.length - (allI b).2.length : Nat) : Int), .bool (ltI 0 ((b.length - (allI b).2.length : Nat) : Int))], []) := by
  by_cases hn : b = []
  · subst hn
    refine ⟨true, 0, true, 0, .inr rfl, .inr rfl, K_call k212 (oraG_none (by decide) (by decide)) (by simp [c212]) ?_⟩
    have z := ltI_f (show ¬ ((0 : Int) < 0) by omega)
    have e : allI [] = (noSt, []) := rfl
    rw [e]
    simp [c212]
    rw [LpB_eq]
    simp [b212_0, z, noSt, noSc, StD]
  · obtain rfl := hsb.resolve_right hn
    obtain ⟨c1, s1, c2, s2, h1, h2, h⟩ := L212 c b hb hB (b.length + 1) b [] 0 noSt true 0 true 0 (by omega) rfl rfl (.inr rfl) (.inr rfl) (by simp [noSt])
    refine ⟨c1, s1, c2, s2, h1, h2, K_call k212 (oraG_none (by decide) (by decide)) (by simp [c212]) ?_⟩
    have e : allN (b.length + 1) b noSt (decide (0 = 0)) = allI b := rfl
    rw [e] at h
    simp only [t212, bz, StB, kn212, noSt, noSc] at h
    simp [c212]
    simp at h
    exact h
end Go.Ab
