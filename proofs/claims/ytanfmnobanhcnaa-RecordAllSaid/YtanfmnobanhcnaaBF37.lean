/- THE FUNCTIONS' EQUATIONS: thresherref16: may, numbers. -/
import Derived.Test.YtanfmnobanhcnaaBF46
import Derived.Test.YtanfmnobanhcnaaBF110
import Derived.Test.YtanfmnobanhcnaaBF33
set_option linter.all false
set_option maxRecDepth 100000
namespace Go.Ab
open Go.Proofs Go.Proofs.YtanfmnobanhcnaaH Go.Proofs.YtanfmnobanhcnaaH.Crc Go.Proofs.YtanfmnobanhcnaaH.Var Go.Proofs.YtanfmnobanhcnaaH.Fr Go.Proofs.YtanfmnobanhcnaaH.Rec
def b37_0 : C := (.seq (.seq (.reg none [⟨(some 14), none, (.mv (.t 5))⟩, ⟨(some 15), none, (.fa 5 1 false (.t 1))⟩, ⟨(some 16), none, (.ld none (.t 15))⟩, ⟨(some 17), none, (.len 1 (.t 16))⟩, ⟨(some 18), none, (.bin .lss [] (.t 14) (.t 17))⟩]) (.cond (.t 18) .skip (.exit 0))) (.seq (.block 1 (.seq (.reg none [⟨(some 21), none, (.fa 5 1 false (.t 1))⟩, ⟨(some 22), none, (.ld none (.t 21))⟩, ⟨(some 23), none, (.mv (.t 5))⟩, ⟨(some 24), none, (.ia none 1 false (.t 22) (.t 23))⟩, ⟨(some 25), none, (.ld none (.t 24))⟩, ⟨(some 26), none, (.bin .lss [] (.t 25) (.k (.int .i64 0)))⟩, ⟨(some 27), none, (.mv (.t 26))⟩, ⟨(some 28), (some ((some 27), false)), (.fa 5 1 false (.t 1))⟩, ⟨(some 29), (some ((some 27), false)), (.ld none (.t 28))⟩, ⟨(some 30), (some ((some 27), false)), (.mv (.t 5))⟩, ⟨(some 31), (some ((some 27), false)), (.ia none 1 false (.t 29) (.t 30))⟩, ⟨(some 32), (some ((some 27), false)), (.ld none (.t 31))⟩, ⟨(some 33), (some ((some 27), false)), (.bin .gtr [] (.t 32) (.k (.int .i64 999999)))⟩, ⟨(some 34), none, (.pick (.t 27) (.k (.bool true)) (.t 33))⟩]) (.cond (.t 34) (.seq (.reg none [⟨(some 2), none, (.mv (.k (.bool false)))⟩]) .ret) .skip))) (.reg none [⟨(some 19), none, (.mv (.t 5))⟩, ⟨(some 20), none, (.bin .add [] (.t 19) (.k (.int .i64 1)))⟩, ⟨(some 5), none, (.mv (.t 20))⟩])))
def c37 : Fn' := ⟨72, [(.tmp 2)], (.seq (.reg none [⟨(some 1), none, (.box false (.t 0))⟩, ⟨(some 2), none, (.mv (.k (.bool false)))⟩]) (.seq (.reg none [⟨(some 6), none, (.fa 1 4 true (.t 1))⟩, ⟨(some 7), none, (.ld (some 4) (.t 6))⟩, ⟨(some 8), none, (.bld [nilS, (.int .i64 0), (.int .i64 0), (.int .i64 0)] [])⟩, ⟨(some 9), none, (.call (.f 46) [(.t 7), (.t 8)])⟩, ⟨(some 3), none, (.mv (.t 9))⟩]) (.seq (.reg none [⟨(some 10), none, (.fa 1 4 true (.t 1))⟩, ⟨(some 11), none, (.ld (some 4) (.t 10))⟩, ⟨(some 12), none, (.call (.f 73) [(.t 11)])⟩, ⟨(some 13), none, (.bin .eql [] (.t 12) (.k (.int .i64 0)))⟩, ⟨(some 4), none, (.mv (.t 13))⟩]) (.seq (.seq (.reg none [⟨(some 5), none, (.mv (.k (.int .i64 0)))⟩]) (.block 0 (.loop b37_0))) (.seq (.seq (.reg none [⟨(some 35), none, (.fa 6 1 false (.t 1))⟩, ⟨(some 36), none, (.ld none (.t 35))⟩, ⟨(some 37), none, (.bin .lss [] (.t 36) (.k (.int .i64 0)))⟩, ⟨(some 38), none, (.mv (.t 37))⟩, ⟨(some 39), (some ((some 38), false)), (.fa 6 1 false (.t 1))⟩, ⟨(some 40), (some ((some 38), false)), (.ld none (.t 39))⟩, ⟨(some 41), (some ((some 38), false)), (.bin .gtr [] (.t 40) (.k (.int .i64 999999)))⟩, ⟨(some 42), none, (.pick (.t 38) (.k (.bool true)) (.t 41))⟩, ⟨(some 43), none, (.mv (.t 42))⟩, ⟨(some 44), (some ((some 43), false)), (.fa 5 1 false (.t 1))⟩, ⟨(some 45), (some ((some 43), false)), (.ld none (.t 44))⟩, ⟨(some 46), (some ((some 43), false)), (.len 1 (.t 45))⟩, ⟨(some 47), (some ((some 43), false)), (.bin .gtr [] (.t 46) (.k (.int .i64 40)))⟩, ⟨(some 48), none, (.pick (.t 43) (.k (.bool true)) (.t 47))⟩]) (.cond (.t 48) (.seq (.reg none [⟨(some 2), none, (.mv (.k (.bool false)))⟩]) .ret) .skip)) (.seq (.seq (.reg none [⟨(some 49), none, (.fa 0 1 false (.t 1))⟩, ⟨(some 50), none, (.ld none (.t 49))⟩]) (.block 2 (.seq (.reg none [⟨(some 52), none, (.bin .eql [] (.t 50) (.k (.int .i64 1)))⟩, ⟨(some 51), none, (.mv (.t 52))⟩]) (.cond (.t 51) (.seq (.reg none [⟨(some 53), none, (.mv (.t 4))⟩, ⟨(some 2), none, (.mv (.t 53))⟩]) .ret) (.seq (.reg none [⟨(some 55), none, (.bin .eql [] (.t 50) (.k (.int .i64 2)))⟩, ⟨(some 54), none, (.mv (.t 55))⟩]) (.cond (.t 54) (.seq (.reg none [⟨(some 56), none, (.mv (.t 3))⟩, ⟨(some 57), none, (.mv (.t 56))⟩, ⟨(some 58), (some ((some 57), true)), (.fa 5 1 false (.t 1))⟩, ⟨(some 59), (some ((some 57), true)), (.ld none (.t 58))⟩, ⟨(some 60), (some ((some 57), true)), (.len 1 (.t 59))⟩, ⟨(some 61), (some ((some 57), true)), (.bin .eql [] (.t 60) (.k (.int .i64 0)))⟩, ⟨(some 62), none, (.pick (.t 57) (.t 61) (.k (.bool false)))⟩, ⟨(some 2), none, (.mv (.t 62))⟩]) .ret) (.seq (.reg none [⟨(some 64), none, (.bin .eql [] (.t 50) (.k (.int .i64 3)))⟩, ⟨(some 63), none, (.mv (.t 64))⟩]) (.cond (.t 63) (.seq (.reg none [⟨(some 65), none, (.mv (.t 3))⟩, ⟨(some 66), none, (.mv (.t 65))⟩, ⟨(some 67), (some ((some 66), true)), (.fa 5 1 false (.t 1))⟩, ⟨(some 68), (some ((some 66), true)), (.ld none (.t 67))⟩, ⟨(some 69), (some ((some 66), true)), (.len 1 (.t 68))⟩, ⟨(some 70), (some ((some 66), true)), (.bin .geq [] (.t 69) (.k (.int .i64 2)))⟩, ⟨(some 71), none, (.pick (.t 66) (.t 70) (.k (.bool false)))⟩, ⟨(some 2), none, (.mv (.t 71))⟩]) .ret) .skip)))))))) (.seq (.reg none [⟨(some 2), none, (.mv (.k (.bool false)))⟩]) .ret)))))))⟩
theorem k37 : compF Try.prog 37 = some c37 := by kernel_rfl
def b40_0 : C := (.seq (.seq (.reg none [⟨(some 9), none, (.mv (.t 4))⟩, ⟨(some 10), none, (.mv (.t 0))⟩, ⟨(some 11), none, (.len 1 (.t 10))⟩, ⟨(some 12), none, (.bin .lss [] (.t 9) (.t 11))⟩]) (.cond (.t 12) .skip (.exit 0))) (.seq (.block 1 (.reg none [⟨(some 15), none, (.mv (.t 3))⟩, ⟨(some 16), none, (.mv (.t 0))⟩, ⟨(some 17), none, (.mv (.t 4))⟩, ⟨(some 18), none, (.ia none 1 false (.t 16) (.t 17))⟩, ⟨(some 19), none, (.ld none (.t 18))⟩, ⟨(some 20), none, (.cvt (.int .u64) (.t 19))⟩, ⟨(some 21), none, (.call (.f 39) [(.t 20)])⟩, ⟨(some 22), none, (.app 1 1 (.t 15) (.t 21))⟩, ⟨(some 3), none, (.mv (.t 22))⟩])) (.reg none [⟨(some 13), none, (.mv (.t 4))⟩, ⟨(some 14), none, (.bin .add [] (.t 13) (.k (.int .i64 1)))⟩, ⟨(some 4), none, (.mv (.t 14))⟩])))
def c40 : Fn' := ⟨24, [(.tmp 2)], (.seq (.reg none [⟨(some 2), none, (.mv (.k nilS))⟩]) (.seq (.reg none [⟨(some 5), none, (.mv (.t 0))⟩, ⟨(some 6), none, (.len 1 (.t 5))⟩, ⟨(some 7), none, (.cvt (.int .u64) (.t 6))⟩, ⟨(some 8), none, (.call (.f 39) [(.t 7)])⟩, ⟨(some 3), none, (.mv (.t 8))⟩]) (.seq (.seq (.reg none [⟨(some 4), none, (.mv (.k (.int .i64 0)))⟩]) (.block 0 (.loop b40_0))) (.seq (.reg none [⟨(some 23), none, (.mv (.t 3))⟩, ⟨(some 2), none, (.mv (.t 23))⟩]) .ret))))⟩
theorem k40 : compF Try.prog 40 = some c40 := by kernel_rfl
attribute [local simp] op_or op_an op_add op_sub op_mul oq_eql oq_neq oq_lss oq_gtr oq_leq oq_geq
attribute [-simp] intOp bin_shl
def t37 (kd : Int) (x : D) (k m g : Int) (y : D) (id : Int) (nn ff : Bool) (ch : Int) (i : Nat) : List D := [.agg [.int .i64 kd, x, .int .i64 k, .int .i64 m, .int .i64 g, y, .int .i64 id], .ptr 0 0 0 0, .bool false, .bool nn, .bool ff, .int .i64 i, .ptr 0 0 1 0, .agg [x, .int .i64 k, .int .i64 m, .int .i64 g], .agg [nilS, .int .i64 0, .int .i64 0, .int .i64 0], .bool nn, .ptr 0 0 1 0, .agg [x, .int .i64 k, .int .i64 m, .int .i64 g], .int .i64 ch, .bool ff, .undef, .undef, .undef, .undef, .undef, .undef, .undef, .undef, .undef, .undef, .undef, .undef, .undef, .undef, .undef, .undef, .undef, .undef, .undef, .undef, .undef, .undef, .undef, .undef, .undef, .undef, .undef, .undef, .undef, .undef, .undef, .undef, .undef, .undef, .undef, .undef, .undef, .undef, .undef, .undef, .undef, .undef, .undef, .undef, .undef, .undef, .undef, .undef, .undef, .undef, .undef, .undef, .undef, .undef, .undef, .undef, .undef, .undef]
def H37 (kd : Int) (x : D) (k m g : Int) (y : D) (id : Int) : List Obj := [.box [.int .i64 kd, x, .int .i64 k, .int .i64 m, .int .i64 g, y, .int .i64 id]]
set_option maxHeartbeats 8000000 in
theorem L37 (kd : Int) (x : D) (k m g : Int) (c : Bool) (ids : List Int) (id : Int) (nn ff : Bool) (ch : Int) (hl : ids.length ≤ 2 ^ 47) : ∀ (t pre : List Int) (i : Nat), ids = pre ++ t → i = pre.length →
    (t.any odd = false → LpB cf0 K0 b37_0 (t37 kd x k m g (Sl c ids) id nn ff ch 0) 1 ⟨t37 kd x k m g (Sl c ids) id nn ff ch i, H37 kd x k m g (Sl c ids) id⟩ = some (.exit 0, ⟨t37 kd x k m g (Sl c ids) id nn ff ch ids.length, H37 kd x k m g (Sl c ids) id⟩)) ∧
    (t.any odd = true → ∀ kn, finK false 0 [.tmp 2] (loopK cf0 K0 (LpB cf0 K0 b37_0 (t37 kd x k m g (Sl c ids) id nn ff ch 0) 1 ⟨t37 kd x k m g (Sl c ids) id nn ff ch i, H37 kd x k m g (Sl c ids) id⟩) kn) = some (.bool false, []))
  | [], pre, i, h, hi => by
    have : ids = pre := by simpa using h
    subst this
    refine ⟨fun _ => ?_, fun h => by simp at h⟩
    have z1 : ltI (i : Int) ids.length = false := ltI_f (by omega)
    rw [LpB_eq]
    simp only [t37, H37]
    conv => lhs; arg 6; simp [b37_0, z1]
    simp [hi]
  | a :: t, pre, i, h, hi => by
    have hll : i < ids.length := by rw [h, hi]; simp
    have z1 : ltI (i : Int) ids.length = true := ltI_t (by omega)
    have hget : ids[i]? = some a := by rw [h, hi]; simp
    have hgi : ids[i]'hll = a := by rw [List.getElem?_eq_getElem hll] at hget; exact Option.some.inj hget
    have hw := w64 (i + 1) (by omega)
    have eo : odd a = (ltI a 0 || ltI 999999 a) := rfl
    have ih := L37 kd x k m g c ids id nn ff ch hl t (pre ++ [a]) (i + 1) (by rw [h]; simp) (by simp [hi])
    rw [LpB_eq, List.any_cons, eo]
    cases z2 : ltI a 0 with
    | true =>
      refine ⟨fun h => by simp at h, fun _ kn => ?_⟩
      simp only [t37, H37]
      conv => lhs; arg 4; arg 3; arg 6; simp [b37_0, z1, hll, hgi, z2]
      simp [Ks_ret]
    | false =>
      cases z3 : ltI 999999 a with
      | true =>
        refine ⟨fun h => by simp at h, fun _ kn => ?_⟩
        simp only [t37, H37]
        conv => lhs; arg 4; arg 3; arg 6; simp [b37_0, z1, hll, hgi, z2, z3]
        simp [Ks_ret]
      | false =>
        refine ⟨fun h => ?_, fun h kn => ?_⟩
        · have ih' := ih.1 (by simpa using h)
          simp only [t37, H37] at ih' ⊢
          conv => lhs; arg 6; simp [b37_0, z1, hll, hgi, z2, z3, hw]
          simp at ih' ⊢
          exact ih'
        · have ih' := ih.2 (by simpa using h) kn
          simp only [t37, H37] at ih' ⊢
          conv => lhs; arg 4; arg 3; arg 6; simp [b37_0, z1, hll, hgi, z2, z3, hw]
          simp at ih' ⊢
          exact ih'
theorem leI_two (n : Nat) : leI 2 (n : Int) = ltI 1 (n : Int) := by unfold leI ltI; rw [Bool.eq_iff_iff]; simp; omega
set_option maxHeartbeats 8000000 in
/-- thresherref16.may. -/
theorem K37 (kd : Int) (c : Bool) (s : Nat) (ts : List Int) (k m g : Int) (c' : Bool) (s' : Nat) (ids : List Int) (id : Int) (hs : s = 1 ∨ ts = []) (hs' : s' = 1 ∨ ids = []) (hl : ts.length ≤ 2 ^ 47) (hl' : ids.length ≤ 2 ^ 47) :
    K0 37 [Rcd kd c s ts k m g c' s' ids id] [] = some (.bool (mayI kd ts k m g ids id), []) := by
  refine K_call k37 (oraG_none (by decide) (by decide)) (by simp [c37, Rcd]) ?_
  have h1 := K46 c true s 0 ts [] k m g 0 0 0 hs (.inr rfl) hl
  have h2 := K73 c s ts hs k m g hl
  have e1 : decide (ts = [] ∧ k = 0 ∧ m = 0 ∧ g = 0) = (eqI ts.length 0 && eqI k 0 && eqI m 0 && eqI g 0) := by
    unfold eqI
    rw [Bool.eq_iff_iff]
    simp [and_assoc]
  rw [e1] at h1
  rw [mayI_eq]
  have eo : odd id = (ltI id 0 || ltI 999999 id) := rfl
  unfold mayR
  rw [eo]
  unfold Sd at h1 h2
  unfold Rcd
  simp only [List.map_nil] at h1
  generalize (eqI ts.length 0 && eqI k 0 && eqI m 0 && eqI g 0) = nn at *
  generalize checkI ts k m g = ch at *
  obtain ⟨ff, hff⟩ : ∃ z, eqI ch 0 = z := ⟨_, rfl⟩
  rw [hff]
  have hloop : ∀ s', (s' = 1 ∨ ids = []) → (ids.any odd = false → LpB cf0 K0 b37_0 (t37 kd (.slc c s (ts.map (.int .i64))) k m g (.slc c' s' (ids.map (.int .i64))) id nn ff ch 0) 1 ⟨t37 kd (.slc c s (ts.map (.int .i64))) k m g (.slc c' s' (ids.map (.int .i64))) id nn ff ch 0, H37 kd (.slc c s (ts.map (.int .i64))) k m g (.slc c' s' (ids.map (.int .i64))) id⟩ = some (.exit 0, ⟨t37 kd (.slc c s (ts.map (.int .i64))) k m g (.slc c' s' (ids.map (.int .i64))) id nn ff ch ids.length, H37 kd (.slc c s (ts.map (.int .i64))) k m g (.slc c' s' (ids.map (.int .i64))) id⟩)) ∧
    (ids.any odd = true → ∀ kn, finK false 0 [.tmp 2] (loopK cf0 K0 (LpB cf0 K0 b37_0 (t37 kd (.slc c s (ts.map (.int .i64))) k m g (.slc c' s' (ids.map (.int .i64))) id nn ff ch 0) 1 ⟨t37 kd (.slc c s (ts.map (.int .i64))) k m g (.slc c' s' (ids.map (.int .i64))) id nn ff ch 0, H37 kd (.slc c s (ts.map (.int .i64))) k m g (.slc c' s' (ids.map (.int .i64))) id⟩) kn) = some (.bool false, [])) := by
    intro s' hs'
    rcases hs' with rfl | rfl
    · exact L37 kd (.slc c s (ts.map (.int .i64))) k m g c' ids id nn ff ch hl' ids [] 0 rfl rfl
    · refine ⟨fun _ => ?_, fun h => by simp at h⟩
      have z1 : ltI 0 0 = false := rfl
      rw [LpB_eq]
      simp only [t37, H37]
      conv => lhs; arg 6; simp [b37_0, z1]
      simp
  have hL := hloop s' hs'
  clear hloop
  cases ha : ids.any odd with
  | true =>
    have h := hL.2 ha
    simp only [t37, H37] at h
    simp [c37, h1, h2, hff]
    simp at h
    exact h _
  | false =>
    have h := hL.1 ha
    simp only [t37, H37] at h
    simp at h
    obtain ⟨i1, hi1⟩ : ∃ z, ltI id 0 = z := ⟨_, rfl⟩
    obtain ⟨i2, hi2⟩ : ∃ z, ltI 999999 id = z := ⟨_, rfl⟩
    obtain ⟨l4, hl4⟩ : ∃ z, ltI 40 ids.length = z := ⟨_, rfl⟩
    obtain ⟨k1, hk1⟩ : ∃ z, eqI kd 1 = z := ⟨_, rfl⟩
    obtain ⟨k2, hk2⟩ : ∃ z, eqI kd 2 = z := ⟨_, rfl⟩
    obtain ⟨k3, hk3⟩ : ∃ z, eqI kd 3 = z := ⟨_, rfl⟩
    obtain ⟨i0, hi0⟩ : ∃ z, eqI ids.length 0 = z := ⟨_, rfl⟩
    obtain ⟨l1, hl1⟩ : ∃ z, ltI 1 ids.length = z := ⟨_, rfl⟩
    have hl2 : leI 2 (ids.length : Int) = l1 := by rw [leI_two, hl1]
    rw [hi1, hi2, hl4, hk1, hk2, hk3, hi0, hl1]
    cases i1
    rotate_left
    · simp [c37, h1, h2, hff]
      rw [h]
      simp [hi1]
    cases i2
    rotate_left
    · simp [c37, h1, h2, hff]
      rw [h]
      simp [hi1, hi2]
    cases l4
    rotate_left
    · simp [c37, h1, h2, hff]
      rw [h]
      simp [hi1, hi2, hl4]
    cases k1
    rotate_left
    · simp [c37, h1, h2, hff]
      rw [h]
      simp [hi1, hi2, hl4, hk1]
    cases k2
    rotate_left
    · simp [c37, h1, h2, hff]
      rw [h]
      cases nn <;> simp [hi1, hi2, hl4, hk1, hk2, hi0]
    cases k3
    rotate_left
    · simp [c37, h1, h2, hff]
      rw [h]
      cases nn <;> simp [hi1, hi2, hl4, hk1, hk2, hk3, hl2]
    · simp [c37, h1, h2, hff]
      rw [h]
      simp [hi1, hi2, hl4, hk1, hk2, hk3]
end Go.Ab
