/- THE FUNCTIONS' EQUATIONS: record.may. -/
import Derived.Test.YtanfmnobanhcnaaBF71
set_option linter.all false
set_option maxRecDepth 100000
namespace Go.Ab
open Go.Proofs Go.Proofs.YtanfmnobanhcnaaH Go.Proofs.YtanfmnobanhcnaaH.Crc Go.Proofs.YtanfmnobanhcnaaH.Var Go.Proofs.YtanfmnobanhcnaaH.Fr Go.Proofs.YtanfmnobanhcnaaH.Rec
def c69 : Fn' := ⟨9, [(.tmp 2)], (.seq (.reg none [⟨(some 2), none, (.mv (.k (.bool false)))⟩]) (.seq (.reg none [⟨(some 3), none, (.mv (.t 0))⟩, ⟨(some 4), none, (.bin .lss [] (.t 3) (.k (.int .i64 0)))⟩, ⟨(some 5), none, (.mv (.t 4))⟩, ⟨(some 6), (some ((some 5), false)), (.mv (.t 0))⟩, ⟨(some 7), (some ((some 5), false)), (.bin .gtr [] (.t 6) (.k (.int .i64 999999)))⟩, ⟨(some 8), none, (.pick (.t 5) (.k (.bool true)) (.t 7))⟩, ⟨(some 2), none, (.mv (.t 8))⟩]) .ret))⟩
theorem k69 : compF Try.prog 69 = some c69 := by kernel_rfl
def r33 : C := (.seq (.seq (.reg none [⟨(some 27), none, (.mv (.t 3))⟩, ⟨(some 28), none, (.fa 6 1 false (.t 1))⟩, ⟨(some 29), none, (.ld none (.t 28))⟩, ⟨(some 30), none, (.call (.t 27) [(.t 29)])⟩, ⟨(some 31), none, (.mv (.t 30))⟩, ⟨(some 32), (some ((some 31), false)), (.fa 5 1 false (.t 1))⟩, ⟨(some 33), (some ((some 31), false)), (.ld none (.t 32))⟩, ⟨(some 34), (some ((some 31), false)), (.len 1 (.t 33))⟩, ⟨(some 35), (some ((some 31), false)), (.bin .gtr [] (.t 34) (.k (.int .i64 40)))⟩, ⟨(some 36), none, (.pick (.t 31) (.k (.bool true)) (.t 35))⟩, ⟨(some 37), none, (.mv (.t 36))⟩, ⟨(some 38), (some ((some 37), false)), (.fa 5 1 false (.t 1))⟩, ⟨(some 39), (some ((some 37), false)), (.ld none (.t 38))⟩, ⟨(some 40), (some ((some 37), false)), (.mv (.t 3))⟩, ⟨(some 41), (some ((some 37), false)), (.call (.f 70) [(.t 39), (.t 40)])⟩, ⟨(some 42), none, (.pick (.t 37) (.k (.bool true)) (.t 41))⟩]) (.cond (.t 42) (.seq (.reg none [⟨(some 2), none, (.mv (.k (.bool false)))⟩]) .ret) .skip)) (.seq (.seq (.reg none [⟨(some 43), none, (.fa 0 1 false (.t 1))⟩, ⟨(some 44), none, (.ld none (.t 43))⟩]) (.block 0 (.seq (.reg none [⟨(some 46), none, (.bin .eql [] (.t 44) (.k (.int .i64 1)))⟩, ⟨(some 45), none, (.mv (.t 46))⟩]) (.cond (.t 45) (.seq (.reg none [⟨(some 47), none, (.ld (some 4) (.t 4))⟩, ⟨(some 48), none, (.call (.f 71) [(.t 47)])⟩, ⟨(some 49), none, (.bin .eql [] (.t 48) (.k (.int .i64 0)))⟩, ⟨(some 2), none, (.mv (.t 49))⟩]) .ret) (.seq (.reg none [⟨(some 51), none, (.bin .eql [] (.t 44) (.k (.int .i64 2)))⟩, ⟨(some 50), none, (.mv (.t 51))⟩]) (.cond (.t 50) (.seq (.reg none [⟨(some 52), none, (.mv (.t 5))⟩, ⟨(some 53), none, (.mv (.t 52))⟩, ⟨(some 54), (some ((some 53), true)), (.fa 5 1 false (.t 1))⟩, ⟨(some 55), (some ((some 53), true)), (.ld none (.t 54))⟩, ⟨(some 56), (some ((some 53), true)), (.len 1 (.t 55))⟩, ⟨(some 57), (some ((some 53), true)), (.bin .eql [] (.t 56) (.k (.int .i64 0)))⟩, ⟨(some 58), none, (.pick (.t 53) (.t 57) (.k (.bool false)))⟩, ⟨(some 2), none, (.mv (.t 58))⟩]) .ret) (.seq (.reg none [⟨(some 60), none, (.bin .eql [] (.t 44) (.k (.int .i64 3)))⟩, ⟨(some 59), none, (.mv (.t 60))⟩]) (.cond (.t 59) (.seq (.reg none [⟨(some 61), none, (.mv (.t 5))⟩, ⟨(some 62), none, (.mv (.t 61))⟩, ⟨(some 63), (some ((some 62), true)), (.fa 5 1 false (.t 1))⟩, ⟨(some 64), (some ((some 62), true)), (.ld none (.t 63))⟩, ⟨(some 65), (some ((some 62), true)), (.len 1 (.t 64))⟩, ⟨(some 66), (some ((some 62), true)), (.bin .gtr [] (.t 65) (.k (.int .i64 1)))⟩, ⟨(some 67), none, (.pick (.t 62) (.t 66) (.k (.bool false)))⟩, ⟨(some 2), none, (.mv (.t 67))⟩]) .ret) .skip)))))))) (.seq (.reg none [⟨(some 2), none, (.mv (.k (.bool false)))⟩]) .ret)))
def c33 : Fn' := ⟨68, [(.tmp 2)], (.seq (.reg none [⟨(some 1), none, (.box false (.t 0))⟩, ⟨(some 2), none, (.mv (.k (.bool false)))⟩]) (.seq (.reg none [⟨(some 3), none, (.mv (.f 69))⟩]) (.seq (.reg none [⟨(some 6), none, (.fa 1 4 true (.t 1))⟩, ⟨(some 7), none, (.ld (some 4) (.t 6))⟩, ⟨(some 4), none, (.alloc false [nilS, (.int .i64 0), (.int .i64 0), (.int .i64 0)])⟩, ⟨none, none, (.st 4 (.t 4) (.t 7))⟩]) (.seq (.reg none [⟨(some 8), none, (.fa 0 1 false (.t 4))⟩, ⟨(some 9), none, (.ld none (.t 8))⟩, ⟨(some 10), none, (.len 1 (.t 9))⟩, ⟨(some 11), none, (.bin .eql [] (.t 10) (.k (.int .i64 0)))⟩, ⟨(some 12), none, (.mv (.t 11))⟩, ⟨(some 13), (some ((some 12), true)), (.fa 1 1 false (.t 4))⟩, ⟨(some 14), (some ((some 12), true)), (.ld none (.t 13))⟩, ⟨(some 15), (some ((some 12), true)), (.bin .eql [] (.t 14) (.k (.int .i64 0)))⟩, ⟨(some 16), none, (.pick (.t 12) (.t 15) (.k (.bool false)))⟩, ⟨(some 17), none, (.mv (.t 16))⟩, ⟨(some 18), (some ((some 17), true)), (.fa 2 1 false (.t 4))⟩, ⟨(some 19), (some ((some 17), true)), (.ld none (.t 18))⟩, ⟨(some 20), (some ((some 17), true)), (.bin .eql [] (.t 19) (.k (.int .i64 0)))⟩, ⟨(some 21), none, (.pick (.t 17) (.t 20) (.k (.bool false)))⟩, ⟨(some 22), none, (.mv (.t 21))⟩, ⟨(some 23), (some ((some 22), true)), (.fa 3 1 false (.t 4))⟩, ⟨(some 24), (some ((some 22), true)), (.ld none (.t 23))⟩, ⟨(some 25), (some ((some 22), true)), (.bin .eql [] (.t 24) (.k (.int .i64 0)))⟩, ⟨(some 26), none, (.pick (.t 22) (.t 25) (.k (.bool false)))⟩, ⟨(some 5), none, (.mv (.t 26))⟩]) r33))))⟩
theorem k33 : compF Try.prog 33 = some c33 := by kernel_rfl
/-- Comparisons that simp leaves as they are. -/
def eqI (a b : Int) : Bool := a == b
def neI (a b : Int) : Bool := a != b
def ltI (a b : Int) : Bool := decide (a < b)
def leI (a b : Int) : Bool := decide (a ≤ b)
theorem oq_eql (k : IntKind) (a b : Int) : intOp .eql k a b = some (.bool (eqI a b)) := rfl
theorem oq_neq (k : IntKind) (a b : Int) : intOp .neq k a b = some (.bool (neI a b)) := rfl
theorem oq_lss (k : IntKind) (a b : Int) : intOp .lss k a b = some (.bool (ltI a b)) := rfl
theorem oq_gtr (k : IntKind) (a b : Int) : intOp .gtr k a b = some (.bool (ltI b a)) := rfl
theorem oq_leq (k : IntKind) (a b : Int) : intOp .leq k a b = some (.bool (leI a b)) := rfl
theorem oq_geq (k : IntKind) (a b : Int) : intOp .geq k a b = some (.bool (leI b a)) := rfl
theorem eqI_t {a b : Int} (h : a = b) : eqI a b = true := by simpa [eqI] using h
theorem eqI_f {a b : Int} (h : ¬ a = b) : eqI a b = false := by simpa [eqI] using h
theorem neI_t {a b : Int} (h : ¬ a = b) : neI a b = true := by simpa [neI] using h
theorem neI_f {a b : Int} (h : a = b) : neI a b = false := by simpa [neI] using h
theorem ltI_t {a b : Int} (h : a < b) : ltI a b = true := by simpa [ltI] using h
theorem ltI_f {a b : Int} (h : ¬ a < b) : ltI a b = false := by simpa [ltI] using h
theorem leI_t {a b : Int} (h : a ≤ b) : leI a b = true := by simpa [leI] using h
theorem leI_f {a b : Int} (h : ¬ a ≤ b) : leI a b = false := by simpa [leI] using h
attribute [local simp] op_or op_an op_add op_sub op_mul oq_eql oq_neq oq_lss oq_gtr oq_leq oq_geq
attribute [-simp] intOp bin_shl
theorem nil_or (c : Bool) (s : Nat) (l : List Int) : (c = true ∧ s = 0 ∧ l = []) ∨ D.isNil (.slc c s (l.map (.int .i64))) = false := by
  cases c with
  | false => exact .inr rfl
  | true =>
    cases s with
    | succ n => exact .inr rfl
    | zero => cases l with
      | nil => exact .inl ⟨rfl, rfl, rfl⟩
      | cons x l => exact .inr rfl
theorem isNil_nil : D.isNil (.slc true 0 []) = true := rfl
theorem isNil_int (k : IntKind) (n : Int) : D.isNil (.int k n) = false := rfl
theorem isNil_cons (c : Bool) (s : Nat) (x : D) (l : List D) : D.isNil (.slc c s (x :: l)) = false := by cases c <;> cases s <;> rfl
attribute [simp] isNil_nil isNil_int isNil_cons
/-- A record. -/
def Rcd (kd : Int) (c : Bool) (s : Nat) (ts : List Int) (k m g : Int) (c' : Bool) (s' : Nat) (ids : List Int) (id : Int) : D := .agg [.int .i64 kd, .slc c s (ts.map (.int .i64)), .int .i64 k, .int .i64 m, .int .i64 g, .slc c' s' (ids.map (.int .i64)), .int .i64 id]
set_option maxHeartbeats 2000000 in
theorem K69 (n : Int) : K0 69 [.int .i64 n] [] = some (.bool (odd n), []) := by
  refine K_call k69 (oraG_none (by decide) (by decide)) (by simp [c69]) ?_
  have e : odd n = (ltI n 0 || ltI 999999 n) := rfl
  rw [e]
  cases h1 : ltI n 0
  · simp [c69, h1]
  · simp [c69, h1]
def mayR (kd : Int) (ts : List Int) (k m g : Int) (ids : List Int) (id : Int) (b : Bool) : Bool := (!(odd id || ltI 40 ids.length || ids.any odd) &&
    (if eqI kd 1 = true then eqI (checkI ts k m g) 0 else if eqI kd 2 = true then b && eqI ids.length 0 else if eqI kd 3 = true then b && ltI 1 ids.length else false))
theorem mayI_eq (kd : Int) (ts : List Int) (k m g : Int) (ids : List Int) (id : Int) : mayI kd ts k m g ids id = mayR kd ts k m g ids id (eqI ts.length 0 && eqI k 0 && eqI m 0 && eqI g 0) := by
  unfold mayR
  have e1 : eqI (checkI ts k m g) 0 = schemaOk ts k m g := by
    unfold checkI eqI
    cases schemaOk ts k m g <;> simp
  have e2 : (eqI ts.length 0 && eqI k 0 && eqI m 0 && eqI g 0) = bare ts k m g := by
    unfold bare eqI
    rw [Bool.eq_iff_iff]
    simp
  have e3 : ltI 40 (ids.length : Int) = decide (40 < ids.length) := by unfold ltI; rw [Bool.eq_iff_iff]; simp; omega
  have e4 : ltI 1 (ids.length : Int) = decide (1 < ids.length) := by unfold ltI; rw [Bool.eq_iff_iff]; simp; omega
  have e5 : eqI (ids.length : Int) 0 = decide (ids.length = 0) := by unfold eqI; rw [Bool.eq_iff_iff]; simp
  rw [e1, e2, e3, e4, e5]
  unfold mayI eqI
  simp only [beq_iff_eq]
set_option maxHeartbeats 8000000 in
theorem R33 {d6 d7 d8 d9 d10 d11 d12 d13 d14 d15 d16 d17 d18 d19 d20 d21 d22 d23 d24 d25 d26 : D} (kd : Int) (c : Bool) (s : Nat) (ts : List Int) (k m g : Int) (c' : Bool) (s' : Nat) (ids : List Int) (id : Int) (hs : s = 1 ∨ ts = []) (hs' : s' = 1 ∨ ids = []) (hl : ts.length ≤ 2 ^ 47) (hl' : ids.length ≤ 2 ^ 47) (b : Bool) :
    finK false 0 [.tmp 2] (Ek cf0 K0 [.c r33] ⟨[Rcd kd c s ts k m g c' s' ids id, .ptr 0 0 0 0, .bool false, .func 69 [] [], .ptr 1 0 0 0, .bool b, d6, d7, d8, d9, d10, d11, d12, d13, d14, d15, d16, d17, d18, d19, d20, d21, d22, d23, d24, d25, d26, .undef, .undef, .undef, .undef, .undef, .undef, .undef, .undef, .undef, .undef, .undef, .undef, .undef, .undef, .undef, .undef, .undef, .undef, .undef, .undef, .undef, .undef, .undef, .undef, .undef, .undef, .undef, .undef, .undef, .undef, .undef, .undef, .undef, .undef, .undef, .undef, .undef, .undef, .undef, .undef, .undef], [.box [.int .i64 kd, .slc c s (ts.map (.int .i64)), .int .i64 k, .int .i64 m, .int .i64 g, .slc c' s' (ids.map (.int .i64)), .int .i64 id], .box [.slc c s (ts.map (.int .i64)), .int .i64 k, .int .i64 m, .int .i64 g]]⟩) =
    some (.bool (mayR kd ts k m g ids id b), []) := by
  have h1 := K69 id
  have h2 := K70 c' s' ids hs' 69 odd K69 hl'
  have h3 := K71 c s ts hs k m g hl
  unfold Sd at h3
  unfold Rcd mayR
  generalize odd id = o at *
  generalize ids.any odd = a at *
  generalize checkI ts k m g = ch at *
  obtain ⟨z5, hz5⟩ : ∃ z, eqI ch 0 = z := ⟨_, rfl⟩
  obtain ⟨l4, hl4⟩ : ∃ z, ltI 40 ids.length = z := ⟨_, rfl⟩
  obtain ⟨k1, hk1⟩ : ∃ z, eqI kd 1 = z := ⟨_, rfl⟩
  obtain ⟨k2, hk2⟩ : ∃ z, eqI kd 2 = z := ⟨_, rfl⟩
  obtain ⟨k3, hk3⟩ : ∃ z, eqI kd 3 = z := ⟨_, rfl⟩
  obtain ⟨i0, hi0⟩ : ∃ z, eqI ids.length 0 = z := ⟨_, rfl⟩
  obtain ⟨i1, hi1⟩ : ∃ z, ltI 1 ids.length = z := ⟨_, rfl⟩
  rw [hz5, hl4, hk1, hk2, hk3, hi0, hi1]
  cases o
  rotate_left
  · simp [r33, h1]
  cases l4
  rotate_left
  · simp [r33, h1, hl4]
  cases a
  rotate_left
  · simp [r33, h1, h2, hl4]
  cases k1
  rotate_left
  · simp [r33, h1, h2, h3, hz5, hl4, hk1]
  cases k2
  rotate_left
  · cases b <;> simp [r33, h1, h2, h3, hl4, hk1, hk2, hi0]
  cases k3
  rotate_left
  · cases b <;> simp [r33, h1, h2, h3, hl4, hk1, hk2, hk3, hi1]
  · simp [r33, h1, h2, h3, hl4, hk1, hk2, hk3]
set_option maxHeartbeats 8000000 in
/-- record.may. -/
theorem K33 (kd : Int) (c : Bool) (s : Nat) (ts : List Int) (k m g : Int) (c' : Bool) (s' : Nat) (ids : List Int) (id : Int) (hs : s = 1 ∨ ts = []) (hs' : s' = 1 ∨ ids = []) (hl : ts.length ≤ 2 ^ 47) (hl' : ids.length ≤ 2 ^ 47) :
    K0 33 [Rcd kd c s ts k m g c' s' ids id] [] = some (.bool (mayI kd ts k m g ids id), []) := by
  refine K_call k33 (oraG_none (by decide) (by decide)) (by simp [c33, Rcd]) ?_
  rw [mayI_eq]
  unfold Rcd
  obtain ⟨z1, hz1⟩ : ∃ z, eqI ts.length 0 = z := ⟨_, rfl⟩
  obtain ⟨z2, hz2⟩ : ∃ z, eqI k 0 = z := ⟨_, rfl⟩
  obtain ⟨z3, hz3⟩ : ∃ z, eqI m 0 = z := ⟨_, rfl⟩
  obtain ⟨z4, hz4⟩ : ∃ z, eqI g 0 = z := ⟨_, rfl⟩
  rw [hz1, hz2, hz3, hz4]
  cases z1
  · simp [c33, hz1]; exact R33 kd c s ts k m g c' s' ids id hs hs' hl hl' _
  cases z2
  · simp [c33, hz1, hz2]; exact R33 kd c s ts k m g c' s' ids id hs hs' hl hl' _
  cases z3
  · simp [c33, hz1, hz2, hz3]; exact R33 kd c s ts k m g c' s' ids id hs hs' hl hl' _
  · simp [c33, hz1, hz2, hz3, hz4]; exact R33 kd c s ts k m g c' s' ids id hs hs' hl hl' _
end Go.Ab
