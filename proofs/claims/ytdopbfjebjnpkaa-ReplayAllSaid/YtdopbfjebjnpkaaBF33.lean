/- THE FUNCTIONS' EQUATIONS: record.may. -/
import Derived.Test.YtdopbfjebjnpkaaBF73
import Derived.Test.YtdopbfjebjnpkaaBF72
import Derived.Test.YtdopbfjebjnpkaaBF60
import Derived.Test.YtdopbfjebjnpkaaBPRep
set_option linter.all false
set_option maxRecDepth 100000
namespace Go.Ab
open Go.Proofs Go.Proofs.YtdopbfjebjnpkaaH Go.Proofs.YtdopbfjebjnpkaaH.Crc Go.Proofs.YtdopbfjebjnpkaaH.Var Go.Proofs.YtdopbfjebjnpkaaH.Fr Go.Proofs.YtdopbfjebjnpkaaH.Rec
def c69 : Fn' := ⟨9, [(.tmp 2)], (.seq (.reg none [⟨(some 2), none, (.mv (.k (.bool false)))⟩]) (.seq (.reg none [⟨(some 3), none, (.mv (.t 0))⟩, ⟨(some 4), none, (.bin .lss [] (.t 3) (.k (.int .i64 0)))⟩, ⟨(some 5), none, (.mv (.t 4))⟩, ⟨(some 6), (some ((some 5), false)), (.mv (.t 0))⟩, ⟨(some 7), (some ((some 5), false)), (.bin .gtr [] (.t 6) (.k (.int .i64 999999)))⟩, ⟨(some 8), none, (.pick (.t 5) (.k (.bool true)) (.t 7))⟩, ⟨(some 2), none, (.mv (.t 8))⟩]) .ret))⟩
theorem k69 : compF Try.prog 67 = some c69 := by kernel_rfl
def r33 : C := (.seq (.seq (.reg none [⟨(some 27), none, (.mv (.t 3))⟩, ⟨(some 28), none, (.fa 6 1 false (.t 1))⟩, ⟨(some 29), none, (.ld none (.t 28))⟩, ⟨(some 30), none, (.call (.t 27) [(.t 29)])⟩, ⟨(some 31), none, (.mv (.t 30))⟩, ⟨(some 32), (some ((some 31), false)), (.fa 5 1 false (.t 1))⟩, ⟨(some 33), (some ((some 31), false)), (.ld none (.t 32))⟩, ⟨(some 34), (some ((some 31), false)), (.len 1 (.t 33))⟩, ⟨(some 35), (some ((some 31), false)), (.bin .gtr [] (.t 34) (.k (.int .i64 40)))⟩, ⟨(some 36), none, (.pick (.t 31) (.k (.bool true)) (.t 35))⟩, ⟨(some 37), none, (.mv (.t 36))⟩, ⟨(some 38), (some ((some 37), false)), (.fa 5 1 false (.t 1))⟩, ⟨(some 39), (some ((some 37), false)), (.ld none (.t 38))⟩, ⟨(some 40), (some ((some 37), false)), (.mv (.t 3))⟩, ⟨(some 41), (some ((some 37), false)), (.call (.f 68) [(.t 39), (.t 40)])⟩, ⟨(some 42), none, (.pick (.t 37) (.k (.bool true)) (.t 41))⟩]) (.cond (.t 42) (.seq (.reg none [⟨(some 2), none, (.mv (.k (.bool false)))⟩]) .ret) .skip)) (.seq (.seq (.reg none [⟨(some 43), none, (.fa 0 1 false (.t 1))⟩, ⟨(some 44), none, (.ld none (.t 43))⟩]) (.block 0 (.seq (.reg none [⟨(some 46), none, (.bin .eql [] (.t 44) (.k (.int .i64 1)))⟩, ⟨(some 45), none, (.mv (.t 46))⟩]) (.cond (.t 45) (.seq (.reg none [⟨(some 47), none, (.ld (some 4) (.t 4))⟩, ⟨(some 48), none, (.call (.f 69) [(.t 47)])⟩, ⟨(some 49), none, (.bin .eql [] (.t 48) (.k (.int .i64 0)))⟩, ⟨(some 2), none, (.mv (.t 49))⟩]) .ret) (.seq (.reg none [⟨(some 51), none, (.bin .eql [] (.t 44) (.k (.int .i64 2)))⟩, ⟨(some 50), none, (.mv (.t 51))⟩]) (.cond (.t 50) (.seq (.reg none [⟨(some 52), none, (.mv (.t 5))⟩, ⟨(some 53), none, (.mv (.t 52))⟩, ⟨(some 54), (some ((some 53), true)), (.fa 5 1 false (.t 1))⟩, ⟨(some 55), (some ((some 53), true)), (.ld none (.t 54))⟩, ⟨(some 56), (some ((some 53), true)), (.len 1 (.t 55))⟩, ⟨(some 57), (some ((some 53), true)), (.bin .eql [] (.t 56) (.k (.int .i64 0)))⟩, ⟨(some 58), none, (.pick (.t 53) (.t 57) (.k (.bool false)))⟩, ⟨(some 2), none, (.mv (.t 58))⟩]) .ret) (.seq (.reg none [⟨(some 60), none, (.bin .eql [] (.t 44) (.k (.int .i64 3)))⟩, ⟨(some 59), none, (.mv (.t 60))⟩]) (.cond (.t 59) (.seq (.reg none [⟨(some 61), none, (.mv (.t 5))⟩, ⟨(some 62), none, (.mv (.t 61))⟩, ⟨(some 63), (some ((some 62), true)), (.fa 5 1 false (.t 1))⟩, ⟨(some 64), (some ((some 62), true)), (.ld none (.t 63))⟩, ⟨(some 65), (some ((some 62), true)), (.len 1 (.t 64))⟩, ⟨(some 66), (some ((some 62), true)), (.bin .gtr [] (.t 65) (.k (.int .i64 1)))⟩, ⟨(some 67), none, (.pick (.t 62) (.t 66) (.k (.bool false)))⟩, ⟨(some 2), none, (.mv (.t 67))⟩]) .ret) .skip)))))))) (.seq (.reg none [⟨(some 2), none, (.mv (.k (.bool false)))⟩]) .ret)))
def c33 : Fn' := ⟨68, [(.tmp 2)], (.seq (.reg none [⟨(some 1), none, (.box false (.t 0))⟩, ⟨(some 2), none, (.mv (.k (.bool false)))⟩]) (.seq (.reg none [⟨(some 3), none, (.mv (.f 67))⟩]) (.seq (.reg none [⟨(some 6), none, (.fa 1 4 true (.t 1))⟩, ⟨(some 7), none, (.ld (some 4) (.t 6))⟩, ⟨(some 4), none, (.alloc false [nilS, (.int .i64 0), (.int .i64 0), (.int .i64 0)])⟩, ⟨none, none, (.st 4 (.t 4) (.t 7))⟩]) (.seq (.reg none [⟨(some 8), none, (.fa 0 1 false (.t 4))⟩, ⟨(some 9), none, (.ld none (.t 8))⟩, ⟨(some 10), none, (.len 1 (.t 9))⟩, ⟨(some 11), none, (.bin .eql [] (.t 10) (.k (.int .i64 0)))⟩, ⟨(some 12), none, (.mv (.t 11))⟩, ⟨(some 13), (some ((some 12), true)), (.fa 1 1 false (.t 4))⟩, ⟨(some 14), (some ((some 12), true)), (.ld none (.t 13))⟩, ⟨(some 15), (some ((some 12), true)), (.bin .eql [] (.t 14) (.k (.int .i64 0)))⟩, ⟨(some 16), none, (.pick (.t 12) (.t 15) (.k (.bool false)))⟩, ⟨(some 17), none, (.mv (.t 16))⟩, ⟨(some 18), (some ((some 17), true)), (.fa 2 1 false (.t 4))⟩, ⟨(some 19), (some ((some 17), true)), (.ld none (.t 18))⟩, ⟨(some 20), (some ((some 17), true)), (.bin .eql [] (.t 19) (.k (.int .i64 0)))⟩, ⟨(some 21), none, (.pick (.t 17) (.t 20) (.k (.bool false)))⟩, ⟨(some 22), none, (.mv (.t 21))⟩, ⟨(some 23), (some ((some 22), true)), (.fa 3 1 false (.t 4))⟩, ⟨(some 24), (some ((some 22), true)), (.ld none (.t 23))⟩, ⟨(some 25), (some ((some 22), true)), (.bin .eql [] (.t 24) (.k (.int .i64 0)))⟩, ⟨(some 26), none, (.pick (.t 22) (.t 25) (.k (.bool false)))⟩, ⟨(some 5), none, (.mv (.t 26))⟩]) r33))))⟩
theorem k33 : compF Try.prog 46 = some c33 := by kernel_rfl
attribute [local simp] op_or op_an op_add op_sub op_mul oq_eql oq_neq oq_lss oq_gtr oq_leq oq_geq
attribute [-simp] intOp bin_shl
/-- A record. -/
def Rcd (kd : Int) (c : Bool) (s : Nat) (ts : List Int) (k m g : Int) (c' : Bool) (s' : Nat) (ids : List Int) (id : Int) : D := .agg [.int .i64 kd, .slc c s (ts.map (.int .i64)), .int .i64 k, .int .i64 m, .int .i64 g, .slc c' s' (ids.map (.int .i64)), .int .i64 id]
set_option maxHeartbeats 2000000 in
theorem K69 (n : Int) : K0 67 [.int .i64 n] [] = some (.bool (odd n), []) := by
  refine K_call k69 (oraG_none (by decide) (by decide)) (by simp [c69]) ?_
  have e : odd n = (ltI n 0 || ltI 999999 n) := rfl
  rw [e]
  cases h1 : ltI n 0
  · simp [c69, h1]
  · simp [c69, h1]
def mayR (kd : Int) (ts : List Int) (k m g : Int) (ids : List Int) (id : Int) (b : Bool) : Bool := (!(odd id || ltI 40 ids.length || ids.any odd) &&
    (if eqI kd 1 = true then eqI (checkI ts k m g) 0 else if eqI kd 2 = true then b && eqI ids.length 0 else if eqI kd 3 = true then b && ltI 1 ids.length else false))
theorem mayI_eq (kd : Int) (ts : List Int) (k m g : Int) (ids : List Int) (id : Int) : mayI kd ts k m g ids id = mayR kd ts k m g ids id (eqI ts.length 0 && eqI k 0 && eqI m 0 && eqI g 0) := by
  unfold mayR
  have e1 : eqI (checkI ts k m g) 0 = schemaOk ts k m g := by
    unfold checkI eqI
    cases schemaOk ts k m g <;> simp
  have e2 : (eqI ts.length 0 && eqI k 0 && eqI m 0 && eqI g 0) = bare ts k m g := by
    unfold bare eqI
    rw [Bool.eq_iff_iff]
    simp
  have e3 : ltI 40 (ids.length : Int) = decide (40 < ids.length) := by unfold ltI; rw [Bool.eq_iff_iff]; simp; omega
  have e4 : ltI 1 (ids.length : Int) = decide (1 < ids.length) := by unfold ltI; rw [Bool.eq_iff_iff]; simp; omega
  have e5 : eqI (ids.length : Int) 0 = decide (ids.length = 0) := by unfold eqI; rw [Bool.eq_iff_iff]; simp
  rw [e1, e2, e3, e4, e5]
  unfold mayI eqI
  simp only [beq_iff_eq]
set_option maxHeartbeats 8000000 in
theorem R33 {d6 d7 d8 d9 d10 d11 d12 d13 d14 d15 d16 d17 d18 d19 d20 d21 d22 d23 d24 d25 d26 : D} (kd : Int) (c : Bool) (s : Nat) (ts : List Int) (k m g : Int) (c' : Bool) (s' : Nat) (ids : List Int) (id : Int) (hs : s = 1 ∨ ts = []) (hs' : s' = 1 ∨ ids = []) (hl : ts.length ≤ 2 ^ 47) (hl' : ids.length ≤ 2 ^ 47) (b : Bool) :
    finK false 0 [.tmp 2] (Ek cf0 K0 [.c r33] ⟨[Rcd kd c s ts k m g c' s' ids id, .ptr 0 0 0 0, .bool false, .func 67 [] [], .ptr 1 0 0 0, .bool b, d6, d7, d8, d9, d10, d11, d12, d13, d14, d15, d16, d17, d18, d19, d20, d21, d22, d23, d24, d25, d26, .undef, .undef, .undef, .undef, .undef, .undef, .undef, .undef, .undef, .undef, .undef, .undef, .undef, .undef, .undef, .undef, .undef, .undef, .undef, .undef, .undef, .undef, .undef, .undef, .undef, .undef, .undef, .undef, .undef, .undef, .undef, .undef, .undef, .undef, .undef, .undef, .undef, .undef, .undef, .undef, .undef], [.box [.int .i64 kd, .slc c s (ts.map (.int .i64)), .int .i64 k, .int .i64 m, .int .i64 g, .slc c' s' (ids.map (.int .i64)), .int .i64 id], .box [.slc c s (ts.map (.int .i64)), .int .i64 k, .int .i64 m, .int .i64 g]]⟩) =
    some (.bool (mayR kd ts k m g ids id b), []) := by
  have h1 := K69 id
  have h2 := K70 c' s' ids hs' 67 odd K69 hl'
  have h3 := K71 c s ts hs k m g hl
  unfold Sd at h3
  unfold Rcd mayR
  generalize odd id = o at *
  generalize ids.any odd = a at *
  generalize checkI ts k m g = ch at *
  obtain ⟨z5, hz5⟩ : ∃ z, eqI ch 0 = z := ⟨_, rfl⟩
  obtain ⟨l4, hl4⟩ : ∃ z, ltI 40 ids.length = z := ⟨_, rfl⟩
  obtain ⟨k1, hk1⟩ : ∃ z, eqI kd 1 = z := ⟨_, rfl⟩
  obtain ⟨k2, hk2⟩ : ∃ z, eqI kd 2 = z := ⟨_, rfl⟩
  obtain ⟨k3, hk3⟩ : ∃ z, eqI kd 3 = z := ⟨_, rfl⟩
  obtain ⟨i0, hi0⟩ : ∃ z, eqI ids.length 0 = z := ⟨_, rfl⟩
  obtain ⟨i1, hi1⟩ : ∃ z, ltI 1 ids.length = z := ⟨_, rfl⟩
  rw [hz5, hl4, hk1, hk2, hk3, hi0, hi1]
  cases o
  rotate_left
  · simp [r33, h1]
  cases l4
  rotate_left
  · simp [r33, h1, hl4]
  cases a
  rotate_left
  · simp [r33, h1, h2, hl4]
  cases k1
  rotate_left
  · simp [r33, h1, h2, h3, hz5, hl4, hk1]
  cases k2
  rotate_left
  · cases b <;> simp [r33, h1, h2, h3, hl4, hk1, hk2, hi0]
  cases k3
  rotate_left
  · cases b <;> simp [r33, h1, h2, h3, hl4, hk1, hk2, hk3, hi1]
  · simp [r33, h1, h2, h3, hl4, hk1, hk2, hk3]
set_option maxHeartbeats 8000000 in
/-- record.may. -/
theorem K33 (kd : Int) (c : Bool) (s : Nat) (ts : List Int) (k m g : Int) (c' : Bool) (s' : Nat) (ids : List Int) (id : Int) (hs : s = 1 ∨ ts = []) (hs' : s' = 1 ∨ ids = []) (hl : ts.length ≤ 2 ^ 47) (hl' : ids.length ≤ 2 ^ 47) :
    K0 46 [Rcd kd c s ts k m g c' s' ids id] [] = some (.bool (mayI kd ts k m g ids id), []) := by
  refine K_call k33 (oraG_none (by decide) (by decide)) (by simp [c33, Rcd]) ?_
  rw [mayI_eq]
  unfold Rcd
  obtain ⟨z1, hz1⟩ : ∃ z, eqI ts.length 0 = z := ⟨_, rfl⟩
  obtain ⟨z2, hz2⟩ : ∃ z, eqI k 0 = z := ⟨_, rfl⟩
  obtain ⟨z3, hz3⟩ : ∃ z, eqI m 0 = z := ⟨_, rfl⟩
  obtain ⟨z4, hz4⟩ : ∃ z, eqI g 0 = z := ⟨_, rfl⟩
  rw [hz1, hz2, hz3, hz4]
  cases z1
  · simp [c33, hz1]; exact R33 kd c s ts k m g c' s' ids id hs hs' hl hl' _
  cases z2
  · simp [c33, hz1, hz2]; exact R33 kd c s ts k m g c' s' ids id hs hs' hl hl' _
  cases z3
  · simp [c33, hz1, hz2, hz3]; exact R33 kd c s ts k m g c' s' ids id hs hs' hl hl' _
  · simp [c33, hz1, hz2, hz3, hz4]; exact R33 kd c s ts k m g c' s' ids id hs hs' hl hl' _
end Go.Ab
/- THE FUNCTIONS' EQUATIONS: record: writer.number, each. -/
set_option linter.all false
set_option maxRecDepth 100000
namespace Go.Ab
open Go.Proofs Go.Proofs.YtdopbfjebjnpkaaH Go.Proofs.YtdopbfjebjnpkaaH.Crc Go.Proofs.YtdopbfjebjnpkaaH.Var Go.Proofs.YtdopbfjebjnpkaaH.Fr Go.Proofs.YtdopbfjebjnpkaaH.Rec
def c35 : Fn' := ⟨15, [], (.reg (some [(4, 7)]) [⟨(some 4), none, (.mv (.t 0))⟩, ⟨(some 5), none, (.mv (.t 0))⟩, ⟨(some 6), none, (.nc (.t 5))⟩, ⟨(some 7), none, (.fa 0 1 false (.t 6))⟩, ⟨(some 8), none, (.ld none (.t 7))⟩, ⟨(some 9), none, (.mv (.t 1))⟩, ⟨(some 10), none, (.cvt (.int .u64) (.t 9))⟩, ⟨(some 11), none, (.call (.f 70) [(.t 10)])⟩, ⟨(some 12), none, (.app 1 1 (.t 8) (.t 11))⟩, ⟨(some 13), none, (.nc (.t 4))⟩, ⟨(some 14), none, (.fa 0 1 false (.t 13))⟩, ⟨none, none, (.st 1 (.t 14) (.t 12))⟩])⟩
theorem k35 : compF Try.prog 48 = some c35 := by kernel_rfl
def b36_0 : C := (.seq (.reg none [⟨(some 13), none, (.bin .lss [] (.t 12) (.t 11))⟩]) (.seq (.cond (.t 13) .skip (.exit 0)) (.seq (.block 1 (.seq (.reg none [⟨(some 14), none, (.ia none 1 false (.t 10) (.t 12))⟩, ⟨(some 15), none, (.ld none (.t 14))⟩, ⟨(some 5), none, (.mv (.t 15))⟩]) (.reg none [⟨(some 16), none, (.mv (.t 1))⟩, ⟨(some 17), none, (.mv (.t 5))⟩, ⟨(some 18), none, (.call (.t 16) [(.t 17)])⟩]))) (.reg none [⟨(some 19), none, (.bin .add [] (.t 12) (.k (.int .i64 1)))⟩, ⟨(some 12), none, (.mv (.t 19))⟩]))))
def c36 : Fn' := ⟨20, [], (.seq (.reg none [⟨(some 6), none, (.mv (.t 1))⟩, ⟨(some 7), none, (.mv (.t 0))⟩, ⟨(some 8), none, (.len 1 (.t 7))⟩, ⟨(some 9), none, (.call (.t 6) [(.t 8)])⟩]) (.seq (.reg none [⟨(some 10), none, (.mv (.t 0))⟩, ⟨(some 11), none, (.len 1 (.t 10))⟩, ⟨(some 12), none, (.mv (.k (.int .i64 0)))⟩]) (.block 0 (.loop b36_0))))⟩
theorem k36 : compF Try.prog 49 = some c36 := by kernel_rfl
attribute [local simp] op_or op_an op_add op_eql op_neq op_lss op_gtr op_leq op_geq op_sub op_mul
attribute [-simp] intOp bin_shl
/-- A writer: ahead of what is put first, and behind it. -/
def W0 (l : List Int) : List Obj := [.box [.slc true 1 (l.map (.int .u8))]]
def W1 (l : List Int) : List Obj := [.box [.sl 1 0 l.length l.length], .row 1 (l.map (.int .u8)) 0]
theorem range2 : List.range 2 = [0, 1] := rfl
theorem range3 : List.range 3 = [0, 1, 2] := rfl
theorem range4 : List.range 4 = [0, 1, 2, 3] := rfl
attribute [simp] range2 range3 range4
theorem putI_ne (x : Int) : ¬ putI x = [] := by
  intro e
  have := putI_pos x
  rw [e] at this
  cases this
set_option maxHeartbeats 4000000 in
theorem K35a (l : List Int) (n : Int) (hl : l.length ≤ 2 ^ 40) (h0 : 0 ≤ n) (hn : n ≤ 9223372036854775807) : K0 48 [.ptr 0 0 0 0, .int .i64 n] (W0 l) = some (.tuple [], W1 (l ++ putI n)) := by
  refine K_call k35 (oraG_none (by decide) (by decide)) (by simp [c35, W0]) ?_
  have hw : IntKind.u64.wrap n = n := by rw [IntKind.wrap_u64]; omega
  have hK := N66 n h0 (by omega)
  have hq := putI_ne n
  have hpl := putI_len10 n (by omega)
  generalize putI n = p at *
  have b1 : l.length + p.length ≤ 70368744177664 := by omega
  simp [c35, W0, W1, hw, hK, hq, b1, List.take_of_length_le, evOp, evM, wants, Ins.go, X.ev, iaM, ldM, binD, intOp, setD, applyW, Ek_ops_nil, allFree, free, callM, callP, appM]
set_option maxHeartbeats 4000000 in
theorem K35b (l : List Int) (n : Int) (hl : l.length ≤ 2 ^ 40) (h0 : 0 ≤ n) (hn : n ≤ 9223372036854775807) : K0 48 [.ptr 0 0 0 0, .int .i64 n] (W1 l) = some (.tuple [], W1 (l ++ putI n)) := by
  refine K_call k35 (oraG_none (by decide) (by decide)) (by simp [c35, W1]) ?_
  have hw : IntKind.u64.wrap n = n := by rw [IntKind.wrap_u64]; omega
  have hK := N66 n h0 (by omega)
  have hq := putI_ne n
  have hpl := putI_len10 n (by omega)
  generalize putI n = p at *
  have b1 : l.length + p.length ≤ 70368744177664 := by omega
  simp [c35, W0, W1, hw, hK, hq, b1, List.take_of_length_le, evOp, evM, wants, Ins.go, X.ev, iaM, ldM, binD, intOp, setD, applyW, Ek_ops_nil, allFree, free, callM, callP, appM]
def t36 (c : Bool) (ids : List Int) (i : Nat) : List D := [.slc c 1 (ids.map (.int .i64)), .func 48 [.ptr 0 0 0 0] [], .undef, .undef, .undef, .undef, .func 48 [.ptr 0 0 0 0] [], .slc c 1 (ids.map (.int .i64)), .int .i64 ids.length, .tuple [], .slc c 1 (ids.map (.int .i64)), .int .i64 ids.length, .int .i64 i, .undef, .undef, .undef, .undef, .undef, .undef, .undef]
set_option maxHeartbeats 4000000 in
theorem L36 (c : Bool) (ids : List Int) (hl : ids.length ≤ 2 ^ 30) : ∀ (t pre acc : List Int) (i : Nat), ids = pre ++ t → i = pre.length → acc.length + 10 * t.length ≤ 2 ^ 36 → (∀ x ∈ t, 0 ≤ x ∧ x ≤ 9223372036854775807) →
    LpB cf0 K0 b36_0 (t36 c ids 0) 2 ⟨t36 c ids i, W1 acc⟩ = some (.exit 0, ⟨t36 c ids ids.length, W1 (acc ++ putAllI t)⟩)
  | [], pre, acc, i, h, hi, hb, hx => by
    have : ids = pre := by simpa using h
    subst this
    rw [LpB_eq]
    simp only [t36, W1]
    conv => lhs; arg 6; simp [b36_0, hi]
    simp [hi, putAllI]
  | x :: t, pre, acc, i, h, hi, hb, hx => by
    have hx0 := hx x List.mem_cons_self
    have hll : i < ids.length := by rw [h, hi]; simp
    have hget : ids[i]? = some x := by rw [h, hi]; simp
    have hgi : ids[i]'hll = x := by rw [List.getElem?_eq_getElem hll] at hget; exact Option.some.inj hget
    have hw := w64 (i + 1) (by omega)
    have hp := putI_len10 x (by omega)
    simp only [List.length_cons] at hb
    have hK := K35b acc x (by omega) (by omega) (by omega)
    have ih := L36 c ids hl t (pre ++ [x]) (acc ++ putI x) (i + 1) (by rw [h]; simp) (by simp [hi]) (by simp; omega) (fun y hy => hx y (List.mem_cons_of_mem _ hy))
    rw [allP_pos, ← List.append_assoc]
    rw [LpB_eq]
    simp only [t36, W1] at ih hK ⊢
    conv => lhs; arg 6; simp [b36_0, hll, hgi, hw, hK, backK]
    simp at ih ⊢
    exact ih
set_option maxHeartbeats 4000000 in
theorem K36 (c : Bool) (s : Nat) (ids : List Int) (hs : s = 1 ∨ ids = []) (acc : List Int) (hl : ids.length ≤ 2 ^ 30) (ha : acc.length ≤ 2 ^ 30) (hx : ∀ x ∈ ids, 0 ≤ x ∧ x ≤ 9223372036854775807) :
    K0 49 [.slc c s (ids.map (.int .i64)), .func 48 [.ptr 0 0 0 0] []] (W1 acc) = some (.tuple [], W1 (acc ++ putI ids.length ++ putAllI ids)) := by
  refine K_call k36 (oraG_none (by decide) (by decide)) (by simp [c36, W1]) ?_
  have hp := putI_len10 (ids.length : Int) (by omega)
  have hK := K35b acc ids.length (by omega) (by omega) (by omega)
  rcases hs with rfl | rfl
  · have h := L36 c ids hl ids [] (acc ++ putI ids.length) 0 rfl rfl (by simp; omega) hx
    generalize putI (ids.length : Int) = p at *
    simp only [t36, W1] at h hK ⊢
    simp [c36, hK, backK]
    simp at h
    simp [h]
  · simp only [W1] at hK ⊢
    simp at hK
    simp [c36, hK, backK]
    rw [LpB_eq]
    simp [b36_0, putAllI]
end Go.Ab
/- THE FUNCTIONS' EQUATIONS: record.Put. -/
set_option linter.all false
set_option maxRecDepth 100000
namespace Go.Ab
open Go.Proofs Go.Proofs.YtdopbfjebjnpkaaH Go.Proofs.YtdopbfjebjnpkaaH.Crc Go.Proofs.YtdopbfjebjnpkaaH.Var Go.Proofs.YtdopbfjebjnpkaaH.Fr Go.Proofs.YtdopbfjebjnpkaaH.Rec
def c16 : Fn' := ⟨51, [(.tmp 2), (.tmp 3)], (.seq (.reg none [⟨(some 1), none, (.box true (.t 0))⟩, ⟨(some 2), none, (.mv (.k nilS))⟩, ⟨(some 3), none, (.mv (.k (.bool false)))⟩]) (.seq (.seq (.reg none [⟨(some 6), none, (.ld (some 7) (.t 1))⟩, ⟨(some 7), none, (.call (.f 46) [(.t 6)])⟩, ⟨(some 8), none, (.un .not (.t 7))⟩]) (.cond (.t 8) (.seq (.reg none [⟨(some 2), none, (.mv (.k nilS))⟩, ⟨(some 3), none, (.mv (.k (.bool false)))⟩]) .ret) .skip)) (.seq (.reg none [⟨(some 9), none, (.fa 0 1 false (.t 1))⟩, ⟨(some 10), none, (.ld none (.t 9))⟩, ⟨(some 11), none, (.cvt (.int .u8) (.t 10))⟩, ⟨(some 12), none, (.bsl false 1 1 [(.int .u8 0)] [(0, (.t 11))])⟩, ⟨(some 13), none, (.bld [nilS] [(0, (1, (.t 12)))])⟩, ⟨(some 14), none, (.box true (.t 13))⟩, ⟨(some 4), none, (.mv (.t 14))⟩]) (.seq (.seq (.reg none [⟨(some 15), none, (.fa 0 1 false (.t 1))⟩, ⟨(some 16), none, (.ld none (.t 15))⟩, ⟨(some 17), none, (.bin .eql [] (.t 16) (.k (.int .i64 1)))⟩]) (.cond (.t 17) (.seq (.reg none [⟨(some 18), none, (.fa 1 4 true (.t 1))⟩, ⟨(some 19), none, (.ld (some 4) (.t 18))⟩, ⟨(some 20), none, (.call (.f 47) [(.t 19)])⟩, ⟨(some 5), none, (.mv (.t 20))⟩]) (.seq (.reg none [⟨(some 21), none, (.mv (.t 4))⟩, ⟨(some 22), none, (.mv (.t 5))⟩, ⟨(some 23), none, (.len 1 (.t 22))⟩, ⟨(some 24), none, (.call (.f 48) [(.t 21), (.t 23)])⟩]) (.reg none [⟨(some 25), none, (.mv (.t 4))⟩, ⟨(some 26), none, (.mv (.t 4))⟩, ⟨(some 27), none, (.nc (.t 26))⟩, ⟨(some 28), none, (.fa 0 1 false (.t 27))⟩, ⟨(some 29), none, (.ld none (.t 28))⟩, ⟨(some 30), none, (.mv (.t 5))⟩, ⟨(some 31), none, (.app 1 1 (.t 29) (.t 30))⟩, ⟨(some 32), none, (.nc (.t 25))⟩, ⟨(some 33), none, (.fa 0 1 false (.t 32))⟩, ⟨none, none, (.st 1 (.t 33) (.t 31))⟩]))) .skip)) (.seq (.reg none [⟨(some 34), none, (.mv (.t 4))⟩, ⟨(some 35), none, (.fa 6 1 false (.t 1))⟩, ⟨(some 36), none, (.ld none (.t 35))⟩, ⟨(some 37), none, (.call (.f 48) [(.t 34), (.t 36)])⟩]) (.seq (.seq (.reg none [⟨(some 38), none, (.fa 0 1 false (.t 1))⟩, ⟨(some 39), none, (.ld none (.t 38))⟩, ⟨(some 40), none, (.bin .neq [] (.t 39) (.k (.int .i64 2)))⟩]) (.cond (.t 40) (.reg none [⟨(some 41), none, (.fa 5 1 false (.t 1))⟩, ⟨(some 42), none, (.ld none (.t 41))⟩, ⟨(some 43), none, (.mv (.t 4))⟩, ⟨(some 44), none, (.fn 48 [(.t 43)] [])⟩, ⟨(some 45), none, (.call (.f 49) [(.t 42), (.t 44)])⟩]) .skip)) (.seq (.reg none [⟨(some 46), none, (.mv (.t 4))⟩, ⟨(some 47), none, (.nc (.t 46))⟩, ⟨(some 48), none, (.fa 0 1 false (.t 47))⟩, ⟨(some 49), none, (.ld none (.t 48))⟩, ⟨(some 50), none, (.call (.f 50) [(.t 49)])⟩, ⟨(some 2), none, (.mv (.t 50))⟩, ⟨(some 3), none, (.mv (.k (.bool true)))⟩]) .ret)))))))⟩
theorem k16 : compF Try.prog 29 = some c16 := by kernel_rfl
attribute [local simp] op_or op_an op_add op_eql op_neq op_lss op_gtr op_leq op_geq op_sub op_mul
attribute [-simp] intOp bin_shl
set_option maxHeartbeats 8000000 in
/-- record.Put: what may not be. -/
theorem K16_f (kd : Int) (c : Bool) (s : Nat) (ts : List Int) (k m g : Int) (c' : Bool) (s' : Nat) (ids : List Int) (id : Int) (hs : s = 1 ∨ ts = []) (hs' : s' = 1 ∨ ids = []) (hl : ts.length ≤ 2 ^ 30) (hl' : ids.length ≤ 2 ^ 30) (h : mayI kd ts k m g ids id = false) :
    K0 29 [Rcd kd c s ts k m g c' s' ids id] [] = some (.tuple [nilS, .bool false], []) := by
  refine K_call k16 (oraG_none (by decide) (by decide)) (by simp [c16, Rcd]) ?_
  have hK := K33 kd c s ts k m g c' s' ids id hs hs' (by omega) (by omega)
  rw [h] at hK
  unfold Rcd at hK ⊢
  rcases nil_or c s ts with ⟨rfl, rfl, rfl⟩ | h1 <;> rcases nil_or c' s' ids with ⟨rfl, rfl, rfl⟩ | h2
  · simp at hK
    simp [c16, hK]
  · simp at hK
    simp [c16, h2, hK]
  · simp at hK
    simp [c16, h1, hK]
  · simp [c16, h1, h2, hK]
set_option maxHeartbeats 8000000 in
theorem K16_1 (c : Bool) (ts : List Int) (k m g : Int) (c' : Bool) (s' : Nat) (ids : List Int) (id : Int) (hs' : s' = 1 ∨ ids = []) (h : mayI 1 ts k m g ids id = true) :
    K0 29 [Rcd 1 c 1 ts k m g c' s' ids id] [] = some (.tuple [.slc false 1 ((frameI (recB 1 ts k m g ids id)).map (.int .u8)), .bool true], []) := by
  refine K_call k16 (oraG_none (by decide) (by decide)) (by simp [c16, Rcd]) ?_
  have hm := mayI_some h
  have hok : schemaOk ts k m g = true := by
    rcases hm.1 with h | h | h
    · exact h.2
    · exact absurd h.1 (by decide)
    · exact absurd h.1 (by decide)
  have hsc := schemaOk_iff.1 hok
  have hK := K33 1 c 1 ts k m g c' s' ids id (.inl rfl) hs' (by omega) (by omega)
  rw [h] at hK
  have h34 := K34 c 1 ts k m g (by omega) (by
    intro x hx
    rcases List.mem_append.1 hx with hx | hx
    · have := hsc.2.1 x hx; omega
    · simp at hx
      rcases hx with rfl | rfl | rfl <;> omega)
  have hSl := putS_len ts k m g hok
  unfold Sd at h34
  have hrec : recB 1 ts k m g ids id = ([1] ++ putI (putS ts k m g).length ++ putS ts k m g ++ putI id) ++ putI ids.length ++ putAllI ids := by
    unfold recB
    simp
  have hB : isB (recB 1 ts k m g ids id) := isB_recB h
  have hrl := recB_len h
  have hfr := N32 (recB 1 ts k m g ids id) false hB (by omega)
  generalize hrr : recB 1 ts k m g ids id = rr at *
  have hpsn : ¬ putS ts k m g = [] := by
    intro e
    have := putI_ne ts.length
    unfold putS at e
    rw [allP_pos] at e
    exact this (List.append_eq_nil_iff.1 e).1
  obtain ⟨S, hS⟩ : ∃ S, putS ts k m g = S := ⟨_, rfl⟩
  rw [hS] at h34 hSl hrec hpsn
  have p1 := putI_len10 (S.length : Int) (by omega)
  have p2 := putI_len10 id (by omega)
  have p3 := putI_len10 (ids.length : Int) (by omega)
  have e1 := K35a [1] S.length (by simp) (by omega) (by omega)
  obtain ⟨A, hA⟩ : ∃ A, [1] ++ putI S.length = A := ⟨_, rfl⟩
  have hAl : A.length ≤ 11 := by rw [← hA]; simp; omega
  have e2 := K35b (A ++ S) id (by simp; omega) (by omega) (by omega)
  obtain ⟨B, hB2⟩ : ∃ B, A ++ S ++ putI id = B := ⟨_, rfl⟩
  have hBl : B.length ≤ 701 := by rw [← hB2]; simp; omega
  have e3 := K36 c' s' ids hs' B (by omega) (by omega) (fun x hx => by have := hm.2.2.2 x hx; omega)
  have hR : B ++ putI ids.length ++ putAllI ids = rr := by rw [hrec, ← hB2, ← hA]
  rw [hR] at e3
  rw [hA] at e1
  rw [hB2] at e2
  have b1 : A.length + S.length ≤ 70368744177664 := by omega
  have w1 : IntKind.u8.wrap 1 = 1 := by decide
  simp only [W0, W1, List.map_cons, List.map_nil] at e1 e2 e3
  simp only [List.map_append, List.length_append] at e2
  unfold Rcd at hK ⊢
  rcases nil_or c 1 ts with ⟨_, h0, _⟩ | h1
  · cases h0
  rcases nil_or c' s' ids with ⟨rfl, rfl, rfl⟩ | h2
  · simp at hK e3
    simp [c16, h1, hK, h34, e1, e2, e3, hfr, w1, b1, hpsn, backK, List.take_of_length_le]
  · simp [c16, h1, h2, hK, h34, e1, e2, e3, hfr, w1, b1, hpsn, backK, List.take_of_length_le]
set_option maxHeartbeats 8000000 in
theorem K16_2 (c : Bool) (s : Nat) (c' : Bool) (s' : Nat) (id : Int) (h : mayI 2 [] 0 0 0 [] id = true) :
    K0 29 [Rcd 2 c s [] 0 0 0 c' s' [] id] [] = some (.tuple [.slc false 1 ((frameI (recB 2 [] 0 0 0 [] id)).map (.int .u8)), .bool true], []) := by
  refine K_call k16 (oraG_none (by decide) (by decide)) (by simp [c16, Rcd]) ?_
  have hm := mayI_some h
  have hK := fun c s c' s' => K33 2 c s [] 0 0 0 c' s' [] id (.inr rfl) (.inr rfl) (by simp) (by simp)
  rw [h] at hK
  have hrec : recB 2 [] 0 0 0 [] id = [2] ++ putI id := by unfold recB; simp
  have hB : isB (recB 2 [] 0 0 0 [] id) := isB_recB h
  have hrl := recB_len h
  have hfr := N32 (recB 2 [] 0 0 0 [] id) false hB (by omega)
  generalize hrr : recB 2 [] 0 0 0 [] id = rr at *
  have p2 := putI_len10 id (by omega)
  have e1 := K35a [2] id (by simp) (by omega) (by omega)
  rw [← hrec] at e1
  have w1 : IntKind.u8.wrap 2 = 2 := by decide
  simp only [W0, W1, List.map_cons, List.map_nil] at e1
  unfold Rcd at hK ⊢
  simp only [List.map_nil] at hK ⊢
  have n1 := nil_or c s []
  have n2 := nil_or c' s' []
  simp only [List.map_nil] at n1 n2
  rcases n1 with ⟨rfl, rfl, _⟩ | h1 <;> rcases n2 with ⟨rfl, rfl, _⟩ | h2
  · simp [c16, hK, e1, hfr, w1, backK, List.take_of_length_le]
  · simp [c16, h2, hK, e1, hfr, w1, backK, List.take_of_length_le]
  · simp [c16, h1, hK, e1, hfr, w1, backK, List.take_of_length_le]
  · simp [c16, h1, h2, hK, e1, hfr, w1, backK, List.take_of_length_le]
set_option maxHeartbeats 8000000 in
theorem K16_3 (c : Bool) (s : Nat) (c' : Bool) (ids : List Int) (id : Int) (h : mayI 3 [] 0 0 0 ids id = true) :
    K0 29 [Rcd 3 c s [] 0 0 0 c' 1 ids id] [] = some (.tuple [.slc false 1 ((frameI (recB 3 [] 0 0 0 ids id)).map (.int .u8)), .bool true], []) := by
  refine K_call k16 (oraG_none (by decide) (by decide)) (by simp [c16, Rcd]) ?_
  have hm := mayI_some h
  have hK := fun c s c' => K33 3 c s [] 0 0 0 c' 1 ids id (.inr rfl) (.inl rfl) (by simp) (by omega)
  rw [h] at hK
  have hrec : recB 3 [] 0 0 0 ids id = [3] ++ putI id ++ putI ids.length ++ putAllI ids := by unfold recB; simp
  have hB : isB (recB 3 [] 0 0 0 ids id) := isB_recB h
  have hrl := recB_len h
  have hfr := N32 (recB 3 [] 0 0 0 ids id) false hB (by omega)
  generalize hrr : recB 3 [] 0 0 0 ids id = rr at *
  have p2 := putI_len10 id (by omega)
  have e1 := K35a [3] id (by simp) (by omega) (by omega)
  obtain ⟨A, hA⟩ : ∃ A, [3] ++ putI id = A := ⟨_, rfl⟩
  have hAl : A.length ≤ 11 := by rw [← hA]; simp; omega
  have e3 := K36 c' 1 ids (.inl rfl) A (by omega) (by omega) (fun x hx => by have := hm.2.2.2 x hx; omega)
  rw [hA] at e1 hrec
  rw [← hrec] at e3
  have w1 : IntKind.u8.wrap 3 = 3 := by decide
  simp only [W0, W1, List.map_cons, List.map_nil] at e1 e3
  unfold Rcd at hK ⊢
  simp only [List.map_nil] at hK ⊢
  have n1 := nil_or c s []
  simp only [List.map_nil] at n1
  rcases nil_or c' 1 ids with ⟨_, h0, _⟩ | h2
  · cases h0
  rcases n1 with ⟨rfl, rfl, _⟩ | h1
  · simp [c16, h2, hK, e1, e3, hfr, w1, backK, List.take_of_length_le]
  · simp [c16, h1, h2, hK, e1, e3, hfr, w1, backK, List.take_of_length_le]
/-- record.Put: what may be. -/
theorem K16_t (kd : Int) (c : Bool) (s : Nat) (ts : List Int) (k m g : Int) (c' : Bool) (s' : Nat) (ids : List Int) (id : Int) (hs : s = 1 ∨ ts = []) (hs' : s' = 1 ∨ ids = []) (h : mayI kd ts k m g ids id = true) :
    K0 29 [Rcd kd c s ts k m g c' s' ids id] [] = some (.tuple [.slc false 1 ((frameI (recB kd ts k m g ids id)).map (.int .u8)), .bool true], []) := by
  rcases (mayI_some h).1 with ⟨rfl, h1⟩ | ⟨rfl, h1, h2⟩ | ⟨rfl, h1, h2⟩
  · have := (schemaOk_iff.1 h1).1
    obtain rfl := hs.resolve_right (by intro e; rw [e] at this; simp at this)
    exact K16_1 c ts k m g c' s' ids id hs' h
  · obtain ⟨rfl, rfl, rfl, rfl⟩ := bare_eq h1
    obtain rfl := List.eq_nil_of_length_eq_zero h2
    exact K16_2 c s c' s' id h
  · obtain ⟨rfl, rfl, rfl, rfl⟩ := bare_eq h1
    obtain rfl := hs'.resolve_right (by intro e; rw [e] at h2; simp at h2)
    exact K16_3 c s c' ids id h
end Go.Ab
/- THE FUNCTIONS' EQUATIONS: replay.row, replay.Apply. -/
set_option linter.all false
set_option maxRecDepth 100000
namespace Go.Ab
open Go.Proofs Go.Proofs.YtdopbfjebjnpkaaH Go.Proofs.YtdopbfjebjnpkaaH.Crc Go.Proofs.YtdopbfjebjnpkaaH.Var Go.Proofs.YtdopbfjebjnpkaaH.Fr Go.Proofs.YtdopbfjebjnpkaaH.Rec
def c202 : Fn' := ⟨35, [(.tmp 4)], (.seq (.reg none [⟨(some 4), none, (.mv (.k (.int .i64 0)))⟩]) (.seq (.reg none [⟨(some 6), none, (.mv (.t 0))⟩, ⟨(some 7), none, (.mv (.t 1))⟩, ⟨(some 8), none, (.ia none 1 false (.t 7) (.k (.int .i64 0)))⟩, ⟨(some 9), none, (.ld none (.t 8))⟩, ⟨(some 10), none, (.call (.f 54) [(.t 6), (.t 9)])⟩, ⟨(some 5), none, (.mv (.t 10))⟩]) (.seq (.seq (.reg none [⟨(some 11), none, (.mv (.t 5))⟩, ⟨(some 12), none, (.bin .lss [] (.t 11) (.k (.int .i64 0)))⟩, ⟨(some 13), none, (.mv (.t 12))⟩, ⟨(some 14), (some ((some 13), false)), (.mv (.t 5))⟩, ⟨(some 15), (some ((some 13), false)), (.mv (.t 1))⟩, ⟨(some 16), (some ((some 13), false)), (.len 1 (.t 15))⟩, ⟨(some 17), (some ((some 13), false)), (.bin .add [] (.t 14) (.t 16))⟩, ⟨(some 18), (some ((some 13), false)), (.mv (.t 0))⟩, ⟨(some 19), (some ((some 13), false)), (.len 1 (.t 18))⟩, ⟨(some 20), (some ((some 13), false)), (.bin .gtr [] (.t 17) (.t 19))⟩, ⟨(some 21), none, (.pick (.t 13) (.k (.bool true)) (.t 20))⟩, ⟨(some 22), none, (.mv (.t 21))⟩, ⟨(some 23), (some ((some 22), false)), (.mv (.t 0))⟩, ⟨(some 24), (some ((some 22), false)), (.mv (.t 5))⟩, ⟨(some 25), (some ((some 22), false)), (.mv (.t 5))⟩, ⟨(some 26), (some ((some 22), false)), (.mv (.t 1))⟩, ⟨(some 27), (some ((some 22), false)), (.len 1 (.t 26))⟩, ⟨(some 28), (some ((some 22), false)), (.bin .add [] (.t 25) (.t 27))⟩, ⟨(some 29), (some ((some 22), false)), (.sub 1 1 (.t 23) (some (.t 24)) (some (.t 28)) none)⟩, ⟨(some 30), (some ((some 22), false)), (.mv (.t 1))⟩, ⟨(some 31), (some ((some 22), false)), (.call (.f 55) [(.t 29), (.t 30)])⟩, ⟨(some 32), (some ((some 22), false)), (.un .not (.t 31))⟩, ⟨(some 33), none, (.pick (.t 22) (.k (.bool true)) (.t 32))⟩]) (.cond (.t 33) (.seq (.reg none [⟨(some 4), none, (.mv (.k (.int .i64 (-1))))⟩]) .ret) .skip)) (.seq (.reg none [⟨(some 34), none, (.mv (.t 5))⟩, ⟨(some 4), none, (.mv (.t 34))⟩]) .ret))))⟩
theorem k202 : compF Try.prog 33 = some c202 := by kernel_rfl
def c203 : Fn' := ⟨106, [(.cell 4 (some 6)), (.tmp 5)], (.seq (.reg none [⟨(some 2), none, (.box false (.t 0))⟩, ⟨(some 3), none, (.box false (.t 1))⟩, ⟨(some 4), none, (.alloc false [nilS, (.int .i64 0), (.int .i64 0), (.int .i64 0), nilS, (.int .i64 0)])⟩, ⟨(some 5), none, (.mv (.k (.bool false)))⟩]) (.seq (.seq (.reg none [⟨(some 11), none, (.ld (some 7) (.t 3))⟩, ⟨(some 12), none, (.call (.f 29) [(.t 11)])⟩, ⟨(some 10), none, (.mv (.t 12))⟩, ⟨(some 13), none, (.ext (.t 10) 0)⟩, ⟨(some 14), none, (.ext (.t 10) 1)⟩, ⟨(some 6), none, (.mv (.t 13))⟩, ⟨(some 7), none, (.mv (.t 14))⟩]) (.seq (.reg none [⟨(some 15), none, (.mv (.t 7))⟩, ⟨(some 16), none, (.un .not (.t 15))⟩]) (.cond (.t 16) (.seq (.reg none [⟨(some 17), none, (.ld (some 6) (.t 2))⟩, ⟨none, none, (.st 6 (.t 4) (.t 17))⟩, ⟨(some 5), none, (.mv (.k (.bool false)))⟩]) .ret) .skip))) (.seq (.reg none [⟨(some 18), none, (.fa 0 4 true (.t 2))⟩, ⟨(some 19), none, (.ld (some 4) (.t 18))⟩, ⟨(some 20), none, (.fa 6 1 false (.t 3))⟩, ⟨(some 21), none, (.ld none (.t 20))⟩, ⟨(some 22), none, (.bin .add [] (.t 21) (.k (.int .i64 1)))⟩, ⟨(some 23), none, (.bld [nilS, (.int .i64 0), (.int .i64 0), (.int .i64 0), nilS, (.int .i64 0)] [(0, (4, (.t 19))), (5, (1, (.t 22)))])⟩, ⟨(some 8), none, (.alloc false [nilS, (.int .i64 0), (.int .i64 0), (.int .i64 0), nilS, (.int .i64 0)])⟩, ⟨none, none, (.st 6 (.t 8) (.t 23))⟩]) (.seq (.block 0 (.seq (.reg none [⟨(some 25), none, (.fa 0 1 false (.t 3))⟩, ⟨(some 26), none, (.ld none (.t 25))⟩, ⟨(some 27), none, (.bin .eql [] (.t 26) (.k (.int .i64 1)))⟩, ⟨(some 28), none, (.mv (.t 27))⟩, ⟨(some 29), (some ((some 28), true)), (.fa 5 1 false (.t 3))⟩, ⟨(some 30), (some ((some 28), true)), (.ld none (.t 29))⟩, ⟨(some 31), (some ((some 28), true)), (.fa 6 1 false (.t 3))⟩, ⟨(some 32), (some ((some 28), true)), (.ld none (.t 31))⟩, ⟨(some 33), (some ((some 28), true)), (.call (.f 30) [(.t 30), (.t 32)])⟩, ⟨(some 34), none, (.pick (.t 28) (.t 33) (.k (.bool false)))⟩, ⟨(some 24), none, (.mv (.t 34))⟩]) (.cond (.t 24) (.seq (.reg (some [(1, 3), (1, 4), (1, 6), (3, 6), (4, 6)]) [⟨(some 35), none, (.fa 1 4 true (.t 3))⟩, ⟨(some 36), none, (.ld (some 4) (.t 35))⟩, ⟨(some 37), none, (.fa 5 1 false (.t 3))⟩, ⟨(some 38), none, (.ld none (.t 37))⟩, ⟨(some 39), none, (.call (.f 31) [(.t 38)])⟩, ⟨(some 40), none, (.fa 6 1 false (.t 3))⟩, ⟨(some 41), none, (.ld none (.t 40))⟩, ⟨(some 42), none, (.bld [nilS, (.int .i64 0), (.int .i64 0), (.int .i64 0), nilS, (.int .i64 0)] [(0, (4, (.t 36))), (4, (1, (.t 39))), (5, (1, (.t 41)))])⟩, ⟨none, none, (.st 6 (.t 4) (.t 42))⟩, ⟨(some 5), none, (.mv (.k (.bool true)))⟩]) .ret) (.seq (.reg none [⟨(some 44), none, (.fa 0 1 false (.t 3))⟩, ⟨(some 45), none, (.ld none (.t 44))⟩, ⟨(some 46), none, (.bin .eql [] (.t 45) (.k (.int .i64 1)))⟩, ⟨(some 47), none, (.mv (.t 46))⟩, ⟨(some 48), (some ((some 47), false)), (.fa 6 1 false (.t 3))⟩, ⟨(some 49), (some ((some 47), false)), (.ld none (.t 48))⟩, ⟨(some 50), (some ((some 47), false)), (.fa 5 1 false (.t 2))⟩, ⟨(some 51), (some ((some 47), false)), (.ld none (.t 50))⟩, ⟨(some 52), (some ((some 47), false)), (.bin .lss [] (.t 49) (.t 51))⟩, ⟨(some 53), none, (.pick (.t 47) (.k (.bool true)) (.t 52))⟩, ⟨(some 43), none, (.mv (.t 53))⟩]) (.cond (.t 43) (.seq (.reg none [⟨(some 54), none, (.ld (some 6) (.t 2))⟩, ⟨none, none, (.st 6 (.t 4) (.t 54))⟩, ⟨(some 5), none, (.mv (.k (.bool false)))⟩]) .ret) (.seq (.reg none [⟨(some 56), none, (.fa 0 1 false (.t 3))⟩, ⟨(some 57), none, (.ld none (.t 56))⟩, ⟨(some 58), none, (.bin .eql [] (.t 57) (.k (.int .i64 2)))⟩, ⟨(some 59), none, (.mv (.t 58))⟩, ⟨(some 60), (some ((some 59), true)), (.fa 4 1 false (.t 2))⟩, ⟨(some 61), (some ((some 59), true)), (.ld none (.t 60))⟩, ⟨(some 62), (some ((some 59), true)), (.len 1 (.t 61))⟩, ⟨(some 63), (some ((some 59), true)), (.bin .lss [] (.t 62) (.k (.int .i64 40)))⟩, ⟨(some 64), none, (.pick (.t 59) (.t 63) (.k (.bool false)))⟩, ⟨(some 55), none, (.mv (.t 64))⟩]) (.cond (.t 55) (.seq (.reg (some [(1, 4), (2, 4), (1, 5), (2, 5)]) [⟨(some 65), none, (.fa 4 1 false (.t 2))⟩, ⟨(some 66), none, (.ld none (.t 65))⟩, ⟨(some 67), none, (.call (.f 32) [(.t 66)])⟩, ⟨(some 68), none, (.fa 6 1 false (.t 3))⟩, ⟨(some 69), none, (.ld none (.t 68))⟩, ⟨(some 70), none, (.bsl false 1 1 [(.int .i64 0)] [(0, (.t 69))])⟩, ⟨(some 71), none, (.app 1 8 (.t 67) (.t 70))⟩, ⟨(some 72), none, (.fa 4 1 false (.t 8))⟩, ⟨none, none, (.st 1 (.t 72) (.t 71))⟩]) (.seq (.reg none [⟨(some 73), none, (.ld (some 6) (.t 8))⟩, ⟨none, none, (.st 6 (.t 4) (.t 73))⟩, ⟨(some 5), none, (.mv (.k (.bool true)))⟩]) .ret)) (.seq (.reg none [⟨(some 75), none, (.fa 0 1 false (.t 3))⟩, ⟨(some 76), none, (.ld none (.t 75))⟩, ⟨(some 77), none, (.bin .eql [] (.t 76) (.k (.int .i64 2)))⟩, ⟨(some 74), none, (.mv (.t 77))⟩]) (.cond (.t 74) (.seq (.reg none [⟨(some 78), none, (.ld (some 6) (.t 2))⟩, ⟨none, none, (.st 6 (.t 4) (.t 78))⟩, ⟨(some 5), none, (.mv (.k (.bool false)))⟩]) .ret) .skip))))))))) (.seq (.reg none [⟨(some 79), none, (.fa 4 1 false (.t 2))⟩, ⟨(some 80), none, (.ld none (.t 79))⟩, ⟨(some 81), none, (.fa 5 1 false (.t 3))⟩, ⟨(some 82), none, (.ld none (.t 81))⟩, ⟨(some 83), none, (.call (.f 33) [(.t 80), (.t 82)])⟩, ⟨(some 9), none, (.mv (.t 83))⟩]) (.seq (.seq (.reg none [⟨(some 84), none, (.mv (.t 9))⟩, ⟨(some 85), none, (.bin .lss [] (.t 84) (.k (.int .i64 0)))⟩]) (.cond (.t 85) (.seq (.reg none [⟨(some 86), none, (.ld (some 6) (.t 2))⟩, ⟨none, none, (.st 6 (.t 4) (.t 86))⟩, ⟨(some 5), none, (.mv (.k (.bool false)))⟩]) .ret) .skip)) (.seq (.reg (some [(1, 5), (3, 5), (1, 6), (3, 6), (1, 8), (3, 8), (5, 8), (6, 8), (1, 11), (3, 11), (5, 11), (6, 11), (8, 11), (1, 14), (3, 14), (5, 14), (6, 14)]) [⟨(some 87), none, (.fa 4 1 false (.t 2))⟩, ⟨(some 88), none, (.ld none (.t 87))⟩, ⟨(some 89), none, (.mv (.t 9))⟩, ⟨(some 90), none, (.sub 1 1 (.t 88) none (some (.t 89)) none)⟩, ⟨(some 91), none, (.fa 6 1 false (.t 3))⟩, ⟨(some 92), none, (.ld none (.t 91))⟩, ⟨(some 93), none, (.bsl false 1 1 [(.int .i64 0)] [(0, (.t 92))])⟩, ⟨(some 94), none, (.fa 4 1 false (.t 2))⟩, ⟨(some 95), none, (.ld none (.t 94))⟩, ⟨(some 96), none, (.mv (.t 9))⟩, ⟨(some 97), none, (.fa 5 1 false (.t 3))⟩, ⟨(some 98), none, (.ld none (.t 97))⟩, ⟨(some 99), none, (.len 1 (.t 98))⟩, ⟨(some 100), none, (.bin .add [] (.t 96) (.t 99))⟩, ⟨(some 101), none, (.sub 1 1 (.t 95) (some (.t 100)) none none)⟩, ⟨(some 102), none, (.bsl false 1 3 [nilS] [(0, (.t 90)), (1, (.t 93)), (2, (.t 101))])⟩, ⟨(some 103), none, (.call (.f 34) [(.t 102)])⟩, ⟨(some 104), none, (.fa 4 1 false (.t 8))⟩, ⟨none, none, (.st 1 (.t 104) (.t 103))⟩]) (.seq (.reg none [⟨(some 105), none, (.ld (some 6) (.t 8))⟩, ⟨none, none, (.st 6 (.t 4) (.t 105))⟩, ⟨(some 5), none, (.mv (.k (.bool true)))⟩]) .ret))))))))⟩
theorem k203 : compF Try.prog 14 = some c203 := by kernel_rfl
attribute [local simp] op_or op_an op_add op_sub op_mul oq_eql oq_neq oq_lss oq_gtr oq_leq oq_geq
attribute [-simp] intOp bin_shl
set_option maxHeartbeats 4000000 in
/-- replay.row. -/
theorem K202 (c : Bool) (s : Nat) (l : List Int) (c' : Bool) (so : List Int) (hs : s = 1 ∨ l = []) (hl : l.length ≤ 2 ^ 40) (hso : so.length ≤ 2 ^ 40) (hne : so ≠ []) :
    K0 33 [.slc c s (l.map (.int .i64)), .slc c' 1 (so.map (.int .i64))] [] = some (.int .i64 (optI (rowR l so)), []) := by
  refine K_call k202 (oraG_none (by decide) (by decide)) (by simp [c202]) ?_
  cases so with
  | nil => exact absurd rfl hne
  | cons x t =>
    have hI := K207 c s l x hs (by omega)
    unfold rowR
    simp only [List.headD_cons]
    cases hi : idxR l x with
    | none =>
      rw [hi] at hI
      have z : ltI (-1) 0 = true := by decide
      simp only [optI] at hI
      simp [c202, hI, z, optI]
    | some a =>
      rw [hi] at hI
      have ha := idxR_lt hi
      obtain rfl := hs.resolve_right (by intro e; rw [e] at ha; simp at ha)
      simp only [optI] at hI
      have z : ltI (a : Int) 0 = false := ltI_f (by omega)
      obtain ⟨B, hB⟩ : ∃ B, B = a + (t.length + 1) := ⟨_, rfl⟩
      have hBl : B ≤ 2 ^ 41 := by simp at hso; omega
      have wB : IntKind.i64.wrap ((a : Int) + ((t.length : Int) + 1)) = B := by rw [w64 _ (by omega)]; omega
      obtain ⟨u, hu⟩ : ∃ u, (l.drop a).take (t.length + 1) = u := ⟨_, rfl⟩
      have hok : rowOk l (x :: t) a = (decide (B ≤ l.length) && (u == x :: t)) := by rw [← hu, hB]; rfl
      simp only [Option.bind_some]
      rw [hok]
      by_cases h2 : B ≤ l.length
      · have z2 : ltI (l.length : Int) (B : Int) = false := ltI_f (by omega)
        have b1 : a ≤ B := by omega
        have b2 : (a : Int) ≤ B := by omega
        have b3 : (B : Int) ≤ l.length := by omega
        have m1 : List.drop a (List.take B (l.map (D.int .i64))) = u.map (D.int .i64) := by
          rw [← hu, List.drop_take, show B - a = t.length + 1 by omega]; simp [List.map_drop, List.map_take]
        have hE := fun cc => K208 cc c' 1 1 u (x :: t) (.inl rfl) (.inl rfl) (by rw [← hu]; simp; omega)
        simp only [List.map_cons] at hE
        cases he : (u == x :: t) with
        | true =>
          rw [he] at hE
          simp [c202, hI, z, z2, wB, b1, b2, b3, h2, m1, hE, optI]
        | false =>
          rw [he] at hE
          simp [c202, hI, z, z2, wB, b1, b2, b3, h2, m1, hE, optI]
      · have z2 : ltI (l.length : Int) (B : Int) = true := ltI_t (by omega)
        simp [c202, hI, z, z2, wB, h2, optI]
/-- A state. -/
def StD (x : StV) (c : Bool) (s : Nat) (c' : Bool) (s' : Nat) : D := .agg [.slc c s (x.1.1.map (.int .i64)), .int .i64 x.1.2.1, .int .i64 x.1.2.2.1, .int .i64 x.1.2.2.2, .slc c' s' (x.2.1.map (.int .i64)), .int .i64 x.2.2]
set_option maxHeartbeats 8000000 in
/-- replay.Apply. -/
theorem K203 (x : StV) (c : Bool) (s : Nat) (c' : Bool) (s' : Nat) (hs : s = 1 ∨ x.1.1 = []) (hs' : s' = 1 ∨ x.2.1 = []) (r : RecV) (d : Bool) (u : Nat) (d' : Bool) (u' : Nat) (hu : u = 1 ∨ r.2.1.1 = []) (hu' : u' = 1 ∨ r.2.2.1 = [])
    (hx : x.2.1.length ≤ 2 ^ 20) (hl : r.2.1.1.length ≤ 2 ^ 30) (hl' : r.2.2.1.length ≤ 2 ^ 20) :
    ∃ c1 s1 c2 s2, (s1 = 1 ∨ (applyI x r).1.1.1 = []) ∧ (s2 = 1 ∨ (applyI x r).1.2.1 = []) ∧
      K0 14 [StD x c s c' s', Rcd r.1 d u r.2.1.1 r.2.1.2.1 r.2.1.2.2.1 r.2.1.2.2.2 d' u' r.2.2.1 r.2.2.2] [] = some (.tuple [StD (applyI x r).1 c1 s1 c2 s2, .bool (applyI x r).2], []) := by
  obtain ⟨⟨ts, k, m, g⟩, ids, nx⟩ := x
  obtain ⟨kd, ⟨ts', k', m', g'⟩, ids', id⟩ := r
  simp only at hs hs' hu hu' hx hl hl' ⊢
  unfold applyI mayOf
  simp only
  cases hm : mayI kd ts' k' m' g' ids' id with
  | false =>
    have hP := K16_f kd d u ts' k' m' g' d' u' ids' id hu hu' hl (by omega) hm
    rw [if_pos rfl]
    refine ⟨c, s, c', s', hs, hs', K_call k203 (oraG_none (by decide) (by decide)) (by simp [c203, StD, Rcd]) ?_⟩
    unfold Rcd at hP
    simp [c203, StD, Rcd, hP]
  | true =>
    have hP := K16_t kd d u ts' k' m' g' d' u' ids' id hu hu' hm
    have hmm := mayI_some hm
    have wn : IntKind.i64.wrap (id + 1) = id + 1 := w64 _ (by omega)
    unfold Rcd at hP
    generalize frameI (recB kd ts' k' m' g' ids' id) = P at hP
    rw [if_neg (by decide)]
    rcases hmm.1 with ⟨rfl, h1⟩ | ⟨rfl, h1, h2⟩ | ⟨rfl, h1, h2⟩
    · have q1 : eqI 1 1 = true := rfl
      have hU := K_unl (c := d') (s := u') (l := ids') (n := id) (by omega)
      rw [if_pos rfl]
      cases hul : unl ids' id with
      | true =>
        rw [hul] at hU
        obtain ⟨cc, hC⟩ := K205 d' u' ids' hu' (by omega)
        rw [if_pos rfl]
        refine ⟨d, u, cc, 1, hu, .inl rfl, K_call k203 (oraG_none (by decide) (by decide)) (by simp [c203, StD, Rcd]) ?_⟩
        simp [c203, StD, Rcd, hP, wn, q1, hU, hC, evOp, evM, wants, Ins.go, X.ev, iaM, ldM, binD, setD, applyW, Ek_ops_nil, allFree, free, callM, callP, callO, appM]
      | false =>
        rw [hul] at hU
        rw [if_neg (by decide)]
        refine ⟨c, s, c', s', hs, hs', K_call k203 (oraG_none (by decide) (by decide)) (by simp [c203, StD, Rcd]) ?_⟩
        simp [c203, StD, Rcd, hP, wn, q1, hU]
    · have q1 : eqI 2 1 = false := rfl
      have q2 : eqI 2 2 = true := rfl
      rw [if_neg (by decide)]
      by_cases hlt : id < nx
      · have z := ltI_t hlt
        rw [if_pos hlt]
        refine ⟨c, s, c', s', hs, hs', K_call k203 (oraG_none (by decide) (by decide)) (by simp [c203, StD, Rcd]) ?_⟩
        simp [c203, StD, Rcd, hP, wn, q1, q2, z]
      · have z := ltI_f hlt
        rw [if_neg hlt, if_pos rfl]
        by_cases h40 : ids.length < 40
        · have z2 := ltI_t (show (ids.length : Int) < 40 by omega)
          have hC := K206 c' s' ids hs' (by omega)
          have bb : (ids.length + 1) * 8 ≤ 70368744177664 := by omega
          rw [if_pos h40]
          refine ⟨c, s, false, 1, hs, .inl rfl, K_call k203 (oraG_none (by decide) (by decide)) (by simp [c203, StD, Rcd]) ?_⟩
          simp [c203, StD, Rcd, hP, wn, q1, q2, z, z2, hC, bb, List.take_of_length_le, evOp, evM, wants, Ins.go, X.ev, iaM, ldM, binD, setD, applyW, Ek_ops_nil, allFree, free, callM, callP, callO, appM]
        · have z2 := ltI_f (show ¬ (ids.length : Int) < 40 by omega)
          rw [if_neg h40]
          refine ⟨c, s, c', s', hs, hs', K_call k203 (oraG_none (by decide) (by decide)) (by simp [c203, StD, Rcd]) ?_⟩
          simp [c203, StD, Rcd, hP, wn, q1, q2, z, z2]
    · have q1 : eqI 3 1 = false := rfl
      have q2 : eqI 3 2 = false := rfl
      obtain rfl := hu'.resolve_right (by intro e; rw [e] at h2; simp at h2)
      have hR := K202 c' s' ids d' ids' hs' (by omega) (by omega) (by intro e; rw [e] at h2; simp at h2)
      rw [if_neg (by decide)]
      by_cases hlt : id < nx
      · have z := ltI_t hlt
        rw [if_pos hlt]
        refine ⟨c, s, c', s', hs, hs', K_call k203 (oraG_none (by decide) (by decide)) (by simp [c203, StD, Rcd]) ?_⟩
        simp [c203, StD, Rcd, hP, wn, q1, q2, z]
      · have z := ltI_f hlt
        rw [if_neg hlt, if_neg (by decide)]
        cases hr : rowR ids ids' with
        | none =>
          rw [hr] at hR
          have z2 : ltI (-1) 0 = true := by decide
          simp only [optI] at hR
          refine ⟨c, s, c', s', hs, hs', K_call k203 (oraG_none (by decide) (by decide)) (by simp [c203, StD, Rcd]) ?_⟩
          simp [c203, StD, Rcd, hP, wn, q1, q2, z, z2, hR]
        | some a =>
          rw [hr] at hR
          simp only [optI] at hR
          have hra : a + ids'.length ≤ ids.length := by
            unfold rowR at hr
            obtain ⟨b, hb, h3⟩ := Option.bind_eq_some_iff.1 hr
            split at h3
            · rename_i h4
              obtain rfl := Option.some.inj h3
              unfold rowOk at h4
              simp at h4
              exact h4.1
            · cases h3
          obtain rfl := hs'.resolve_right (by intro e; rw [e] at hra; simp at hra; rw [hra.2] at h2; simp at h2)
          have z2 : ltI (a : Int) 0 = false := ltI_f (by omega)
          obtain ⟨B, hB⟩ : ∃ B, B = a + ids'.length := ⟨_, rfl⟩
          have wB : IntKind.i64.wrap ((a : Int) + (ids'.length : Int)) = B := by rw [w64 _ (by omega)]; omega
          have b1 : a ≤ ids.length := by omega
          have b2 : (a : Int) ≤ ids.length := by omega
          have b3 : B ≤ ids.length := by omega
          have b4 : (B : Int) ≤ ids.length := by omega
          dsimp only
          rw [← hB]
          obtain ⟨p, hp⟩ : ∃ p, ids.take a = p := ⟨_, rfl⟩
          obtain ⟨q, hq⟩ : ∃ q, ids.drop B = q := ⟨_, rfl⟩
          have m1 : List.take a (ids.map (D.int .i64)) = p.map (D.int .i64) := by rw [← hp]; simp [List.map_take]
          have m2 : List.drop B (ids.map (D.int .i64)) = q.map (D.int .i64) := by rw [← hq]; simp [List.map_drop]
          have hpl : p.length ≤ 2 ^ 20 := by rw [← hp]; simp; omega
          have hql : q.length ≤ 2 ^ 20 := by rw [← hq]; simp; omega
          have hCat := fun f1 f2 f3 f4 => K72 true [(f1, f2, p), (true, 1, [id]), (f3, f4, q)] (by simp [tot]; omega) (by simp)
          simp only [List.map_cons, List.map_nil, Ri.d, cat, List.append_nil] at hCat
          rw [hp, hq]
          refine ⟨c, s, false, 1, hs, .inl rfl, K_call k203 (oraG_none (by decide) (by decide)) (by simp [c203, StD, Rcd]) ?_⟩
          simp [c203, StD, Rcd, hP, wn, q1, q2, z, z2, hR, wB, b1, b2, b3, b4, m1, m2, hCat, evOp, evM, wants, Ins.go, X.ev, iaM, ldM, binD, setD, applyW, Ek_ops_nil, allFree, free, callM, callP, callO, appM]
end Go.Ab
