/- THE FUNCTIONS' EQUATIONS: thresherlaw07.BlockOne. -/
import Derived.Test.YtanfmnobanhcnaaBPBlk
import Derived.Test.YtanfmnobanhcnaaBF26
import Derived.Test.YtanfmnobanhcnaaBCel
set_option linter.all false
set_option maxRecDepth 100000
namespace Go.Ab
open Go.Proofs Go.Proofs.YtanfmnobanhcnaaH Go.Proofs.YtanfmnobanhcnaaH.Crc Go.Proofs.YtanfmnobanhcnaaH.Var Go.Proofs.YtanfmnobanhcnaaH.Fr
def b14_0 : C := (.seq (.seq (.reg none [⟨(some 24), none, (.mv (.t 7))⟩, ⟨(some 25), none, (.bin .lss [] (.t 24) (.k (.int .i64 2)))⟩]) (.cond (.t 25) .skip (.exit 0))) (.seq (.block 1 (.seq (.reg none [⟨(some 28), none, (.mv (.t 1))⟩, ⟨(some 8), none, (.mv (.t 28))⟩]) (.seq (.seq (.reg none [⟨(some 29), none, (.mv (.t 7))⟩, ⟨(some 30), none, (.bin .eql [] (.t 29) (.k (.int .i64 1)))⟩]) (.cond (.t 30) (.reg none [⟨(some 31), none, (.mv (.t 6))⟩, ⟨(some 32), none, (.cvt (.int .u8) (.t 31))⟩, ⟨(some 33), none, (.bsl false 1 1 [(.int .u8 0)] [(0, (.t 32))])⟩, ⟨(some 34), none, (.mv (.t 1))⟩, ⟨(some 35), none, (.app 1 1 (.t 33) (.t 34))⟩, ⟨(some 36), none, (.call (.f 32) [(.t 35)])⟩, ⟨(some 8), none, (.mv (.t 36))⟩]) .skip)) (.seq (.reg none [⟨(some 38), none, (.mv (.t 6))⟩, ⟨(some 39), none, (.mv (.t 8))⟩, ⟨(some 40), none, (.call (.f 28) [(.t 38), (.t 39)])⟩, ⟨(some 37), none, (.mv (.t 40))⟩, ⟨(some 41), none, (.ext (.t 37) 0)⟩, ⟨(some 42), none, (.ext (.t 37) 1)⟩, ⟨(some 43), none, (.ext (.t 37) 2)⟩, ⟨(some 9), none, (.mv (.t 41))⟩, ⟨(some 10), none, (.mv (.t 42))⟩, ⟨(some 11), none, (.mv (.t 43))⟩]) (.seq (.seq (.reg none [⟨(some 44), none, (.mv (.t 11))⟩, ⟨(some 45), none, (.bin .neq [] (.t 44) (.k (.int .i64 0)))⟩]) (.cond (.t 45) (.seq (.seq (.reg none [⟨(some 46), none, (.mv (.t 9))⟩, ⟨(some 47), none, (.len 1 (.t 46))⟩, ⟨(some 48), none, (.bin .gtr [] (.t 47) (.k (.int .i64 0)))⟩, ⟨(some 49), none, (.mv (.t 48))⟩, ⟨(some 50), (some ((some 49), false)), (.mv (.t 10))⟩, ⟨(some 51), (some ((some 49), false)), (.bin .neq [] (.t 50) (.k (.int .i64 0)))⟩, ⟨(some 52), none, (.pick (.t 49) (.k (.bool true)) (.t 51))⟩]) (.cond (.t 52) (.seq (.reg none [⟨(some 4), none, (.mv (.k (.bool false)))⟩]) .ret) .skip)) (.exit 1)) .skip)) (.seq (.reg none [⟨(some 54), none, (.mv (.t 6))⟩, ⟨(some 55), none, (.mv (.t 9))⟩, ⟨(some 56), none, (.call (.f 26) [(.t 54), (.t 55)])⟩, ⟨(some 53), none, (.mv (.t 56))⟩, ⟨(some 57), none, (.ext (.t 53) 0)⟩, ⟨(some 58), none, (.ext (.t 53) 1)⟩, ⟨(some 12), none, (.mv (.t 57))⟩, ⟨(some 13), none, (.mv (.t 58))⟩]) (.seq (.reg (some [(10, 13), (10, 14)]) [⟨(some 59), none, (.mv (.t 13))⟩, ⟨(some 60), none, (.un .not (.t 59))⟩, ⟨(some 61), none, (.mv (.t 60))⟩, ⟨(some 62), (some ((some 61), false)), (.mv (.t 10))⟩, ⟨(some 63), (some ((some 61), false)), (.mv (.t 8))⟩, ⟨(some 64), (some ((some 61), false)), (.len 1 (.t 63))⟩, ⟨(some 65), (some ((some 61), false)), (.bin .gtr [] (.t 62) (.t 64))⟩, ⟨(some 66), none, (.pick (.t 61) (.k (.bool true)) (.t 65))⟩, ⟨(some 67), none, (.mv (.t 66))⟩, ⟨(some 68), (some ((some 67), false)), (.mv (.t 12))⟩, ⟨(some 69), (some ((some 67), false)), (.cvt .b2s (.t 68))⟩, ⟨(some 70), (some ((some 67), false)), (.mv (.t 8))⟩, ⟨(some 71), (some ((some 67), false)), (.mv (.t 10))⟩, ⟨(some 72), (some ((some 67), false)), (.sub 1 1 (.t 70) none (some (.t 71)) none)⟩, ⟨(some 73), (some ((some 67), false)), (.cvt .b2s (.t 72))⟩, ⟨(some 74), (some ((some 67), false)), (.bin .neq [] (.t 69) (.t 73))⟩, ⟨(some 75), none, (.pick (.t 67) (.k (.bool true)) (.t 74))⟩]) (.cond (.t 75) (.seq (.reg none [⟨(some 4), none, (.mv (.k (.bool false)))⟩]) .ret) .skip)))))))) (.reg none [⟨(some 26), none, (.mv (.t 7))⟩, ⟨(some 27), none, (.bin .add [] (.t 26) (.k (.int .i64 1)))⟩, ⟨(some 7), none, (.mv (.t 27))⟩])))
def c14 : Fn' := ⟨77, [(.tmp 4)], (.seq (.reg none [⟨(some 4), none, (.mv (.k (.bool false)))⟩]) (.seq (.reg none [⟨(some 14), none, (.call (.f 24) [])⟩, ⟨(some 5), none, (.mv (.t 14))⟩]) (.seq (.reg none [⟨(some 15), none, (.mv (.t 0))⟩, ⟨(some 16), none, (.cvt (.int .i64) (.t 15))⟩, ⟨(some 17), none, (.bin .rem [] (.t 16) (.k (.int .i64 3)))⟩, ⟨(some 18), none, (.bin .add [] (.k (.int .i64 1)) (.t 17))⟩, ⟨(some 6), none, (.mv (.t 18))⟩]) (.seq (.seq (.reg none [⟨(some 19), none, (.mv (.t 1))⟩, ⟨(some 20), none, (.len 1 (.t 19))⟩, ⟨(some 21), none, (.bin .gtr [] (.t 20) (.k (.int .i64 600)))⟩]) (.cond (.t 21) (.reg none [⟨(some 22), none, (.mv (.t 1))⟩, ⟨(some 23), none, (.sub 1 1 (.t 22) none (some (.k (.int .i64 600))) none)⟩, ⟨(some 1), none, (.mv (.t 23))⟩]) .skip)) (.seq (.seq (.reg none [⟨(some 7), none, (.mv (.k (.int .i64 0)))⟩]) (.block 0 (.loop b14_0))) (.seq (.reg none [⟨(some 76), none, (.mv (.t 5))⟩, ⟨(some 4), none, (.mv (.t 76))⟩]) .ret))))))⟩
theorem k14 : compF Try.prog 14 = some c14 := by kernel_rfl
attribute [local simp] op_or op_an op_add op_sub op_mul oq_eql oq_neq oq_lss oq_gtr oq_leq oq_geq op_rm
attribute [-simp] intOp bin_shl bin_shr D.cells
def t14 (v0 v14 v15 v16 v17 v18 v19 v20 v21 v22 v23 : D) (c : Bool) (l : List Int) (k : Int) (i : Int) : List D := [v0, .slc c 1 (l.map (.int .u8)), .undef, .undef, .bool false, .bool true, .int .i64 k, .int .i64 i, .undef, .undef, .undef, .undef, .undef, .undef, v14, v15, v16, v17, v18, v19, v20, v21, v22, v23, .undef, .undef, .undef, .undef, .undef, .undef, .undef, .undef, .undef, .undef, .undef, .undef, .undef, .undef, .undef, .undef, .undef, .undef, .undef, .undef, .undef, .undef, .undef, .undef, .undef, .undef, .undef, .undef, .undef, .undef, .undef, .undef, .undef, .undef, .undef, .undef, .undef, .undef, .undef, .undef, .undef, .undef, .undef, .undef, .undef, .undef, .undef, .undef, .undef, .undef, .undef, .undef, .undef]
theorem reset_self (v : D) : reset.match_1 (fun _ => D) v (fun _ => .undef) (fun _ => v) = v := by cases v <;> rfl
attribute [local simp] reset_self
def kn14 : List Kn := [.blk 0, .c ((C.reg none [⟨some 76, none, .mv (.t 5)⟩, ⟨some 4, none, .mv (.t 76)⟩]).seq C.ret)]
set_option maxHeartbeats 4000000 in
theorem L14_2 (v0 v14 v15 v16 v17 v18 v19 v20 v21 v22 v23 : D) (u0 : v0.keys = []) (u14 : v14.keys = []) (u15 : v15.keys = []) (u16 : v16.keys = []) (u17 : v17.keys = []) (u18 : v18.keys = []) (u19 : v19.keys = []) (u20 : v20.keys = []) (u21 : v21.keys = []) (u22 : v22.keys = []) (u23 : v23.keys = []) (c : Bool) (l : List Int) (hl : l.length ≤ 600) (hB : isB l) (k : Int) (hk : 1 ≤ k ∧ k ≤ 3) :
    finK false 0 [.tmp 4] (loopK cf0 K0 (LpB cf0 K0 b14_0 (t14 v0 v14 v15 v16 v17 v18 v19 v20 v21 v22 v23 c l k 0) 0 ⟨t14 v0 v14 v15 v16 v17 v18 v19 v20 v21 v22 v23 c l k 2, []⟩) kn14) = some (.bool true, []) := by
  have z1 : ltI 2 2 = false := rfl
  rw [LpB_eq]
  simp only [t14]
  conv => lhs; arg 4; arg 3; arg 6; simp [b14_0, z1, u0, u14, u15, u16, u17, u18, u19, u20, u21, u22, u23]
  simp [kn14]
set_option maxHeartbeats 8000000 in
theorem L14_1 (v0 v14 v15 v16 v17 v18 v19 v20 v21 v22 v23 : D) (u0 : v0.keys = []) (u14 : v14.keys = []) (u15 : v15.keys = []) (u16 : v16.keys = []) (u17 : v17.keys = []) (u18 : v18.keys = []) (u19 : v19.keys = []) (u20 : v20.keys = []) (u21 : v21.keys = []) (u22 : v22.keys = []) (u23 : v23.keys = []) (c : Bool) (l : List Int) (hl : l.length ≤ 600) (hB : isB l) (k : Int) (hk : 1 ≤ k ∧ k ≤ 3) :
    finK false 0 [.tmp 4] (loopK cf0 K0 (LpB cf0 K0 b14_0 (t14 v0 v14 v15 v16 v17 v18 v19 v20 v21 v22 v23 c l k 0) 0 ⟨t14 v0 v14 v15 v16 v17 v18 v19 v20 v21 v22 v23 c l k 1, []⟩) kn14) = some (.bool true, []) := by
  by_cases hl0 : l = []
  · subst hl0
    have ih := L14_2 v0 v14 v15 v16 v17 v18 v19 v20 v21 v22 v23 u0 u14 u15 u16 u17 u18 u19 u20 u21 u22 u23 c [] hl hB k hk
    have hwk : IntKind.u8.wrap k = k := by rw [IntKind.wrap_u8]; omega
    have hBd : isB [k] := isB_cons' (by omega) hB
    have h32 := fun c => N32 [k] c hBd (by simp)
    have b1 : 1 + ([] : List Int).length ≤ 70368744177664 := by omega
    have c1 : ([] : List Int).length + 1 = 1 + ([] : List Int).length := Nat.add_comm _ _
    simp at h32
    obtain ⟨f, hf⟩ : ∃ f, frameI [k] = f := ⟨_, rfl⟩
    have hBf : isB f := by rw [← hf]; exact isB_frame hBd
    have hfl : f.length ≤ 1000 := by rw [← hf]; rw [frameI_len]; have := putI_len10 ([k].length : Int) (by simp); simp at this ⊢; omega
    rw [hf] at h32
    have h28 := fun c => K28 k c f (by omega) hBf
    have her := take_err k f
    have hso := take_some k f hBf
    have z1 : ltI 1 2 = true := rfl
    have w2 : IntKind.i64.wrap 2 = 2 := by decide
    have z2 : eqI 1 1 = true := rfl
    have z5 : ltI 0 0 = false := rfl
    have z6 : neI 0 0 = false := rfl
    clear hf
    generalize takeI k f = r at *
    obtain ⟨v, n, e⟩ := r
    simp only at h28 her hso
    rw [LpB_eq]
    simp only [t14, kn14] at ih ⊢
    by_cases he : e = 0
    · have z3 : neI e 0 = false := by simp [neI, he]
      obtain ⟨h1, h2, h3, h4⟩ := hso he
      obtain ⟨n, rfl⟩ : ∃ m : Nat, n = m := ⟨n.toNat, by omega⟩
      have h4n : n ≤ f.length := by omega
      have z4 : ltI (f.length : Int) n = false := ltI_f (by omega)
      rw [Int.toNat_natCast] at h2
      generalize hY : blockI k v = Y at *
      have m1 : List.take n (f.map (D.int .u8)) = Y.map (.int .u8) := by rw [← h2, List.map_take]
      have h26 := fun c s hs => K26 c s k (by unfold i64R; omega) v hs (by have := ((blockOk_eq _ _).1 h1).2.1; omega)
      simp only [h1, hY, if_true] at h26
      unfold cvV at h28
      by_cases hv : v = []
      · subst hv
        have h26' := h26 true 0 (.inr rfl)
        simp at h26'
        simp only [reduceIte] at h28
        conv => lhs; arg 4; arg 3; arg 6; simp [b14_0, z1, z2, w2, u0, u14, u15, u16, u17, u18, u19, u20, u21, u22, u23, hwk, h32, b1, c1, List.take_of_length_le, Nat.add_assoc, h28, z3, h26', z4, h4, h4n, m1, evOp, evM, wants, Ins.go, X.ev, iaM, ldM, binD, setD, applyW, Ek_ops_nil, allFree, free, callM, callP, appM]
        try simp at ih
        try simp [u0, u14, u15, u16, u17, u18, u19, u20, u21, u22, u23]
        exact ih
      · have h26' := h26 false 2 (.inl rfl)
        simp only [hv, if_false] at h28
        conv => lhs; arg 4; arg 3; arg 6; simp [b14_0, z1, z2, w2, u0, u14, u15, u16, u17, u18, u19, u20, u21, u22, u23, hwk, h32, b1, c1, List.take_of_length_le, Nat.add_assoc, h28, z3, h26', z4, h4, h4n, m1, evOp, evM, wants, Ins.go, X.ev, iaM, ldM, binD, setD, applyW, Ek_ops_nil, allFree, free, callM, callP, appM]
        try simp at ih
        try simp [u0, u14, u15, u16, u17, u18, u19, u20, u21, u22, u23]
        exact ih
    · have z3 : neI e 0 = true := by simp [neI, he]
      obtain ⟨rfl, rfl⟩ := her.resolve_left he
      simp only [cvV_nil] at h28
      conv => lhs; arg 4; arg 3; arg 6; simp [b14_0, z1, z2, w2, u0, u14, u15, u16, u17, u18, u19, u20, u21, u22, u23, hwk, h32, b1, c1, List.take_of_length_le, Nat.add_assoc, h28, z3, z5, z6, evOp, evM, wants, Ins.go, X.ev, iaM, ldM, binD, setD, applyW, Ek_ops_nil, allFree, free, callM, callP, appM]
      try simp at ih
      try simp [u0, u14, u15, u16, u17, u18, u19, u20, u21, u22, u23]
      exact ih
  · skip
    have ih := L14_2 v0 v14 v15 v16 v17 v18 v19 v20 v21 v22 v23 u0 u14 u15 u16 u17 u18 u19 u20 u21 u22 u23 c l hl hB k hk
    have hwk : IntKind.u8.wrap k = k := by rw [IntKind.wrap_u8]; omega
    have hBd : isB (k :: l) := isB_cons' (by omega) hB
    have h32 := fun c => N32 (k :: l) c hBd (by simp; omega)
    have b1 : 1 + l.length ≤ 70368744177664 := by omega
    have c1 : l.length + 1 = 1 + l.length := Nat.add_comm _ _
    simp at h32
    obtain ⟨f, hf⟩ : ∃ f, frameI (k :: l) = f := ⟨_, rfl⟩
    have hBf : isB f := by rw [← hf]; exact isB_frame hBd
    have hfl : f.length ≤ 1000 := by rw [← hf]; rw [frameI_len]; have := putI_len10 ((k :: l).length : Int) (by simp; omega); simp at this ⊢; omega
    rw [hf] at h32
    have h28 := fun c => K28 k c f (by omega) hBf
    have her := take_err k f
    have hso := take_some k f hBf
    have z1 : ltI 1 2 = true := rfl
    have w2 : IntKind.i64.wrap 2 = 2 := by decide
    have z2 : eqI 1 1 = true := rfl
    have z5 : ltI 0 0 = false := rfl
    have z6 : neI 0 0 = false := rfl
    clear hf
    generalize takeI k f = r at *
    obtain ⟨v, n, e⟩ := r
    simp only at h28 her hso
    rw [LpB_eq]
    simp only [t14, kn14] at ih ⊢
    by_cases he : e = 0
    · have z3 : neI e 0 = false := by simp [neI, he]
      obtain ⟨h1, h2, h3, h4⟩ := hso he
      obtain ⟨n, rfl⟩ : ∃ m : Nat, n = m := ⟨n.toNat, by omega⟩
      have h4n : n ≤ f.length := by omega
      have z4 : ltI (f.length : Int) n = false := ltI_f (by omega)
      rw [Int.toNat_natCast] at h2
      generalize hY : blockI k v = Y at *
      have m1 : List.take n (f.map (D.int .u8)) = Y.map (.int .u8) := by rw [← h2, List.map_take]
      have h26 := fun c s hs => K26 c s k (by unfold i64R; omega) v hs (by have := ((blockOk_eq _ _).1 h1).2.1; omega)
      simp only [h1, hY, if_true] at h26
      unfold cvV at h28
      by_cases hv : v = []
      · subst hv
        have h26' := h26 true 0 (.inr rfl)
        simp at h26'
        simp only [reduceIte] at h28
        conv => lhs; arg 4; arg 3; arg 6; simp [b14_0, hl0, z1, z2, w2, u0, u14, u15, u16, u17, u18, u19, u20, u21, u22, u23, hwk, h32, b1, c1, List.take_of_length_le, Nat.add_assoc, h28, z3, h26', z4, h4, h4n, m1, evOp, evM, wants, Ins.go, X.ev, iaM, ldM, binD, setD, applyW, Ek_ops_nil, allFree, free, callM, callP, appM]
        try simp at ih
        try simp [u0, u14, u15, u16, u17, u18, u19, u20, u21, u22, u23]
        exact ih
      · have h26' := h26 false 2 (.inl rfl)
        simp only [hv, if_false] at h28
        conv => lhs; arg 4; arg 3; arg 6; simp [b14_0, hl0, z1, z2, w2, u0, u14, u15, u16, u17, u18, u19, u20, u21, u22, u23, hwk, h32, b1, c1, List.take_of_length_le, Nat.add_assoc, h28, z3, h26', z4, h4, h4n, m1, evOp, evM, wants, Ins.go, X.ev, iaM, ldM, binD, setD, applyW, Ek_ops_nil, allFree, free, callM, callP, appM]
        try simp at ih
        try simp [u0, u14, u15, u16, u17, u18, u19, u20, u21, u22, u23]
        exact ih
    · have z3 : neI e 0 = true := by simp [neI, he]
      obtain ⟨rfl, rfl⟩ := her.resolve_left he
      simp only [cvV_nil] at h28
      conv => lhs; arg 4; arg 3; arg 6; simp [b14_0, hl0, z1, z2, w2, u0, u14, u15, u16, u17, u18, u19, u20, u21, u22, u23, hwk, h32, b1, c1, List.take_of_length_le, Nat.add_assoc, h28, z3, z5, z6, evOp, evM, wants, Ins.go, X.ev, iaM, ldM, binD, setD, applyW, Ek_ops_nil, allFree, free, callM, callP, appM]
      try simp at ih
      try simp [u0, u14, u15, u16, u17, u18, u19, u20, u21, u22, u23]
      exact ih
set_option maxHeartbeats 8000000 in
theorem L14_0 (v0 v14 v15 v16 v17 v18 v19 v20 v21 v22 v23 : D) (u0 : v0.keys = []) (u14 : v14.keys = []) (u15 : v15.keys = []) (u16 : v16.keys = []) (u17 : v17.keys = []) (u18 : v18.keys = []) (u19 : v19.keys = []) (u20 : v20.keys = []) (u21 : v21.keys = []) (u22 : v22.keys = []) (u23 : v23.keys = []) (c : Bool) (l : List Int) (hl : l.length ≤ 600) (hB : isB l) (k : Int) (hk : 1 ≤ k ∧ k ≤ 3) :
    finK false 0 [.tmp 4] (loopK cf0 K0 (LpB cf0 K0 b14_0 (t14 v0 v14 v15 v16 v17 v18 v19 v20 v21 v22 v23 c l k 0) 0 ⟨t14 v0 v14 v15 v16 v17 v18 v19 v20 v21 v22 v23 c l k 0, []⟩) kn14) = some (.bool true, []) := by
  have ih := L14_1 v0 v14 v15 v16 v17 v18 v19 v20 v21 v22 v23 u0 u14 u15 u16 u17 u18 u19 u20 u21 u22 u23 c l hl hB k hk
  obtain ⟨f, hf⟩ : ∃ f, l = f := ⟨_, rfl⟩
  have hBf : isB f := by rw [← hf]; exact hB
  have hfl : f.length ≤ 1000 := by rw [← hf]; omega
  skip
  have h28 := fun c => K28 k c f (by omega) hBf
  have her := take_err k f
  have hso := take_some k f hBf
  have z1 : ltI 0 2 = true := rfl
  have w2 : IntKind.i64.wrap 1 = 1 := by decide
  have z2 : eqI 0 1 = false := rfl
  have z5 : ltI 0 0 = false := rfl
  have z6 : neI 0 0 = false := rfl
  subst hf
  generalize takeI k l = r at *
  obtain ⟨v, n, e⟩ := r
  simp only at h28 her hso
  rw [LpB_eq]
  simp only [t14, kn14] at ih ⊢
  by_cases he : e = 0
  · have z3 : neI e 0 = false := by simp [neI, he]
    obtain ⟨h1, h2, h3, h4⟩ := hso he
    obtain ⟨n, rfl⟩ : ∃ m : Nat, n = m := ⟨n.toNat, by omega⟩
    have h4n : n ≤ l.length := by omega
    have z4 : ltI (l.length : Int) n = false := ltI_f (by omega)
    rw [Int.toNat_natCast] at h2
    generalize hY : blockI k v = Y at *
    have m1 : List.take n (l.map (D.int .u8)) = Y.map (.int .u8) := by rw [← h2, List.map_take]
    have h26 := fun c s hs => K26 c s k (by unfold i64R; omega) v hs (by have := ((blockOk_eq _ _).1 h1).2.1; omega)
    simp only [h1, hY, if_true] at h26
    unfold cvV at h28
    by_cases hv : v = []
    · subst hv
      have h26' := h26 true 0 (.inr rfl)
      simp at h26'
      simp only [reduceIte] at h28
      conv => lhs; arg 4; arg 3; arg 6; simp [b14_0, z1, z2, w2, u0, u14, u15, u16, u17, u18, u19, u20, u21, u22, u23, h28, z3, h26', z4, h4, h4n, m1, evOp, evM, wants, Ins.go, X.ev, iaM, ldM, binD, setD, applyW, Ek_ops_nil, allFree, free, callM, callP, appM]
      try simp at ih
      try simp [u0, u14, u15, u16, u17, u18, u19, u20, u21, u22, u23]
      exact ih
    · have h26' := h26 false 2 (.inl rfl)
      simp only [hv, if_false] at h28
      conv => lhs; arg 4; arg 3; arg 6; simp [b14_0, z1, z2, w2, u0, u14, u15, u16, u17, u18, u19, u20, u21, u22, u23, h28, z3, h26', z4, h4, h4n, m1, evOp, evM, wants, Ins.go, X.ev, iaM, ldM, binD, setD, applyW, Ek_ops_nil, allFree, free, callM, callP, appM]
      try simp at ih
      try simp [u0, u14, u15, u16, u17, u18, u19, u20, u21, u22, u23]
      exact ih
  · have z3 : neI e 0 = true := by simp [neI, he]
    obtain ⟨rfl, rfl⟩ := her.resolve_left he
    simp only [cvV_nil] at h28
    conv => lhs; arg 4; arg 3; arg 6; simp [b14_0, z1, z2, w2, u0, u14, u15, u16, u17, u18, u19, u20, u21, u22, u23, h28, z3, z5, z6, evOp, evM, wants, Ins.go, X.ev, iaM, ldM, binD, setD, applyW, Ek_ops_nil, allFree, free, callM, callP, appM]
    try simp at ih
    try simp [u0, u14, u15, u16, u17, u18, u19, u20, u21, u22, u23]
    exact ih
set_option maxHeartbeats 8000000 in
theorem K14 (a : Int) (ha : 0 ≤ a ∧ a < 256) (c : Bool) (s : Nat) (hs : s = 1 ∨ False) (l : List Int) (hl : l.length ≤ 2 ^ 47) (hB : isB l) : K0 14 [.int .u8 a, .slc c s (l.map (.int .u8))] [] = some (.bool true, []) := by
  obtain rfl := hs.resolve_right id
  have hwa : IntKind.i64.wrap a = a := w64 _ (by omega)
  obtain ⟨k, hk⟩ : ∃ k, 1 + a.tmod 3 = k := ⟨_, rfl⟩
  have h0 := Int.tmod_nonneg 3 ha.1
  have h3 := Int.tmod_lt_of_pos a (show (0 : Int) < 3 by omega)
  have hwk : IntKind.i64.wrap k = k := w64 _ (by omega)
  have hL := fun {v0 v14 v15 v16 v17 v18 v19 v20 v21 v22 v23 : D} => @L14_0 v0 v14 v15 v16 v17 v18 v19 v20 v21 v22 v23
  refine K_call k14 (oraG_none (by decide) (by decide)) (by simp [c14]) ?_
  by_cases h6 : 600 < l.length
  · have z1 : ltI 600 (l.length : Int) = true := ltI_t (by omega)
    have h7 : 600 ≤ l.length := by omega
    have h7' : (600 : Int) ≤ l.length := by omega
    obtain ⟨m, hm⟩ : ∃ m, l.take 600 = m := ⟨_, rfl⟩
    have m1 : List.take 600 (l.map (D.int .u8)) = m.map (.int .u8) := by rw [← hm, List.map_take]
    simp [c14, K24, hwa, hk, hwk, z1, h7, h7', m1]
    simp only [t14, kn14] at hL
    exact hL rfl rfl rfl rfl rfl rfl rfl rfl rfl rfl rfl _ m (by rw [← hm]; simp; omega) (by rw [← hm]; exact isB_take hB _) k (by omega)
  · have z1 : ltI 600 (l.length : Int) = false := ltI_f (by omega)
    simp [c14, K24, hwa, hk, hwk, z1]
    simp only [t14, kn14] at hL
    exact hL rfl rfl rfl rfl rfl rfl rfl rfl rfl rfl rfl c l (by omega) hB k (by omega)
end Go.Ab
