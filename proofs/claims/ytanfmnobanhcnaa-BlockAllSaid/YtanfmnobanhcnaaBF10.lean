/- THE FUNCTIONS' EQUATIONS: thresherlaw07.BlockBack. -/
import Derived.Test.YtanfmnobanhcnaaBPBlk
import Derived.Test.YtanfmnobanhcnaaBF26
import Derived.Test.YtanfmnobanhcnaaBF30
import Derived.Test.YtanfmnobanhcnaaBCel
set_option linter.all false
set_option maxRecDepth 100000
namespace Go.Ab
open Go.Proofs Go.Proofs.YtanfmnobanhcnaaH Go.Proofs.YtanfmnobanhcnaaH.Crc Go.Proofs.YtanfmnobanhcnaaH.Var Go.Proofs.YtanfmnobanhcnaaH.Fr
def b10_0 : C := (.seq (.seq (.reg none [⟨(some 31), none, (.mv (.t 10))⟩, ⟨(some 32), none, (.mv (.t 1))⟩, ⟨(some 33), none, (.len 1 (.t 32))⟩, ⟨(some 34), none, (.bin .lss [] (.t 31) (.t 33))⟩]) (.cond (.t 34) .skip (.exit 0))) (.seq (.block 1 (.seq (.reg none [⟨(some 37), none, (.mv (.t 8))⟩, ⟨(some 38), none, (.mv (.t 1))⟩, ⟨(some 39), none, (.mv (.t 10))⟩, ⟨(some 40), none, (.ia none 2 true (.t 38) (.t 39))⟩, ⟨(some 41), none, (.ld (some 2) (.t 40))⟩, ⟨(some 42), none, (.call (.f 31) [(.t 37), (.t 41)])⟩, ⟨(some 11), none, (.mv (.t 42))⟩]) (.reg none [⟨(some 43), none, (.mv (.t 9))⟩, ⟨(some 44), none, (.mv (.t 43))⟩, ⟨(some 45), (some ((some 44), true)), (.mv (.t 11))⟩, ⟨(some 46), none, (.pick (.t 44) (.t 45) (.k (.bool false)))⟩, ⟨(some 9), none, (.mv (.t 46))⟩]))) (.reg none [⟨(some 35), none, (.mv (.t 10))⟩, ⟨(some 36), none, (.bin .add [] (.t 35) (.k (.int .i64 1)))⟩, ⟨(some 10), none, (.mv (.t 36))⟩])))
def r10_14 : C := (.seq (.reg none [⟨(some 107), none, (.mv (.t 7))⟩, ⟨(some 108), none, (.mv (.t 107))⟩, ⟨(some 109), (some ((some 108), true)), (.mv (.t 17))⟩, ⟨(some 110), none, (.pick (.t 108) (.t 109) (.k (.bool false)))⟩, ⟨(some 111), none, (.mv (.t 110))⟩, ⟨(some 112), (some ((some 111), true)), (.mv (.t 15))⟩, ⟨(some 113), (some ((some 111), true)), (.mv (.t 12))⟩, ⟨(some 114), (some ((some 111), true)), (.len 1 (.t 113))⟩, ⟨(some 115), (some ((some 111), true)), (.bin .eql [] (.t 112) (.t 114))⟩, ⟨(some 116), none, (.pick (.t 111) (.t 115) (.k (.bool false)))⟩, ⟨(some 117), none, (.mv (.t 116))⟩, ⟨(some 118), (some ((some 117), true)), (.mv (.t 16))⟩, ⟨(some 119), (some ((some 117), true)), (.bin .eql [] (.t 118) (.k (.int .i64 0)))⟩, ⟨(some 120), none, (.pick (.t 117) (.t 119) (.k (.bool false)))⟩, ⟨(some 121), none, (.mv (.t 120))⟩, ⟨(some 122), (some ((some 121), true)), (.mv (.t 20))⟩, ⟨(some 123), (some ((some 121), true)), (.bin .eql [] (.t 122) (.k (.int .i64 10)))⟩, ⟨(some 124), none, (.pick (.t 121) (.t 123) (.k (.bool false)))⟩, ⟨(some 125), none, (.mv (.t 124))⟩, ⟨(some 126), (some ((some 125), true)), (.mv (.t 23))⟩, ⟨(some 127), (some ((some 125), true)), (.bin .eql [] (.t 126) (.k (.int .i64 10)))⟩, ⟨(some 128), none, (.pick (.t 125) (.t 127) (.k (.bool false)))⟩, ⟨(some 129), none, (.mv (.t 128))⟩, ⟨(some 130), (some ((some 129), true)), (.mv (.t 22))⟩, ⟨(some 131), (some ((some 129), true)), (.bin .eql [] (.t 130) (.k (.int .i64 0)))⟩, ⟨(some 132), none, (.pick (.t 129) (.t 131) (.k (.bool false)))⟩, ⟨(some 6), none, (.mv (.t 132))⟩]) .ret)
def r10_10 : C := (.seq (.reg none [⟨(some 74), none, (.mv (.t 8))⟩, ⟨(some 75), none, (.bsl false 1 0 [(.int .u8 0)] [])⟩, ⟨(some 76), none, (.mv (.t 12))⟩, ⟨(some 77), none, (.app 1 1 (.t 75) (.t 76))⟩, ⟨(some 78), none, (.mv (.t 2))⟩, ⟨(some 79), none, (.app 1 1 (.t 77) (.t 78))⟩, ⟨(some 80), none, (.call (.f 28) [(.t 74), (.t 79)])⟩, ⟨(some 73), none, (.mv (.t 80))⟩, ⟨(some 81), none, (.ext (.t 73) 0)⟩, ⟨(some 82), none, (.ext (.t 73) 1)⟩, ⟨(some 83), none, (.ext (.t 73) 2)⟩, ⟨(some 14), none, (.mv (.t 81))⟩, ⟨(some 15), none, (.mv (.t 82))⟩, ⟨(some 16), none, (.mv (.t 83))⟩]) (.seq (.reg none [⟨(some 84), none, (.mv (.t 14))⟩, ⟨(some 85), none, (.mv (.t 1))⟩, ⟨(some 86), none, (.call (.f 30) [(.t 84), (.t 85)])⟩, ⟨(some 17), none, (.mv (.t 86))⟩]) (.seq (.reg none [⟨(some 88), none, (.mv (.t 8))⟩, ⟨(some 89), none, (.bin .rem [] (.t 88) (.k (.int .i64 3)))⟩, ⟨(some 90), none, (.bin .add [] (.k (.int .i64 1)) (.t 89))⟩, ⟨(some 91), none, (.mv (.t 12))⟩, ⟨(some 92), none, (.call (.f 28) [(.t 90), (.t 91)])⟩, ⟨(some 87), none, (.mv (.t 92))⟩, ⟨(some 93), none, (.ext (.t 87) 0)⟩, ⟨(some 94), none, (.ext (.t 87) 1)⟩, ⟨(some 95), none, (.ext (.t 87) 2)⟩, ⟨(some 18), none, (.mv (.t 93))⟩, ⟨(some 19), none, (.mv (.t 94))⟩, ⟨(some 20), none, (.mv (.t 95))⟩]) (.seq (.reg none [⟨(some 97), none, (.mv (.t 8))⟩, ⟨(some 98), none, (.mv (.t 12))⟩, ⟨(some 99), none, (.mv (.t 12))⟩, ⟨(some 100), none, (.len 1 (.t 99))⟩, ⟨(some 101), none, (.bin .sub [] (.t 100) (.k (.int .i64 1)))⟩, ⟨(some 102), none, (.sub 1 1 (.t 98) none (some (.t 101)) none)⟩, ⟨(some 103), none, (.call (.f 28) [(.t 97), (.t 102)])⟩, ⟨(some 96), none, (.mv (.t 103))⟩, ⟨(some 104), none, (.ext (.t 96) 0)⟩, ⟨(some 105), none, (.ext (.t 96) 1)⟩, ⟨(some 106), none, (.ext (.t 96) 2)⟩, ⟨(some 21), none, (.mv (.t 104))⟩, ⟨(some 22), none, (.mv (.t 105))⟩, ⟨(some 23), none, (.mv (.t 106))⟩]) r10_14))))
def r10_9 : C := (.seq (.seq (.reg none [⟨(some 68), none, (.mv (.t 2))⟩, ⟨(some 69), none, (.len 1 (.t 68))⟩, ⟨(some 70), none, (.bin .gtr [] (.t 69) (.k (.int .i64 100)))⟩]) (.cond (.t 70) (.reg none [⟨(some 71), none, (.mv (.t 2))⟩, ⟨(some 72), none, (.sub 1 1 (.t 71) none (some (.k (.int .i64 100))) none)⟩, ⟨(some 2), none, (.mv (.t 72))⟩]) .skip)) r10_10)
def r10_6 : C := (.seq (.reg none [⟨(some 48), none, (.mv (.t 8))⟩, ⟨(some 49), none, (.mv (.t 1))⟩, ⟨(some 50), none, (.call (.f 26) [(.t 48), (.t 49)])⟩, ⟨(some 47), none, (.mv (.t 50))⟩, ⟨(some 51), none, (.ext (.t 47) 0)⟩, ⟨(some 52), none, (.ext (.t 47) 1)⟩, ⟨(some 12), none, (.mv (.t 51))⟩, ⟨(some 13), none, (.mv (.t 52))⟩]) (.seq (.seq (.reg none [⟨(some 53), none, (.mv (.t 13))⟩, ⟨(some 54), none, (.mv (.t 9))⟩, ⟨(some 55), none, (.bin .neq [3] (.t 53) (.t 54))⟩, ⟨(some 56), none, (.mv (.t 55))⟩, ⟨(some 57), (some ((some 56), false)), (.mv (.t 13))⟩, ⟨(some 58), (some ((some 56), false)), (.un .not (.t 57))⟩, ⟨(some 59), (some ((some 56), false)), (.mv (.t 58))⟩, ⟨(some 60), (some ((some 59), true)), (.mv (.t 12))⟩, ⟨(some 61), (some ((some 59), true)), (.len 1 (.t 60))⟩, ⟨(some 62), (some ((some 59), true)), (.bin .gtr [] (.t 61) (.k (.int .i64 0)))⟩, ⟨(some 63), (some ((some 56), false)), (.pick (.t 59) (.t 62) (.k (.bool false)))⟩, ⟨(some 64), none, (.pick (.t 56) (.k (.bool true)) (.t 63))⟩]) (.cond (.t 64) (.seq (.reg none [⟨(some 6), none, (.mv (.k (.bool false)))⟩]) .ret) .skip)) (.seq (.seq (.reg none [⟨(some 65), none, (.mv (.t 13))⟩, ⟨(some 66), none, (.un .not (.t 65))⟩]) (.cond (.t 66) (.seq (.reg none [⟨(some 67), none, (.mv (.t 7))⟩, ⟨(some 6), none, (.mv (.t 67))⟩]) .ret) .skip)) r10_9)))
def c10 : Fn' := ⟨133, [(.tmp 6)], (.seq (.reg none [⟨(some 6), none, (.mv (.k (.bool false)))⟩]) (.seq (.reg none [⟨(some 24), none, (.call (.f 24) [])⟩, ⟨(some 7), none, (.mv (.t 24))⟩]) (.seq (.reg none [⟨(some 25), none, (.mv (.t 0))⟩, ⟨(some 26), none, (.cvt (.int .i64) (.t 25))⟩, ⟨(some 27), none, (.bin .rem [] (.t 26) (.k (.int .i64 3)))⟩, ⟨(some 28), none, (.bin .add [] (.k (.int .i64 1)) (.t 27))⟩, ⟨(some 8), none, (.mv (.t 28))⟩]) (.seq (.reg none [⟨(some 29), none, (.mv (.t 1))⟩, ⟨(some 30), none, (.call (.f 25) [(.t 29)])⟩, ⟨(some 1), none, (.mv (.t 30))⟩]) (.seq (.reg none [⟨(some 9), none, (.mv (.k (.bool true)))⟩]) (.seq (.seq (.reg none [⟨(some 10), none, (.mv (.k (.int .i64 0)))⟩]) (.block 0 (.loop b10_0))) r10_6))))))⟩
theorem k10 : compF Try.prog 10 = some c10 := by kernel_rfl
attribute [local simp] op_or op_an op_add op_sub op_mul oq_eql oq_neq oq_lss oq_gtr oq_leq oq_geq op_rm
attribute [-simp] intOp bin_shl bin_shr D.cells
theorem bool_ne10 (a b : Bool) : binD .neq [3] (.bool a) (.bool b) = some (.bool !(a == b)) := rfl
attribute [local simp] bool_ne10
theorem few_len10 (l : List Va) : (fewV l).length ≤ 60 := by unfold fewV; simp; omega
theorem few_i64 {l : List Va} (h : ∀ p ∈ l, i64R p.1) : ∀ p ∈ fewV l, i64R p.1 := fun p hp => by
  unfold fewV at hp
  obtain ⟨q, hq, rfl⟩ := List.mem_map.1 hp
  exact h q (List.mem_of_mem_take hq)
theorem block_len {t : Int} {l : List Va} (h : blockOk t l = true) : (blockI t l).length ≤ 200020 ∧ 5 ≤ (blockI t l).length ∧ isB (blockI t l) := by
  have h1 := data_len h
  have h2 := putI_len10 ((t :: colI t l).length : Int) (by omega)
  have h4 := putI_pos ((t :: colI t l).length : Int)
  have h3 := frameI_len (t :: colI t l)
  have hk := (kind_eq t).1 ((blockOk_eq t l).1 h).1
  unfold blockI
  refine ⟨by omega, by omega, isB_frame (isB_cons' (by omega) (isB_col t l))⟩
def t10 (a : Int) (c c2 : Bool) (s : Nat) (l v : List Va) (h : List Int) (k : Int) (fine : Bool) (i : Nat) : List D := [.int .u8 a, .slc false 2 (v.map Va.d), .slc c2 1 (h.map (.int .u8)), .undef, .undef, .undef, .bool false, .bool true, .int .i64 k, .bool fine, .int .i64 i, .undef, .undef, .undef, .undef, .undef, .undef, .undef, .undef, .undef, .undef, .undef, .undef, .undef, .bool true, .int .u8 a, .int .i64 a, .int .i64 (a.tmod 3), .int .i64 k, .slc c s (l.map Va.d), .slc false 2 (v.map Va.d), .undef, .undef, .undef, .undef, .undef, .undef, .undef, .undef, .undef, .undef, .undef, .undef, .undef, .undef, .undef, .undef, .undef, .undef, .undef, .undef, .undef, .undef, .undef, .undef, .undef, .undef, .undef, .undef, .undef, .undef, .undef, .undef, .undef, .undef, .undef, .undef, .undef, .undef, .undef, .undef, .undef, .undef, .undef, .undef, .undef, .undef, .undef, .undef, .undef, .undef, .undef, .undef, .undef, .undef, .undef, .undef, .undef, .undef, .undef, .undef, .undef, .undef, .undef, .undef, .undef, .undef, .undef, .undef, .undef, .undef, .undef, .undef, .undef, .undef, .undef, .undef, .undef, .undef, .undef, .undef, .undef, .undef, .undef, .undef, .undef, .undef, .undef, .undef, .undef, .undef, .undef, .undef, .undef, .undef, .undef, .undef, .undef, .undef, .undef, .undef, .undef, .undef]
set_option maxHeartbeats 4000000 in
theorem L10 (a : Int) (c c2 : Bool) (s : Nat) (l v : List Va) (h : List Int) (k : Int) (hv : v.length ≤ 60) : ∀ (t pre : List Va) (fine : Bool) (i : Nat), v = pre ++ t → i = pre.length →
    LpB cf0 K0 b10_0 (t10 a c c2 s l v h k true 0) 0 ⟨t10 a c c2 s l v h k fine i, []⟩ = some (.exit 0, ⟨t10 a c c2 s l v h k (fine && t.all (fitsI k)) v.length, []⟩)
  | [], pre, fine, i, he, hi => by
    have : v = pre := by simpa using he
    subst this
    have z1 : ltI (i : Int) v.length = false := ltI_f (by omega)
    rw [LpB_eq]
    simp only [t10]
    conv => lhs; arg 6; simp [b10_0, z1]
    simp [hi]
  | (n, x) :: t, pre, fine, i, he, hi => by
    have hll : i < v.length := by rw [he, hi]; simp
    have z1 : ltI (i : Int) v.length = true := ltI_t (by omega)
    have hget : v[i]? = some (n, x) := by rw [he, hi]; simp
    have hgi : v[i]'hll = (n, x) := by rw [List.getElem?_eq_getElem hll] at hget; exact Option.some.inj hget
    have hw := w64 (i + 1) (by omega)
    have hK := K31 k (n, x)
    have ih := L10 a c c2 s l v h k hv t (pre ++ [(n, x)]) (fine && fitsI k (n, x)) (i + 1) (by rw [he]; simp) (by simp [hi])
    rw [List.all_cons, ← Bool.and_assoc]
    generalize fitsI k (n, x) = f at *
    generalize t.all (fitsI k) = g at *
    simp only [Va.d] at hK
    rw [LpB_eq]
    simp only [t10] at ih ⊢
    cases fine with
    | false =>
      conv => lhs; arg 6; simp [b10_0, z1, hll, hgi, hK, hw, Va.d]
      simp at ih ⊢
      exact ih
    | true =>
      conv => lhs; arg 6; simp [b10_0, z1, hll, hgi, hK, hw, Va.d]
      simp at ih ⊢
      exact ih
set_option maxHeartbeats 8000000 in
theorem R10e {v0 v1 v2 v3 v4 v5 v8 v9 v10 v11 v13 v14 v18 v19 v21 v24 v25 v26 v27 v28 v29 v30 v31 v32 v33 v34 v35 v36 v37 v38 v39 v40 v41 v42 v43 v44 v45 v46 v47 v48 v49 v50 v51 v52 v53 v54 v55 v56 v57 v58 v59 v60 v61 v62 v63 v64 v65 v66 v67 v68 v69 v70 v71 v72 v73 v74 v75 v76 v77 v78 v79 v80 v81 v82 v83 v84 v85 v86 v87 v88 v89 v90 v91 v92 v93 v94 v95 v96 v97 v98 v99 v100 v101 v102 v103 v104 v105 v106 : D} {Hh : List Obj} (Y : List Int) : finK false 0 [.tmp 6] (Ek cf0 K0 [.c r10_14] ⟨[v0, v1, v2, v3, v4, v5, .bool false, .bool true, v8, v9, v10, v11, .slc false 1 (Y.map (.int .u8)), v13, v14, .int .i64 (Y.length : Nat), .int .i64 0, .bool true, v18, v19, .int .i64 10, v21, .int .i64 0, .int .i64 10, v24, v25, v26, v27, v28, v29, v30, v31, v32, v33, v34, v35, v36, v37, v38, v39, v40, v41, v42, v43, v44, v45, v46, v47, v48, v49, v50, v51, v52, v53, v54, v55, v56, v57, v58, v59, v60, v61, v62, v63, v64, v65, v66, v67, v68, v69, v70, v71, v72, v73, v74, v75, v76, v77, v78, v79, v80, v81, v82, v83, v84, v85, v86, v87, v88, v89, v90, v91, v92, v93, v94, v95, v96, v97, v98, v99, v100, v101, v102, v103, v104, v105, v106, .undef, .undef, .undef, .undef, .undef, .undef, .undef, .undef, .undef, .undef, .undef, .undef, .undef, .undef, .undef, .undef, .undef, .undef, .undef, .undef, .undef, .undef, .undef, .undef, .undef, .undef], Hh⟩) = some (.bool true, []) := by
  have z0 : eqI (Y.length : Int) Y.length = true := eqI_t rfl
  have z1 : eqI 0 0 = true := rfl
  have z2 : eqI 10 10 = true := rfl
  simp [r10_14, z0, z1, z2]
set_option maxHeartbeats 8000000 in
theorem R10d {v0 v3 v4 v5 v9 v10 v11 v13 v24 v25 v26 v27 v28 v29 v30 v31 v32 v33 v34 v35 v36 v37 v38 v39 v40 v41 v42 v43 v44 v45 v46 v47 v48 v49 v50 v51 v52 v53 v54 v55 v56 v57 v58 v59 v60 v61 v62 v63 v64 v65 v66 v67 v68 v69 v70 v71 v72 : D} (c2 : Bool) (h : List Int) (hh : h.length ≤ 100) (hB : isB h) (k : Int) (hk : 1 ≤ k ∧ k ≤ 3) (v : List Va) (hv : v.length ≤ 60) (hok : blockOk k v = true) (hr : ∀ p ∈ v, i64R p.1) :
    finK false 0 [.tmp 6] (Ek cf0 K0 [.c r10_10] ⟨[v0, .slc false 2 (v.map Va.d), .slc c2 1 (h.map (.int .u8)), v3, v4, v5, .bool false, .bool true, .int .i64 k, v9, v10, v11, .slc false 1 ((blockI k v).map (.int .u8)), v13, .undef, .undef, .undef, .undef, .undef, .undef, .undef, .undef, .undef, .undef, v24, v25, v26, v27, v28, v29, v30, v31, v32, v33, v34, v35, v36, v37, v38, v39, v40, v41, v42, v43, v44, v45, v46, v47, v48, v49, v50, v51, v52, v53, v54, v55, v56, v57, v58, v59, v60, v61, v62, v63, v64, v65, v66, v67, v68, v69, v70, v71, v72, .undef, .undef, .undef, .undef, .undef, .undef, .undef, .undef, .undef, .undef, .undef, .undef, .undef, .undef, .undef, .undef, .undef, .undef, .undef, .undef, .undef, .undef, .undef, .undef, .undef, .undef, .undef, .undef, .undef, .undef, .undef, .undef, .undef, .undef, .undef, .undef, .undef, .undef, .undef, .undef, .undef, .undef, .undef, .undef, .undef, .undef, .undef, .undef, .undef, .undef, .undef, .undef, .undef, .undef, .undef, .undef, .undef, .undef, .undef, .undef], []⟩) = some (.bool true, []) := by
  obtain ⟨hY, hY5, hYB⟩ := block_len hok
  have h28 := fun c => K28 k c (blockI k v ++ h) (by simp; omega) (isB_append hYB hB)
  simp only [take_put k v hok hr h] at h28
  obtain ⟨k', hk'⟩ : ∃ k', 1 + k.tmod 3 = k' := ⟨_, rfl⟩
  have hkk : ¬ k = k' ∧ 1 ≤ k' ∧ k' ≤ 3 := by
    have h123 : k = 1 ∨ k = 2 ∨ k = 3 := by omega
    rcases h123 with rfl | rfl | rfl <;> simp at hk' <;> omega
  have hwk : IntKind.i64.wrap k' = k' := w64 _ (by omega)
  have h28b := K28 k' false (blockI k v) (by omega) hYB
  rw [take_other k k' v hok hkk.1] at h28b
  have h28c := K28 k false ((blockI k v).take ((blockI k v).length - 1)) (by simp; omega) (isB_take hYB _)
  rw [take_part k k v hok _ (by omega)] at h28c
  obtain ⟨d, hd⟩ : ∃ d, cvV v = d := ⟨_, rfl⟩
  have h30 : K0 30 [d, .slc false 2 (v.map Va.d)] [] = some (.bool true, []) := by
    have : (v == v) = true := by simp
    rw [← hd, ← this]
    unfold cvV
    by_cases hv0 : v = []
    · subst hv0; exact K30 true false 0 2 [] [] (.inr rfl) (.inl rfl) (by simp)
    · rw [if_neg hv0]; exact K30 false false 2 2 v v (.inl rfl) (.inl rfl) (by omega)
  simp only [hd] at h28
  simp only [cvV_nil] at h28b h28c
  have hR := @R10e
  generalize blockI k v = Y at *
  have hYn : ¬ Y = [] := by intro e; subst e; simp at hY5
  have b0 : Y.length ≤ 70368744177664 := by omega
  have b1 : Y.length + h.length ≤ 70368744177664 := by omega
  obtain ⟨j, hj⟩ : ∃ j : Nat, j = Y.length - 1 := ⟨_, rfl⟩
  rw [← hj] at h28c
  obtain ⟨Z, hZ⟩ : ∃ Z, Y.take j = Z := ⟨_, rfl⟩
  have m1 : List.take j (Y.map (D.int .u8)) = Z.map (.int .u8) := by rw [← hZ, List.map_take]
  rw [hZ] at h28c
  have hwj : IntKind.i64.wrap ((Y.length : Int) - 1) = (j : Int) := by rw [w64 _ (by omega)]; omega
  have hjl : j ≤ Y.length := by omega
  have hjl' : (j : Int) ≤ Y.length := by omega
  have hdk : d.keys = [] := by
    rw [← hd]; unfold cvV; split <;> rfl
  have hfz : ∃ cc ss es, d = .slc cc ss es := by
    rw [← hd]; unfold cvV; split
    · exact ⟨_, _, _, rfl⟩
    · exact ⟨_, _, _, rfl⟩
  obtain ⟨cc, ss, es, rfl⟩ := hfz
  have hk3 : ((3 : Int) == 0) = false := rfl
  by_cases hh0 : h = []
  · subst hh0
    simp only [List.append_nil] at h28
    simp [r10_10, h28, h30, h28b, h28c, hk', hwk, hYn, b0, hwj, hjl, hjl', m1, List.take_of_length_le]
    exact hR Y
  · simp only [List.map_append] at h28
    simp [r10_10, h28, h30, h28b, h28c, hk', hwk, hYn, hh0, b0, b1, hwj, hjl, hjl', m1, List.take_of_length_le]
    exact hR Y
set_option maxHeartbeats 8000000 in
theorem K10 (a : Int) (ha : 0 ≤ a ∧ a < 256) (c : Bool) (s : Nat) (hs : s = 2 ∨ False) (l : List Va) (hl : l.length ≤ 2 ^ 44) (hr : ∀ p ∈ l, i64R p.1) (c2 : Bool) (s2 : Nat) (hs2 : s2 = 1 ∨ False) (h : List Int) (hh : h.length ≤ 2 ^ 47) (hB : isB h) :
    K0 10 [.int .u8 a, .slc c s (l.map Va.d), .slc c2 s2 (h.map (.int .u8))] [] = some (.bool true, []) := by
  obtain rfl := hs2.resolve_right id
  have h25 := K25 c s l (hs.imp id False.elim) (by omega)
  have hv := few_len10 l
  have hvr := few_i64 hr
  generalize fewV l = v at *
  have hwa : IntKind.i64.wrap a = a := w64 _ (by omega)
  obtain ⟨k, hk⟩ : ∃ k, 1 + a.tmod 3 = k := ⟨_, rfl⟩
  have h0 := Int.tmod_nonneg 3 ha.1
  have h3 := Int.tmod_lt_of_pos a (show (0 : Int) < 3 by omega)
  have hwk : IntKind.i64.wrap k = k := w64 _ (by omega)
  have hkk : 1 ≤ k ∧ k ≤ 3 := by omega
  have hL := L10 a c c2 s l v h k hv v [] true 0 rfl rfl
  have h26 := K26 false 2 k (by unfold i64R; omega) v (.inl rfl) (by omega)
  have hbo : blockOk k v = v.all (fitsI k) := by
    unfold blockOk
    rw [(kind_eq k).2 hkk]
    simp; omega
  have hbl := fun h => @block_len k v h
  rw [← hbo, Bool.true_and] at hL
  have hR := fun {v0 v3 v4 v5 v9 v10 v11 v13 v24 v25 v26 v27 v28 v29 v30 v31 v32 v33 v34 v35 v36 v37 v38 v39 v40 v41 v42 v43 v44 v45 v46 v47 v48 v49 v50 v51 v52 v53 v54 v55 v56 v57 v58 v59 v60 v61 v62 v63 v64 v65 v66 v67 v68 v69 v70 v71 v72 : D} (c2 : Bool) (h : List Int) (hh : h.length ≤ 100) (hB : isB h) (hok : blockOk k v = true) => @R10d v0 v3 v4 v5 v9 v10 v11 v13 v24 v25 v26 v27 v28 v29 v30 v31 v32 v33 v34 v35 v36 v37 v38 v39 v40 v41 v42 v43 v44 v45 v46 v47 v48 v49 v50 v51 v52 v53 v54 v55 v56 v57 v58 v59 v60 v61 v62 v63 v64 v65 v66 v67 v68 v69 v70 v71 v72 c2 h hh hB k hkk v hv hok hvr
  simp only [t10] at hL
  simp at hL
  refine K_call k10 (oraG_none (by decide) (by decide)) (by simp [c10]) ?_
  cases hok : blockOk k v with
  | false =>
    rw [hok] at h26 hL
    simp at h26
    have z1 : ltI 0 0 = false := rfl
    simp [c10, K24, h25, hwa, hk, hwk]
    rw [hL]
    simp [r10_6, r10_9, h26, z1]
  | true =>
    rw [hok] at h26 hL
    obtain ⟨hY, hY5, hYB⟩ := hbl hok
    have hR := fun {v0 v3 v4 v5 v9 v10 v11 v13 v24 v25 v26 v27 v28 v29 v30 v31 v32 v33 v34 v35 v36 v37 v38 v39 v40 v41 v42 v43 v44 v45 v46 v47 v48 v49 v50 v51 v52 v53 v54 v55 v56 v57 v58 v59 v60 v61 v62 v63 v64 v65 v66 v67 v68 v69 v70 v71 v72 : D} (c2 : Bool) (h : List Int) (hh : h.length ≤ 100) (hB : isB h) => @hR v0 v3 v4 v5 v9 v10 v11 v13 v24 v25 v26 v27 v28 v29 v30 v31 v32 v33 v34 v35 v36 v37 v38 v39 v40 v41 v42 v43 v44 v45 v46 v47 v48 v49 v50 v51 v52 v53 v54 v55 v56 v57 v58 v59 v60 v61 v62 v63 v64 v65 v66 v67 v68 v69 v70 v71 v72 c2 h hh hB hok
    simp at h26
    simp [c10, K24, h25, hwa, hk, hwk]
    rw [hL]
    by_cases hh1 : 100 < h.length
    · have z1 : ltI 100 (h.length : Int) = true := ltI_t (by omega)
      have h7 : 100 ≤ h.length := by omega
      have h7' : (100 : Int) ≤ h.length := by omega
      obtain ⟨m, hm⟩ : ∃ m, h.take 100 = m := ⟨_, rfl⟩
      have m1 : List.take 100 (h.map (D.int .u8)) = m.map (.int .u8) := by rw [← hm, List.map_take]
      simp [r10_6, r10_9, h26, z1, h7, h7', m1]
      exact hR _ m (by rw [← hm]; simp; omega) (by rw [← hm]; exact isB_take hB _)
    · have z1 : ltI 100 (h.length : Int) = false := ltI_f (by omega)
      simp [r10_6, r10_9, h26, z1]
      exact hR c2 h (by omega) hB
end Go.Ab
/- THE FUNCTIONS' EQUATIONS: thresherlaw07.BlockTurns. -/
set_option linter.all false
set_option maxRecDepth 100000
namespace Go.Ab
open Go.Proofs Go.Proofs.YtanfmnobanhcnaaH Go.Proofs.YtanfmnobanhcnaaH.Crc Go.Proofs.YtanfmnobanhcnaaH.Var Go.Proofs.YtanfmnobanhcnaaH.Fr
def b11_0 : C := (.seq (.seq (.reg none [⟨(some 28), none, (.mv (.t 10))⟩, ⟨(some 29), none, (.mv (.t 1))⟩, ⟨(some 30), none, (.len 1 (.t 29))⟩, ⟨(some 31), none, (.bin .lss [] (.t 28) (.t 30))⟩]) (.cond (.t 31) .skip (.exit 0))) (.seq (.block 1 (.seq (.reg none [⟨(some 34), none, (.mv (.t 8))⟩, ⟨(some 35), none, (.mv (.t 1))⟩, ⟨(some 36), none, (.mv (.t 10))⟩, ⟨(some 37), none, (.ia none 2 true (.t 35) (.t 36))⟩, ⟨(some 38), none, (.ld (some 2) (.t 37))⟩, ⟨(some 39), none, (.call (.f 31) [(.t 34), (.t 38)])⟩, ⟨(some 11), none, (.mv (.t 39))⟩]) (.seq (.reg none [⟨(some 40), none, (.mv (.t 11))⟩]) (.cond (.t 40) (.reg none [⟨(some 41), none, (.mv (.t 9))⟩, ⟨(some 42), none, (.mv (.t 1))⟩, ⟨(some 43), none, (.mv (.t 10))⟩, ⟨(some 44), none, (.ia none 2 true (.t 42) (.t 43))⟩, ⟨(some 45), none, (.ld (some 2) (.t 44))⟩, ⟨(some 46), none, (.bsl false 2 1 [(.int .i64 0), (.str [])] [(0, (.t 45))])⟩, ⟨(some 47), none, (.app 2 24 (.t 41) (.t 46))⟩, ⟨(some 9), none, (.mv (.t 47))⟩]) .skip)))) (.reg none [⟨(some 32), none, (.mv (.t 10))⟩, ⟨(some 33), none, (.bin .add [] (.t 32) (.k (.int .i64 1)))⟩, ⟨(some 10), none, (.mv (.t 33))⟩])))
def r11_12 : C := (.seq (.reg none [⟨(some 84), none, (.bsl false 1 0 [(.int .u8 0)] [])⟩, ⟨(some 85), none, (.mv (.t 12))⟩, ⟨(some 86), none, (.app 1 1 (.t 84) (.t 85))⟩, ⟨(some 16), none, (.mv (.t 86))⟩]) (.seq (.reg (some []) [⟨(some 87), none, (.mv (.t 16))⟩, ⟨(some 88), none, (.mv (.t 15))⟩, ⟨(some 89), none, (.bin .quo [] (.t 88) (.k (.int .i64 8)))⟩, ⟨(some 90), none, (.mv (.t 16))⟩, ⟨(some 91), none, (.mv (.t 15))⟩, ⟨(some 92), none, (.bin .quo [] (.t 91) (.k (.int .i64 8)))⟩, ⟨(some 93), none, (.ia none 1 false (.t 90) (.t 92))⟩, ⟨(some 94), none, (.ld none (.t 93))⟩, ⟨(some 95), none, (.mv (.t 15))⟩, ⟨(some 96), none, (.bin .rem [] (.t 95) (.k (.int .i64 8)))⟩, ⟨(some 97), none, (.bin .shl [] (.k (.int .u8 1)) (.t 96))⟩, ⟨(some 98), none, (.bin .xor [] (.t 94) (.t 97))⟩, ⟨(some 99), none, (.ia none 1 false (.t 87) (.t 89))⟩, ⟨none, none, (.st 1 (.t 99) (.t 98))⟩]) (.seq (.reg none [⟨(some 101), none, (.mv (.t 8))⟩, ⟨(some 102), none, (.mv (.t 16))⟩, ⟨(some 103), none, (.call (.f 28) [(.t 101), (.t 102)])⟩, ⟨(some 100), none, (.mv (.t 103))⟩, ⟨(some 104), none, (.ext (.t 100) 0)⟩, ⟨(some 105), none, (.ext (.t 100) 1)⟩, ⟨(some 106), none, (.ext (.t 100) 2)⟩, ⟨(some 17), none, (.mv (.t 104))⟩, ⟨(some 18), none, (.mv (.t 105))⟩, ⟨(some 19), none, (.mv (.t 106))⟩]) (.seq (.reg none [⟨(some 107), none, (.mv (.t 7))⟩, ⟨(some 108), none, (.mv (.t 107))⟩, ⟨(some 109), (some ((some 108), true)), (.mv (.t 17))⟩, ⟨(some 110), (some ((some 108), true)), (.len 1 (.t 109))⟩, ⟨(some 111), (some ((some 108), true)), (.bin .eql [] (.t 110) (.k (.int .i64 0)))⟩, ⟨(some 112), none, (.pick (.t 108) (.t 111) (.k (.bool false)))⟩, ⟨(some 113), none, (.mv (.t 112))⟩, ⟨(some 114), (some ((some 113), true)), (.mv (.t 18))⟩, ⟨(some 115), (some ((some 113), true)), (.bin .eql [] (.t 114) (.k (.int .i64 0)))⟩, ⟨(some 116), none, (.pick (.t 113) (.t 115) (.k (.bool false)))⟩, ⟨(some 117), none, (.mv (.t 116))⟩, ⟨(some 118), (some ((some 117), true)), (.mv (.t 19))⟩, ⟨(some 119), (some ((some 117), true)), (.bin .eql [] (.t 118) (.k (.int .i64 11)))⟩, ⟨(some 120), none, (.pick (.t 117) (.t 119) (.k (.bool false)))⟩, ⟨(some 6), none, (.mv (.t 120))⟩]) .ret))))
def r11_11 : C := (.seq (.reg none [⟨(some 73), none, (.mv (.t 14))⟩, ⟨(some 74), none, (.bin .mul [] (.k (.int .i64 8)) (.t 73))⟩, ⟨(some 75), none, (.mv (.t 2))⟩, ⟨(some 76), none, (.cvt (.int .i64) (.t 75))⟩, ⟨(some 77), none, (.mv (.t 12))⟩, ⟨(some 78), none, (.len 1 (.t 77))⟩, ⟨(some 79), none, (.mv (.t 14))⟩, ⟨(some 80), none, (.bin .sub [] (.t 78) (.t 79))⟩, ⟨(some 81), none, (.bin .mul [] (.k (.int .i64 8)) (.t 80))⟩, ⟨(some 82), none, (.bin .rem [] (.t 76) (.t 81))⟩, ⟨(some 83), none, (.bin .add [] (.t 74) (.t 82))⟩, ⟨(some 15), none, (.mv (.t 83))⟩]) r11_12)
def r11_8 : C := (.seq (.reg none [⟨(some 14), none, (.mv (.k (.int .i64 1)))⟩]) (.seq (.seq (.reg none [⟨(some 61), none, (.mv (.t 12))⟩, ⟨(some 62), none, (.ia none 1 false (.t 61) (.k (.int .i64 0)))⟩, ⟨(some 63), none, (.ld none (.t 62))⟩, ⟨(some 64), none, (.bin .geq [] (.t 63) (.k (.int .u8 128)))⟩]) (.cond (.t 64) (.reg none [⟨(some 14), none, (.mv (.k (.int .i64 2)))⟩]) .skip)) (.seq (.seq (.reg none [⟨(some 65), none, (.mv (.t 14))⟩, ⟨(some 66), none, (.bin .eql [] (.t 65) (.k (.int .i64 2)))⟩, ⟨(some 67), none, (.mv (.t 66))⟩, ⟨(some 68), (some ((some 67), true)), (.mv (.t 12))⟩, ⟨(some 69), (some ((some 67), true)), (.ia none 1 false (.t 68) (.k (.int .i64 1)))⟩, ⟨(some 70), (some ((some 67), true)), (.ld none (.t 69))⟩, ⟨(some 71), (some ((some 67), true)), (.bin .geq [] (.t 70) (.k (.int .u8 128)))⟩, ⟨(some 72), none, (.pick (.t 67) (.t 71) (.k (.bool false)))⟩]) (.cond (.t 72) (.reg none [⟨(some 14), none, (.mv (.k (.int .i64 3)))⟩]) .skip)) r11_11)))
def r11_6 : C := (.seq (.reg none [⟨(some 49), none, (.mv (.t 8))⟩, ⟨(some 50), none, (.mv (.t 9))⟩, ⟨(some 51), none, (.call (.f 26) [(.t 49), (.t 50)])⟩, ⟨(some 48), none, (.mv (.t 51))⟩, ⟨(some 52), none, (.ext (.t 48) 0)⟩, ⟨(some 53), none, (.ext (.t 48) 1)⟩, ⟨(some 12), none, (.mv (.t 52))⟩, ⟨(some 13), none, (.mv (.t 53))⟩]) (.seq (.seq (.reg none [⟨(some 54), none, (.mv (.t 13))⟩, ⟨(some 55), none, (.un .not (.t 54))⟩, ⟨(some 56), none, (.mv (.t 55))⟩, ⟨(some 57), (some ((some 56), false)), (.mv (.t 12))⟩, ⟨(some 58), (some ((some 56), false)), (.len 1 (.t 57))⟩, ⟨(some 59), (some ((some 56), false)), (.bin .lss [] (.t 58) (.k (.int .i64 8)))⟩, ⟨(some 60), none, (.pick (.t 56) (.k (.bool true)) (.t 59))⟩]) (.cond (.t 60) (.seq (.reg none [⟨(some 6), none, (.mv (.k (.bool false)))⟩]) .ret) .skip)) r11_8))
def c11 : Fn' := ⟨121, [(.tmp 6)], (.seq (.reg none [⟨(some 6), none, (.mv (.k (.bool false)))⟩]) (.seq (.reg none [⟨(some 20), none, (.call (.f 24) [])⟩, ⟨(some 7), none, (.mv (.t 20))⟩]) (.seq (.reg none [⟨(some 21), none, (.mv (.t 0))⟩, ⟨(some 22), none, (.cvt (.int .i64) (.t 21))⟩, ⟨(some 23), none, (.bin .rem [] (.t 22) (.k (.int .i64 3)))⟩, ⟨(some 24), none, (.bin .add [] (.k (.int .i64 1)) (.t 23))⟩, ⟨(some 8), none, (.mv (.t 24))⟩]) (.seq (.reg none [⟨(some 25), none, (.bsl true 2 0 [(.int .i64 0), (.str [])] [])⟩, ⟨(some 9), none, (.mv (.t 25))⟩]) (.seq (.reg none [⟨(some 26), none, (.mv (.t 1))⟩, ⟨(some 27), none, (.call (.f 25) [(.t 26)])⟩, ⟨(some 1), none, (.mv (.t 27))⟩]) (.seq (.seq (.reg none [⟨(some 10), none, (.mv (.k (.int .i64 0)))⟩]) (.block 0 (.loop b11_0))) r11_6))))))⟩
theorem k11 : compF Try.prog 11 = some c11 := by kernel_rfl
attribute [local simp] op_or op_an op_add op_sub op_mul oq_eql oq_neq oq_lss oq_gtr oq_leq oq_geq op_rm op_qu op_xr
attribute [-simp] intOp bin_shl bin_shr D.cells
attribute [local simp ↓] List.forall_mem_map
/-- What fits. -/
theorem fit_ok (k : Int) (hk : 1 ≤ k ∧ k ≤ 3) (v : List Va) (hv : v.length ≤ 60) : blockOk k (v.filter (fitsI k)) = true := by
  rw [blockOk_eq]
  refine ⟨(kind_eq k).2 hk, ?_, fun p hp => (List.mem_filter.1 hp).2⟩
  have := List.length_filter_le (fitsI k) v
  omega
theorem fit_i64 {k : Int} {v : List Va} (h : ∀ p ∈ v, i64R p.1) : ∀ p ∈ v.filter (fitsI k), i64R p.1 := fun p hp => h p (List.mem_filter.1 hp).1
def t11 (a b : Int) (c : Bool) (s : Nat) (l v : List Va) (k : Int) (n i : Nat) : List D := [.int .u8 a, .slc false 2 (v.map Va.d), .int .u16 b, .undef, .undef, .undef, .bool false, .bool true, .int .i64 k, .sl 0 0 n n, .int .i64 i, .undef, .undef, .undef, .undef, .undef, .undef, .undef, .undef, .undef, .bool true, .int .u8 a, .int .i64 a, .int .i64 (a.tmod 3), .int .i64 k, .sl 0 0 0 0, .slc c s (l.map Va.d), .slc false 2 (v.map Va.d), .undef, .undef, .undef, .undef, .undef, .undef, .undef, .undef, .undef, .undef, .undef, .undef, .undef, .undef, .undef, .undef, .undef, .undef, .undef, .undef, .undef, .undef, .undef, .undef, .undef, .undef, .undef, .undef, .undef, .undef, .undef, .undef, .undef, .undef, .undef, .undef, .undef, .undef, .undef, .undef, .undef, .undef, .undef, .undef, .undef, .undef, .undef, .undef, .undef, .undef, .undef, .undef, .undef, .undef, .undef, .undef, .undef, .undef, .undef, .undef, .undef, .undef, .undef, .undef, .undef, .undef, .undef, .undef, .undef, .undef, .undef, .undef, .undef, .undef, .undef, .undef, .undef, .undef, .undef, .undef, .undef, .undef, .undef, .undef, .undef, .undef, .undef, .undef, .undef, .undef, .undef, .undef, .undef]
set_option maxHeartbeats 4000000 in
theorem L11 (a b : Int) (c : Bool) (s : Nat) (l v : List Va) (k : Int) (hv : v.length ≤ 60) : ∀ (t pre acc : List Va) (n i : Nat), v = pre ++ t → i = pre.length → n = acc.length → acc.length ≤ i →
    LpB cf0 K0 b11_0 (t11 a b c s l v k 0 0) 1 ⟨t11 a b c s l v k n i, [.row 2 (acc.map Va.d) 0]⟩ = some (.exit 0, ⟨t11 a b c s l v k (acc ++ t.filter (fitsI k)).length v.length, [.row 2 ((acc ++ t.filter (fitsI k)).map Va.d) 0]⟩)
  | [], pre, acc, n, i, he, hi, hn, ha => by
    have : v = pre := by simpa using he
    subst this
    have z1 : ltI (i : Int) v.length = false := ltI_f (by omega)
    rw [LpB_eq]
    simp only [t11]
    conv => lhs; arg 6; simp [b11_0, z1]
    simp [hi, hn]
  | (m, x) :: t, pre, acc, n, i, he, hi, hn, ha => by
    have hll : i < v.length := by rw [he, hi]; simp
    have z1 : ltI (i : Int) v.length = true := ltI_t (by omega)
    have hget : v[i]? = some (m, x) := by rw [he, hi]; simp
    have hgi : v[i]'hll = (m, x) := by rw [List.getElem?_eq_getElem hll] at hget; exact Option.some.inj hget
    have hw := w64 (i + 1) (by omega)
    have hK := K31 k (m, x)
    simp only [Va.d] at hK
    have hb1 : (acc.length + 1) * 24 ≤ 70368744177664 := by omega
    rw [LpB_eq]
    cases hf : fitsI k (m, x) with
    | false =>
      have ih := L11 a b c s l v k hv t (pre ++ [(m, x)]) acc n (i + 1) (by rw [he]; simp) (by simp [hi]) hn (by omega)
      rw [List.filter_cons_of_neg (by rw [hf]; simp)]
      rw [hf] at hK
      generalize t.filter (fitsI k) = g at *
      simp only [t11] at ih ⊢
      conv => lhs; arg 6; simp [b11_0, z1, hll, hgi, hK, hw, Va.d]
      simp at ih ⊢
      exact ih
    | true =>
      have ih := L11 a b c s l v k hv t (pre ++ [(m, x)]) (acc ++ [(m, x)]) (n + 1) (i + 1) (by rw [he]; simp) (by simp [hi]) (by simp [hn]) (by simp; omega)
      rw [List.filter_cons_of_pos hf, show acc ++ (m, x) :: t.filter (fitsI k) = acc ++ [(m, x)] ++ t.filter (fitsI k) by simp]
      rw [hf] at hK
      have hd : (Va.d (m, x)) = .agg [.int .i64 m, .str x] := rfl
      generalize t.filter (fitsI k) = g at *
      subst hn
      simp only [t11] at ih ⊢
      conv => lhs; arg 6; simp [b11_0, z1, hll, hgi, hK, hw, Va.d, hb1]
      simp [hd] at ih ⊢
      exact ih
theorem xor_turn : ∀ (x : Fin 256) (m : Fin 8), ¬ xorI .u8 (x.val : Int) (IntKind.u8.wrap (2 ^ (m.val))) = (x.val : Int) ∧ 0 ≤ xorI .u8 (x.val : Int) (IntKind.u8.wrap (2 ^ (m.val))) ∧ xorI .u8 (x.val : Int) (IntKind.u8.wrap (2 ^ (m.val))) < 256 := by decide +kernel
set_option maxHeartbeats 8000000 in
theorem R11d {v0 v1 v2 v3 v4 v5 v9 v10 v11 v13 v14 v20 v21 v22 v23 v24 v25 v26 v27 v28 v29 v30 v31 v32 v33 v34 v35 v36 v37 v38 v39 v40 v41 v42 v43 v44 v45 v46 v47 v48 v49 v50 v51 v52 v53 v54 v55 v56 v57 v58 v59 v60 v61 v62 v63 v64 v65 v66 v67 v68 v69 v70 v71 v72 v73 v74 v75 v76 v77 v78 v79 v80 v81 v82 v83 : D} {o : Obj} (k : Int) (v : List Va) (hok : blockOk k v = true) (Y : List Int) (hY : Y = blockI k v) (q : Nat) (h1 : (putI (k :: colI k v).length).length ≤ q / 8) (h2 : q / 8 < Y.length) :
    finK false 0 [.tmp 6] (Ek cf0 K0 [.c r11_12] ⟨[v0, v1, v2, v3, v4, v5, .bool false, .bool true, .int .i64 k, v9, v10, v11, .slc false 1 (Y.map (.int .u8)), v13, v14, .int .i64 q, .undef, .undef, .undef, .undef, v20, v21, v22, v23, v24, v25, v26, v27, v28, v29, v30, v31, v32, v33, v34, v35, v36, v37, v38, v39, v40, v41, v42, v43, v44, v45, v46, v47, v48, v49, v50, v51, v52, v53, v54, v55, v56, v57, v58, v59, v60, v61, v62, v63, v64, v65, v66, v67, v68, v69, v70, v71, v72, v73, v74, v75, v76, v77, v78, v79, v80, v81, v82, v83, .undef, .undef, .undef, .undef, .undef, .undef, .undef, .undef, .undef, .undef, .undef, .undef, .undef, .undef, .undef, .undef, .undef, .undef, .undef, .undef, .undef, .undef, .undef, .undef, .undef, .undef, .undef, .undef, .undef, .undef, .undef, .undef, .undef, .undef, .undef, .undef, .undef], [o]⟩) = some (.bool true, []) := by
  obtain ⟨hY1, hY5, hYB⟩ := block_len hok
  have ht := take_turn k v hok (q / 8) h1 (by rw [← hY]; exact h2)
  rw [← hY] at hY1 hY5 hYB
  simp only [← hY] at ht
  obtain ⟨j, hj⟩ : ∃ j, q / 8 = j := ⟨_, rfl⟩
  obtain ⟨m, hm⟩ : ∃ m, q % 8 = m := ⟨_, rfl⟩
  have hm8 : m < 8 := by omega
  simp only [hj] at ht h2
  obtain ⟨x, hx⟩ : ∃ x, Y[j]'h2 = x := ⟨_, rfl⟩
  have hxB := hYB x (by rw [← hx]; exact List.getElem_mem h2)
  have hxx := xor_turn ⟨x.toNat, by omega⟩ ⟨m, hm8⟩
  simp only at hxx
  rw [show ((x.toNat : Nat) : Int) = x by omega] at hxx
  obtain ⟨nb, hnb⟩ : ∃ nb, xorI .u8 x (IntKind.u8.wrap (2 ^ m)) = nb := ⟨_, rfl⟩
  rw [hnb] at hxx
  have h28 := K28 k false (Y.set j nb) (by simp; omega) (fun y hy => by
    rcases List.mem_or_eq_of_mem_set hy with h | h
    · exact hYB y h
    · rw [h]; exact hxx.2)
  rw [ht nb hxx.2 (by rw [hx]; exact fun e => hxx.1 e.symm) k] at h28
  simp only [cvV_nil] at h28
  have hset : (Y.map (D.int .u8)).set j (.int .u8 nb) = (Y.set j nb).map (.int .u8) := (List.map_set).symm
  have hsl : (Y.set j nb).length = Y.length := List.length_set
  have hq : IntKind.i64.wrap ((q : Int) / 8) = (j : Int) := by rw [IntKind.wrap_i64]; omega
  have hqt : IntKind.i64.wrap ((q : Int).tdiv 8) = (j : Int) := by rw [Int.tdiv_eq_ediv_of_nonneg (by omega)]; exact hq
  have hr : (q : Int).tmod 8 = (m : Int) := by rw [Int.tmod_eq_emod_of_nonneg (by omega)]; omega
  have hm0 : ((m : Int) < 0) = False := eq_false (by omega)
  have hbits : min m IntKind.u8.bits = m := by
    have : IntKind.u8.bits = 8 := rfl
    rw [this]; omega
  have hlS : (Y.map (D.int .u8)).length = Y.length := List.length_map _
  have hge : (Y.map (D.int .u8))[j]'(by rw [hlS]; exact h2) = .int .u8 x := by rw [List.getElem_map, hx]
  have hYn : ¬ Y = [] := by intro e; subst e; simp at h2
  have b0 : Y.length ≤ 70368744177664 := by omega
  have z1 : eqI 0 0 = true := rfl
  have z2 : eqI 11 11 = true := rfl
  clear ht hxx hY
  generalize hZ : Y.set j nb = Z at *
  simp [r11_12, hYn, hx, b0, hq, hqt, hr, hm0, hbits, h2, hnb, hset, hsl, h28, z1, z2, List.take_of_length_le, evOp, evM, wants, Ins.go, X.ev, iaM, ldM, binD, setD, applyW, Ek_ops_nil, allFree, free, callM, callP, appM]
set_option maxHeartbeats 8000000 in
theorem R11c {v0 v1 v3 v4 v5 v9 v10 v11 v13 v20 v21 v22 v23 v24 v25 v26 v27 v28 v29 v30 v31 v32 v33 v34 v35 v36 v37 v38 v39 v40 v41 v42 v43 v44 v45 v46 v47 v48 v49 v50 v51 v52 v53 v54 v55 v56 v57 v58 v59 v60 v61 v62 v63 v64 v65 v66 v67 v68 v69 v70 v71 v72 : D} {o : Obj} (b : Int) (hb : 0 ≤ b ∧ b < 65536) (k : Int) (v : List Va) (hok : blockOk k v = true) (Y : List Int) (hY : Y = blockI k v) (f : Nat) (hf : f = (putI (k :: colI k v).length).length) :
    finK false 0 [.tmp 6] (Ek cf0 K0 [.c r11_11] ⟨[v0, v1, .int .u16 b, v3, v4, v5, .bool false, .bool true, .int .i64 k, v9, v10, v11, .slc false 1 (Y.map (.int .u8)), v13, .int .i64 f, .undef, .undef, .undef, .undef, .undef, v20, v21, v22, v23, v24, v25, v26, v27, v28, v29, v30, v31, v32, v33, v34, v35, v36, v37, v38, v39, v40, v41, v42, v43, v44, v45, v46, v47, v48, v49, v50, v51, v52, v53, v54, v55, v56, v57, v58, v59, v60, v61, v62, v63, v64, v65, v66, v67, v68, v69, v70, v71, v72, .undef, .undef, .undef, .undef, .undef, .undef, .undef, .undef, .undef, .undef, .undef, .undef, .undef, .undef, .undef, .undef, .undef, .undef, .undef, .undef, .undef, .undef, .undef, .undef, .undef, .undef, .undef, .undef, .undef, .undef, .undef, .undef, .undef, .undef, .undef, .undef, .undef, .undef, .undef, .undef, .undef, .undef, .undef, .undef, .undef, .undef, .undef, .undef], [o]⟩) = some (.bool true, []) := by
  obtain ⟨hY1, hY5, hYB⟩ := block_len hok
  have hfl := frameI_len (k :: colI k v)
  have hYe : (blockI k v).length = f + 4 + (k :: colI k v).length := by rw [hf]; exact hfl
  rw [← hY] at hY1 hY5 hYe
  simp only [List.length_cons] at hYe
  have hwb : IntKind.i64.wrap b = b := w64 _ (by omega)
  obtain ⟨w, hw⟩ : ∃ w, Y.length - f = w := ⟨_, rfl⟩
  obtain ⟨f8, hf8⟩ : ∃ w, 8 * f = w := ⟨_, rfl⟩
  obtain ⟨w8, hw8⟩ : ∃ x, 8 * w = x := ⟨_, rfl⟩
  have h0 := Int.tmod_nonneg (w8 : Int) hb.1
  have h3 := Int.tmod_lt_of_pos b (show (0 : Int) < w8 by omega)
  obtain ⟨m, hm⟩ : ∃ m : Nat, b.tmod (w8 : Int) = m := ⟨(b.tmod (w8 : Int)).toNat, by omega⟩
  have e1 : IntKind.i64.wrap (8 * (f : Int)) = (f8 : Int) := by rw [w64 _ (by omega)]; omega
  have e2 : IntKind.i64.wrap ((Y.length : Int) - f) = (w : Int) := by rw [w64 _ (by omega)]; omega
  have e3 : IntKind.i64.wrap (8 * (w : Int)) = (w8 : Int) := by rw [w64 _ (by omega)]; omega
  have e4 : IntKind.i64.wrap ((f8 : Int) + m) = ((f8 + m : Nat) : Int) := by rw [w64 _ (by omega)]; omega
  have hz : ¬ w8 = 0 := by omega
  have hR := fun {v0 v1 v2 v3 v4 v5 v9 v10 v11 v13 v14 v20 v21 v22 v23 v24 v25 v26 v27 v28 v29 v30 v31 v32 v33 v34 v35 v36 v37 v38 v39 v40 v41 v42 v43 v44 v45 v46 v47 v48 v49 v50 v51 v52 v53 v54 v55 v56 v57 v58 v59 v60 v61 v62 v63 v64 v65 v66 v67 v68 v69 v70 v71 v72 v73 v74 v75 v76 v77 v78 v79 v80 v81 v82 v83 : D} {o : Obj} => @R11d v0 v1 v2 v3 v4 v5 v9 v10 v11 v13 v14 v20 v21 v22 v23 v24 v25 v26 v27 v28 v29 v30 v31 v32 v33 v34 v35 v36 v37 v38 v39 v40 v41 v42 v43 v44 v45 v46 v47 v48 v49 v50 v51 v52 v53 v54 v55 v56 v57 v58 v59 v60 v61 v62 v63 v64 v65 v66 v67 v68 v69 v70 v71 v72 v73 v74 v75 v76 v77 v78 v79 v80 v81 v82 v83 o k v hok Y hY (f8 + m) (by rw [← hf]; omega) (by omega)
  obtain ⟨q, hq⟩ : ∃ q, f8 + m = q := ⟨_, rfl⟩
  rw [hq] at e4 hR
  clear hf hY hYe hw hf8 hw8 hq
  simp [r11_11, hwb, e1, e2, e3, e4, hm, hz]
  exact hR
theorem from_eq (d : Nat) (h : d < 2097152) (r : List Int) (hr : 1 ≤ r.length) : ∃ b0 b1 Z, putI d ++ r = b0 :: b1 :: Z ∧ (putI d).length = (if (128 : Int) ≤ b0 then if (128 : Int) ≤ b1 then 3 else 2 else 1) := by
  unfold putI
  rw [Int.toNat_natCast]
  by_cases h1 : d < 128
  · rw [putN_small h1]
    match r, hr with
    | c :: r, _ => exact ⟨d, c, r, rfl, by rw [if_neg (by omega)]; rfl⟩
  · rw [putN_big h1]
    by_cases h2 : d / 128 < 128
    · rw [putN_small h2]
      exact ⟨((d % 128 + 128 : Nat) : Int), ((d / 128 : Nat) : Int), r, rfl, by rw [if_pos (by omega), if_neg (by omega)]; rfl⟩
    · rw [putN_big h2, putN_small (by omega)]
      exact ⟨((d % 128 + 128 : Nat) : Int), ((d / 128 % 128 + 128 : Nat) : Int), _, rfl, by rw [if_pos (by omega), if_pos (by omega)]; rfl⟩
set_option maxHeartbeats 8000000 in
theorem R11b {v0 v1 v3 v4 v5 v9 v10 v11 v13 v20 v21 v22 v23 v24 v25 v26 v27 v28 v29 v30 v31 v32 v33 v34 v35 v36 v37 v38 v39 v40 v41 v42 v43 v44 v45 v46 v47 v48 v49 v50 v51 v52 v53 v54 v55 v56 v57 v58 v59 v60 : D} {o : Obj} (b : Int) (hb : 0 ≤ b ∧ b < 65536) (k : Int) (v : List Va) (hok : blockOk k v = true) (Y : List Int) (hY : Y = blockI k v) :
    finK false 0 [.tmp 6] (Ek cf0 K0 [.c r11_8] ⟨[v0, v1, .int .u16 b, v3, v4, v5, .bool false, .bool true, .int .i64 k, v9, v10, v11, .slc false 1 (Y.map (.int .u8)), v13, .undef, .undef, .undef, .undef, .undef, .undef, v20, v21, v22, v23, v24, v25, v26, v27, v28, v29, v30, v31, v32, v33, v34, v35, v36, v37, v38, v39, v40, v41, v42, v43, v44, v45, v46, v47, v48, v49, v50, v51, v52, v53, v54, v55, v56, v57, v58, v59, v60, .undef, .undef, .undef, .undef, .undef, .undef, .undef, .undef, .undef, .undef, .undef, .undef, .undef, .undef, .undef, .undef, .undef, .undef, .undef, .undef, .undef, .undef, .undef, .undef, .undef, .undef, .undef, .undef, .undef, .undef, .undef, .undef, .undef, .undef, .undef, .undef, .undef, .undef, .undef, .undef, .undef, .undef, .undef, .undef, .undef, .undef, .undef, .undef, .undef, .undef, .undef, .undef, .undef, .undef, .undef, .undef, .undef, .undef, .undef, .undef], [o]⟩) = some (.bool true, []) := by
  have hdl := data_len hok
  obtain ⟨b0, b1, Z, hZ, hf⟩ := from_eq (k :: colI k v).length (by omega) (sum4 (crcI (k :: colI k v)) ++ (k :: colI k v)) (by simp; omega)
  have hYZ : Y = b0 :: b1 :: Z := by rw [hY, ← hZ]; rfl
  have hR := fun {v0 v1 v3 v4 v5 v9 v10 v11 v13 v20 v21 v22 v23 v24 v25 v26 v27 v28 v29 v30 v31 v32 v33 v34 v35 v36 v37 v38 v39 v40 v41 v42 v43 v44 v45 v46 v47 v48 v49 v50 v51 v52 v53 v54 v55 v56 v57 v58 v59 v60 v61 v62 v63 v64 v65 v66 v67 v68 v69 v70 v71 v72 : D} {o : Obj} (f : Nat) (hf : f = (putI (k :: colI k v).length).length) => @R11c v0 v1 v3 v4 v5 v9 v10 v11 v13 v20 v21 v22 v23 v24 v25 v26 v27 v28 v29 v30 v31 v32 v33 v34 v35 v36 v37 v38 v39 v40 v41 v42 v43 v44 v45 v46 v47 v48 v49 v50 v51 v52 v53 v54 v55 v56 v57 v58 v59 v60 v61 v62 v63 v64 v65 v66 v67 v68 v69 v70 v71 v72 o b hb k v hok Y hY f hf
  rw [hf] at hR
  clear hf hZ hdl hY
  subst hYZ
  simp only [List.map_cons] at hR
  have z12 : eqI 1 2 = false := rfl
  have z22 : eqI 2 2 = true := rfl
  by_cases h0 : (128 : Int) ≤ b0
  · have z0 : leI 128 b0 = true := leI_t h0
    simp only [if_pos h0] at hR
    by_cases h1 : (128 : Int) ≤ b1
    · have z1 : leI 128 b1 = true := leI_t h1
      simp only [if_pos h1] at hR
      simp [r11_8, z0, z1, z22]
      exact hR 3 rfl
    · have z1 : leI 128 b1 = false := leI_f (by omega)
      simp only [if_neg h1] at hR
      simp [r11_8, z0, z1, z22]
      exact hR 2 rfl
  · have z0 : leI 128 b0 = false := leI_f (by omega)
    simp only [if_neg h0] at hR
    simp [r11_8, z0, z12]
    exact hR 1 rfl
theorem col_two (t : Int) (l : List Va) : 2 ≤ (colI t l).length := by
  unfold colI
  split
  · unfold textsI
    have := putI_pos ((l.map (·.2)).length : Int)
    split <;> simp only [List.length_append, List.length_cons] <;> omega
  · unfold intsI
    have := putI_pos ((l.map (·.1)).length : Int)
    split <;> simp only [List.length_append, List.length_cons] <;> omega
theorem block_8 (t : Int) (l : List Va) : 8 ≤ (blockI t l).length := by
  have h1 := frameI_len (t :: colI t l)
  have h2 := putI_pos ((t :: colI t l).length : Int)
  have h3 := col_two t l
  unfold blockI
  simp only [List.length_cons] at h1 h2 ⊢
  omega
set_option maxHeartbeats 8000000 in
theorem K11 (a : Int) (ha : 0 ≤ a ∧ a < 256) (c : Bool) (s : Nat) (hs : s = 2 ∨ False) (l : List Va) (hl : l.length ≤ 2 ^ 44) (hr : ∀ p ∈ l, i64R p.1) (b : Int) (hb : 0 ≤ b ∧ b < 65536) :
    K0 11 [.int .u8 a, .slc c s (l.map Va.d), .int .u16 b] [] = some (.bool true, []) := by
  have h25 := K25 c s l (hs.imp id False.elim) (by omega)
  have hv := few_len10 l
  generalize fewV l = v at *
  have hwa : IntKind.i64.wrap a = a := w64 _ (by omega)
  obtain ⟨k, hk⟩ : ∃ k, 1 + a.tmod 3 = k := ⟨_, rfl⟩
  have h0 := Int.tmod_nonneg 3 ha.1
  have h3 := Int.tmod_lt_of_pos a (show (0 : Int) < 3 by omega)
  have hwk : IntKind.i64.wrap k = k := w64 _ (by omega)
  have hkk : 1 ≤ k ∧ k ≤ 3 := by omega
  have hL := L11 a b c s l v k hv v [] [] 0 0 rfl rfl rfl (Nat.le_refl _)
  rw [List.nil_append] at hL
  have hok := fit_ok k hkk v hv
  have hfl := List.length_filter_le (fitsI k) v
  generalize v.filter (fitsI k) = w at *
  have h26 := K26 false 2 k (by unfold i64R; omega) w (.inl rfl) (by omega)
  rw [hok] at h26
  simp only [if_true] at h26
  have h8 := block_8 k w
  have hR := fun {v0 v1 v3 v4 v5 v9 v10 v11 v13 v20 v21 v22 v23 v24 v25 v26 v27 v28 v29 v30 v31 v32 v33 v34 v35 v36 v37 v38 v39 v40 v41 v42 v43 v44 v45 v46 v47 v48 v49 v50 v51 v52 v53 v54 v55 v56 v57 v58 v59 v60 : D} {o : Obj} => @R11b v0 v1 v3 v4 v5 v9 v10 v11 v13 v20 v21 v22 v23 v24 v25 v26 v27 v28 v29 v30 v31 v32 v33 v34 v35 v36 v37 v38 v39 v40 v41 v42 v43 v44 v45 v46 v47 v48 v49 v50 v51 v52 v53 v54 v55 v56 v57 v58 v59 v60 o b hb k w hok (blockI k w) rfl
  generalize blockI k w = Y at *
  have z1 : ltI (Y.length : Int) 8 = false := ltI_f (by omega)
  simp only [t11] at hL
  simp at hL
  refine K_call k11 (oraG_none (by decide) (by decide)) (by simp [c11]) ?_
  simp [c11, K24, h25, hwa, hk, hwk]
  rw [hL]
  simp [r11_6, h26, z1, List.take_of_length_le]
  exact hR
end Go.Ab
