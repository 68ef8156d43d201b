/- THE FUNCTIONS' EQUATIONS: thresherlaw07.BlockRefuses. -/
import Derived.Test.YtanfmnobanhcnaaBPBlk
import Derived.Test.YtanfmnobanhcnaaBF26
import Derived.Test.YtanfmnobanhcnaaBF60
import Derived.Test.YtanfmnobanhcnaaBCel
set_option linter.all false
set_option maxRecDepth 100000
namespace Go.Ab
open Go.Proofs Go.Proofs.YtanfmnobanhcnaaH Go.Proofs.YtanfmnobanhcnaaH.Crc Go.Proofs.YtanfmnobanhcnaaH.Var Go.Proofs.YtanfmnobanhcnaaH.Fr
def r13_11 : C := (.seq (.reg none [⟨(some 79), none, (.mv (.t 7))⟩, ⟨(some 80), none, (.mv (.t 79))⟩, ⟨(some 81), (some ((some 80), true)), (.mv (.t 13))⟩, ⟨(some 82), (some ((some 80), true)), (.un .not (.t 81))⟩, ⟨(some 83), none, (.pick (.t 80) (.t 82) (.k (.bool false)))⟩, ⟨(some 84), none, (.mv (.t 83))⟩, ⟨(some 85), (some ((some 84), true)), (.mv (.t 15))⟩, ⟨(some 86), (some ((some 84), true)), (.mv (.t 16))⟩, ⟨(some 87), (some ((some 84), true)), (.bin .eql [3] (.t 85) (.t 86))⟩, ⟨(some 88), none, (.pick (.t 84) (.t 87) (.k (.bool false)))⟩, ⟨(some 89), none, (.mv (.t 88))⟩, ⟨(some 90), (some ((some 89), true)), (.mv (.t 17))⟩, ⟨(some 91), (some ((some 89), true)), (.len 1 (.t 90))⟩, ⟨(some 92), (some ((some 89), true)), (.bin .eql [] (.t 91) (.k (.int .i64 0)))⟩, ⟨(some 93), none, (.pick (.t 89) (.t 92) (.k (.bool false)))⟩, ⟨(some 94), none, (.mv (.t 93))⟩, ⟨(some 95), (some ((some 94), true)), (.mv (.t 18))⟩, ⟨(some 96), (some ((some 94), true)), (.bin .eql [] (.t 95) (.k (.int .i64 0)))⟩, ⟨(some 97), none, (.pick (.t 94) (.t 96) (.k (.bool false)))⟩, ⟨(some 98), none, (.mv (.t 97))⟩, ⟨(some 99), (some ((some 98), true)), (.mv (.t 19))⟩, ⟨(some 100), (some ((some 98), true)), (.bin .eql [] (.t 99) (.k (.int .i64 10)))⟩, ⟨(some 101), none, (.pick (.t 98) (.t 100) (.k (.bool false)))⟩, ⟨(some 102), none, (.mv (.t 101))⟩, ⟨(some 103), (some ((some 102), true)), (.mv (.t 20))⟩, ⟨(some 104), (some ((some 102), true)), (.len 1 (.t 103))⟩, ⟨(some 105), (some ((some 102), true)), (.bin .eql [] (.t 104) (.k (.int .i64 0)))⟩, ⟨(some 106), none, (.pick (.t 102) (.t 105) (.k (.bool false)))⟩, ⟨(some 107), none, (.mv (.t 106))⟩, ⟨(some 108), (some ((some 107), true)), (.mv (.t 21))⟩, ⟨(some 109), (some ((some 107), true)), (.bin .eql [] (.t 108) (.k (.int .i64 0)))⟩, ⟨(some 110), none, (.pick (.t 107) (.t 109) (.k (.bool false)))⟩, ⟨(some 111), none, (.mv (.t 110))⟩, ⟨(some 112), (some ((some 111), true)), (.mv (.t 22))⟩, ⟨(some 113), (some ((some 111), true)), (.bin .eql [] (.t 112) (.k (.int .i64 10)))⟩, ⟨(some 114), none, (.pick (.t 111) (.t 113) (.k (.bool false)))⟩, ⟨(some 6), none, (.mv (.t 114))⟩]) .ret)
def r13_8 : C := (.seq (.reg none [⟨(some 56), none, (.mv (.t 2))⟩, ⟨(some 57), none, (.bin .geq [] (.t 56) (.k (.int .i64 1)))⟩, ⟨(some 58), none, (.mv (.t 57))⟩, ⟨(some 59), (some ((some 58), true)), (.mv (.t 2))⟩, ⟨(some 60), (some ((some 58), true)), (.bin .leq [] (.t 59) (.k (.int .i64 3)))⟩, ⟨(some 61), none, (.pick (.t 58) (.t 60) (.k (.bool false)))⟩, ⟨(some 16), none, (.mv (.t 61))⟩]) (.seq (.reg none [⟨(some 63), none, (.mv (.t 2))⟩, ⟨(some 64), none, (.call (.f 32) [(.k nilS)])⟩, ⟨(some 65), none, (.call (.f 28) [(.t 63), (.t 64)])⟩, ⟨(some 62), none, (.mv (.t 65))⟩, ⟨(some 66), none, (.ext (.t 62) 0)⟩, ⟨(some 67), none, (.ext (.t 62) 1)⟩, ⟨(some 68), none, (.ext (.t 62) 2)⟩, ⟨(some 17), none, (.mv (.t 66))⟩, ⟨(some 18), none, (.mv (.t 67))⟩, ⟨(some 19), none, (.mv (.t 68))⟩]) (.seq (.reg none [⟨(some 70), none, (.mv (.t 2))⟩, ⟨(some 71), none, (.mv (.t 2))⟩, ⟨(some 72), none, (.cvt (.int .u8) (.t 71))⟩, ⟨(some 73), none, (.bsl false 1 2 [(.int .u8 0)] [(0, (.t 72)), (1, (.k (.int .u8 0)))])⟩, ⟨(some 74), none, (.call (.f 32) [(.t 73)])⟩, ⟨(some 75), none, (.call (.f 28) [(.t 70), (.t 74)])⟩, ⟨(some 69), none, (.mv (.t 75))⟩, ⟨(some 76), none, (.ext (.t 69) 0)⟩, ⟨(some 77), none, (.ext (.t 69) 1)⟩, ⟨(some 78), none, (.ext (.t 69) 2)⟩, ⟨(some 20), none, (.mv (.t 76))⟩, ⟨(some 21), none, (.mv (.t 77))⟩, ⟨(some 22), none, (.mv (.t 78))⟩]) r13_11)))
def r13_6 : C := (.seq (.reg none [⟨(some 46), none, (.mv (.t 2))⟩, ⟨(some 47), none, (.mv (.t 11))⟩, ⟨(some 48), none, (.call (.f 26) [(.t 46), (.t 47)])⟩, ⟨(some 45), none, (.mv (.t 48))⟩, ⟨(some 49), none, (.ext (.t 45) 0)⟩, ⟨(some 50), none, (.ext (.t 45) 1)⟩, ⟨(some 12), none, (.mv (.t 49))⟩, ⟨(some 13), none, (.mv (.t 50))⟩]) (.seq (.reg none [⟨(some 52), none, (.mv (.t 2))⟩, ⟨(some 53), none, (.call (.f 26) [(.t 52), (.k nilS)])⟩, ⟨(some 51), none, (.mv (.t 53))⟩, ⟨(some 54), none, (.ext (.t 51) 0)⟩, ⟨(some 55), none, (.ext (.t 51) 1)⟩, ⟨(some 14), none, (.mv (.t 54))⟩, ⟨(some 15), none, (.mv (.t 55))⟩]) r13_8))
def c13 : Fn' := ⟨115, [(.tmp 6)], (.seq (.reg none [⟨(some 6), none, (.mv (.k (.bool false)))⟩]) (.seq (.reg none [⟨(some 23), none, (.call (.f 24) [])⟩, ⟨(some 7), none, (.mv (.t 23))⟩]) (.seq (.reg none [⟨(some 24), none, (.mv (.t 0))⟩, ⟨(some 25), none, (.call (.f 25) [(.t 24)])⟩, ⟨(some 8), none, (.mv (.t 25))⟩]) (.seq (.reg none [⟨(some 26), none, (.bld [(.int .i64 0), (.str [])] [(0, (1, (.k (.int .i64 1)))), (1, (1, (.k (.str [120]))))])⟩, ⟨(some 9), none, (.alloc false [(.int .i64 0), (.str [])])⟩, ⟨none, none, (.st 2 (.t 9) (.t 26))⟩]) (.seq (.reg none [⟨(some 27), none, (.mv (.t 1))⟩, ⟨(some 28), none, (.cvt (.int .i64) (.t 27))⟩, ⟨(some 29), none, (.mv (.t 8))⟩, ⟨(some 30), none, (.len 1 (.t 29))⟩, ⟨(some 31), none, (.bin .add [] (.t 30) (.k (.int .i64 1)))⟩, ⟨(some 32), none, (.bin .rem [] (.t 28) (.t 31))⟩, ⟨(some 10), none, (.mv (.t 32))⟩]) (.seq (.reg (some [(0, 3), (0, 5), (3, 5), (4, 5), (0, 6), (3, 6), (4, 6), (0, 10), (3, 10), (4, 10), (5, 10), (6, 10), (7, 10)]) [⟨(some 33), none, (.bsl false 2 0 [(.int .i64 0), (.str [])] [])⟩, ⟨(some 34), none, (.mv (.t 8))⟩, ⟨(some 35), none, (.mv (.t 10))⟩, ⟨(some 36), none, (.sub 1 2 (.t 34) none (some (.t 35)) none)⟩, ⟨(some 37), none, (.app 2 24 (.t 33) (.t 36))⟩, ⟨(some 38), none, (.ld (some 2) (.t 9))⟩, ⟨(some 39), none, (.bsl false 2 1 [(.int .i64 0), (.str [])] [(0, (.t 38))])⟩, ⟨(some 40), none, (.app 2 24 (.t 37) (.t 39))⟩, ⟨(some 41), none, (.mv (.t 8))⟩, ⟨(some 42), none, (.mv (.t 10))⟩, ⟨(some 43), none, (.sub 1 2 (.t 41) (some (.t 42)) none none)⟩, ⟨(some 44), none, (.app 2 24 (.t 40) (.t 43))⟩, ⟨(some 11), none, (.mv (.t 44))⟩]) r13_6))))))⟩
theorem k13 : compF Try.prog 13 = some c13 := by kernel_rfl
attribute [local simp] op_or op_an op_add op_sub op_mul oq_eql oq_neq oq_lss oq_gtr oq_leq oq_geq op_rm
attribute [-simp] intOp bin_shl bin_shr D.cells
attribute [local simp ↓] List.forall_mem_map
theorem few_len (l : List Va) : (fewV l).length ≤ 60 := by unfold fewV; simp; omega
theorem odd_fits (t : Int) : fitsI t (1, [120]) = false := by
  unfold fitsI
  split
  · rfl
  · split <;> rfl
theorem odd_not (t : Int) (a b : List Va) : blockOk t (a ++ (1, [120]) :: b) = false := by
  cases h : blockOk t (a ++ (1, [120]) :: b) with
  | false => rfl
  | true => exact absurd (((blockOk_eq _ _).1 h).2.2 (1, [120]) (by simp)) (by rw [odd_fits]; decide)
theorem none_ok (t : Int) : blockOk t [] = kindI t := by unfold blockOk; simp
set_option maxHeartbeats 2000000 in
/-- crc.Sum, crc.Frame of nothing. -/
theorem K68n : K0 68 [nilS] [] = some (.int .u32 (sumW []), []) := by
  refine K_call k68 (oraG_none (by decide) (by decide)) (by simp [c68]) ?_
  have z1 : ltI 0 0 = false := rfl
  simp [c68]
  rw [LpB_eq]
  have e : (-1 % 2 ^ IntKind.u32.bits : Int).toNat = 4294967295 % 2 ^ IntKind.u32.bits := by decide
  simp [b68_0, z1, sumW, xorI, IntKind.signed, IntKind.max, e]
set_option maxHeartbeats 2000000 in
theorem K32n : K0 32 [nilS] [] = some (.slc false 1 ((frameI []).map (.int .u8)), []) := by
  rw [← frameW_eq [] isB_nil (by simp)]
  refine K_call k32 (oraG_none (by decide) (by decide)) (by simp [c32]) ?_
  have hw : IntKind.u64.wrap 0 = 0 := by decide
  have h1 := K66 0 (by omega)
  have h3 := K67 (sumW []) (wrap32 _)
  have hp : (putW 0).length ≤ 10 := by have := pre7_len 9 0; simp [putW]; omega
  have h4 := K60 true [(false, 1, putW 0), (false, 1, (le8 (sumW [])).take 4), (true, 0, [])] (by simp [tot, le8]; omega) (by simp)
  simp only [List.map_cons, List.map_nil, Ro.d, cat, List.flatten_cons, List.flatten_nil, List.append_nil] at h4
  simp [c32, hw, h1, K68n, h3]
  simp at h4
  simp [h4, frameW]
theorem bool_eq (a b : Bool) : binD .eql [3] (.bool a) (.bool b) = some (.bool (a == b)) := rfl
theorem bool_ne (a b : Bool) : binD .neq [3] (.bool a) (.bool b) = some (.bool !(a == b)) := rfl
attribute [local simp] bool_eq bool_ne
set_option maxHeartbeats 8000000 in
theorem R13c {v0 v1 v2 v3 v4 v5 v8 v9 v10 v11 v12 v14 v23 v24 v25 v26 v27 v28 v29 v30 v31 v32 v33 v34 v35 v36 v37 v38 v39 v40 v41 v42 v43 v44 v45 v46 v47 v48 v49 v50 v51 v52 v53 v54 v55 v56 v57 v58 v59 v60 v61 v62 v63 v64 v65 v66 v67 v68 v69 v70 v71 v72 v73 v74 v75 v76 v77 v78 : D} {Hh : List Obj} (w : Bool) : finK false 0 [.tmp 6] (Ek cf0 K0 [.c r13_11] ⟨[v0, v1, v2, v3, v4, v5, .bool false, .bool true, v8, v9, v10, v11, v12, .bool false, v14, .bool w, .bool w, nilS, .int .i64 0, .int .i64 10, nilS, .int .i64 0, .int .i64 10, v23, v24, v25, v26, v27, v28, v29, v30, v31, v32, v33, v34, v35, v36, v37, v38, v39, v40, v41, v42, v43, v44, v45, v46, v47, v48, v49, v50, v51, v52, v53, v54, v55, v56, v57, v58, v59, v60, v61, v62, v63, v64, v65, v66, v67, v68, v69, v70, v71, v72, v73, v74, v75, v76, v77, v78, .undef, .undef, .undef, .undef, .undef, .undef, .undef, .undef, .undef, .undef, .undef, .undef, .undef, .undef, .undef, .undef, .undef, .undef, .undef, .undef, .undef, .undef, .undef, .undef, .undef, .undef, .undef, .undef, .undef, .undef, .undef, .undef, .undef, .undef, .undef, .undef], Hh⟩) = some (.bool true, []) := by
  have z1 : eqI 0 0 = true := rfl
  have z2 : eqI 10 10 = true := rfl
  simp [r13_11, z1, z2]
set_option maxHeartbeats 8000000 in
theorem R13b {v0 v1 v3 v4 v5 v8 v9 v10 v11 v12 v14 v23 v24 v25 v26 v27 v28 v29 v30 v31 v32 v33 v34 v35 v36 v37 v38 v39 v40 v41 v42 v43 v44 v45 v46 v47 v48 v49 v50 v51 v52 v53 v54 v55 : D} {Hh : List Obj} (t : Int) (ht : i64R t) : finK false 0 [.tmp 6] (Ek cf0 K0 [.c r13_8] ⟨[v0, v1, .int .i64 t, v3, v4, v5, .bool false, .bool true, v8, v9, v10, v11, v12, .bool false, v14, .bool (kindI t), .undef, .undef, .undef, .undef, .undef, .undef, .undef, v23, v24, v25, v26, v27, v28, v29, v30, v31, v32, v33, v34, v35, v36, v37, v38, v39, v40, v41, v42, v43, v44, v45, v46, v47, v48, v49, v50, v51, v52, v53, v54, v55, .undef, .undef, .undef, .undef, .undef, .undef, .undef, .undef, .undef, .undef, .undef, .undef, .undef, .undef, .undef, .undef, .undef, .undef, .undef, .undef, .undef, .undef, .undef, .undef, .undef, .undef, .undef, .undef, .undef, .undef, .undef, .undef, .undef, .undef, .undef, .undef, .undef, .undef, .undef, .undef, .undef, .undef, .undef, .undef, .undef, .undef, .undef, .undef, .undef, .undef, .undef, .undef, .undef, .undef, .undef, .undef, .undef, .undef, .undef], Hh⟩) = some (.bool true, []) := by
  have h32 := K32n
  have h28 := K28 t false (frameI []) (by decide +kernel) (isB_frame isB_nil)
  rw [take_nil] at h28
  have hB2 : isB [IntKind.u8.wrap t, 0] := isB_two (by rw [IntKind.wrap_u8]; omega) (by omega)
  have h32s := fun c => N32 [IntKind.u8.wrap t, 0] c hB2 (by simp)
  have h28s := K28 t false (frameI [IntKind.u8.wrap t, 0]) (by rw [frameI_len]; have := putI_len10 (([IntKind.u8.wrap t, 0] : List Int).length : Int) (by simp); simp at this ⊢; omega) (isB_frame hB2)
  rw [take_short t ht] at h28s
  simp only [cvV_nil] at h28 h28s
  generalize frameI [] = F0 at *
  generalize frameI [IntKind.u8.wrap t, 0] = F1 at *
  simp at h32s
  cases hk1 : leI 1 t with
  | false =>
    have hkk : kindI t = false := by unfold kindI; rw [hk1]; rfl
    rw [hkk]
    simp [r13_8, hk1, h32, h28, h32s, h28s]
    exact R13c false
  | true =>
    have hkk : kindI t = leI t 3 := by unfold kindI; rw [hk1]; rfl
    rw [hkk]
    cases hk3 : leI t 3 <;> simp [r13_8, hk1, hk3, h32, h28, h32s, h28s] <;> exact R13c _
set_option maxHeartbeats 8000000 in
theorem R13 {v0 v1 v3 v4 v5 v8 v9 v10 v23 v24 v25 v26 v27 v28 v29 v30 v31 v32 v33 v34 v35 v36 v37 v38 v39 v40 v41 v42 v43 v44 : D} (t : Int) (ht : i64R t) (x y : List Va) (hx : x.length ≤ 60) (hy : y.length ≤ 60) (n : Nat) (hn : n = (x ++ (1, [120]) :: y).length) :
    finK false 0 [.tmp 6] (Ek cf0 K0 [.c r13_6] ⟨[v0, v1, .int .i64 t, v3, v4, v5, .bool false, .bool true, v8, v9, v10, .sl 1 0 n n, .undef, .undef, .undef, .undef, .undef, .undef, .undef, .undef, .undef, .undef, .undef, v23, v24, v25, v26, v27, v28, v29, v30, v31, v32, v33, v34, v35, v36, v37, v38, v39, v40, v41, v42, v43, v44, .undef, .undef, .undef, .undef, .undef, .undef, .undef, .undef, .undef, .undef, .undef, .undef, .undef, .undef, .undef, .undef, .undef, .undef, .undef, .undef, .undef, .undef, .undef, .undef, .undef, .undef, .undef, .undef, .undef, .undef, .undef, .undef, .undef, .undef, .undef, .undef, .undef, .undef, .undef, .undef, .undef, .undef, .undef, .undef, .undef, .undef, .undef, .undef, .undef, .undef, .undef, .undef, .undef, .undef, .undef, .undef, .undef, .undef, .undef, .undef, .undef, .undef, .undef, .undef, .undef, .undef, .undef, .undef, .undef, .undef], [.box [.int .i64 1, .str [120]], .row 2 ((x ++ (1, [120]) :: y).map Va.d) 0]⟩) = some (.bool true, []) := by
  have h26 := K26 false 2 t ht (x ++ (1, [120]) :: y) (.inl rfl) (by simp; omega)
  rw [odd_not] at h26
  have hne : ¬ x ++ (1, [120]) :: y = [] := by simp
  generalize x ++ (1, [120]) :: y = bad at *
  have h26n := K26 true 0 t ht [] (.inr rfl) (by simp)
  rw [none_ok] at h26n
  simp only [Bool.false_eq_true, if_false] at h26
  have hR := fun {v0 v1 v3 v4 v5 v8 v9 v10 v11 v12 v14 v23 v24 v25 v26 v27 v28 v29 v30 v31 v32 v33 v34 v35 v36 v37 v38 v39 v40 v41 v42 v43 v44 v45 v46 v47 v48 v49 v50 v51 v52 v53 v54 v55 : D} {Hh : List Obj} => @R13b v0 v1 v3 v4 v5 v8 v9 v10 v11 v12 v14 v23 v24 v25 v26 v27 v28 v29 v30 v31 v32 v33 v34 v35 v36 v37 v38 v39 v40 v41 v42 v43 v44 v45 v46 v47 v48 v49 v50 v51 v52 v53 v54 v55 Hh t ht
  cases hk : kindI t with
  | false =>
    rw [hk] at h26n hR
    simp at h26n
    simp [r13_6, h26, h26n, hn, List.take_of_length_le]
    exact hR
  | true =>
    rw [hk] at h26n hR
    simp at h26n
    simp [r13_6, h26, h26n, hn, List.take_of_length_le]
    exact hR
set_option maxHeartbeats 8000000 in
theorem K13 (c : Bool) (s : Nat) (hs : s = 2 ∨ False) (l : List Va) (hl : l.length ≤ 2 ^ 44) (_ : ∀ p ∈ l, i64R p.1) (a : Int) (ha : 0 ≤ a ∧ a < 256) (t : Int) (ht : i64R t) : K0 13 [.slc c s (l.map Va.d), .int .u8 a, .int .i64 t] [] = some (.bool true, []) := by
  have h25 := K25 c s l (hs.imp id False.elim) (by omega)
  have hv := few_len l
  generalize fewV l = v at *
  have hwa : IntKind.i64.wrap a = a := w64 _ (by omega)
  have hwl : IntKind.i64.wrap ((v.length : Int) + 1) = (v.length : Int) + 1 := w64 _ (by omega)
  have hz : ((v.length : Int) + 1 == 0) = false := by simp; omega
  obtain ⟨k, hk⟩ : ∃ k : Nat, a.tmod ((v.length : Int) + 1) = k := ⟨(a.tmod ((v.length : Int) + 1)).toNat, by
    have := Int.tmod_nonneg ((v.length : Int) + 1) ha.1
    omega⟩
  have hkl : k ≤ v.length := by
    have := Int.tmod_lt_of_pos a (show 0 < (v.length : Int) + 1 by omega)
    omega
  have hkl' : (k : Int) ≤ v.length := by omega
  obtain ⟨x, hx⟩ : ∃ x, v.take k = x := ⟨_, rfl⟩
  obtain ⟨y, hy⟩ : ∃ y, v.drop k = y := ⟨_, rfl⟩
  have m1 : List.take k (v.map Va.d) = x.map Va.d := by rw [← hx, List.map_take]
  have m2 : List.drop k (v.map Va.d) = y.map Va.d := by rw [← hy, List.map_drop]
  have hxl : x.length ≤ 60 := by rw [← hx]; simp; omega
  have hyl : y.length ≤ 60 := by rw [← hy]; simp; omega
  have hd1 : Va.d (1, [120]) = .agg [.int .i64 1, .str [120]] := rfl
  have b1 : x.length * 24 ≤ 70368744177664 := by omega
  have b2 : (x.length + 1) * 24 ≤ 70368744177664 := by omega
  have b3 : (x.length + (1 + y.length)) * 24 ≤ 70368744177664 := by omega
  have b4 : (1 + y.length) * 24 ≤ 70368744177664 := by omega
  have c4 : y.length + 1 = 1 + y.length := Nat.add_comm _ _
  have hR := fun {v0 v1 v3 v4 v5 v8 v9 v10 v23 v24 v25 v26 v27 v28 v29 v30 v31 v32 v33 v34 v35 v36 v37 v38 v39 v40 v41 v42 v43 v44 : D} (n : Nat) (hn : n = (x ++ (1, [120]) :: y).length) => @R13 v0 v1 v3 v4 v5 v8 v9 v10 v23 v24 v25 v26 v27 v28 v29 v30 v31 v32 v33 v34 v35 v36 v37 v38 v39 v40 v41 v42 v43 v44 t ht x y hxl hyl n hn
  refine K_call k13 (oraG_none (by decide) (by decide)) (by simp [c13]) ?_
  clear hx hy
  by_cases hx0 : x = []
  · subst hx0
    by_cases hy0 : y = []
    · subst hy0
      simp [c13, K24, h25, hwa, hwl, hz, hk, hkl, hkl', m1, m2, evOp, evM, wants, Ins.go, X.ev, iaM, ldM, binD, setD, applyW, Ek_ops_nil, allFree, free, callM, callP, appM]
      exact hR 1 rfl
    · simp [c13, K24, h25, hwa, hwl, hz, hk, hkl, hkl', m1, m2, hy0, b4, c4, Nat.add_assoc, evOp, evM, wants, Ins.go, X.ev, iaM, ldM, binD, setD, applyW, Ek_ops_nil, allFree, free, callM, callP, appM]
      exact hR _ (by simp; omega)
  · by_cases hy0 : y = []
    · subst hy0
      simp [c13, K24, h25, hwa, hwl, hz, hk, hkl, hkl', m1, m2, hx0, b1, b2, Nat.add_assoc, evOp, evM, wants, Ins.go, X.ev, iaM, ldM, binD, setD, applyW, Ek_ops_nil, allFree, free, callM, callP, appM]
      simp only [List.map_append, List.map_cons, List.map_nil, hd1] at hR
      exact hR (x.length + 1) (by simp)
    · simp [c13, K24, h25, hwa, hwl, hz, hk, hkl, hkl', m1, m2, hx0, hy0, b1, b2, b3, Nat.add_assoc, evOp, evM, wants, Ins.go, X.ev, iaM, ldM, binD, setD, applyW, Ek_ops_nil, allFree, free, callM, callP, appM]
      simp only [List.map_append, List.map_cons, List.map_nil, hd1] at hR
      exact hR (x.length + (1 + y.length)) (by simp; omega)
end Go.Ab
