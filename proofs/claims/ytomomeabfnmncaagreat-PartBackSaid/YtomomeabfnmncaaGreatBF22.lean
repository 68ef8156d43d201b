/- THE FUNCTIONS' EQUATIONS: thresherref04.Made. -/
import Derived.Test.YtomomeabfnmncaaGreatBF60K
import Derived.Test.YtomomeabfnmncaaGreatBBr
import Derived.Test.YtomomeabfnmncaaGreatBPCrc
set_option linter.all false
set_option maxRecDepth 100000
namespace Go.Ab
open Go.Proofs Go.Proofs.YtomomeabfnmncaaGreatH Go.Proofs.YtomomeabfnmncaaGreatH.Crc Go.Proofs.YtomomeabfnmncaaGreatH.Var Go.Proofs.YtomomeabfnmncaaGreatH.Fr Go.Proofs.YtomomeabfnmncaaGreatH.Rec
def b22_0 : C := (.seq (.seq (.reg none [⟨(some 32), none, (.mv (.t 13))⟩, ⟨(some 33), none, (.mv (.t 11))⟩, ⟨(some 34), none, (.bin .lss [] (.t 32) (.t 33))⟩]) (.cond (.t 34) .skip (.exit 0))) (.seq (.block 1 (.reg (some [(1, 3), (1, 4), (1, 8)]) [⟨(some 37), none, (.fa 0 1 false (.t 12))⟩, ⟨(some 38), none, (.ld none (.t 37))⟩, ⟨(some 39), none, (.mv (.t 13))⟩, ⟨(some 40), none, (.ia (some 8) 1 false (.t 5) (.t 39))⟩, ⟨(some 41), none, (.ld none (.t 40))⟩, ⟨(some 42), none, (.cvt (.int .i64) (.t 41))⟩, ⟨(some 43), none, (.bin .rem [] (.t 42) (.k (.int .i64 3)))⟩, ⟨(some 44), none, (.bin .add [] (.k (.int .i64 1)) (.t 43))⟩, ⟨(some 45), none, (.bsl false 1 1 [(.int .i64 0)] [(0, (.t 44))])⟩, ⟨(some 46), none, (.app 1 8 (.t 38) (.t 45))⟩, ⟨(some 47), none, (.fa 0 1 false (.t 12))⟩, ⟨none, none, (.st 1 (.t 47) (.t 46))⟩])) (.reg none [⟨(some 35), none, (.mv (.t 13))⟩, ⟨(some 36), none, (.bin .add [] (.t 35) (.k (.int .i64 1)))⟩, ⟨(some 13), none, (.mv (.t 36))⟩])))
def c22 : Fn' := ⟨49, [(.cell 10 (some 4))], (.seq (.reg none [⟨(some 5), none, (.boxA 8 1 (.t 0))⟩, ⟨(some 10), none, (.alloc true [nilS, (.int .i64 0), (.int .i64 0), (.int .i64 0)])⟩]) (.seq (.reg none [⟨(some 14), none, (.mv (.t 1))⟩, ⟨(some 15), none, (.cvt (.int .i64) (.t 14))⟩, ⟨(some 16), none, (.bin .rem [] (.t 15) (.k (.int .i64 8)))⟩, ⟨(some 17), none, (.bin .add [] (.k (.int .i64 1)) (.t 16))⟩, ⟨(some 11), none, (.mv (.t 17))⟩]) (.seq (.reg none [⟨(some 18), none, (.mv (.t 2))⟩, ⟨(some 19), none, (.cvt (.int .i64) (.t 18))⟩, ⟨(some 20), none, (.mv (.t 11))⟩, ⟨(some 21), none, (.bin .rem [] (.t 19) (.t 20))⟩, ⟨(some 22), none, (.bin .add [] (.k (.int .i64 1)) (.t 21))⟩, ⟨(some 23), none, (.mv (.t 3))⟩, ⟨(some 24), none, (.cvt (.int .i64) (.t 23))⟩, ⟨(some 25), none, (.bin .rem [] (.t 24) (.k (.int .i64 3)))⟩, ⟨(some 26), none, (.bin .add [] (.k (.int .i64 1)) (.t 25))⟩, ⟨(some 27), none, (.mv (.t 4))⟩, ⟨(some 28), none, (.cvt (.int .i64) (.t 27))⟩, ⟨(some 29), none, (.bin .rem [] (.t 28) (.k (.int .i64 8)))⟩, ⟨(some 30), none, (.bin .add [] (.k (.int .i64 1)) (.t 29))⟩, ⟨(some 31), none, (.bld [nilS, (.int .i64 0), (.int .i64 0), (.int .i64 0)] [(1, (1, (.t 22))), (2, (1, (.t 26))), (3, (1, (.t 30)))])⟩, ⟨(some 12), none, (.alloc true [nilS, (.int .i64 0), (.int .i64 0), (.int .i64 0)])⟩, ⟨none, none, (.st 4 (.t 12) (.t 31))⟩]) (.seq (.seq (.reg none [⟨(some 13), none, (.mv (.k (.int .i64 0)))⟩]) (.block 0 (.loop b22_0))) (.seq (.reg none [⟨(some 48), none, (.ld (some 4) (.t 12))⟩, ⟨none, none, (.st 4 (.t 10) (.t 48))⟩]) .ret)))))⟩
theorem k22 : compF Tryz.prog 25 = some c22 := by kernel_rfl
attribute [local simp] op_or op_an op_add op_sub op_mul oq_eql oq_neq oq_lss oq_gtr oq_leq oq_geq
attribute [-simp] intOp bin_shl
/-- The schema of any numbers. -/
def madeS (ts : List Int) (n k m g : Int) : List Int × Int × Int × Int := ((ts.take (1 + n % 8).toNat).map fun t => 1 + t % 3, 1 + k % (1 + n % 8), 1 + m % 3, 1 + g % 8)
theorem rem_pos {k : IntKind} {a b : Int} (ha : 0 ≤ a) (hb : 0 < b) : intOp .rem k a b = some (.int k (a % b)) := by
  have : intOp .rem k a b = if b = 0 then none else some (.int k (a.tmod b)) := rfl
  rw [this, if_neg (by omega), Int.tmod_eq_emod_of_nonneg ha]
def t22 (ts : List Int) (n k m g : Int) (K i : Nat) : List D := [.agg (ts.map (.int .u8)), .int .u8 n, .int .u8 k, .int .u8 m, .int .u8 g, .aptr 0 8, .undef, .undef, .undef, .undef, .ptr 2 0 0 0, .int .i64 K, .ptr 4 0 0 0, .int .i64 i, .int .u8 n, .int .i64 n, .int .i64 (n % 8), .int .i64 K, .int .u8 k, .int .i64 k, .int .i64 K, .int .i64 (k % K), .int .i64 (1 + k % K), .int .u8 m, .int .i64 m, .int .i64 (m % 3), .int .i64 (1 + m % 3), .int .u8 g, .int .i64 g, .int .i64 (g % 8), .int .i64 (1 + g % 8), .agg [nilS, .int .i64 (1 + k % K), .int .i64 (1 + m % 3), .int .i64 (1 + g % 8)], .undef, .undef, .undef, .undef, .undef, .undef, .undef, .undef, .undef, .undef, .undef, .undef, .undef, .undef, .undef, .undef, .undef]
def H22 (ts : List Int) (a b c : Int) (acc : List Int) : List Obj :=
  if acc = [] then [.row 1 (ts.map (.int .u8)) 0, .row 0 [] 0, .box [.sl 1 0 0 0, .int .i64 0, .int .i64 0, .int .i64 0], .row 0 [] 0, .box [nilS, .int .i64 a, .int .i64 b, .int .i64 c]]
  else [.row 1 (ts.map (.int .u8)) 0, .row 0 [] 0, .box [.sl 1 0 0 0, .int .i64 0, .int .i64 0, .int .i64 0], .row 0 [] 0, .box [.sl 5 0 acc.length acc.length, .int .i64 a, .int .i64 b, .int .i64 c], .row 1 (acc.map (.int .i64)) 0]
set_option maxHeartbeats 8000000 in
theorem L22 (ts : List Int) (n k m g : Int) (K : Nat) (a b c : Int) (ht : ts.length = 8) (hts : ∀ x ∈ ts, 0 ≤ x ∧ x < 256) (hK : K ≤ 8) : ∀ (j i : Nat) (acc : List Int), i + j = K → acc = (ts.take i).map (fun t => 1 + t % 3) →
    LpB cf0 K0 b22_0 (t22 ts n k m g K 0) 5 ⟨t22 ts n k m g K i, H22 ts a b c acc⟩ = some (.exit 0, ⟨t22 ts n k m g K K, H22 ts a b c ((ts.take K).map (fun t => 1 + t % 3))⟩)
  | 0, i, acc, hij, ha => by
    have hi : i = K := by omega
    subst hi
    subst ha
    have z := ltI_f (show ¬ ((i : Int) < i) by omega)
    rw [LpB_eq]
    simp only [t22, H22]
    by_cases hacc : (ts.take i).map (fun t => 1 + t % 3) = []
    · rw [if_pos hacc]
      conv => lhs; arg 6; simp [b22_0, z]
      simp
    · rw [if_neg hacc]
      conv => lhs; arg 6; simp [b22_0, z]
      simp
  | j + 1, i, acc, hij, ha => by
    have hil : i < ts.length := by omega
    have z := ltI_t (show ((i : Int) < K) by omega)
    have hw := w64 (i + 1) (by omega)
    obtain ⟨x, hx⟩ : ∃ x, ts[i]'hil = x := ⟨_, rfl⟩
    have hxr := hts x (by rw [← hx]; exact List.getElem_mem hil)
    have wx : IntKind.i64.wrap x = x := by rw [IntKind.wrap_i64]; omega
    have q : intOp .rem .i64 x 3 = some (.int .i64 (x % 3)) := rem_pos hxr.1 (by decide)
    have w3 : IntKind.i64.wrap (1 + x % 3) = 1 + x % 3 := w64 _ (by omega)
    have hal : acc.length = i := by rw [ha]; simp; omega
    have bb : (acc.length + 1) * 8 ≤ 70368744177664 := by omega
    have i8 : (i : Int) < 8 := by omega
    have i8' : i < 8 := by omega
    have ih := L22 ts n k m g K a b c ht hts hK j (i + 1) (acc ++ [1 + x % 3]) (by omega) (by rw [ha, List.take_succ_eq_append_getElem hil, hx]; simp)
    rw [LpB_eq]
    simp only [t22, H22] at ih ⊢
    by_cases hacc : acc = []
    · subst hacc
      conv => lhs; arg 6; simp [b22_0, z, hil, hx, wx, q, w3, hw, ht, i8, i8', evOp, evM, wants, Ins.go, X.ev, iaM, ldM, binD, setD, applyW, Ek_ops_nil, allFree, free, callM, callP, callO, appM]
      simp at ih ⊢
      exact ih
    · rw [if_neg hacc]
      conv => lhs; arg 6; simp [b22_0, z, hil, hx, wx, q, w3, hw, ht, i8, i8', hacc, bb, evOp, evM, wants, Ins.go, X.ev, iaM, ldM, binD, setD, applyW, Ek_ops_nil, allFree, free, callM, callP, callO, appM]
      simp [hacc] at ih ⊢
      exact ih
set_option maxHeartbeats 8000000 in
/-- thresherref04.Made. -/
theorem K22 (ts : List Int) (n k m g : Int) (hts : ∀ x ∈ ts, 0 ≤ x ∧ x < 256) (hn : 0 ≤ n ∧ n < 256) (hk : 0 ≤ k ∧ k < 256) (hm : 0 ≤ m ∧ m < 256) (hg : 0 ≤ g ∧ g < 256) (ht : ts.length = 8) :
    K0 25 [.agg (ts.map (.int .u8)), .int .u8 n, .int .u8 k, .int .u8 m, .int .u8 g] [] = some (.agg [.slc false 1 ((madeS ts n k m g).1.map (.int .i64)), .int .i64 (madeS ts n k m g).2.1, .int .i64 (madeS ts n k m g).2.2.1, .int .i64 (madeS ts n k m g).2.2.2], []) := by
  have wk : ∀ x : Int, 0 ≤ x ∧ x < 256 → IntKind.i64.wrap x = x := fun x hx => by rw [IntKind.wrap_i64]; omega
  obtain ⟨K, hK⟩ : ∃ K : Nat, (K : Int) = 1 + n % 8 := ⟨(1 + n % 8).toNat, by omega⟩
  have K1 : 1 ≤ K ∧ K ≤ 8 := by omega
  have hk1 := Int.emod_nonneg k (show (K : Int) ≠ 0 by omega)
  have hk2 := Int.emod_lt_of_pos k (show (0 : Int) < K by omega)
  have q1 : intOp .rem .i64 n 8 = some (.int .i64 (n % 8)) := rem_pos hn.1 (by decide)
  have q2 : intOp .rem .i64 k K = some (.int .i64 (k % K)) := rem_pos hk.1 (by omega)
  have q3 : intOp .rem .i64 m 3 = some (.int .i64 (m % 3)) := rem_pos hm.1 (by decide)
  have q4 : intOp .rem .i64 g 8 = some (.int .i64 (g % 8)) := rem_pos hg.1 (by decide)
  have w1 : IntKind.i64.wrap (1 + n % 8) = K := by rw [w64 _ (by omega)]; omega
  have w2 : IntKind.i64.wrap (1 + k % K) = 1 + k % K := w64 _ (by omega)
  have w3 : IntKind.i64.wrap (1 + m % 3) = 1 + m % 3 := w64 _ (by omega)
  have w4 : IntKind.i64.wrap (1 + g % 8) = 1 + g % 8 := w64 _ (by omega)
  have L := L22 ts n k m g K (1 + k % K) (1 + m % 3) (1 + g % 8) ht hts K1.2 K 0 [] (by omega) rfl
  have hM : madeS ts n k m g = ((ts.take K).map (fun t => 1 + t % 3), 1 + k % K, 1 + m % 3, 1 + g % 8) := by
    unfold madeS; rw [← hK]; rfl
  have hR : ¬ (ts.take K).map (fun t => 1 + t % 3) = [] := by
    intro e
    have := congrArg List.length e
    rw [List.length_map, List.length_take, ht, List.length_nil] at this
    omega
  rw [hM]
  dsimp only
  generalize (ts.take K).map (fun t => 1 + t % 3) = R at *
  match ts, ht with
  | [a0, a1, a2, a3, a4, a5, a6, a7], _ =>
    refine K_call k22 (oraG_none (by decide) (by decide)) (by simp [c22]) ?_
    simp only [t22, H22] at L
    simp [c22, wk n hn, wk k hk, wk m hm, wk g hg, q1, q2, q3, q4, w1, w2, w3, w4, evOp, evM, wants, Ins.go, X.ev, iaM, ldM, binD, setD, applyW, Ek_ops_nil, allFree, free, callM, callP, callO, appM]
    simp [hR] at L
    rw [L]
    simp
end Go.Ab
/- THE FUNCTIONS' EQUATIONS: thresherlaw11.made. -/
set_option linter.all false
set_option maxRecDepth 100000
namespace Go.Ab
open Go.Proofs Go.Proofs.YtomomeabfnmncaaGreatH Go.Proofs.YtomomeabfnmncaaGreatH.Crc Go.Proofs.YtomomeabfnmncaaGreatH.Var Go.Proofs.YtomomeabfnmncaaGreatH.Fr Go.Proofs.YtomomeabfnmncaaGreatH.Rec
def c243 : Fn' := ⟨14, [(.cell 2 (some 4))], (.seq (.reg none [⟨(some 1), none, (.box false (.t 0))⟩, ⟨(some 2), none, (.alloc false [nilS, (.int .i64 0), (.int .i64 0), (.int .i64 0)])⟩]) (.seq (.reg none [⟨(some 3), none, (.fa 0 8 true (.t 1))⟩, ⟨(some 4), none, (.ld (some 8) (.t 3))⟩, ⟨(some 5), none, (.fa 8 1 false (.t 1))⟩, ⟨(some 6), none, (.ld none (.t 5))⟩, ⟨(some 7), none, (.fa 9 1 false (.t 1))⟩, ⟨(some 8), none, (.ld none (.t 7))⟩, ⟨(some 9), none, (.fa 10 1 false (.t 1))⟩, ⟨(some 10), none, (.ld none (.t 9))⟩, ⟨(some 11), none, (.fa 11 1 false (.t 1))⟩, ⟨(some 12), none, (.ld none (.t 11))⟩, ⟨(some 13), none, (.call (.f 25) [(.t 4), (.t 6), (.t 8), (.t 10), (.t 12)])⟩, ⟨none, none, (.st 4 (.t 2) (.t 13))⟩]) .ret))⟩
theorem k243 : compF Tryz.prog 7 = some c243 := by kernel_rfl
attribute [local simp] op_or op_an op_add op_sub op_mul oq_eql oq_neq oq_lss oq_gtr oq_leq oq_geq
attribute [-simp] intOp bin_shl
set_option maxHeartbeats 8000000 in
/-- thresherlaw11.made. -/
theorem K243 (ts : List Int) (n k m g : Int) (hts : ∀ x ∈ ts, 0 ≤ x ∧ x < 256) (hn : 0 ≤ n ∧ n < 256) (hk : 0 ≤ k ∧ k < 256) (hm : 0 ≤ m ∧ m < 256) (hg : 0 ≤ g ∧ g < 256) (ht : ts.length = 8) :
    K0 7 [.agg (ts.map (.int .u8) ++ [.int .u8 n, .int .u8 k, .int .u8 m, .int .u8 g])] [] = some (.agg [.slc false 1 ((madeS ts n k m g).1.map (.int .i64)), .int .i64 (madeS ts n k m g).2.1, .int .i64 (madeS ts n k m g).2.2.1, .int .i64 (madeS ts n k m g).2.2.2], []) := by
  have h := K22 ts n k m g hts hn hk hm hg ht
  generalize madeS ts n k m g = M at *
  obtain ⟨R, x, y, z⟩ := M
  match ts, ht with
  | [a0, a1, a2, a3, a4, a5, a6, a7], _ =>
    refine K_call k243 (oraG_none (by decide) (by decide)) (by simp [c243]) ?_
    simp only [List.map_cons, List.map_nil] at h
    simp [c243, h]
end Go.Ab
