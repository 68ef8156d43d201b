/- THE FUNCTIONS' EQUATIONS: thresherref17.Made. -/
import Derived.Test.YtdopbfjebjnpkaaBF211
import Derived.Test.YtdopbfjebjnpkaaBF19
import Derived.Test.YtdopbfjebjnpkaaBF22
set_option linter.all false
set_option maxRecDepth 100000
namespace Go.Ab
open Go.Proofs Go.Proofs.YtdopbfjebjnpkaaH Go.Proofs.YtdopbfjebjnpkaaH.Crc Go.Proofs.YtdopbfjebjnpkaaH.Var Go.Proofs.YtdopbfjebjnpkaaH.Fr Go.Proofs.YtdopbfjebjnpkaaH.Rec
def b215_0 : C := (.seq (.seq (.reg none [⟨(some 19), none, (.mv (.t 7))⟩, ⟨(some 20), none, (.mv (.t 1))⟩, ⟨(some 21), none, (.len 1 (.t 20))⟩, ⟨(some 22), none, (.bin .lss [] (.t 19) (.t 21))⟩]) (.cond (.t 22) .skip (.exit 0))) (.seq (.block 1 (.seq (.reg (some [(1, 4), (1, 5), (1, 6), (1, 11), (4, 11), (5, 11), (6, 11)]) [⟨(some 25), none, (.fa 5 1 false (.t 6))⟩, ⟨(some 26), none, (.ld none (.t 25))⟩, ⟨(some 27), none, (.mv (.t 1))⟩, ⟨(some 28), none, (.mv (.t 7))⟩, ⟨(some 29), none, (.ia none 3 true (.t 27) (.t 28))⟩, ⟨(some 30), none, (.ia (some 3) 1 false (.t 29) (.k (.int .i64 1)))⟩, ⟨(some 31), none, (.ld none (.t 30))⟩, ⟨(some 32), none, (.cvt (.int .i64) (.t 31))⟩, ⟨(some 33), none, (.bin .rem [] (.t 32) (.k (.int .i64 2)))⟩, ⟨(some 34), none, (.bin .add [] (.t 26) (.t 33))⟩, ⟨(some 35), none, (.bld [(.int .i64 0), nilS, (.int .i64 0), (.int .i64 0), (.int .i64 0), nilS, (.int .i64 0)] [(0, (1, (.k (.int .i64 2)))), (6, (1, (.t 34)))])⟩, ⟨(some 8), none, (.alloc false [(.int .i64 0), nilS, (.int .i64 0), (.int .i64 0), (.int .i64 0), nilS, (.int .i64 0)])⟩, ⟨none, none, (.st 7 (.t 8) (.t 35))⟩]) (.seq (.reg none [⟨(some 36), none, (.fa 4 1 false (.t 6))⟩, ⟨(some 37), none, (.ld none (.t 36))⟩, ⟨(some 38), none, (.len 1 (.t 37))⟩, ⟨(some 9), none, (.mv (.t 38))⟩]) (.seq (.seq (.reg none [⟨(some 39), none, (.mv (.t 1))⟩, ⟨(some 40), none, (.mv (.t 7))⟩, ⟨(some 41), none, (.ia none 3 true (.t 39) (.t 40))⟩, ⟨(some 42), none, (.ia (some 3) 1 false (.t 41) (.k (.int .i64 0)))⟩, ⟨(some 43), none, (.ld none (.t 42))⟩, ⟨(some 44), none, (.bin .rem [] (.t 43) (.k (.int .u8 3)))⟩, ⟨(some 45), none, (.bin .eql [] (.t 44) (.k (.int .u8 0)))⟩, ⟨(some 46), none, (.mv (.t 45))⟩, ⟨(some 47), (some ((some 46), true)), (.mv (.t 9))⟩, ⟨(some 48), (some ((some 46), true)), (.bin .geq [] (.t 47) (.k (.int .i64 2)))⟩, ⟨(some 49), none, (.pick (.t 46) (.t 48) (.k (.bool false)))⟩]) (.cond (.t 49) (.seq (.reg none [⟨(some 50), none, (.mv (.t 1))⟩, ⟨(some 51), none, (.mv (.t 7))⟩, ⟨(some 52), none, (.ia none 3 true (.t 50) (.t 51))⟩, ⟨(some 53), none, (.ia (some 3) 1 false (.t 52) (.k (.int .i64 1)))⟩, ⟨(some 54), none, (.ld none (.t 53))⟩, ⟨(some 55), none, (.cvt (.int .i64) (.t 54))⟩, ⟨(some 56), none, (.mv (.t 9))⟩, ⟨(some 57), none, (.bin .sub [] (.t 56) (.k (.int .i64 1)))⟩, ⟨(some 58), none, (.bin .rem [] (.t 55) (.t 57))⟩, ⟨(some 10), none, (.mv (.t 58))⟩]) (.seq (.reg none [⟨(some 59), none, (.mv (.t 10))⟩, ⟨(some 60), none, (.bin .add [] (.t 59) (.k (.int .i64 2)))⟩, ⟨(some 61), none, (.mv (.t 1))⟩, ⟨(some 62), none, (.mv (.t 7))⟩, ⟨(some 63), none, (.ia none 3 true (.t 61) (.t 62))⟩, ⟨(some 64), none, (.ia (some 3) 1 false (.t 63) (.k (.int .i64 2)))⟩, ⟨(some 65), none, (.ld none (.t 64))⟩, ⟨(some 66), none, (.cvt (.int .i64) (.t 65))⟩, ⟨(some 67), none, (.mv (.t 9))⟩, ⟨(some 68), none, (.mv (.t 10))⟩, ⟨(some 69), none, (.bin .sub [] (.t 67) (.t 68))⟩, ⟨(some 70), none, (.bin .sub [] (.t 69) (.k (.int .i64 1)))⟩, ⟨(some 71), none, (.bin .rem [] (.t 66) (.t 70))⟩, ⟨(some 72), none, (.bin .add [] (.t 60) (.t 71))⟩, ⟨(some 11), none, (.mv (.t 72))⟩]) (.reg (some [(1, 2), (1, 4), (2, 4), (1, 7), (2, 7), (1, 8)]) [⟨(some 73), none, (.fa 5 1 false (.t 6))⟩, ⟨(some 74), none, (.ld none (.t 73))⟩, ⟨(some 75), none, (.bsl false 1 0 [(.int .i64 0)] [])⟩, ⟨(some 76), none, (.fa 4 1 false (.t 6))⟩, ⟨(some 77), none, (.ld none (.t 76))⟩, ⟨(some 78), none, (.mv (.t 10))⟩, ⟨(some 79), none, (.mv (.t 11))⟩, ⟨(some 80), none, (.sub 1 1 (.t 77) (some (.t 78)) (some (.t 79)) none)⟩, ⟨(some 81), none, (.app 1 8 (.t 75) (.t 80))⟩, ⟨(some 82), none, (.bld [(.int .i64 0), nilS, (.int .i64 0), (.int .i64 0), (.int .i64 0), nilS, (.int .i64 0)] [(0, (1, (.k (.int .i64 3)))), (6, (1, (.t 74))), (5, (1, (.t 81)))])⟩, ⟨none, none, (.st 7 (.t 8) (.t 82))⟩]))) .skip)) (.seq (.reg none [⟨(some 84), none, (.ld (some 6) (.t 6))⟩, ⟨(some 85), none, (.ld (some 7) (.t 8))⟩, ⟨(some 86), none, (.call (.f 17) [(.t 84), (.t 85)])⟩, ⟨(some 83), none, (.mv (.t 86))⟩, ⟨(some 87), none, (.ext (.t 83) 0)⟩, ⟨(some 88), none, (.ext (.t 83) 1)⟩, ⟨(some 12), none, (.alloc false [nilS, (.int .i64 0), (.int .i64 0), (.int .i64 0), nilS, (.int .i64 0)])⟩, ⟨none, none, (.st 6 (.t 12) (.t 87))⟩, ⟨(some 13), none, (.mv (.t 88))⟩]) (.seq (.reg none [⟨(some 89), none, (.mv (.t 13))⟩]) (.cond (.t 89) (.seq (.reg none [⟨(some 90), none, (.ld (some 6) (.t 12))⟩, ⟨none, none, (.st 6 (.t 6) (.t 90))⟩]) (.reg none [⟨(some 91), none, (.mv (.t 5))⟩, ⟨(some 92), none, (.ld (some 7) (.t 8))⟩, ⟨(some 93), none, (.bsl false 7 1 [(.int .i64 0), nilS, (.int .i64 0), (.int .i64 0), (.int .i64 0), nilS, (.int .i64 0)] [(0, (.t 92))])⟩, ⟨(some 94), none, (.app 7 88 (.t 91) (.t 93))⟩, ⟨(some 5), none, (.mv (.t 94))⟩])) .skip))))))) (.reg none [⟨(some 23), none, (.mv (.t 7))⟩, ⟨(some 24), none, (.bin .add [] (.t 23) (.k (.int .i64 1)))⟩, ⟨(some 7), none, (.mv (.t 24))⟩])))
def c215 : Fn' := ⟨96, [(.tmp 4)], (.seq (.reg none [⟨(some 2), none, (.box false (.t 0))⟩, ⟨(some 4), none, (.mv (.k nilS))⟩]) (.seq (.reg none [⟨(some 14), none, (.ld (some 4) (.t 2))⟩, ⟨(some 15), none, (.bld [(.int .i64 0), nilS, (.int .i64 0), (.int .i64 0), (.int .i64 0), nilS, (.int .i64 0)] [(0, (1, (.k (.int .i64 1)))), (1, (4, (.t 14)))])⟩, ⟨(some 16), none, (.bsl true 7 1 [(.int .i64 0), nilS, (.int .i64 0), (.int .i64 0), (.int .i64 0), nilS, (.int .i64 0)] [(0, (.t 15))])⟩, ⟨(some 5), none, (.mv (.t 16))⟩]) (.seq (.reg none [⟨(some 17), none, (.ld (some 4) (.t 2))⟩, ⟨(some 18), none, (.bld [nilS, (.int .i64 0), (.int .i64 0), (.int .i64 0), nilS, (.int .i64 0)] [(0, (4, (.t 17)))])⟩, ⟨(some 6), none, (.alloc false [nilS, (.int .i64 0), (.int .i64 0), (.int .i64 0), nilS, (.int .i64 0)])⟩, ⟨none, none, (.st 6 (.t 6) (.t 18))⟩]) (.seq (.seq (.reg none [⟨(some 7), none, (.mv (.k (.int .i64 0)))⟩]) (.block 0 (.loop b215_0))) (.seq (.reg none [⟨(some 95), none, (.mv (.t 5))⟩, ⟨(some 4), none, (.mv (.t 95))⟩]) .ret)))))⟩
theorem k215 : compF Try.prog 9 = some c215 := by kernel_rfl
attribute [local simp] op_or op_an op_add op_sub op_mul oq_eql oq_neq oq_lss oq_gtr oq_leq oq_geq
attribute [-simp] intOp bin_shl
/-- Three bytes. -/
abbrev B3 := Int × Int × Int
def B3.d (x : B3) : D := .agg [.int .u8 x.1, .int .u8 x.2.1, .int .u8 x.2.2]
/-- A record of any numbers that fits mostly. -/
def madeR (st : StV) (x : B3) : RecV :=
  if x.1 % 3 = 0 ∧ 2 ≤ st.2.1.length then
    (3, noSc, (st.2.1.take (x.2.1 % ((st.2.1.length : Int) - 1) + 2 + x.2.2 % ((st.2.1.length : Int) - x.2.1 % ((st.2.1.length : Int) - 1) - 1)).toNat).drop (x.2.1 % ((st.2.1.length : Int) - 1)).toNat, st.2.2)
  else (2, noSc, [], st.2.2 + x.2.1 % 2)
def madeL : List B3 → StV → List RecV
  | [], _ => []
  | x :: t, st => if (applyI st (madeR st x)).2 = true then madeR st x :: madeL t (applyI st (madeR st x)).1 else madeL t st
/-- A log of any numbers. -/
def madeI (s : ScV) (l : List B3) : List RecV := (1, s, [], 0) :: madeL l (s, [], 0)
def t215 (c : Bool) (s : Nat) (ts : List Int) (k m g : Int) (c' : Bool) (l : List B3) (i a : Nat) : List D :=
  [.agg [.slc c s (ts.map (.int .i64)), .int .i64 k, .int .i64 m, .int .i64 g], .slc c' 3 (List.map B3.d l), .ptr 0 0 0 0, .undef, nilS, .sl 1 0 a a, .ptr 2 0 0 0, .int .i64 i, .undef, .undef, .undef, .undef, .undef, .undef, .agg [.slc c s (ts.map (.int .i64)), .int .i64 k, .int .i64 m, .int .i64 g], .agg [.int .i64 1, .slc c s (ts.map (.int .i64)), .int .i64 k, .int .i64 m, .int .i64 g, nilS, .int .i64 0], .sl 1 0 1 1, .agg [.slc c s (ts.map (.int .i64)), .int .i64 k, .int .i64 m, .int .i64 g], .agg [.slc c s (ts.map (.int .i64)), .int .i64 k, .int .i64 m, .int .i64 g, nilS, .int .i64 0], .undef, .undef, .undef, .undef, .undef, .undef, .undef, .undef, .undef, .undef, .undef, .undef, .undef, .undef, .undef, .undef, .undef, .undef, .undef, .undef, .undef, .undef, .undef, .undef, .undef, .undef, .undef, .undef, .undef, .undef, .undef, .undef, .undef, .undef, .undef, .undef, .undef, .undef, .undef, .undef, .undef, .undef, .undef, .undef, .undef, .undef, .undef, .undef, .undef, .undef, .undef, .undef, .undef, .undef, .undef, .undef, .undef, .undef, .undef, .undef, .undef, .undef, .undef, .undef, .undef, .undef, .undef, .undef, .undef, .undef, .undef, .undef, .undef, .undef, .undef, .undef, .undef]
theorem rem_pos' {k : IntKind} {a b : Int} (ha : 0 ≤ a) (hb : 0 < b) : intOp .rem k a b = some (.int k (a % b)) := rem_pos ha hb
theorem cells_rce (l : List RcE) : ((List.map RcE.d l).all fun e => e.cells.length == 7) = true := by
  rw [List.all_eq_true]
  intro e he
  obtain ⟨x, _, rfl⟩ := List.mem_map.1 he
  rfl
theorem applyI_nx {x : StV} {r : RecV} (h : 0 ≤ x.2.2 ∧ x.2.2 ≤ 1000000) : 0 ≤ (applyI x r).1.2.2 ∧ (applyI x r).1.2.2 ≤ 1000000 := by
  unfold applyI
  split
  · exact h
  · rename_i hm
    have hm1 : mayOf r = true := by simpa using hm
    have hi := (mayI_some hm1).2.2.1
    split
    · split
      · simp only; omega
      · exact h
    · split
      · exact h
      · split
        · split
          · simp only; omega
          · exact h
        · split
          · simp only; omega
          · exact h
theorem applyI_may {x : StV} {r : RecV} (h : (applyI x r).2 = true) : mayOf r = true := by
  unfold applyI at h
  split at h
  · cases h
  · rename_i hm; simpa using hm
set_option maxHeartbeats 8000000 in
attribute [-simp] D.cells in
attribute [local simp ↓] List.forall_mem_map in
attribute [local simp high] cells_rce in
theorem L215 (c : Bool) (s : Nat) (ts : List Int) (k m g : Int) (c' : Bool) (l : List B3) (hl : l.length ≤ 2 ^ 20) (hB : ∀ x ∈ l, (0 ≤ x.1 ∧ x.1 < 256) ∧ (0 ≤ x.2.1 ∧ x.2.1 < 256) ∧ (0 ≤ x.2.2 ∧ x.2.2 < 256)) :
    ∀ (r pre : List B3) (i a : Nat) (st : StV) (d : Bool) (u : Nat) (d' : Bool) (u' : Nat) (acc : List RcE), l = pre ++ r → i = pre.length → a = acc.length → acc.length ≤ 1 + i → 0 < acc.length → (u = 1 ∨ st.1.1 = []) → (u' = 1 ∨ st.2.1 = []) → st.2.1.length ≤ 40 → 0 ≤ st.2.2 ∧ st.2.2 ≤ 1000000 →
    ∃ (acc' : List RcE) (st' : StV) (v : Bool) (w : Nat) (v' : Bool) (w' : Nat), acc'.map RcE.r = acc.map RcE.r ++ madeL r st ∧ acc'.length ≤ 1 + l.length ∧
      LpB cf0 K0 b215_0 (t215 c s ts k m g c' l 0 1) 3 ⟨t215 c s ts k m g c' l i a, [.box [.slc c s (ts.map (.int .i64)), .int .i64 k, .int .i64 m, .int .i64 g], .row 7 (acc.map RcE.d) 0, StB st d u d' u']⟩ =
        some (.exit 0, ⟨t215 c s ts k m g c' l l.length acc'.length, [.box [.slc c s (ts.map (.int .i64)), .int .i64 k, .int .i64 m, .int .i64 g], .row 7 (acc'.map RcE.d) 0, StB st' v w v' w']⟩)
  | [], pre, i, a, st, d, u, d', u', acc, h, hi, ha, hb, hc, h1, h2, h3, h4 => by
    have : l = pre := by simpa using h
    subst this
    have z := ltI_f (show ¬ ((l.length : Int) < l.length) by omega)
    refine ⟨acc, st, d, u, d', u', by simp [madeL], by omega, ?_⟩
    rw [LpB_eq]
    simp only [t215, StB]
    conv => lhs; arg 6; simp [b215_0, hi, z]
    simp [ha, hi]
  | x :: r, pre, i, a, st, d, u, d', u', acc, h, hi, ha, hb, hc, h1, h2, h3, h4 => by
    have hll : i < l.length := by rw [h, hi]; simp
    have hget : l[i]? = some x := by rw [h, hi]; simp
    have hgi : l[i]'hll = x := by rw [List.getElem?_eq_getElem hll] at hget; exact Option.some.inj hget
    have hw := w64 (i + 1) (by omega)
    have z := ltI_t (show ((i : Int) < l.length) by omega)
    have hx := hB x (by rw [h]; simp)
    obtain ⟨x0, x1, x2⟩ := x
    simp only at hx
    have q1 : intOp .rem .i64 x1 2 = some (.int .i64 (x1 % 2)) := rem_pos hx.2.1.1 (by decide)
    have q0 : intOp .rem .u8 x0 3 = some (.int .u8 (x0 % 3)) := rem_pos hx.1.1 (by decide)
    have wx1 : IntKind.i64.wrap x1 = x1 := by rw [IntKind.wrap_i64]; omega
    have wx2 : IntKind.i64.wrap x2 = x2 := by rw [IntKind.wrap_i64]; omega
    have wid : IntKind.i64.wrap (st.2.2 + x1 % 2) = st.2.2 + x1 % 2 := w64 _ (by omega)
    obtain ⟨f3, hf3⟩ : ∃ q, eqI (x0 % 3) 0 = q := ⟨_, rfl⟩
    obtain ⟨f2, hf2⟩ : ∃ q, leI 2 (st.2.1.length : Int) = q := ⟨_, rfl⟩
    by_cases hsw : x0 % 3 = 0 ∧ 2 ≤ st.2.1.length
    · have hM : madeR st (x0, x1, x2) = (3, noSc, (st.2.1.take (x1 % ((st.2.1.length : Int) - 1) + 2 + x2 % ((st.2.1.length : Int) - x1 % ((st.2.1.length : Int) - 1) - 1)).toNat).drop (x1 % ((st.2.1.length : Int) - 1)).toNat, st.2.2) := if_pos hsw
      have hf3' : f3 = true := by rw [← hf3]; exact eqI_t hsw.1
      have hf2' : f2 = true := by rw [← hf2]; exact leI_t (by omega)
      subst hf3' hf2'
      obtain ⟨⟨ts0, k0, m0, g0⟩, ids0, nx0⟩ := st
      simp only at h1 h2 h3 h4 wid hf2 hM hsw
      obtain ⟨N, hN⟩ : ∃ N : Nat, N + 1 = ids0.length := ⟨ids0.length - 1, by omega⟩
      have eN : (ids0.length : Int) - 1 = N := by omega
      have hNp : 0 < N := by omega
      have f1 := Int.emod_nonneg x1 (show (N : Int) ≠ 0 by omega)
      have f2' := Int.emod_lt_of_pos x1 (show (0 : Int) < N by omega)
      obtain ⟨F, hF⟩ : ∃ F : Nat, x1 % (N : Int) = F := ⟨(x1 % (N : Int)).toNat, by omega⟩
      rw [hF] at f1 f2'
      obtain ⟨M, hMM⟩ : ∃ M : Nat, M + F + 1 = ids0.length := ⟨ids0.length - F - 1, by omega⟩
      have eM : (ids0.length : Int) - F - 1 = M := by omega
      have hMp : 0 < M := by omega
      have f4 := Int.emod_nonneg x2 (show (M : Int) ≠ 0 by omega)
      have f5 := Int.emod_lt_of_pos x2 (show (0 : Int) < M by omega)
      obtain ⟨G, hG⟩ : ∃ G : Nat, x2 % (M : Int) = G := ⟨(x2 % (M : Int)).toNat, by omega⟩
      rw [hG] at f4 f5
      obtain ⟨T, hT⟩ : ∃ T : Nat, T = F + 2 + G := ⟨_, rfl⟩
      rw [eN, hF, eM, hG, show ((F : Int) + 2 + G).toNat = T by omega, show ((F : Int)).toNat = F by omega] at hM
      have qF : intOp .rem .i64 x1 N = some (.int .i64 F) := by rw [← hF]; exact rem_pos hx.2.1.1 (by omega)
      have qG : intOp .rem .i64 x2 M = some (.int .i64 G) := by rw [← hG]; exact rem_pos hx.2.2.1 (by omega)
      have wN : IntKind.i64.wrap ((ids0.length : Int) - 1) = N := by rw [eN]; exact w64 _ (by omega)
      have wF2 : IntKind.i64.wrap ((F : Int) + 2) = ((F + 2 : Nat) : Int) := by rw [w64 _ (by omega)]; omega
      obtain ⟨F2, hF2⟩ : ∃ F2, F2 = F + 2 := ⟨_, rfl⟩
      rw [← hF2] at wF2
      have wM1 : IntKind.i64.wrap ((ids0.length : Int) - F) = ((M + 1 : Nat) : Int) := by rw [w64 _ (by omega)]; omega
      obtain ⟨M1, hM1⟩ : ∃ M1, M1 = M + 1 := ⟨_, rfl⟩
      rw [← hM1] at wM1
      have wM : IntKind.i64.wrap ((M1 : Int) - 1) = M := by rw [w64 _ (by omega)]; omega
      have wT : IntKind.i64.wrap ((F2 : Int) + G) = T := by rw [w64 _ (by omega)]; omega
      have b1 : F ≤ T := by omega
      have b2 : (F : Int) ≤ T := by omega
      have b3 : T ≤ ids0.length := by omega
      have b4 : (T : Int) ≤ ids0.length := by omega
      obtain rfl := h2.resolve_right (by intro e; rw [e] at hN; simp at hN)
      obtain ⟨q, hq⟩ : ∃ q, (ids0.take T).drop F = q := ⟨_, rfl⟩
      have hql : q.length = T - F := by rw [← hq]; simp; omega
      have hqn : ¬ q = [] := by intro e; rw [e] at hql; simp at hql; omega
      have m1 : List.drop F (List.take T (ids0.map (D.int .i64))) = q.map (D.int .i64) := by rw [← hq]; simp [List.map_drop, List.map_take]
      have bq : q.length * 8 ≤ 70368744177664 := by omega
      rw [hq] at hM
      obtain ⟨e1, e2, e3, e4, g1, g2, hA⟩ := K211 ((ts0, k0, m0, g0), ids0, nx0) d u d' 1 h1 (.inl rfl) (madeR ((ts0, k0, m0, g0), ids0, nx0) (x0, x1, x2)) true 0 false 1 (by rw [hM]; exact .inr rfl) (by rw [hM]; exact .inl rfl) (by simp; omega) (by rw [hM]; simp [noSc]) (by rw [hM]; simp; omega)
      have hlen := applyI_len (x := ((ts0, k0, m0, g0), ids0, nx0)) (r := madeR ((ts0, k0, m0, g0), ids0, nx0) (x0, x1, x2)) h3
      have hnx := applyI_nx (x := ((ts0, k0, m0, g0), ids0, nx0)) (r := madeR ((ts0, k0, m0, g0), ids0, nx0) (x0, x1, x2)) h4
      unfold madeL
      rw [hM] at hA hlen hnx g1 g2 ⊢
      generalize applyI ((ts0, k0, m0, g0), ids0, nx0) (3, noSc, q, nx0) = A at *
      obtain ⟨⟨⟨ts2, k2, m2, g2'⟩, ids2, nx2⟩, ok⟩ := A
      dsimp only at *
      simp only [StD, Rcd, noSc, List.map_nil] at hA
      cases ok with
      | false =>
        rw [if_neg (by decide)]
        obtain ⟨acc', st', v, w, v', w', j1, j2, ih⟩ := L215 c s ts k m g c' l hl hB r (pre ++ [(x0, x1, x2)]) (i + 1) a ((ts0, k0, m0, g0), ids0, nx0) d u d' 1 acc (by rw [h]; simp) (by simp [hi]) ha (by omega) hc h1 (.inl rfl) h3 h4
        refine ⟨acc', st', v, w, v', w', j1, j2, ?_⟩
        refine Eq.trans ?_ ih
        rw [LpB_eq]
        simp only [t215, StB]
        conv => lhs; arg 6; simp [b215_0, hll, hgi, hw, z, B3.d, q1, q0, wx1, wx2, wid, hf3, hf2, qF, qG, wN, wF2, wM1, wM, wT, b1, b2, b3, b4, m1, hqn, bq, hA, List.take_of_length_le, evOp, evM, wants, Ins.go, X.ev, iaM, ldM, binD, setD, applyW, Ek_ops_nil, allFree, free, callM, callP, callO, appM]
        simp
      | true =>
        rw [if_pos rfl]
        have bb : (acc.length + 1) * 88 ≤ 70368744177664 := by omega
        obtain ⟨acc', st', v, w, v', w', j1, j2, ih⟩ := L215 c s ts k m g c' l hl hB r (pre ++ [(x0, x1, x2)]) (i + 1) (a + 1) ((ts2, k2, m2, g2'), ids2, nx2) e1 e2 e3 e4 (acc ++ [⟨(3, noSc, q, nx0), true, 0, false, 1, .inr rfl, .inl rfl⟩]) (by rw [h]; simp) (by simp [hi]) (by simp [ha]) (by simp; omega) (by simp) g1 g2 hlen hnx
        refine ⟨acc', st', v, w, v', w', by rw [j1]; simp, j2, ?_⟩
        refine Eq.trans ?_ ih
        rw [LpB_eq]
        simp only [t215, StB]
        conv => lhs; arg 6; simp [b215_0, hll, hgi, hw, z, B3.d, q1, q0, wx1, wx2, wid, hf3, hf2, qF, qG, wN, wF2, wM1, wM, wT, b1, b2, b3, b4, m1, hqn, bq, hA, ha, bb, List.take_of_length_le, evOp, evM, wants, Ins.go, X.ev, iaM, ldM, binD, setD, applyW, Ek_ops_nil, allFree, free, callM, callP, callO, appM]
        simp [RcE.d, Rcd, noSc, ha]
    · have hM : madeR st (x0, x1, x2) = (2, noSc, [], st.2.2 + x1 % 2) := if_neg hsw
      have hff : (f3 && f2) = false := by
        rw [← hf3, ← hf2]
        unfold eqI leI
        rw [Bool.eq_false_iff]
        intro e
        simp at e
        exact hsw ⟨by omega, by omega⟩
      obtain ⟨e1, e2, e3, e4, g1, g2, hA⟩ := K211 st d u d' u' h1 h2 (madeR st (x0, x1, x2)) true 0 true 0 (by rw [hM]; exact .inr rfl) (by rw [hM]; exact .inr rfl) (by omega) (by rw [hM]; simp [noSc]) (by rw [hM]; simp)
      have hlen := applyI_len (r := madeR st (x0, x1, x2)) h3
      have hnx := applyI_nx (r := madeR st (x0, x1, x2)) h4
      unfold madeL
      rw [hM] at hA hlen hnx g1 g2 ⊢
      obtain ⟨⟨ts0, k0, m0, g0⟩, ids0, nx0⟩ := st
      simp only at h1 h2 h3 h4 wid hf2
      generalize applyI ((ts0, k0, m0, g0), ids0, nx0) (2, noSc, [], nx0 + x1 % 2) = A at *
      obtain ⟨⟨⟨ts2, k2, m2, g2'⟩, ids2, nx2⟩, ok⟩ := A
      dsimp only at *
      simp only [StD, Rcd, noSc, List.map_nil] at hA
      cases ok with
      | false =>
        rw [if_neg (by decide)]
        obtain ⟨acc', st', v, w, v', w', j1, j2, ih⟩ := L215 c s ts k m g c' l hl hB r (pre ++ [(x0, x1, x2)]) (i + 1) a ((ts0, k0, m0, g0), ids0, nx0) d u d' u' acc (by rw [h]; simp) (by simp [hi]) ha (by omega) hc h1 h2 h3 h4
        refine ⟨acc', st', v, w, v', w', j1, j2, ?_⟩
        refine Eq.trans ?_ ih
        rw [LpB_eq]
        simp only [t215, StB]
        cases f3 <;> cases f2 <;> simp only [Bool.and_self, Bool.and_true, Bool.true_and, Bool.false_and, Bool.and_false, Bool.true_eq_false] at hff
        · conv => lhs; arg 6; simp [b215_0, hll, hgi, hw, z, B3.d, q1, q0, wx1, wx2, wid, hf3, hf2, hA, evOp, evM, wants, Ins.go, X.ev, iaM, ldM, binD, setD, applyW, Ek_ops_nil, allFree, free, callM, callP, callO, appM]
          simp
        · conv => lhs; arg 6; simp [b215_0, hll, hgi, hw, z, B3.d, q1, q0, wx1, wx2, wid, hf3, hf2, hA, evOp, evM, wants, Ins.go, X.ev, iaM, ldM, binD, setD, applyW, Ek_ops_nil, allFree, free, callM, callP, callO, appM]
          simp
        · conv => lhs; arg 6; simp [b215_0, hll, hgi, hw, z, B3.d, q1, q0, wx1, wx2, wid, hf3, hf2, hA, evOp, evM, wants, Ins.go, X.ev, iaM, ldM, binD, setD, applyW, Ek_ops_nil, allFree, free, callM, callP, callO, appM]
          simp
      | true =>
        rw [if_pos rfl]
        have bb : (acc.length + 1) * 88 ≤ 70368744177664 := by omega
        obtain ⟨acc', st', v, w, v', w', j1, j2, ih⟩ := L215 c s ts k m g c' l hl hB r (pre ++ [(x0, x1, x2)]) (i + 1) (a + 1) ((ts2, k2, m2, g2'), ids2, nx2) e1 e2 e3 e4 (acc ++ [⟨(2, noSc, [], nx0 + x1 % 2), true, 0, true, 0, .inr rfl, .inr rfl⟩]) (by rw [h]; simp) (by simp [hi]) (by simp [ha]) (by simp; omega) (by simp) g1 g2 hlen hnx
        refine ⟨acc', st', v, w, v', w', by rw [j1]; simp, j2, ?_⟩
        refine Eq.trans ?_ ih
        rw [LpB_eq]
        simp only [t215, StB]
        cases f3 <;> cases f2 <;> simp only [Bool.and_self, Bool.and_true, Bool.true_and, Bool.false_and, Bool.and_false, Bool.true_eq_false] at hff
        · conv => lhs; arg 6; simp [b215_0, hll, hgi, hw, z, B3.d, q1, q0, wx1, wx2, wid, hf3, hf2, hA, ha, bb, evOp, evM, wants, Ins.go, X.ev, iaM, ldM, binD, setD, applyW, Ek_ops_nil, allFree, free, callM, callP, callO, appM]
          simp [RcE.d, Rcd, noSc, ha]
        · conv => lhs; arg 6; simp [b215_0, hll, hgi, hw, z, B3.d, q1, q0, wx1, wx2, wid, hf3, hf2, hA, ha, bb, evOp, evM, wants, Ins.go, X.ev, iaM, ldM, binD, setD, applyW, Ek_ops_nil, allFree, free, callM, callP, callO, appM]
          simp [RcE.d, Rcd, noSc, ha]
        · conv => lhs; arg 6; simp [b215_0, hll, hgi, hw, z, B3.d, q1, q0, wx1, wx2, wid, hf3, hf2, hA, ha, bb, evOp, evM, wants, Ins.go, X.ev, iaM, ldM, binD, setD, applyW, Ek_ops_nil, allFree, free, callM, callP, callO, appM]
          simp [RcE.d, Rcd, noSc, ha]
set_option maxHeartbeats 8000000 in
attribute [-simp] D.cells in
attribute [local simp ↓] List.forall_mem_map in
attribute [local simp high] cells_rce in
/-- thresherref17.Made. -/
theorem K215 (c : Bool) (s : Nat) (ts : List Int) (k m g : Int) (c' : Bool) (s' : Nat) (l : List B3) (hs : s = 1 ∨ ts = []) (hs' : s' = 3 ∨ l = []) (hl : l.length ≤ 2 ^ 20) (hB : ∀ x ∈ l, (0 ≤ x.1 ∧ x.1 < 256) ∧ (0 ≤ x.2.1 ∧ x.2.1 < 256) ∧ (0 ≤ x.2.2 ∧ x.2.2 < 256)) :
    ∃ acc : List RcE, acc.map RcE.r = madeI (ts, k, m, g) l ∧ K0 9 [Sd c s ts k m g, .slc c' s' (l.map B3.d)] [] = some (.slc false 7 (acc.map RcE.d), []) := by
  by_cases hn : l = []
  · subst hn
    refine ⟨[⟨(1, (ts, k, m, g), [], 0), c, s, true, 0, hs, .inr rfl⟩], rfl, K_call k215 (oraG_none (by decide) (by decide)) (by simp [c215, Sd]) ?_⟩
    have z := ltI_f (show ¬ ((0 : Int) < 0) by omega)
    simp [c215, Sd]
    rw [LpB_eq]
    simp [b215_0, z, RcE.d, Rcd]
  · obtain rfl := hs'.resolve_right hn
    obtain ⟨acc, st', v, w, v', w', h1, h2, h3⟩ := L215 c s ts k m g c' l hl hB l [] 0 1 ((ts, k, m, g), [], 0) c s true 0 [⟨(1, (ts, k, m, g), [], 0), c, s, true, 0, hs, .inr rfl⟩] rfl rfl rfl (by simp) (by simp) hs (.inr rfl) (by simp) (by simp)
    refine ⟨acc, h1, K_call k215 (oraG_none (by decide) (by decide)) (by simp [c215, Sd]) ?_⟩
    simp only [t215, StB] at h3
    simp [c215, Sd]
    simp [RcE.d, Rcd] at h3
    rw [h3]
    simp
end Go.Ab
/- PLAIN: logs of records that fit, and parts of them. -/
set_option linter.all false
namespace Go.Ab
open Go.Proofs Go.Proofs.YtdopbfjebjnpkaaH Go.Proofs.YtdopbfjebjnpkaaH.Crc Go.Proofs.YtdopbfjebjnpkaaH.Var Go.Proofs.YtdopbfjebjnpkaaH.Fr Go.Proofs.YtdopbfjebjnpkaaH.Rec
/-- Records that fit, one behind the other, from a state on. -/
def fitsR : StV → Bool → List RecV → Prop
  | _, _, [] => True
  | s, first, r :: t => (applyI s r).2 = true ∧ first = decide (r.1 = 1) ∧ fitsR (applyI s r).1 false t
def stR : StV → List RecV → StV
  | s, [] => s
  | s, r :: t => stR (applyI s r).1 t
/-- What a log says that is torn: the state, and of how many bytes. -/
def tornR : List RecV → Nat → StV → StV × Nat
  | [], _, s => (s, 0)
  | r :: t, k, s => if (recOf r).length ≤ k then ((tornR t (k - (recOf r).length) (applyI s r).1).1, (recOf r).length + (tornR t (k - (recOf r).length) (applyI s r).1).2) else (s, 0)
theorem tornR_le : ∀ (rs : List RecV) (k : Nat) (s : StV), (tornR rs k s).2 ≤ k
  | [], k, s => Nat.zero_le _
  | r :: t, k, s => by
    unfold tornR
    split
    · have := tornR_le t (k - (recOf r).length) (applyI s r).1
      simp only
      omega
    · exact Nat.zero_le _
theorem putsR_cons {r : RecV} {t : List RecV} (h : mayOf r = true) : putsR (r :: t) = recOf r ++ putsR t := by
  show (if mayOf r = true then recOf r else []) ++ putsR t = _
  rw [if_pos h]
theorem recTake_recOf {r : RecV} (h : mayOf r = true) (l : List Int) : recTake (recOf r ++ l) = (r, ((recOf r).length : Int), 0) := by
  obtain ⟨kd, ⟨ts, k, m, g⟩, ids, id⟩ := r
  exact recTake_put h l
theorem recTake_recPart {r : RecV} (h : mayOf r = true) (j : Nat) (hj : j < (recOf r).length) : recTake ((recOf r).take j) = (noRec, 0, 10) := by
  obtain ⟨kd, ⟨ts, k, m, g⟩, ids, id⟩ := r
  exact recTake_part h j hj
theorem allN_torn : ∀ (rs : List RecV) (s : StV) (first : Bool) (N k : Nat), fitsR s first rs → k ≤ (putsR rs).length → k < N →
    allN N ((putsR rs).take k) s first = ((tornR rs k s).1, ((putsR rs).take k).drop (tornR rs k s).2)
  | [], s, first, N, k, hf, hk, hN => by
    obtain ⟨M, rfl⟩ : ∃ M, N = M + 1 := ⟨N - 1, by omega⟩
    unfold allN
    rw [if_pos (by simp [putsR])]
    simp [putsR, tornR]
  | r :: t, s, first, N, k, hf, hk, hN => by
    obtain ⟨M, rfl⟩ : ∃ M, N = M + 1 := ⟨N - 1, by omega⟩
    obtain ⟨h1, h2, h3⟩ := hf
    have hm := applyI_may h1
    have hl := recOf_len hm
    rw [putsR_cons hm] at hk ⊢
    rw [List.length_append] at hk
    unfold allN tornR
    by_cases hk2 : (recOf r).length ≤ k
    · have e : (recOf r ++ putsR t).take k = recOf r ++ (putsR t).take (k - (recOf r).length) := by
        rw [List.take_append, List.take_of_length_le hk2]
      rw [e, if_neg (by intro h; have := congrArg List.length h; rw [List.length_append, List.length_nil] at this; omega), if_pos hk2, recTake_recOf hm]
      simp only
      rw [if_neg (by rintro (h | h); exact h rfl; exact h h2), if_neg (by rw [h1]; decide)]
      have e2 : (recOf r ++ (putsR t).take (k - (recOf r).length)).drop ((recOf r).length : Int).toNat = (putsR t).take (k - (recOf r).length) := by
        rw [Int.toNat_natCast, List.drop_left]
      rw [e2, allN_torn t _ _ M _ h3 (by omega) (by omega)]
      congr 1
      rw [← List.drop_drop, List.drop_left]
    · rw [if_neg hk2]
      have e : (recOf r ++ putsR t).take k = (recOf r).take k := by
        rw [List.take_append, show k - (recOf r).length = 0 by omega, List.take_zero, List.append_nil]
      rw [e]
      simp only [List.drop_zero]
      by_cases h0 : (recOf r).take k = []
      · rw [if_pos h0]
      · rw [if_neg h0, recTake_recPart hm k (by omega), if_pos (.inl (by decide))]
theorem tornR_all : ∀ (rs : List RecV) (s : StV) (first : Bool), fitsR s first rs → tornR rs (putsR rs).length s = (stR s rs, (putsR rs).length)
  | [], s, first, hf => rfl
  | r :: t, s, first, hf => by
    obtain ⟨h1, h2, h3⟩ := hf
    have hm := applyI_may h1
    rw [putsR_cons hm, List.length_append]
    unfold tornR
    rw [if_pos (by omega), show (recOf r).length + (putsR t).length - (recOf r).length = (putsR t).length by omega, tornR_all t _ _ h3]
    rfl
theorem allI_torn {rs : List RecV} (hf : fitsR noSt true rs) (k : Nat) (hk : k ≤ (putsR rs).length) : allI ((putsR rs).take k) = ((tornR rs k noSt).1, ((putsR rs).take k).drop (tornR rs k noSt).2) := by
  unfold allI
  exact allN_torn rs noSt true _ k hf hk (by rw [List.length_take]; omega)
theorem allI_all {rs : List RecV} (hf : fitsR noSt true rs) : allI (putsR rs) = (stR noSt rs, []) := by
  have h := allI_torn hf (putsR rs).length (Nat.le_refl _)
  rw [List.take_of_length_le (Nat.le_refl _), tornR_all rs noSt true hf] at h
  rw [h]
  simp
theorem madeL_fits : ∀ (l : List B3) (st : StV), fitsR st false (madeL l st)
  | [], st => trivial
  | x :: t, st => by
    unfold madeL
    split
    · rename_i h
      refine ⟨h, ?_, madeL_fits t _⟩
      unfold madeR
      split <;> rfl
    · exact madeL_fits t st
theorem applyI_head {x : StV} {s : ScV} (h : schemaOk s.1 s.2.1 s.2.2.1 s.2.2.2 = true) : applyI x (1, s, [], 0) = ((s, [], 0), true) := by
  have hm : mayOf (1, s, [], 0) = true := by
    unfold mayOf mayI
    simp only [List.any_nil, Bool.or_false]
    rw [if_pos trivial, h]
    simp [odd]
  unfold applyI
  rw [hm, if_neg (by decide), if_pos rfl]
  rfl
theorem madeI_fits {s : ScV} (h : schemaOk s.1 s.2.1 s.2.2.1 s.2.2.2 = true) (l : List B3) : fitsR noSt true (madeI s l) := by
  unfold madeI
  refine ⟨by rw [applyI_head h], rfl, ?_⟩
  rw [applyI_head h]
  exact madeL_fits l _
theorem madeS_ok {ts : List Int} {n k m g : Int} (hts : ∀ x ∈ ts, 0 ≤ x ∧ x < 256) (ht : ts.length = 8) (hk : 0 ≤ k) : schemaOk (madeS ts n k m g).1 (madeS ts n k m g).2.1 (madeS ts n k m g).2.2.1 (madeS ts n k m g).2.2.2 = true := by
  have h1 := Int.emod_nonneg k (show (1 + n % 8) ≠ 0 by omega)
  have h2 := Int.emod_lt_of_pos k (show 0 < 1 + n % 8 by omega)
  have hl : (madeS ts n k m g).1.length = (1 + n % 8).toNat := by
    unfold madeS; simp only [List.length_map, List.length_take, ht]; omega
  rw [schemaOk_iff]
  refine ⟨by rw [hl]; omega, ?_, ?_, ?_, ?_⟩
  · intro t ht
    obtain ⟨x, _, rfl⟩ := List.mem_map.1 ht
    omega
  · rw [hl]
    show 1 ≤ 1 + k % (1 + n % 8) ∧ 1 + k % (1 + n % 8) ≤ _
    omega
  · show 1 ≤ 1 + m % 3 ∧ 1 + m % 3 ≤ 3
    omega
  · show 1 ≤ 1 + g % 8 ∧ 1 + g % 8 ≤ 64
    omega
theorem madeL_len : ∀ (l : List B3) (st : StV), (madeL l st).length ≤ l.length
  | [], st => Nat.le_refl _
  | x :: t, st => by
    unfold madeL
    split
    · have := madeL_len t (applyI st (madeR st x)).1; simp; omega
    · have := madeL_len t st; simp; omega
theorem fitsR_may : ∀ (rs : List RecV) (s : StV) (first : Bool), fitsR s first rs → ∀ r ∈ rs, mayOf r = true
  | [], s, first, _, r, hr => by cases hr
  | x :: t, s, first, hf, r, hr => by
    rcases List.mem_cons.1 hr with rfl | hr
    · exact applyI_may hf.1
    · exact fitsR_may t _ _ hf.2.2 r hr
theorem stR_ids {rs : List RecV} : ∀ {s : StV}, s.2.1.length ≤ 40 → (stR s rs).2.1.length ≤ 40 := by
  induction rs with
  | nil => exact fun h => h
  | cons r t ih => exact fun h => ih (applyI_len h)
end Go.Ab
/- THE FUNCTIONS' EQUATIONS: thresherlaw17.shown. -/
set_option linter.all false
set_option maxRecDepth 100000
namespace Go.Ab
open Go.Proofs Go.Proofs.YtdopbfjebjnpkaaH Go.Proofs.YtdopbfjebjnpkaaH.Crc Go.Proofs.YtdopbfjebjnpkaaH.Var Go.Proofs.YtdopbfjebjnpkaaH.Fr Go.Proofs.YtdopbfjebjnpkaaH.Rec
def c219 : Fn' := ⟨45, [(.tmp 0)], (.seq (.reg none [⟨(some 0), none, (.mv (.k (.bool false)))⟩]) (.seq (.reg none [⟨(some 6), none, (.bsl false 1 1 [(.int .i64 0)] [(0, (.k (.int .i64 1)))])⟩, ⟨(some 7), none, (.bld [nilS, (.int .i64 0), (.int .i64 0), (.int .i64 0)] [(0, (1, (.t 6))), (1, (1, (.k (.int .i64 1)))), (2, (1, (.k (.int .i64 1)))), (3, (1, (.k (.int .i64 1))))])⟩, ⟨(some 1), none, (.alloc false [nilS, (.int .i64 0), (.int .i64 0), (.int .i64 0)])⟩, ⟨none, none, (.st 4 (.t 1) (.t 7))⟩]) (.seq (.reg none [⟨(some 8), none, (.ld (some 4) (.t 1))⟩, ⟨(some 9), none, (.bld [(.int .i64 0), nilS, (.int .i64 0), (.int .i64 0), (.int .i64 0), nilS, (.int .i64 0)] [(0, (1, (.k (.int .i64 1)))), (1, (4, (.t 8)))])⟩, ⟨(some 10), none, (.bld [(.int .i64 0), nilS, (.int .i64 0), (.int .i64 0), (.int .i64 0), nilS, (.int .i64 0)] [(0, (1, (.k (.int .i64 2))))])⟩, ⟨(some 11), none, (.bld [(.int .i64 0), nilS, (.int .i64 0), (.int .i64 0), (.int .i64 0), nilS, (.int .i64 0)] [(0, (1, (.k (.int .i64 2)))), (6, (1, (.k (.int .i64 1))))])⟩, ⟨(some 12), none, (.bsl false 1 2 [(.int .i64 0)] [(0, (.k (.int .i64 0))), (1, (.k (.int .i64 1)))])⟩, ⟨(some 13), none, (.bld [(.int .i64 0), nilS, (.int .i64 0), (.int .i64 0), (.int .i64 0), nilS, (.int .i64 0)] [(0, (1, (.k (.int .i64 3)))), (6, (1, (.k (.int .i64 2)))), (5, (1, (.t 12)))])⟩, ⟨(some 14), none, (.bsl false 7 4 [(.int .i64 0), nilS, (.int .i64 0), (.int .i64 0), (.int .i64 0), nilS, (.int .i64 0)] [(0, (.t 9)), (1, (.t 10)), (2, (.t 11)), (3, (.t 13))])⟩, ⟨(some 2), none, (.mv (.t 14))⟩]) (.seq (.reg none [⟨(some 16), none, (.mv (.t 2))⟩, ⟨(some 17), none, (.call (.f 11) [(.t 16)])⟩, ⟨(some 18), none, (.call (.f 12) [(.t 17)])⟩, ⟨(some 15), none, (.mv (.t 18))⟩, ⟨(some 19), none, (.ext (.t 15) 0)⟩, ⟨(some 20), none, (.ext (.t 15) 1)⟩, ⟨(some 21), none, (.ext (.t 15) 2)⟩, ⟨(some 3), none, (.alloc false [nilS, (.int .i64 0), (.int .i64 0), (.int .i64 0), nilS, (.int .i64 0)])⟩, ⟨none, none, (.st 6 (.t 3) (.t 19))⟩, ⟨(some 4), none, (.mv (.t 20))⟩, ⟨(some 5), none, (.mv (.t 21))⟩]) (.seq (.reg none [⟨(some 22), none, (.mv (.t 5))⟩, ⟨(some 23), none, (.mv (.t 22))⟩, ⟨(some 24), (some ((some 23), true)), (.mv (.t 4))⟩, ⟨(some 25), (some ((some 23), true)), (.bin .gtr [] (.t 24) (.k (.int .i64 30)))⟩, ⟨(some 26), none, (.pick (.t 23) (.t 25) (.k (.bool false)))⟩, ⟨(some 27), none, (.mv (.t 26))⟩, ⟨(some 28), (some ((some 27), true)), (.fa 4 1 false (.t 3))⟩, ⟨(some 29), (some ((some 27), true)), (.ld none (.t 28))⟩, ⟨(some 30), (some ((some 27), true)), (.len 1 (.t 29))⟩, ⟨(some 31), (some ((some 27), true)), (.bin .eql [] (.t 30) (.k (.int .i64 1)))⟩, ⟨(some 32), none, (.pick (.t 27) (.t 31) (.k (.bool false)))⟩, ⟨(some 33), none, (.mv (.t 32))⟩, ⟨(some 34), (some ((some 33), true)), (.fa 4 1 false (.t 3))⟩, ⟨(some 35), (some ((some 33), true)), (.ld none (.t 34))⟩, ⟨(some 36), (some ((some 33), true)), (.ia none 1 false (.t 35) (.k (.int .i64 0)))⟩, ⟨(some 37), (some ((some 33), true)), (.ld none (.t 36))⟩, ⟨(some 38), (some ((some 33), true)), (.bin .eql [] (.t 37) (.k (.int .i64 2)))⟩, ⟨(some 39), none, (.pick (.t 33) (.t 38) (.k (.bool false)))⟩, ⟨(some 40), none, (.mv (.t 39))⟩, ⟨(some 41), (some ((some 40), true)), (.fa 5 1 false (.t 3))⟩, ⟨(some 42), (some ((some 40), true)), (.ld none (.t 41))⟩, ⟨(some 43), (some ((some 40), true)), (.bin .eql [] (.t 42) (.k (.int .i64 3)))⟩, ⟨(some 44), none, (.pick (.t 40) (.t 43) (.k (.bool false)))⟩, ⟨(some 0), none, (.mv (.t 44))⟩]) .ret)))))⟩
theorem k219 : compF Try.prog 8 = some c219 := by kernel_rfl
attribute [local simp] op_or op_an op_add op_sub op_mul oq_eql oq_neq oq_lss oq_gtr oq_leq oq_geq
attribute [-simp] intOp bin_shl
def shL : List RcE := [⟨(1, ([1], 1, 1, 1), [], 0), true, 1, true, 0, .inl rfl, .inr rfl⟩, ⟨(2, noSc, [], 0), true, 0, true, 0, .inr rfl, .inr rfl⟩, ⟨(2, noSc, [], 1), true, 0, true, 0, .inr rfl, .inr rfl⟩, ⟨(3, noSc, [0, 1], 2), true, 0, true, 1, .inr rfl, .inl rfl⟩]
theorem shL_st : stR noSt (shL.map RcE.r) = (([1], 1, 1, 1), [2], 3) := by decide +kernel
theorem shL_fit : fitsR noSt true (shL.map RcE.r) := ⟨by decide +kernel, rfl, by decide +kernel, rfl, by decide +kernel, rfl, by decide +kernel, rfl, trivial⟩
theorem shL_len : 30 < (putsR (shL.map RcE.r)).length := by decide +kernel
set_option maxHeartbeats 4000000 in
/-- The head of the laws. -/
theorem K219 : K0 8 [] [] = some (.bool true, []) := by
  have hB := K216 true 7 shL (.inl rfl) (by decide) (by decide)
  have hl := shL_len
  have hpl := putsR_len (shL.map RcE.r)
  have hI := isB_putsR (shL.map RcE.r)
  have hal := allI_all shL_fit
  rw [shL_st] at hal
  have h4 : (shL.map RcE.r).length = 4 := rfl
  rw [h4] at hpl
  generalize putsR (shL.map RcE.r) = P at *
  obtain ⟨c1, s1, c2, s2, h1, h2, hA⟩ := K200 false 1 P (.inl rfl) (by omega) hI
  rw [hal] at hA h1 h2
  obtain rfl := h1.resolve_right (by simp)
  obtain rfl := h2.resolve_right (by simp)
  simp only [StD, List.length_nil, Nat.sub_zero, List.map_cons, List.map_nil] at hA
  simp only [shL, RcE.d, Rcd, noSc, List.map_cons, List.map_nil] at hB
  have z1 := ltI_t (show (0 : Int) < (P.length : Int) by omega)
  have z2 := ltI_t (show (30 : Int) < (P.length : Int) by omega)
  have q1 : eqI 1 1 = true := rfl
  have q2 : eqI 2 2 = true := rfl
  have q3 : eqI 3 3 = true := rfl
  refine K_call k219 (oraG_none (by decide) (by decide)) (by simp [c219]) ?_
  simp [c219, hB, hA, z1, z2, q1, q2, q3]
end Go.Ab
