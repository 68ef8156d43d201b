/- THE FUNCTIONS' EQUATIONS: thresherref01.Var. -/
import Derived.Test.YtdopbfjebjnpkaaBF75
import Derived.Test.YtdopbfjebjnpkaaBF110
import Derived.Test.YtdopbfjebjnpkaaBF33
set_option linter.all false
set_option maxRecDepth 100000
namespace Go.Ab
open Go.Proofs Go.Proofs.YtdopbfjebjnpkaaH Go.Proofs.YtdopbfjebjnpkaaH.Crc Go.Proofs.YtdopbfjebjnpkaaH.Var Go.Proofs.YtdopbfjebjnpkaaH.Fr
def b79_0 : C := (.seq (.seq (.reg none [⟨(some 7), none, (.mv (.t 6))⟩, ⟨(some 8), none, (.mv (.t 0))⟩, ⟨(some 9), none, (.len 1 (.t 8))⟩, ⟨(some 10), none, (.bin .lss [] (.t 7) (.t 9))⟩, ⟨(some 11), none, (.mv (.t 10))⟩, ⟨(some 12), (some ((some 11), true)), (.mv (.t 6))⟩, ⟨(some 13), (some ((some 11), true)), (.bin .lss [] (.t 12) (.k (.int .i64 10)))⟩, ⟨(some 14), none, (.pick (.t 11) (.t 13) (.k (.bool false)))⟩]) (.cond (.t 14) .skip (.exit 0))) (.seq (.block 1 (.seq (.reg none [⟨(some 17), none, (.mv (.t 4))⟩, ⟨(some 18), none, (.mv (.t 0))⟩, ⟨(some 19), none, (.mv (.t 6))⟩, ⟨(some 20), none, (.ia none 1 false (.t 18) (.t 19))⟩, ⟨(some 21), none, (.ld none (.t 20))⟩, ⟨(some 22), none, (.bin .rem [] (.t 21) (.k (.int .u8 128)))⟩, ⟨(some 23), none, (.cvt (.int .u64) (.t 22))⟩, ⟨(some 24), none, (.mv (.t 5))⟩, ⟨(some 25), none, (.bin .mul [] (.t 23) (.t 24))⟩, ⟨(some 26), none, (.bin .add [] (.t 17) (.t 25))⟩, ⟨(some 4), none, (.mv (.t 26))⟩]) (.seq (.reg none [⟨(some 27), none, (.mv (.t 5))⟩, ⟨(some 28), none, (.bin .mul [] (.t 27) (.k (.int .u64 128)))⟩, ⟨(some 5), none, (.mv (.t 28))⟩]) (.seq (.reg none [⟨(some 29), none, (.mv (.t 0))⟩, ⟨(some 30), none, (.mv (.t 6))⟩, ⟨(some 31), none, (.ia none 1 false (.t 29) (.t 30))⟩, ⟨(some 32), none, (.ld none (.t 31))⟩, ⟨(some 33), none, (.bin .lss [] (.t 32) (.k (.int .u8 128)))⟩]) (.cond (.t 33) (.seq (.seq (.reg (some [(1, 6), (2, 6), (1, 7), (2, 7)]) [⟨(some 34), none, (.mv (.t 4))⟩, ⟨(some 35), none, (.call (.f 26) [(.t 34)])⟩, ⟨(some 36), none, (.cvt .b2s (.t 35))⟩, ⟨(some 37), none, (.mv (.t 0))⟩, ⟨(some 38), none, (.mv (.t 6))⟩, ⟨(some 39), none, (.bin .add [] (.t 38) (.k (.int .i64 1)))⟩, ⟨(some 40), none, (.sub 1 1 (.t 37) none (some (.t 39)) none)⟩, ⟨(some 41), none, (.cvt .b2s (.t 40))⟩, ⟨(some 42), none, (.bin .neq [] (.t 36) (.t 41))⟩]) (.cond (.t 42) (.seq (.reg none [⟨(some 2), none, (.mv (.k (.int .u64 0)))⟩, ⟨(some 3), none, (.mv (.k (.int .i64 0)))⟩]) .ret) .skip)) (.seq (.reg none [⟨(some 43), none, (.mv (.t 4))⟩, ⟨(some 44), none, (.mv (.t 6))⟩, ⟨(some 45), none, (.bin .add [] (.t 44) (.k (.int .i64 1)))⟩, ⟨(some 2), none, (.mv (.t 43))⟩, ⟨(some 3), none, (.mv (.t 45))⟩]) .ret)) .skip))))) (.reg none [⟨(some 15), none, (.mv (.t 6))⟩, ⟨(some 16), none, (.bin .add [] (.t 15) (.k (.int .i64 1)))⟩, ⟨(some 6), none, (.mv (.t 16))⟩])))
def c79 : Fn' := ⟨46, [(.tmp 2), (.tmp 3)], (.seq (.reg none [⟨(some 2), none, (.mv (.k (.int .u64 0)))⟩, ⟨(some 3), none, (.mv (.k (.int .i64 0)))⟩]) (.seq (.reg none [⟨(some 4), none, (.mv (.k (.int .u64 0)))⟩]) (.seq (.reg none [⟨(some 5), none, (.mv (.k (.int .u64 1)))⟩]) (.seq (.seq (.reg none [⟨(some 6), none, (.mv (.k (.int .i64 0)))⟩]) (.block 0 (.loop b79_0))) (.seq (.reg none [⟨(some 2), none, (.mv (.k (.int .u64 0)))⟩, ⟨(some 3), none, (.mv (.k (.int .i64 0)))⟩]) .ret)))))⟩
theorem k79 : compF Try.prog 75 = some c79 := by kernel_rfl
attribute [local simp] op_or op_an op_add op_eql op_neq op_lss op_gtr op_leq op_geq op_sub op_mul op_rem op_quo op_xor op_and
attribute [-simp] intOp bin_shl
theorem u64_wrap (m : Nat) : IntKind.u64.wrap (m : Int) = ((m % 18446744073709551616 : Nat) : Int) := by
  rw [IntKind.wrap_u64]
  exact cast_mod 18446744073709551616 m
/-- A part more, modulo 2^64. -/
theorem u64_mac (x p q : Nat) : IntKind.u64.wrap (((x % 18446744073709551616 : Nat) : Int) + IntKind.u64.wrap ((p : Int) * ((q % 18446744073709551616 : Nat) : Int))) = (((x + p * q) % 18446744073709551616 : Nat) : Int) := by
  rw [← Int.natCast_mul, u64_wrap, ← Int.natCast_add, u64_wrap, mac_mod]
theorem u64_mul (q p : Nat) : IntKind.u64.wrap (((q % 18446744073709551616 : Nat) : Int) * (p : Int)) = ((q * p % 18446744073709551616 : Nat) : Int) := by
  rw [← Int.natCast_mul, u64_wrap, Nat.mul_mod, Nat.mod_mod, ← Nat.mul_mod]
def t79 (c : Bool) (l : List Int) (x sc : Int) (i : Nat) : List D := [.slc c 1 (l.map (.int .u8)), .undef, .int .u64 0, .int .i64 0, .int .u64 x, .int .u64 sc, .int .i64 i, .undef, .undef, .undef, .undef, .undef, .undef, .undef, .undef, .undef, .undef, .undef, .undef, .undef, .undef, .undef, .undef, .undef, .undef, .undef, .undef, .undef, .undef, .undef, .undef, .undef, .undef, .undef, .undef, .undef, .undef, .undef, .undef, .undef, .undef, .undef, .undef, .undef, .undef, .undef]
def kn79 : List Kn := [.blk 0, .c ((C.reg none [⟨some 2, none, .mv (.k (.int .u64 0))⟩, ⟨some 3, none, .mv (.k (.int .i64 0))⟩]).seq C.ret)]
def V79 (l : List Int) : Option (D × List Obj) := some (.tuple [.int .u64 (varI l).1, .int .i64 (varI l).2], [])
set_option maxHeartbeats 4000000 in
theorem L79 (cl : Bool) (l : List Int) (hl : l.length ≤ 2 ^ 45) (hB : isB l) (t : List Int) : ∀ (x0 i : Nat) (xx sc : Int) (pre : List Int), i ≤ 10 → l = pre ++ t → i = pre.length → xx = ((x0 % 18446744073709551616 : Nat) : Int) → sc = ((128 ^ i % 18446744073709551616 : Nat) : Int) →
    (raw (nats l) = match raw (nats t) with
      | none => none
      | some (z, n) => some (x0 + z * 128 ^ i, i + n)) →
    finK false 0 [Rs.tmp 2, Rs.tmp 3] (loopK cf0 K0 (LpB cf0 K0 b79_0 (t79 cl l 0 1 0) 0 ⟨t79 cl l xx sc i, []⟩) kn79) = V79 l := by
  have hN := nats_lt hB
  have hv := varN_raw (nats l) hN
  have none_ : (∀ z n, raw (nats l) = some (z, n) → 10 < n) → varI l = (0, 0) := by
    intro hr
    unfold varI
    rw [hv]
    cases hc : raw (nats l) with
    | none => rfl
    | some p =>
      obtain ⟨y, n⟩ := p
      have h10 := hr y n hc
      have hle := raw_le _ _ _ hc
      simp only
      rw [if_neg]
      · rfl
      · rintro ⟨hp, hy⟩
        have := putN_len10 y hy
        rw [hp, List.length_take] at this
        omega
  induction t with
  | nil =>
    intro x0 i xx sc pre hi hlp hip hxx hsc hraw
    have h0 : varI l = (0, 0) := by
      unfold varI
      rw [hv, hraw]
      rfl
    unfold V79
    rw [h0]
    have hil : ¬ i < l.length := by rw [hlp]; simp; omega
    rw [LpB_eq]
    simp only [t79]
    conv => lhs; arg 4; arg 3; arg 6; simp [b79_0, hil]
    simp [kn79]
  | cons c t ih =>
    intro x0 i xx sc pre hi hlp hip hxx hsc hraw
    have hil : i < l.length := by rw [hlp, hip]; simp
    have hget : l[i]? = some c := by rw [hlp, hip]; simp
    have hgi : l[i]'hil = c := by rw [List.getElem?_eq_getElem hil] at hget; exact Option.some.inj hget
    have hcb : 0 ≤ c ∧ c < 256 := hB c (by rw [hlp]; simp)
    obtain ⟨n, hnc⟩ := Int.eq_ofNat_of_zero_le hcb.1
    have hn : n < 256 := by omega
    have e : nats (c :: t) = n :: nats t := by simp [nats, hnc]
    rw [e] at hraw
    by_cases h10 : i < 10
    · have h10' : (i : Int) < 10 := by omega
      have hw := w64 (i + 1) (by omega)
      obtain ⟨m, hm⟩ : ∃ m, m = IntKind.u64.wrap (c.tmod 128) := ⟨_, rfl⟩
      have hmn : m = ((n % 128 : Nat) : Int) := by
        rw [hm, hnc, Int.tmod_eq_emod_of_nonneg (by omega), IntKind.wrap_u64]; omega
      obtain ⟨v, hv2⟩ : ∃ v, v = (x0 + n % 128 * 128 ^ i) % 18446744073709551616 := ⟨_, rfl⟩
      have hX : IntKind.u64.wrap (xx + IntKind.u64.wrap (m * sc)) = (v : Int) := by
        rw [hxx, hmn, hsc, hv2]
        exact u64_mac x0 (n % 128) (128 ^ i)
      obtain ⟨s', es'⟩ : ∃ s' : Int, s' = IntKind.u64.wrap (sc * 128) := ⟨_, rfl⟩
      have hS : s' = ((128 ^ (i + 1) % 18446744073709551616 : Nat) : Int) := by
        rw [es', hsc, Nat.pow_succ]
        exact u64_mul (128 ^ i) 128
      by_cases hs : n < 128
      · have hs' : c < 128 := by omega
        rw [raw_small _ hs] at hraw
        simp only at hraw
        have em : n % 128 = n := Nat.mod_eq_of_lt hs
        rw [em] at hv2
        have hint : ∀ y : Nat, ints (putN y) = l.take (i + 1) ↔ putN y = (nats l).take (i + 1) := by
          intro y
          constructor
          · intro h
            rw [← nats_take, ← h, nats_ints]
          · intro h
            rw [h, ← nats_take, ints_nats (isB_take hB _)]
        obtain ⟨y, hy⟩ : ∃ y, x0 + n * 128 ^ i = y := ⟨_, rfl⟩
        rw [hy] at hraw hv2
        have hvlt : v < 18446744073709551616 := by rw [hv2]; exact Nat.mod_lt _ (by decide)
        have hyv : y < 18446744073709551616 → v = y := fun h => by rw [hv2]; exact Nat.mod_eq_of_lt h
        obtain ⟨q, hq⟩ : ∃ q, putI (v : Int) = q := ⟨_, rfl⟩
        have hq' : ints (putN v) = q := by rw [← hq]; simp [putI]
        have hK := K39 (v : Int) (by omega) (by omega)
        rw [hq] at hK
        have hqB : isB q := by rw [← hq]; exact isB_put _
        have hql : q.length ≤ 10 := by rw [← hq]; exact putI_len10 _ (by omega)
        have hint2 := hint v
        rw [hq'] at hint2
        have hres : varI l = if q = l.take (i + 1) then ((v : Int), (i : Int) + 1) else (0, 0) := by
          unfold varI
          rw [hv, hraw]
          simp only
          by_cases hp : q = l.take (i + 1)
          · rw [if_pos hp]
            have hp2 := hint2.1 hp
            have hd : dec (nats l) = some (v, (putN v).length) := by
              have h1 : nats l = putN v ++ (nats l).drop (i + 1) := by rw [hp2, List.take_append_drop]
              conv => lhs; rw [h1]
              exact dec_put _ _
            have h2 := dec_raw _ hN _ _ hd
            rw [hraw] at h2
            simp only [Option.some.injEq, Prod.mk.injEq] at h2
            have hyv2 : y = v := h2.1
            rw [hyv2, if_pos ⟨hp2, hvlt⟩]
            simp
          · rw [if_neg hp, if_neg]
            · rfl
            · rintro ⟨h1, h2⟩
              rw [← hyv h2] at h1
              exact hp (hint2.2 h1)
        unfold V79
        rw [hres]
        obtain ⟨p, hp⟩ : ∃ p, l.take (i + 1) = p := ⟨_, rfl⟩
        have hpB : isB p := by rw [← hp]; exact isB_take hB _
        rw [hp]
        have m1 : List.take (i + 1) (l.map (D.int .u8)) = p.map (D.int .u8) := by rw [← hp]; simp [List.map_take]
        have hbeq := u8_beq q p hqB hpB
        have hl1 : 0 ≤ (i : Int) + 1 := by omega
        have hl2 : (i : Int) + 1 ≤ l.length := by omega
        rw [LpB_eq]
        by_cases he : q = p
        · have he' : (q == p) = true := by simp [he]
          rw [if_pos he]
          simp only [t79]
          conv => lhs; arg 4; arg 3; arg 6; simp [b79_0, hil, h10', hgi, ← hm, hX, hw, hs', hK, m1, hbeq, he', hl1, hl2, evOp, evM, wants, Ins.go, X.ev, iaM, ldM, binD, intOp, setD, applyW, Ek_ops_nil, allFree, free, callM, callP]
          simp [kn79]
        · have he' : (q == p) = false := by simpa using he
          rw [if_neg he]
          simp only [t79]
          conv => lhs; arg 4; arg 3; arg 6; simp [b79_0, hil, h10', hgi, ← hm, hX, hw, hs', hK, m1, hbeq, he', hl1, hl2, evOp, evM, wants, Ins.go, X.ev, iaM, ldM, binD, intOp, setD, applyW, Ek_ops_nil, allFree, free, callM, callP]
          simp [kn79]
      · rw [raw_big _ hs] at hraw
        have hs' : ¬ c < 128 := by omega
        have ih' := ih (x0 + n % 128 * 128 ^ i) (i + 1) (v : Int) s' (pre ++ [c]) (by omega) (by rw [hlp]; simp) (by simp [hip]) (by rw [hv2]) hS (by
          rw [hraw]
          cases raw (nats t) with
          | none => rfl
          | some p =>
            obtain ⟨z, m⟩ := p
            simp only [Option.some.injEq, Prod.mk.injEq]
            constructor
            · rw [Nat.pow_succ, Nat.add_mul]
              have : 128 * z * 128 ^ i = z * (128 ^ i * 128) := by ac_rfl
              omega
            · omega)
        rw [LpB_eq]
        simp only [t79] at ih' ⊢
        conv => lhs; arg 4; arg 3; arg 6; simp [b79_0, hil, h10', hgi, ← hm, hX, hw, hs', ← es']
        simp at ih' ⊢
        exact ih'
    · have hi10 : i = 10 := by omega
      have h0 : varI l = (0, 0) := by
        refine none_ (fun z m hz => ?_)
        rw [hz] at hraw
        cases hr2 : raw (n :: nats t) with
        | none => rw [hr2] at hraw; cases hraw
        | some p =>
          obtain ⟨z2, m2⟩ := p
          rw [hr2] at hraw
          have := raw_le _ _ _ hr2
          simp only [Option.some.injEq, Prod.mk.injEq] at hraw
          omega
      unfold V79
      rw [h0]
      have h10' : ¬ (i : Int) < 10 := by omega
      rw [LpB_eq]
      simp only [t79]
      conv => lhs; arg 4; arg 3; arg 6; simp [b79_0, hil, h10']
      simp [kn79]
set_option maxHeartbeats 2000000 in
/-- thresherref01.Var. -/
theorem K79 (c : Bool) (l : List Int) (hl : l.length ≤ 2 ^ 45) (hB : isB l) : K0 75 [.slc c 1 (l.map (.int .u8))] [] = some (.tuple [.int .u64 (varI l).1, .int .i64 (varI l).2], []) := by
  refine K_call k79 (oraG_none (by decide) (by decide)) (by simp [c79]) ?_
  have h := L79 c l hl hB l 0 0 0 1 [] (by decide) rfl rfl rfl rfl (by
      cases raw (nats l) with
      | none => rfl
      | some p => obtain ⟨z, m⟩ := p; simp)
  simp only [t79, kn79, V79] at h
  simp [c79]
  simp at h
  rw [h]
end Go.Ab
/- THE FUNCTIONS' EQUATIONS: thresherref02: Sum, four, Frame, Unframe. -/
set_option linter.all false
set_option maxRecDepth 100000
namespace Go.Ab
open Go.Proofs Go.Proofs.YtdopbfjebjnpkaaH Go.Proofs.YtdopbfjebjnpkaaH.Crc Go.Proofs.YtdopbfjebjnpkaaH.Var Go.Proofs.YtdopbfjebjnpkaaH.Fr
def b49_0 : C := (.seq (.seq (.reg none [⟨(some 18), none, (.mv (.t 6))⟩, ⟨(some 19), none, (.bin .lss [] (.t 18) (.k (.int .i64 8)))⟩]) (.cond (.t 19) .skip (.exit 2))) (.seq (.block 3 (.seq (.seq (.reg none [⟨(some 22), none, (.mv (.t 5))⟩, ⟨(some 23), none, (.bin .rem [] (.t 22) (.k (.int .u32 2)))⟩, ⟨(some 24), none, (.mv (.t 3))⟩, ⟨(some 25), none, (.bin .rem [] (.t 24) (.k (.int .u32 2)))⟩, ⟨(some 26), none, (.bin .neq [] (.t 23) (.t 25))⟩]) (.cond (.t 26) (.reg none [⟨(some 27), none, (.mv (.t 3))⟩, ⟨(some 28), none, (.bin .quo [] (.t 27) (.k (.int .u32 2)))⟩, ⟨(some 29), none, (.bin .xor [] (.t 28) (.k (.int .u32 3988292384)))⟩, ⟨(some 3), none, (.mv (.t 29))⟩]) (.reg none [⟨(some 30), none, (.mv (.t 3))⟩, ⟨(some 31), none, (.bin .quo [] (.t 30) (.k (.int .u32 2)))⟩, ⟨(some 3), none, (.mv (.t 31))⟩]))) (.reg none [⟨(some 32), none, (.mv (.t 5))⟩, ⟨(some 33), none, (.bin .quo [] (.t 32) (.k (.int .u32 2)))⟩, ⟨(some 5), none, (.mv (.t 33))⟩]))) (.reg none [⟨(some 20), none, (.mv (.t 6))⟩, ⟨(some 21), none, (.bin .add [] (.t 20) (.k (.int .i64 1)))⟩, ⟨(some 6), none, (.mv (.t 21))⟩])))
def b49_1 : C := (.seq (.seq (.reg none [⟨(some 7), none, (.mv (.t 4))⟩, ⟨(some 8), none, (.mv (.t 0))⟩, ⟨(some 9), none, (.len 1 (.t 8))⟩, ⟨(some 10), none, (.bin .lss [] (.t 7) (.t 9))⟩]) (.cond (.t 10) .skip (.exit 0))) (.seq (.block 1 (.seq (.reg none [⟨(some 13), none, (.mv (.t 0))⟩, ⟨(some 14), none, (.mv (.t 4))⟩, ⟨(some 15), none, (.ia none 1 false (.t 13) (.t 14))⟩, ⟨(some 16), none, (.ld none (.t 15))⟩, ⟨(some 17), none, (.cvt (.int .u32) (.t 16))⟩, ⟨(some 5), none, (.mv (.t 17))⟩]) (.seq (.reg none [⟨(some 6), none, (.mv (.k (.int .i64 0)))⟩]) (.block 2 (.loop b49_0))))) (.reg none [⟨(some 11), none, (.mv (.t 4))⟩, ⟨(some 12), none, (.bin .add [] (.t 11) (.k (.int .i64 1)))⟩, ⟨(some 4), none, (.mv (.t 12))⟩])))
def c49 : Fn' := ⟨36, [(.tmp 2)], (.seq (.reg none [⟨(some 2), none, (.mv (.k (.int .u32 0)))⟩]) (.seq (.reg none [⟨(some 3), none, (.mv (.k (.int .u32 4294967295)))⟩]) (.seq (.seq (.reg none [⟨(some 4), none, (.mv (.k (.int .i64 0)))⟩]) (.block 0 (.loop b49_1))) (.seq (.reg none [⟨(some 34), none, (.mv (.t 3))⟩, ⟨(some 35), none, (.bin .sub [] (.k (.int .u32 4294967295)) (.t 34))⟩, ⟨(some 2), none, (.mv (.t 35))⟩]) .ret))))⟩
theorem k49 : compF Try.prog 45 = some c49 := by kernel_rfl
def c48 : Fn' := ⟨7, [(.tmp 2)], (.seq (.reg none [⟨(some 2), none, (.mv (.k nilS))⟩]) (.seq (.reg none [⟨(some 3), none, (.mv (.t 0))⟩, ⟨(some 4), none, (.cvt (.int .u64) (.t 3))⟩, ⟨(some 5), none, (.call (.f 66) [(.t 4)])⟩, ⟨(some 6), none, (.sub 1 1 (.t 5) none (some (.k (.int .i64 4))) none)⟩, ⟨(some 2), none, (.mv (.t 6))⟩]) .ret))⟩
theorem k48 : compF Try.prog 44 = some c48 := by kernel_rfl
def c23 : Fn' := ⟨13, [(.tmp 2)], (.seq (.reg none [⟨(some 2), none, .nilrow⟩]) (.seq (.reg none [⟨(some 3), none, (.mv (.t 0))⟩, ⟨(some 4), none, (.len 1 (.t 3))⟩, ⟨(some 5), none, (.cvt (.int .u64) (.t 4))⟩, ⟨(some 6), none, (.call (.f 26) [(.t 5)])⟩, ⟨(some 7), none, (.mv (.t 0))⟩, ⟨(some 8), none, (.call (.f 45) [(.t 7)])⟩, ⟨(some 9), none, (.call (.f 44) [(.t 8)])⟩, ⟨(some 10), none, (.app 1 1 (.t 6) (.t 9))⟩, ⟨(some 11), none, (.mv (.t 0))⟩, ⟨(some 12), none, (.app 1 1 (.t 10) (.t 11))⟩, ⟨(some 2), none, (.mv (.t 12))⟩]) .ret))⟩
theorem k23 : compF Try.prog 28 = some c23 := by kernel_rfl
def c44 : Fn' := ⟨57, [(.tmp 2), (.tmp 3), (.tmp 4)], (.seq (.reg none [⟨(some 2), none, (.mv (.k nilS))⟩, ⟨(some 3), none, (.mv (.k (.int .i64 0)))⟩, ⟨(some 4), none, (.mv (.k (.int .i64 0)))⟩]) (.seq (.reg none [⟨(some 9), none, (.mv (.t 0))⟩, ⟨(some 10), none, (.call (.f 75) [(.t 9)])⟩, ⟨(some 8), none, (.mv (.t 10))⟩, ⟨(some 11), none, (.ext (.t 8) 0)⟩, ⟨(some 12), none, (.ext (.t 8) 1)⟩, ⟨(some 5), none, (.mv (.t 11))⟩, ⟨(some 6), none, (.mv (.t 12))⟩]) (.seq (.seq (.reg none [⟨(some 13), none, (.mv (.t 6))⟩, ⟨(some 14), none, (.bin .eql [] (.t 13) (.k (.int .i64 0)))⟩, ⟨(some 15), none, (.mv (.t 14))⟩, ⟨(some 16), (some ((some 15), false)), (.mv (.t 5))⟩, ⟨(some 17), (some ((some 15), false)), (.bin .gtr [] (.t 16) (.k (.int .u64 1048576)))⟩, ⟨(some 18), none, (.pick (.t 15) (.k (.bool true)) (.t 17))⟩, ⟨(some 19), none, (.mv (.t 18))⟩, ⟨(some 20), (some ((some 19), false)), (.mv (.t 0))⟩, ⟨(some 21), (some ((some 19), false)), (.len 1 (.t 20))⟩, ⟨(some 22), (some ((some 19), false)), (.mv (.t 6))⟩, ⟨(some 23), (some ((some 19), false)), (.bin .sub [] (.t 21) (.t 22))⟩, ⟨(some 24), (some ((some 19), false)), (.mv (.t 5))⟩, ⟨(some 25), (some ((some 19), false)), (.cvt (.int .i64) (.t 24))⟩, ⟨(some 26), (some ((some 19), false)), (.bin .add [] (.k (.int .i64 4)) (.t 25))⟩, ⟨(some 27), (some ((some 19), false)), (.bin .lss [] (.t 23) (.t 26))⟩, ⟨(some 28), none, (.pick (.t 19) (.k (.bool true)) (.t 27))⟩]) (.cond (.t 28) (.seq (.reg none [⟨(some 2), none, (.mv (.k nilS))⟩, ⟨(some 3), none, (.mv (.k (.int .i64 0)))⟩, ⟨(some 4), none, (.mv (.k (.int .i64 10)))⟩]) .ret) .skip)) (.seq (.reg none [⟨(some 29), none, (.bsl false 1 0 [(.int .u8 0)] [])⟩, ⟨(some 30), none, (.mv (.t 0))⟩, ⟨(some 31), none, (.mv (.t 6))⟩, ⟨(some 32), none, (.bin .add [] (.t 31) (.k (.int .i64 4)))⟩, ⟨(some 33), none, (.mv (.t 6))⟩, ⟨(some 34), none, (.bin .add [] (.t 33) (.k (.int .i64 4)))⟩, ⟨(some 35), none, (.mv (.t 5))⟩, ⟨(some 36), none, (.cvt (.int .i64) (.t 35))⟩, ⟨(some 37), none, (.bin .add [] (.t 34) (.t 36))⟩, ⟨(some 38), none, (.sub 1 1 (.t 30) (some (.t 32)) (some (.t 37)) none)⟩, ⟨(some 39), none, (.app 1 1 (.t 29) (.t 38))⟩, ⟨(some 7), none, (.mv (.t 39))⟩]) (.seq (.seq (.reg (some [(1, 8), (2, 8), (3, 8), (1, 9), (2, 9), (3, 9)]) [⟨(some 40), none, (.mv (.t 7))⟩, ⟨(some 41), none, (.call (.f 45) [(.t 40)])⟩, ⟨(some 42), none, (.call (.f 44) [(.t 41)])⟩, ⟨(some 43), none, (.cvt .b2s (.t 42))⟩, ⟨(some 44), none, (.mv (.t 0))⟩, ⟨(some 45), none, (.mv (.t 6))⟩, ⟨(some 46), none, (.mv (.t 6))⟩, ⟨(some 47), none, (.bin .add [] (.t 46) (.k (.int .i64 4)))⟩, ⟨(some 48), none, (.sub 1 1 (.t 44) (some (.t 45)) (some (.t 47)) none)⟩, ⟨(some 49), none, (.cvt .b2s (.t 48))⟩, ⟨(some 50), none, (.bin .neq [] (.t 43) (.t 49))⟩]) (.cond (.t 50) (.seq (.reg none [⟨(some 2), none, (.mv (.k nilS))⟩, ⟨(some 3), none, (.mv (.k (.int .i64 0)))⟩, ⟨(some 4), none, (.mv (.k (.int .i64 11)))⟩]) .ret) .skip)) (.seq (.reg none [⟨(some 51), none, (.mv (.t 7))⟩, ⟨(some 52), none, (.mv (.t 6))⟩, ⟨(some 53), none, (.bin .add [] (.t 52) (.k (.int .i64 4)))⟩, ⟨(some 54), none, (.mv (.t 5))⟩, ⟨(some 55), none, (.cvt (.int .i64) (.t 54))⟩, ⟨(some 56), none, (.bin .add [] (.t 53) (.t 55))⟩, ⟨(some 2), none, (.mv (.t 51))⟩, ⟨(some 3), none, (.mv (.t 56))⟩, ⟨(some 4), none, (.mv (.k (.int .i64 0)))⟩]) .ret))))))⟩
theorem k44 : compF Try.prog 57 = some c44 := by kernel_rfl
attribute [local simp] op_or op_an op_add op_eql op_neq op_lss op_gtr op_leq op_geq op_sub op_mul op_rem op_quo op_xor op_and
attribute [-simp] intOp bin_shl
def t49 (cl : Bool) (l : List Int) (r : Int) (i : Nat) : List D := [.slc cl 1 (l.map (.int .u8)), .undef, .int .u32 0, .int .u32 r, .int .i64 i, .undef, .undef, .undef, .undef, .undef, .undef, .undef, .undef, .undef, .undef, .undef, .undef, .undef, .undef, .undef, .undef, .undef, .undef, .undef, .undef, .undef, .undef, .undef, .undef, .undef, .undef, .undef, .undef, .undef, .undef, .undef]
def u49 (cl : Bool) (l : List Int) (i : Nat) (b r c : Int) (k : Nat) : List D := [.slc cl 1 (l.map (.int .u8)), .undef, .int .u32 0, .int .u32 r, .int .i64 i, .int .u32 c, .int .i64 k, .int .i64 i, .slc cl 1 (l.map (.int .u8)), .int .i64 l.length, .bool true, .undef, .undef, .slc cl 1 (l.map (.int .u8)), .int .i64 i, .fptr (.int .u8 b), .int .u8 b, .int .u32 b, .undef, .undef, .undef, .undef, .undef, .undef, .undef, .undef, .undef, .undef, .undef, .undef, .undef, .undef, .undef, .undef, .undef, .undef]
set_option maxHeartbeats 4000000 in
theorem M49 (cl : Bool) (l : List Int) (i : Nat) (b r0 c0 : Int) : ∀ (d k r c : Nat) (rr cc : Int), k + d = 8 → c < 2 ^ d → r < 4294967296 → rr = (r : Nat) → cc = (c : Nat) →
    LpB cf0 K0 b49_0 (u49 cl l i b r0 c0 0) 0 ⟨u49 cl l i b rr cc k, []⟩ = some (.exit 2, ⟨u49 cl l i b ((Mn d (r ^^^ c) : Nat) : Int) 0 8, []⟩)
  | 0, k, r, c, rr, cc, hk, hc, hr, er, ec => by
    have hc0 : c = 0 := by simpa using hc
    have hk8 : k = 8 := by omega
    rw [LpB_eq]
    simp only [u49]
    conv => lhs; arg 6; simp [b49_0, hk8]
    simp [Mn, hc0, er, ec, hk8]
  | d + 1, k, r, c, rr, cc, hk, hc, hr, er, ec => by
    have hk8 : (k : Int) < 8 := by omega
    have hw := w64 (k + 1) (by omega)
    obtain ⟨r2, er2⟩ : ∃ r2 : Int, r2 = ((r / 2 : Nat) : Int) := ⟨_, rfl⟩
    obtain ⟨c2, ec2⟩ : ∃ c2 : Int, c2 = ((c / 2 : Nat) : Int) := ⟨_, rfl⟩
    have hq : IntKind.u32.wrap (rr.tdiv 2) = r2 := by rw [er, er2, Int.tdiv_eq_ediv_of_nonneg (by omega), IntKind.wrap_u32']; omega
    have hc32 : c < 4294967296 := Nat.lt_of_lt_of_le hc (by have : 2 ^ (d + 1) ≤ 2 ^ 8 := Nat.pow_le_pow_right (by decide) (by omega)
                                                            have e8 : (2 : Nat) ^ 8 = 256 := by decide
                                                            omega)
    have hcq : IntKind.u32.wrap (cc.tdiv 2) = c2 := by rw [ec, ec2, Int.tdiv_eq_ediv_of_nonneg (by omega), IntKind.wrap_u32']; omega
    have hrm : rr.tmod 2 = ((r % 2 : Nat) : Int) := by rw [er, Int.tmod_eq_emod_of_nonneg (by omega)]; omega
    have hcm : cc.tmod 2 = ((c % 2 : Nat) : Int) := by rw [ec, Int.tmod_eq_emod_of_nonneg (by omega)]; omega
    have hx : xorI .u32 r2 3988292384 = ((r / 2 ^^^ 3988292384 : Nat) : Int) := by rw [er2]; exact xor32 (r / 2) 3988292384 (by omega) (by decide)
    have hxlt : r / 2 ^^^ 3988292384 < 4294967296 := Nat.xor_lt_two_pow (n := 32) (by omega) (by decide)
    have hc2' : c / 2 < 2 ^ d := by rw [Nat.pow_succ] at hc; omega
    rw [bit_step r c d hc]
    rw [LpB_eq]
    by_cases he : r % 2 = c % 2
    · have hne : (cc.tmod 2 != rr.tmod 2) = false := by rw [hrm, hcm, he]; simp
      rw [if_pos he, Nat.xor_zero]
      have ih := M49 cl l i b r0 c0 d (k + 1) (r / 2) (c / 2) r2 c2 (by omega) hc2' (by omega) er2 ec2
      simp only [u49] at ih ⊢
      conv => lhs; arg 6; simp [b49_0, hk8, hw, hq, hcq, hne]
      simp at ih ⊢
      exact ih
    · have hne : (cc.tmod 2 != rr.tmod 2) = true := by rw [hrm, hcm]; simp; omega
      rw [if_neg he]
      obtain ⟨r3, er3⟩ : ∃ r3 : Int, r3 = ((r / 2 ^^^ 3988292384 : Nat) : Int) := ⟨_, rfl⟩
      rw [← er3] at hx
      have ih := M49 cl l i b r0 c0 d (k + 1) (r / 2 ^^^ 3988292384) (c / 2) r3 c2 (by omega) hc2' hxlt er3 ec2
      simp only [u49] at ih ⊢
      conv => lhs; arg 6; simp [b49_0, hk8, hw, hq, hcq, hne, hx]
      simp at ih ⊢
      exact ih
set_option maxHeartbeats 4000000 in
theorem L49 (cl : Bool) (l : List Int) (hl : l.length ≤ 2 ^ 47) (hB : isB l) : ∀ (t pre : List Int) (r i : Nat) (rr : Int), l = pre ++ t → i = pre.length → r < 4294967296 → rr = (r : Nat) →
    LpB cf0 K0 b49_1 (t49 cl l 4294967295 0) 0 ⟨t49 cl l rr i, []⟩ = some (.exit 0, ⟨t49 cl l ((crcReg r (nats t) : Nat) : Int) l.length, []⟩)
  | [], pre, r, i, rr, h, hi, hr, er => by
    have : l = pre := by simpa using h
    subst this
    rw [LpB_eq]
    simp only [t49]
    conv => lhs; arg 6; simp [b49_1, hi]
    simp [hi, crcReg, nats, er]
  | c :: t, pre, r, i, rr, h, hi, hr, er => by
    have hil : i < l.length := by rw [h, hi]; simp
    have hlt : (i : Int) < l.length := by omega
    have hget : l[i]? = some c := by rw [h, hi]; simp
    have hcb := hB c (by rw [h]; simp)
    obtain ⟨n, hnc⟩ := Int.eq_ofNat_of_zero_le hcb.1
    have hw := w64 (i + 1) (by omega)
    have hwc : IntKind.u32.wrap c = c := by rw [IntKind.wrap_u32']; omega
    have hm := M49 cl l i c rr c 8 0 r n rr c rfl (by have e8 : (2 : Nat) ^ 8 = 256 := by decide
                                                      omega) hr er hnc
    have hlt2 : Mn 8 (r ^^^ n) < 4294967296 := Mn_lt 8 _ (Nat.xor_lt_two_pow (n := 32) (by omega) (by omega))
    obtain ⟨r2, er2⟩ : ∃ r2 : Int, r2 = ((Mn 8 (r ^^^ n) : Nat) : Int) := ⟨_, rfl⟩
    have ih := L49 cl l hl hB t (pre ++ [c]) (Mn 8 (r ^^^ n)) (i + 1) r2 (by rw [h]; simp) (by simp [hi]) hlt2 er2
    have en : nats (c :: t) = n :: nats t := by simp [nats, hnc]
    rw [en, crcReg_cons]
    rw [← er2] at hm
    rw [LpB_eq]
    simp only [t49, u49] at ih hm ⊢
    simp at hm
    conv => lhs; arg 6; simp [b49_1, hlt, hget, hwc, hm, hw]
    simp at ih ⊢
    exact ih
set_option maxHeartbeats 2000000 in
/-- thresherref02.Sum. -/
theorem K49 (cl : Bool) (l : List Int) (hl : l.length ≤ 2 ^ 47) (hB : isB l) : K0 45 [.slc cl 1 (l.map (.int .u8))] [] = some (.int .u32 (crcI l), []) := by
  refine K_call k49 (oraG_none (by decide) (by decide)) (by simp [c49]) ?_
  have h := L49 cl l hl hB l [] 4294967295 0 4294967295 rfl rfl (by decide) rfl
  have hlt := crcReg_lt (nats l) 4294967295 (by decide) (nats_lt hB)
  have he : IntKind.u32.wrap (4294967295 - ((crcReg 4294967295 (nats l) : Nat) : Int)) = crcI l := by
    unfold crcI crcN
    rw [not32 _ hlt, IntKind.wrap_u32']
    omega
  simp only [t49] at h
  simp [c49]
  simp at h
  rw [h]
  simp [he]
set_option maxHeartbeats 2000000 in
theorem K48 (x : Int) (hx : 0 ≤ x ∧ x ≤ 4294967295) : K0 44 [.int .u32 x] [] = some (.slc false 1 ((sum4 x).map (.int .u8)), []) := by
  refine K_call k48 (oraG_none (by decide) (by decide)) (by simp [c48]) ?_
  have hw : IntKind.u64.wrap x = x := by rw [IntKind.wrap_u64]; omega
  have h := K82 x hx.1 (by omega)
  have hlen := Fr.le8_len x
  simp [c48, hw, h, hlen, sum4, List.map_take]
set_option maxHeartbeats 2000000 in
/-- thresherref02.Frame. -/
theorem K23 (l : List Int) (cl : Bool) (h : isB l) (hl : l.length ≤ 2 ^ 45) : K0 28 [.slc cl 1 (l.map (.int .u8))] [] = some (.slc false 1 ((frameI l).map (.int .u8)), []) := by
  refine K_call k23 (oraG_none (by decide) (by decide)) (by simp [c23]) ?_
  have hw : IntKind.u64.wrap (l.length : Int) = l.length := by rw [IntKind.wrap_u64]; omega
  have h1 := K39 (l.length : Int) (by omega) (by omega)
  have hcr := crcI_range h
  have h2 := K49 cl l (by omega) h
  have h3 := K48 (crcI l) (by omega)
  obtain ⟨p, hp⟩ : ∃ p, putI (l.length : Int) = p := ⟨_, rfl⟩
  have hpl : p.length ≤ 10 := by rw [← hp]; exact putI_len10 _ (by omega)
  obtain ⟨s, hs⟩ : ∃ s, sum4 (crcI l) = s := ⟨_, rfl⟩
  have hsl : s.length = 4 := by rw [← hs]; exact sum4_len _
  have hpn : ¬ p = [] := by
    intro e
    have := putI_pos (l.length : Int)
    rw [hp, e] at this
    cases this
  have hf : frameI l = p ++ (s ++ l) := by unfold frameI; rw [hp, hs]
  rw [hp] at h1
  rw [hs] at h3
  have b1 : p.length + s.length ≤ 70368744177664 := by omega
  have b2 : p.length + (s.length + l.length) ≤ 70368744177664 := by omega
  have hsn : ¬ s = [] := by intro e; rw [e] at hsl; cases hsl
  by_cases hln : l = []
  · subst hln
    simp at h1 h2 hw
    simp [c23, hw, h1, h2, h3, b1, hsn, hf, Nat.add_assoc, List.take_of_length_le]
  · simp [c23, hw, h1, h2, h3, b1, b2, hsn, hln, hf, Nat.add_assoc, List.take_of_length_le]
set_option maxHeartbeats 4000000 in
/-- thresherref02.Unframe. -/
theorem K44 (c : Bool) (l : List Int) (hl : l.length ≤ 2 ^ 45) (hB : isB l) : ∃ d, K0 57 [.slc c 1 (l.map (.int .u8))] [] = some (.tuple [d, .int .i64 (unframeI l).2.1, .int .i64 (unframeI l).2.2], []) ∧
    (((unframeI l).2.2 = 0 ∧ ∃ c', d = .slc c' 1 ((unframeI l).1.map (.int .u8))) ∨ (¬ (unframeI l).2.2 = 0 ∧ d = nilS)) := by
  have hv := K79 c l (by omega) hB
  have hr := varI_range l
  obtain ⟨x, hx⟩ : ∃ x : Nat, (varI l).1 = x := ⟨(varI l).1.toNat, by omega⟩
  obtain ⟨n, hn⟩ : ∃ n : Nat, (varI l).2 = n := ⟨(varI l).2.toNat, by omega⟩
  have hvv : varI l = ((x : Int), (n : Int)) := Prod.ext hx hn
  rw [hx, hn] at hv
  rw [hx, hn] at hr
  by_cases h1 : (n : Int) = 0
  · rw [unframe_bad l (.inl (by rw [hn]; exact h1))]
    refine ⟨nilS, ?_, .inr ⟨by decide, rfl⟩⟩
    have h1' : ((n : Int) == 0) = true := by simp; omega
    refine K_call k44 (oraG_none (by decide) (by decide)) (by simp [c44]) ?_
    simp [c44, hv, h1']
  · have h1' : ((n : Int) == 0) = false := by simp; omega
    by_cases h2 : 1048576 < (x : Int)
    · rw [unframe_bad l (.inr (.inl (by rw [hx]; exact h2)))]
      refine ⟨nilS, ?_, .inr ⟨by decide, rfl⟩⟩
      refine K_call k44 (oraG_none (by decide) (by decide)) (by simp [c44]) ?_
      simp [c44, hv, h1', h2]
    · have w1 : IntKind.i64.wrap ((l.length : Int) - n) = l.length - n := w64 _ (by omega)
      have w2 : IntKind.i64.wrap (x : Int) = x := w64 _ (by omega)
      have w3 : IntKind.i64.wrap (4 + (x : Int)) = 4 + x := w64 _ (by omega)
      by_cases h3 : (l.length : Int) - n < 4 + x
      · rw [unframe_bad l (.inr (.inr (by rw [hx, hn]; omega)))]
        refine ⟨nilS, ?_, .inr ⟨by decide, rfl⟩⟩
        refine K_call k44 (oraG_none (by decide) (by decide)) (by simp [c44]) ?_
        simp [c44, hv, h1', h2, w1, w2, w3, h3]
      · rw [unframe_good l x n hvv h1 h2 (by omega)]
        obtain ⟨A, hA⟩ : ∃ A, A = n + 4 := ⟨_, rfl⟩
        obtain ⟨E, hE⟩ : ∃ E, E = n + 4 + x := ⟨_, rfl⟩
        have hEI : (n : Int) + 4 + x = (E : Int) := by omega
        rw [← hE, ← hA, hEI]
        have w4 : IntKind.i64.wrap ((n : Int) + 4) = A := by rw [w64 _ (by omega)]; omega
        have w6 : IntKind.i64.wrap ((A : Int) + x) = E := by rw [w64 _ (by omega)]; omega
        have b1 : E ≤ l.length := by omega
        have b2 : A ≤ E := by omega
        have b3 : A ≤ l.length := by omega
        have b4 : n ≤ A := by omega
        obtain ⟨d, hd⟩ : ∃ d, d = (l.take E).drop A := ⟨_, rfl⟩
        obtain ⟨s, hs⟩ : ∃ s, s = (l.take A).drop n := ⟨_, rfl⟩
        rw [← hd, ← hs]
        have m1 : ((l.map (D.int .u8)).take E).drop A = d.map (D.int .u8) := by rw [hd]; simp [List.map_take, List.map_drop]
        have m2 : ((l.map (D.int .u8)).take A).drop n = s.map (D.int .u8) := by rw [hs]; simp [List.map_take, List.map_drop]
        have hdB : isB d := by rw [hd]; exact isB_drop (isB_take hB _) _
        have hsB : isB s := by rw [hs]; exact isB_drop (isB_take hB _) _
        have hdl : d.length ≤ 2 ^ 45 := by rw [hd]; simp; omega
        have hdl2 : d.length ≤ 70368744177664 := by omega
        have k1 := fun cl => K49 cl d (by omega) hdB
        have hcr := crcI_range hdB
        have k2 := K48 (crcI d) (by omega)
        have hbeq := u8_beq (sum4 (crcI d)) s (isB_sum4 _) hsB
        obtain ⟨q, hq⟩ : ∃ q, sum4 (crcI d) = q := ⟨_, rfl⟩
        rw [hq] at hbeq k2 ⊢
        have m3 : List.drop (A - A) (d.map (D.int .u8)) = d.map (D.int .u8) := by simp
        by_cases he : q = s
        · have he' : (q == s) = true := by simp [he]
          rw [if_pos he]
          by_cases hdn : d = []
          · refine ⟨.slc true 1 (d.map (.int .u8)), K_call k44 (oraG_none (by decide) (by decide)) (by simp [c44]) ?_, .inl ⟨rfl, _, rfl⟩⟩
            rw [hdn] at m1 k1 k2 ⊢
            simp only [List.map_nil] at k1 m1
            simp [c44, hv, h1', h2, w1, w2, w3, h3, w4, w6, b1, b2, b3, b4, m1, m2, k1, k2, hbeq, he', hdl2, evOp, evM, wants, Ins.go, X.ev, iaM, ldM, binD, intOp, setD, applyW, Ek_ops_nil, allFree, free, callM, callP]

          · refine ⟨.slc false 1 (d.map (.int .u8)), K_call k44 (oraG_none (by decide) (by decide)) (by simp [c44]) ?_, .inl ⟨rfl, _, rfl⟩⟩
            simp [c44, hv, h1', h2, w1, w2, w3, h3, w4, w6, b1, b2, b3, b4, m1, m2, k1, k2, hbeq, he', hdl2, hdn, evOp, evM, wants, Ins.go, X.ev, iaM, ldM, binD, intOp, setD, applyW, Ek_ops_nil, allFree, free, callM, callP]

        · have he' : (q == s) = false := by simpa using he
          rw [if_neg he]
          refine ⟨nilS, K_call k44 (oraG_none (by decide) (by decide)) (by simp [c44]) ?_, .inr ⟨by decide, rfl⟩⟩
          by_cases hdn : d = []
          · rw [hdn] at m1 k1 k2
            simp only [List.map_nil] at k1 m1
            simp [c44, hv, h1', h2, w1, w2, w3, h3, w4, w6, b1, b2, b3, b4, m1, m2, k1, k2, hbeq, he', hdl2, evOp, evM, wants, Ins.go, X.ev, iaM, ldM, binD, intOp, setD, applyW, Ek_ops_nil, allFree, free, callM, callP]
          · simp [c44, hv, h1', h2, w1, w2, w3, h3, w4, w6, b1, b2, b3, b4, m1, m2, k1, k2, hbeq, he', hdl2, hdn, evOp, evM, wants, Ins.go, X.ev, iaM, ldM, binD, intOp, setD, applyW, Ek_ops_nil, allFree, free, callM, callP]
end Go.Ab
/- THE FUNCTIONS' EQUATIONS: thresherref16: numbers, Put, number, Same. -/
set_option linter.all false
set_option maxRecDepth 100000
namespace Go.Ab
open Go.Proofs Go.Proofs.YtdopbfjebjnpkaaH Go.Proofs.YtdopbfjebjnpkaaH.Crc Go.Proofs.YtdopbfjebjnpkaaH.Var Go.Proofs.YtdopbfjebjnpkaaH.Fr Go.Proofs.YtdopbfjebjnpkaaH.Rec
def c18 : Fn' := ⟨45, [(.tmp 2), (.tmp 3)], (.seq (.reg none [⟨(some 1), none, (.box false (.t 0))⟩, ⟨(some 2), none, (.mv (.k nilS))⟩, ⟨(some 3), none, (.mv (.k (.bool false)))⟩]) (.seq (.reg none [⟨(some 7), none, (.ld (some 7) (.t 1))⟩, ⟨(some 8), none, (.call (.f 24) [(.t 7)])⟩, ⟨(some 4), none, (.mv (.t 8))⟩]) (.seq (.seq (.reg none [⟨(some 9), none, (.mv (.t 4))⟩, ⟨(some 10), none, (.un .not (.t 9))⟩]) (.cond (.t 10) (.seq (.reg none [⟨(some 2), none, (.mv (.k nilS))⟩, ⟨(some 3), none, (.mv (.k (.bool false)))⟩]) .ret) .skip)) (.seq (.reg none [⟨(some 11), none, (.fa 0 1 false (.t 1))⟩, ⟨(some 12), none, (.ld none (.t 11))⟩, ⟨(some 13), none, (.cvt (.int .u8) (.t 12))⟩, ⟨(some 14), none, (.bsl true 1 1 [(.int .u8 0)] [(0, (.t 13))])⟩, ⟨(some 5), none, (.mv (.t 14))⟩]) (.seq (.seq (.reg none [⟨(some 15), none, (.fa 0 1 false (.t 1))⟩, ⟨(some 16), none, (.ld none (.t 15))⟩, ⟨(some 17), none, (.bin .eql [] (.t 16) (.k (.int .i64 1)))⟩]) (.cond (.t 17) (.seq (.reg none [⟨(some 18), none, (.fa 1 4 true (.t 1))⟩, ⟨(some 19), none, (.ld (some 4) (.t 18))⟩, ⟨(some 20), none, (.call (.f 25) [(.t 19)])⟩, ⟨(some 6), none, (.mv (.t 20))⟩]) (.reg none [⟨(some 21), none, (.mv (.t 5))⟩, ⟨(some 22), none, (.mv (.t 6))⟩, ⟨(some 23), none, (.len 1 (.t 22))⟩, ⟨(some 24), none, (.cvt (.int .u64) (.t 23))⟩, ⟨(some 25), none, (.call (.f 26) [(.t 24)])⟩, ⟨(some 26), none, (.app 1 1 (.t 21) (.t 25))⟩, ⟨(some 27), none, (.mv (.t 6))⟩, ⟨(some 28), none, (.app 1 1 (.t 26) (.t 27))⟩, ⟨(some 5), none, (.mv (.t 28))⟩])) .skip)) (.seq (.reg none [⟨(some 29), none, (.mv (.t 5))⟩, ⟨(some 30), none, (.fa 6 1 false (.t 1))⟩, ⟨(some 31), none, (.ld none (.t 30))⟩, ⟨(some 32), none, (.cvt (.int .u64) (.t 31))⟩, ⟨(some 33), none, (.call (.f 26) [(.t 32)])⟩, ⟨(some 34), none, (.app 1 1 (.t 29) (.t 33))⟩, ⟨(some 5), none, (.mv (.t 34))⟩]) (.seq (.seq (.reg none [⟨(some 35), none, (.fa 0 1 false (.t 1))⟩, ⟨(some 36), none, (.ld none (.t 35))⟩, ⟨(some 37), none, (.bin .neq [] (.t 36) (.k (.int .i64 2)))⟩]) (.cond (.t 37) (.reg none [⟨(some 38), none, (.mv (.t 5))⟩, ⟨(some 39), none, (.fa 5 1 false (.t 1))⟩, ⟨(some 40), none, (.ld none (.t 39))⟩, ⟨(some 41), none, (.call (.f 27) [(.t 40)])⟩, ⟨(some 42), none, (.app 1 1 (.t 38) (.t 41))⟩, ⟨(some 5), none, (.mv (.t 42))⟩]) .skip)) (.seq (.reg none [⟨(some 43), none, (.mv (.t 5))⟩, ⟨(some 44), none, (.call (.f 28) [(.t 43)])⟩, ⟨(some 2), none, (.mv (.t 44))⟩, ⟨(some 3), none, (.mv (.k (.bool true)))⟩]) .ret))))))))⟩
theorem k18 : compF Try.prog 13 = some c18 := by kernel_rfl
def c80 : Fn' := ⟨23, [(.tmp 2), (.tmp 3), (.tmp 4)], (.seq (.reg none [⟨(some 2), none, (.mv (.k (.int .i64 0)))⟩, ⟨(some 3), none, (.mv (.k nilS))⟩, ⟨(some 4), none, (.mv (.k (.bool false)))⟩]) (.seq (.reg none [⟨(some 8), none, (.mv (.t 0))⟩, ⟨(some 9), none, (.call (.f 75) [(.t 8)])⟩, ⟨(some 7), none, (.mv (.t 9))⟩, ⟨(some 10), none, (.ext (.t 7) 0)⟩, ⟨(some 11), none, (.ext (.t 7) 1)⟩, ⟨(some 5), none, (.mv (.t 10))⟩, ⟨(some 6), none, (.mv (.t 11))⟩]) (.seq (.seq (.reg none [⟨(some 12), none, (.mv (.t 6))⟩, ⟨(some 13), none, (.bin .eql [] (.t 12) (.k (.int .i64 0)))⟩, ⟨(some 14), none, (.mv (.t 13))⟩, ⟨(some 15), (some ((some 14), false)), (.mv (.t 5))⟩, ⟨(some 16), (some ((some 14), false)), (.bin .gtr [] (.t 15) (.k (.int .u64 999999)))⟩, ⟨(some 17), none, (.pick (.t 14) (.k (.bool true)) (.t 16))⟩]) (.cond (.t 17) (.seq (.reg none [⟨(some 2), none, (.mv (.k (.int .i64 0)))⟩, ⟨(some 3), none, (.mv (.k nilS))⟩, ⟨(some 4), none, (.mv (.k (.bool false)))⟩]) .ret) .skip)) (.seq (.reg (some []) [⟨(some 18), none, (.mv (.t 5))⟩, ⟨(some 19), none, (.cvt (.int .i64) (.t 18))⟩, ⟨(some 20), none, (.mv (.t 0))⟩, ⟨(some 21), none, (.mv (.t 6))⟩, ⟨(some 22), none, (.sub 1 1 (.t 20) (some (.t 21)) none none)⟩, ⟨(some 2), none, (.mv (.t 19))⟩, ⟨(some 3), none, (.mv (.t 22))⟩, ⟨(some 4), none, (.mv (.k (.bool true)))⟩]) .ret))))⟩
theorem k80 : compF Try.prog 76 = some c80 := by kernel_rfl
def c21 : Fn' := ⟨35, [(.tmp 4)], (.seq (.reg none [⟨(some 2), none, (.box false (.t 0))⟩, ⟨(some 3), none, (.box false (.t 1))⟩, ⟨(some 4), none, (.mv (.k (.bool false)))⟩]) (.seq (.reg none [⟨(some 7), none, (.fa 1 4 true (.t 2))⟩, ⟨(some 8), none, (.ld (some 4) (.t 7))⟩, ⟨(some 9), none, (.fa 1 4 true (.t 3))⟩, ⟨(some 10), none, (.ld (some 4) (.t 9))⟩, ⟨(some 11), none, (.call (.f 35) [(.t 8), (.t 10)])⟩, ⟨(some 5), none, (.mv (.t 11))⟩]) (.seq (.reg none [⟨(some 12), none, (.fa 5 1 false (.t 2))⟩, ⟨(some 13), none, (.ld none (.t 12))⟩, ⟨(some 14), none, (.fa 5 1 false (.t 3))⟩, ⟨(some 15), none, (.ld none (.t 14))⟩, ⟨(some 16), none, (.call (.f 36) [(.t 13), (.t 15)])⟩, ⟨(some 6), none, (.mv (.t 16))⟩]) (.seq (.reg none [⟨(some 17), none, (.mv (.t 5))⟩, ⟨(some 18), none, (.mv (.t 17))⟩, ⟨(some 19), (some ((some 18), true)), (.mv (.t 6))⟩, ⟨(some 20), none, (.pick (.t 18) (.t 19) (.k (.bool false)))⟩, ⟨(some 21), none, (.mv (.t 20))⟩, ⟨(some 22), (some ((some 21), true)), (.fa 0 1 false (.t 2))⟩, ⟨(some 23), (some ((some 21), true)), (.ld none (.t 22))⟩, ⟨(some 24), (some ((some 21), true)), (.fa 0 1 false (.t 3))⟩, ⟨(some 25), (some ((some 21), true)), (.ld none (.t 24))⟩, ⟨(some 26), (some ((some 21), true)), (.bin .eql [] (.t 23) (.t 25))⟩, ⟨(some 27), none, (.pick (.t 21) (.t 26) (.k (.bool false)))⟩, ⟨(some 28), none, (.mv (.t 27))⟩, ⟨(some 29), (some ((some 28), true)), (.fa 6 1 false (.t 2))⟩, ⟨(some 30), (some ((some 28), true)), (.ld none (.t 29))⟩, ⟨(some 31), (some ((some 28), true)), (.fa 6 1 false (.t 3))⟩, ⟨(some 32), (some ((some 28), true)), (.ld none (.t 31))⟩, ⟨(some 33), (some ((some 28), true)), (.bin .eql [] (.t 30) (.t 32))⟩, ⟨(some 34), none, (.pick (.t 28) (.t 33) (.k (.bool false)))⟩, ⟨(some 4), none, (.mv (.t 34))⟩]) .ret))))⟩
theorem k21 : compF Try.prog 19 = some c21 := by kernel_rfl
attribute [local simp] op_or op_an op_add op_sub op_mul oq_eql oq_neq oq_lss oq_gtr oq_leq oq_geq
attribute [-simp] intOp bin_shl
def t40 (x : D) (n : Int) (p a i : Nat) : List D := [x, .undef, nilS, .sl 0 0 a a, .int .i64 i, x, .int .i64 n, .int .u64 n, .sl 0 0 p p, .undef, .undef, .undef, .undef, .undef, .undef, .undef, .undef, .undef, .undef, .undef, .undef, .undef, .undef, .undef]
set_option maxHeartbeats 4000000 in
theorem L40 (c : Bool) (l : List Int) (n : Int) (p : Nat) (hl : l.length ≤ 2 ^ 47) : ∀ (t pre acc : List Int) (a i : Nat), l = pre ++ t → i = pre.length → a = acc.length → acc.length + 10 * t.length ≤ 2 ^ 40 → (∀ x ∈ t, 0 ≤ x ∧ x ≤ 9223372036854775807) →
    LpB cf0 K0 b40_0 (t40 (Sl c l) n p p 0) 1 ⟨t40 (Sl c l) n p a i, [.row 1 (acc.map (.int .u8)) 0]⟩ =
    some (.exit 0, ⟨t40 (Sl c l) n p (acc ++ putAllI t).length l.length, [.row 1 ((acc ++ putAllI t).map (.int .u8)) 0]⟩)
  | [], pre, acc, a, i, h, hi, ha, hb, hx => by
    have : l = pre := by simpa using h
    subst this
    have z1 : ltI (i : Int) l.length = false := ltI_f (by omega)
    rw [LpB_eq]
    simp only [t40]
    conv => lhs; arg 6; simp [b40_0, z1]
    simp [hi, ha, putAllI]
  | x :: t, pre, acc, a, i, h, hi, ha, hb, hx => by
    have hx0 := hx x List.mem_cons_self
    have hll : i < l.length := by rw [h, hi]; simp
    have z1 : ltI (i : Int) l.length = true := ltI_t (by omega)
    have hget : l[i]? = some x := by rw [h, hi]; simp
    have hgi : l[i]'hll = x := by rw [List.getElem?_eq_getElem hll] at hget; exact Option.some.inj hget
    have hw := w64 (i + 1) (by omega)
    have hwx : IntKind.u64.wrap x = x := by rw [IntKind.wrap_u64]; omega
    have hK := K39 x (by omega) (by omega)
    have hqn := putI_ne x
    have hql := putI_len10 x (by omega)
    obtain ⟨q, hq⟩ : ∃ q, putI x = q := ⟨_, rfl⟩
    rw [hq] at hK hqn hql
    have ih := L40 c l n p hl t (pre ++ [x]) (acc ++ q) (acc ++ q).length (i + 1) (by rw [h]; simp) (by simp [hi]) rfl (by simp at hb ⊢; omega) (fun y hy => hx y (List.mem_cons_of_mem _ hy))
    rw [allP_pos, hq, ← List.append_assoc]
    simp only [List.length_cons] at hb
    have b1 : acc.length + q.length ≤ 70368744177664 := by omega
    rw [LpB_eq]
    simp only [t40] at ih ⊢
    conv => lhs; arg 6; simp [b40_0, z1, hll, hgi, hw, hwx, hK, hqn, ha, b1, List.take_of_length_le]
    simp at ih ⊢
    exact ih
set_option maxHeartbeats 4000000 in
/-- thresherref16.numbers. -/
theorem K40 (c : Bool) (s : Nat) (l : List Int) (hs : s = 1 ∨ l = []) (hl : l.length ≤ 2 ^ 30) (hpos : ∀ x ∈ l, 0 ≤ x ∧ x ≤ 9223372036854775807) :
    K0 27 [.slc c s (l.map (.int .i64))] [] = some (.slc false 1 ((putI l.length ++ putAllI l).map (.int .u8)), []) := by
  refine K_call k40 (oraG_none (by decide) (by decide)) (by simp [c40]) ?_
  have wn : IntKind.u64.wrap (l.length : Int) = l.length := by rw [IntKind.wrap_u64]; omega
  have Kn := K39 (l.length : Int) (by omega) (by omega)
  have ln := putI_len10 (l.length : Int) (by omega)
  have hloop : ∀ s, (s = 1 ∨ l = []) → LpB cf0 K0 b40_0 (t40 (.slc c s (l.map (.int .i64))) l.length (putI l.length).length (putI l.length).length 0) 1 ⟨t40 (.slc c s (l.map (.int .i64))) l.length (putI l.length).length (putI l.length).length 0, [.row 1 ((putI l.length).map (.int .u8)) 0]⟩ =
    some (.exit 0, ⟨t40 (.slc c s (l.map (.int .i64))) l.length (putI l.length).length (putI l.length ++ putAllI l).length l.length, [.row 1 ((putI l.length ++ putAllI l).map (.int .u8)) 0]⟩) := by
    intro s hs
    rcases hs with rfl | rfl
    · exact L40 c l l.length _ (by omega) l [] (putI l.length) _ 0 rfl rfl rfl (by omega) hpos
    · have z1 : ltI 0 0 = false := rfl
      rw [LpB_eq]
      simp only [t40]
      conv => lhs; arg 6; simp [b40_0, z1]
      simp [putAllI]
  have h := hloop s hs
  clear hloop
  generalize putI (l.length : Int) = pn at *
  simp only [t40] at h
  simp [c40, wn, Kn]
  simp at h
  rw [h]
  simp [List.take_of_length_le]
set_option maxHeartbeats 8000000 in
/-- thresherref16.Put: what may not be. -/
theorem K18_f (kd : Int) (c : Bool) (s : Nat) (ts : List Int) (k m g : Int) (c' : Bool) (s' : Nat) (ids : List Int) (id : Int) (hs : s = 1 ∨ ts = []) (hs' : s' = 1 ∨ ids = []) (hl : ts.length ≤ 2 ^ 30) (hl' : ids.length ≤ 2 ^ 30) (h : mayI kd ts k m g ids id = false) :
    K0 13 [Rcd kd c s ts k m g c' s' ids id] [] = some (.tuple [nilS, .bool false], []) := by
  refine K_call k18 (oraG_none (by decide) (by decide)) (by simp [c18, Rcd]) ?_
  have hK := K37 kd c s ts k m g c' s' ids id hs hs' (by omega) (by omega)
  rw [h] at hK
  unfold Rcd at hK ⊢
  simp [c18, hK]
theorem putS_ne (ts : List Int) (k m g : Int) : ¬ putS ts k m g = [] := by
  intro e
  have := putI_ne ts.length
  unfold putS at e
  rw [allP_pos] at e
  exact this (List.append_eq_nil_iff.1 e).1
set_option maxHeartbeats 8000000 in
/-- thresherref16.Put: what may be. -/
theorem K18_t (kd : Int) (c : Bool) (s : Nat) (ts : List Int) (k m g : Int) (c' : Bool) (s' : Nat) (ids : List Int) (id : Int) (hs : s = 1 ∨ ts = []) (hs' : s' = 1 ∨ ids = []) (h : mayI kd ts k m g ids id = true) :
    K0 13 [Rcd kd c s ts k m g c' s' ids id] [] = some (.tuple [.slc false 1 ((frameI (recB kd ts k m g ids id)).map (.int .u8)), .bool true], []) := by
  refine K_call k18 (oraG_none (by decide) (by decide)) (by simp [c18, Rcd]) ?_
  have hm := mayI_some h
  have htl : ts.length ≤ 64 := by
    rcases hm.1 with ⟨_, h1⟩ | ⟨_, h1, _⟩ | ⟨_, h1, _⟩
    · exact (schemaOk_iff.1 h1).1.2
    · rw [(bare_eq h1).1]; simp
    · rw [(bare_eq h1).1]; simp
  have hK := K37 kd c s ts k m g c' s' ids id hs hs' (by omega) (by omega)
  rw [h] at hK
  have hB : isB (recB kd ts k m g ids id) := isB_recB h
  have hrl := recB_len h
  have hfr := K23 (recB kd ts k m g ids id) false hB (by omega)
  have wi : IntKind.u64.wrap id = id := by rw [IntKind.wrap_u64]; omega
  have Ki := K39 id (by omega) (by omega)
  have ni := putI_ne id
  have li := putI_len10 id (by omega)
  have Kn := K40 c' s' ids hs' (by omega) (fun x hx => by have := hm.2.2.2 x hx; omega)
  have nn : ¬ putI (ids.length : Int) ++ putAllI ids = [] := fun e => putI_ne _ (List.append_eq_nil_iff.1 e).1
  have ln : (putI (ids.length : Int) ++ putAllI ids).length ≤ 410 := by
    have h1 := putI_len10 (ids.length : Int) (by omega)
    have h2 := putAllI_len ids (fun x hx => by have := hm.2.2.2 x hx; omega)
    simp; omega
  unfold Rcd at hK ⊢
  rcases hm.1 with ⟨rfl, h1⟩ | ⟨rfl, h1, h2⟩ | ⟨rfl, h1, h2⟩
  · have hrec : recB 1 ts k m g ids id = [1] ++ (putI (putS ts k m g).length ++ (putS ts k m g ++ (putI id ++ (putI ids.length ++ putAllI ids)))) := by unfold recB; simp
    have hsc := schemaOk_iff.1 h1
    have h38 := K38 c s ts hs k m g (by omega) (by
      intro x hx
      rcases List.mem_append.1 hx with hx | hx
      · have := hsc.2.1 x hx; omega
      · simp at hx
        rcases hx with rfl | rfl | rfl <;> omega)
    unfold Sd at h38
    have hSl := putS_len ts k m g h1
    have nS := putS_ne ts k m g
    have w1 : IntKind.u8.wrap 1 = 1 := by decide
    have wS : IntKind.u64.wrap ((putS ts k m g).length : Int) = (putS ts k m g).length := by rw [IntKind.wrap_u64]; omega
    have KS := K39 ((putS ts k m g).length : Int) (by omega) (by omega)
    have nP := putI_ne ((putS ts k m g).length : Int)
    have lP := putI_len10 ((putS ts k m g).length : Int) (by omega)
    have q1 : eqI 1 1 = true := rfl
    have q2 : neI 1 2 = true := rfl
    rw [hrec] at hfr hrl
    rw [hrec]
    generalize putS ts k m g = S at *
    generalize putI (S.length : Int) = P at *
    generalize putI id = I at *
    generalize putI (ids.length : Int) ++ putAllI ids = A at *
    have b1 : 1 + P.length ≤ 70368744177664 := by omega
    have b2 : 1 + (P.length + S.length) ≤ 70368744177664 := by omega
    have b3 : 1 + (P.length + (S.length + I.length)) ≤ 70368744177664 := by omega
    have b4 : 1 + (P.length + (S.length + (I.length + A.length))) ≤ 70368744177664 := by omega
    simp only [Nat.add_assoc, Nat.add_comm, Nat.add_left_comm] at b1 b2 b3 b4
    simp at hfr
    simp [c18, hK, h38, w1, wS, KS, nP, nS, wi, Ki, ni, Kn, nn, q1, q2, b1, b2, b3, b4, hfr, Nat.add_assoc, Nat.add_comm, Nat.add_left_comm, List.take_of_length_le]
  · obtain ⟨rfl, rfl, rfl, rfl⟩ := bare_eq h1
    obtain rfl := List.eq_nil_of_length_eq_zero h2
    have hrec : recB 2 [] 0 0 0 [] id = [2] ++ putI id := by unfold recB; simp
    have w1 : IntKind.u8.wrap 2 = 2 := by decide
    have q1 : eqI 2 1 = false := rfl
    have q2 : neI 2 2 = false := rfl
    rw [hrec] at hfr hrl
    rw [hrec]
    generalize putI id = I at *
    have b1 : 1 + I.length ≤ 70368744177664 := by omega
    simp only [Nat.add_assoc, Nat.add_comm, Nat.add_left_comm] at b1
    simp at hfr hK
    simp [c18, hK, w1, wi, Ki, ni, q1, q2, b1, hfr, Nat.add_assoc, Nat.add_comm, Nat.add_left_comm, List.take_of_length_le]
  · obtain ⟨rfl, rfl, rfl, rfl⟩ := bare_eq h1
    have hrec : recB 3 [] 0 0 0 ids id = [3] ++ (putI id ++ (putI ids.length ++ putAllI ids)) := by unfold recB; simp
    have w1 : IntKind.u8.wrap 3 = 3 := by decide
    have q1 : eqI 3 1 = false := rfl
    have q2 : neI 3 2 = true := rfl
    rw [hrec] at hfr hrl
    rw [hrec]
    generalize putI id = I at *
    generalize putI (ids.length : Int) ++ putAllI ids = A at *
    have b1 : 1 + I.length ≤ 70368744177664 := by omega
    have b2 : 1 + (I.length + A.length) ≤ 70368744177664 := by omega
    simp only [Nat.add_assoc, Nat.add_comm, Nat.add_left_comm] at b1 b2
    simp at hfr hK
    simp [c18, hK, w1, wi, Ki, ni, Kn, nn, q1, q2, b1, b2, hfr, Nat.add_assoc, Nat.add_comm, Nat.add_left_comm, List.take_of_length_le]
set_option maxHeartbeats 4000000 in
/-- thresherref16.Same. -/
theorem K21 (kd : Int) (c : Bool) (s : Nat) (ts : List Int) (k m g : Int) (c1 : Bool) (s1 : Nat) (ids : List Int) (id : Int) (kd' : Int) (d : Bool) (r : Nat) (ts' : List Int) (k' m' g' : Int) (d1 : Bool) (r1 : Nat) (ids' : List Int) (id' : Int)
    (hs : s = 1 ∨ ts = []) (hs1 : s1 = 1 ∨ ids = []) (hr : r = 1 ∨ ts' = []) (hr1 : r1 = 1 ∨ ids' = []) (hl : ts.length ≤ 2 ^ 47) (hl1 : ids.length ≤ 2 ^ 47) :
    K0 19 [Rcd kd c s ts k m g c1 s1 ids id, Rcd kd' d r ts' k' m' g' d1 r1 ids' id'] [] = some (.bool (decide (ts = ts' ∧ k = k' ∧ m = m' ∧ g = g') && (ids == ids') && eqI kd kd' && eqI id id'), []) := by
  refine K_call k21 (oraG_none (by decide) (by decide)) (by simp [c21, Rcd]) ?_
  have h1 := K46 c d s r ts ts' k m g k' m' g' hs hr hl
  have h2 := K47 c1 d1 s1 r1 ids ids' hs1 hr1 hl1
  unfold Sd at h1
  unfold Rcd
  generalize decide (ts = ts' ∧ k = k' ∧ m = m' ∧ g = g') = z1 at *
  generalize (ids == ids') = z2 at *
  obtain ⟨z3, hz3⟩ : ∃ z, eqI kd kd' = z := ⟨_, rfl⟩
  obtain ⟨z4, hz4⟩ : ∃ z, eqI id id' = z := ⟨_, rfl⟩
  rw [hz3, hz4]
  cases z1
  · simp [c21, h1, h2]
  cases z2
  · simp [c21, h1, h2]
  cases z3
  · simp [c21, h1, h2, hz3]
  · simp [c21, h1, h2, hz3, hz4]
end Go.Ab
