/- THE FUNCTIONS' EQUATIONS: thresherref01.Var. -/
import Derived.Test.YtanfmnobanhcnaaBF75
set_option linter.all false
set_option maxRecDepth 100000
namespace Go.Ab
open Go.Proofs Go.Proofs.YtanfmnobanhcnaaH Go.Proofs.YtanfmnobanhcnaaH.Crc Go.Proofs.YtanfmnobanhcnaaH.Var Go.Proofs.YtanfmnobanhcnaaH.Fr
def b79_0 : C := (.seq (.seq (.reg none [⟨(some 7), none, (.mv (.t 6))⟩, ⟨(some 8), none, (.mv (.t 0))⟩, ⟨(some 9), none, (.len 1 (.t 8))⟩, ⟨(some 10), none, (.bin .lss [] (.t 7) (.t 9))⟩, ⟨(some 11), none, (.mv (.t 10))⟩, ⟨(some 12), (some ((some 11), true)), (.mv (.t 6))⟩, ⟨(some 13), (some ((some 11), true)), (.bin .lss [] (.t 12) (.k (.int .i64 10)))⟩, ⟨(some 14), none, (.pick (.t 11) (.t 13) (.k (.bool false)))⟩]) (.cond (.t 14) .skip (.exit 0))) (.seq (.block 1 (.seq (.reg none [⟨(some 17), none, (.mv (.t 4))⟩, ⟨(some 18), none, (.mv (.t 0))⟩, ⟨(some 19), none, (.mv (.t 6))⟩, ⟨(some 20), none, (.ia none 1 false (.t 18) (.t 19))⟩, ⟨(some 21), none, (.ld none (.t 20))⟩, ⟨(some 22), none, (.bin .rem [] (.t 21) (.k (.int .u8 128)))⟩, ⟨(some 23), none, (.cvt (.int .u64) (.t 22))⟩, ⟨(some 24), none, (.mv (.t 5))⟩, ⟨(some 25), none, (.bin .mul [] (.t 23) (.t 24))⟩, ⟨(some 26), none, (.bin .add [] (.t 17) (.t 25))⟩, ⟨(some 4), none, (.mv (.t 26))⟩]) (.seq (.reg none [⟨(some 27), none, (.mv (.t 5))⟩, ⟨(some 28), none, (.bin .mul [] (.t 27) (.k (.int .u64 128)))⟩, ⟨(some 5), none, (.mv (.t 28))⟩]) (.seq (.reg none [⟨(some 29), none, (.mv (.t 0))⟩, ⟨(some 30), none, (.mv (.t 6))⟩, ⟨(some 31), none, (.ia none 1 false (.t 29) (.t 30))⟩, ⟨(some 32), none, (.ld none (.t 31))⟩, ⟨(some 33), none, (.bin .lss [] (.t 32) (.k (.int .u8 128)))⟩]) (.cond (.t 33) (.seq (.seq (.reg (some [(1, 6), (2, 6), (1, 7), (2, 7)]) [⟨(some 34), none, (.mv (.t 4))⟩, ⟨(some 35), none, (.call (.f 39) [(.t 34)])⟩, ⟨(some 36), none, (.cvt .b2s (.t 35))⟩, ⟨(some 37), none, (.mv (.t 0))⟩, ⟨(some 38), none, (.mv (.t 6))⟩, ⟨(some 39), none, (.bin .add [] (.t 38) (.k (.int .i64 1)))⟩, ⟨(some 40), none, (.sub 1 1 (.t 37) none (some (.t 39)) none)⟩, ⟨(some 41), none, (.cvt .b2s (.t 40))⟩, ⟨(some 42), none, (.bin .neq [] (.t 36) (.t 41))⟩]) (.cond (.t 42) (.seq (.reg none [⟨(some 2), none, (.mv (.k (.int .u64 0)))⟩, ⟨(some 3), none, (.mv (.k (.int .i64 0)))⟩]) .ret) .skip)) (.seq (.reg none [⟨(some 43), none, (.mv (.t 4))⟩, ⟨(some 44), none, (.mv (.t 6))⟩, ⟨(some 45), none, (.bin .add [] (.t 44) (.k (.int .i64 1)))⟩, ⟨(some 2), none, (.mv (.t 43))⟩, ⟨(some 3), none, (.mv (.t 45))⟩]) .ret)) .skip))))) (.reg none [⟨(some 15), none, (.mv (.t 6))⟩, ⟨(some 16), none, (.bin .add [] (.t 15) (.k (.int .i64 1)))⟩, ⟨(some 6), none, (.mv (.t 16))⟩])))
def c79 : Fn' := ⟨46, [(.tmp 2), (.tmp 3)], (.seq (.reg none [⟨(some 2), none, (.mv (.k (.int .u64 0)))⟩, ⟨(some 3), none, (.mv (.k (.int .i64 0)))⟩]) (.seq (.reg none [⟨(some 4), none, (.mv (.k (.int .u64 0)))⟩]) (.seq (.reg none [⟨(some 5), none, (.mv (.k (.int .u64 1)))⟩]) (.seq (.seq (.reg none [⟨(some 6), none, (.mv (.k (.int .i64 0)))⟩]) (.block 0 (.loop b79_0))) (.seq (.reg none [⟨(some 2), none, (.mv (.k (.int .u64 0)))⟩, ⟨(some 3), none, (.mv (.k (.int .i64 0)))⟩]) .ret)))))⟩
theorem k79 : compF Try.prog 79 = some c79 := by kernel_rfl
attribute [local simp] op_or op_an op_add op_eql op_neq op_lss op_gtr op_leq op_geq op_sub op_mul op_rem op_quo op_xor op_and
attribute [-simp] intOp bin_shl
theorem u64_wrap (m : Nat) : IntKind.u64.wrap (m : Int) = ((m % 18446744073709551616 : Nat) : Int) := by
  rw [IntKind.wrap_u64]
  exact cast_mod 18446744073709551616 m
/-- A part more, modulo 2^64. -/
theorem u64_mac (x p q : Nat) : IntKind.u64.wrap (((x % 18446744073709551616 : Nat) : Int) + IntKind.u64.wrap ((p : Int) * ((q % 18446744073709551616 : Nat) : Int))) = (((x + p * q) % 18446744073709551616 : Nat) : Int) := by
  rw [← Int.natCast_mul, u64_wrap, ← Int.natCast_add, u64_wrap, mac_mod]
theorem u64_mul (q p : Nat) : IntKind.u64.wrap (((q % 18446744073709551616 : Nat) : Int) * (p : Int)) = ((q * p % 18446744073709551616 : Nat) : Int) := by
  rw [← Int.natCast_mul, u64_wrap, Nat.mul_mod, Nat.mod_mod, ← Nat.mul_mod]
def t79 (c : Bool) (l : List Int) (x sc : Int) (i : Nat) : List D := [.slc c 1 (l.map (.int .u8)), .undef, .int .u64 0, .int .i64 0, .int .u64 x, .int .u64 sc, .int .i64 i, .undef, .undef, .undef, .undef, .undef, .undef, .undef, .undef, .undef, .undef, .undef, .undef, .undef, .undef, .undef, .undef, .undef, .undef, .undef, .undef, .undef, .undef, .undef, .undef, .undef, .undef, .undef, .undef, .undef, .undef, .undef, .undef, .undef, .undef, .undef, .undef, .undef, .undef, .undef]
def kn79 : List Kn := [.blk 0, .c ((C.reg none [⟨some 2, none, .mv (.k (.int .u64 0))⟩, ⟨some 3, none, .mv (.k (.int .i64 0))⟩]).seq C.ret)]
def V79 (l : List Int) : Option (D × List Obj) := some (.tuple [.int .u64 (varI l).1, .int .i64 (varI l).2], [])
set_option maxHeartbeats 4000000 in
theorem L79 (cl : Bool) (l : List Int) (hl : l.length ≤ 2 ^ 45) (hB : isB l) (t : List Int) : ∀ (x0 i : Nat) (xx sc : Int) (pre : List Int), i ≤ 10 → l = pre ++ t → i = pre.length → xx = ((x0 % 18446744073709551616 : Nat) : Int) → sc = ((128 ^ i % 18446744073709551616 : Nat) : Int) →
    (raw (nats l) = match raw (nats t) with
      | none => none
      | some (z, n) => some (x0 + z * 128 ^ i, i + n)) →
    finK false 0 [Rs.tmp 2, Rs.tmp 3] (loopK cf0 K0 (LpB cf0 K0 b79_0 (t79 cl l 0 1 0) 0 ⟨t79 cl l xx sc i, []⟩) kn79) = V79 l := by
  have hN := nats_lt hB
  have hv := varN_raw (nats l) hN
  have none_ : (∀ z n, raw (nats l) = some (z, n) → 10 < n) → varI l = (0, 0) := by
    intro hr
    unfold varI
    rw [hv]
    cases hc : raw (nats l) with
    | none => rfl
    | some p =>
      obtain ⟨y, n⟩ := p
      have h10 := hr y n hc
      have hle := raw_le _ _ _ hc
      simp only
      rw [if_neg]
      · rfl
      · rintro ⟨hp, hy⟩
        have := putN_len10 y hy
        rw [hp, List.length_take] at this
        omega
  induction t with
  | nil =>
    intro x0 i xx sc pre hi hlp hip hxx hsc hraw
    have h0 : varI l = (0, 0) := by
      unfold varI
      rw [hv, hraw]
      rfl
    unfold V79
    rw [h0]
    have hil : ¬ i < l.length := by rw [hlp]; simp; omega
    rw [LpB_eq]
    simp only [t79]
    conv => lhs; arg 4; arg 3; arg 6; simp [b79_0, hil]
    simp [kn79]
  | cons c t ih =>
    intro x0 i xx sc pre hi hlp hip hxx hsc hraw
    have hil : i < l.length := by rw [hlp, hip]; simp
    have hget : l[i]? = some c := by rw [hlp, hip]; simp
    have hgi : l[i]'hil = c := by rw [List.getElem?_eq_getElem hil] at hget; exact Option.some.inj hget
    have hcb : 0 ≤ c ∧ c < 256 := hB c (by rw [hlp]; simp)
    obtain ⟨n, hnc⟩ := Int.eq_ofNat_of_zero_le hcb.1
    have hn : n < 256 := by omega
    have e : nats (c :: t) = n :: nats t := by simp [nats, hnc]
    rw [e] at hraw
    by_cases h10 : i < 10
    · have h10' : (i : Int) < 10 := by omega
      have hw := w64 (i + 1) (by omega)
      obtain ⟨m, hm⟩ : ∃ m, m = IntKind.u64.wrap (c.tmod 128) := ⟨_, rfl⟩
      have hmn : m = ((n % 128 : Nat) : Int) := by
        rw [hm, hnc, Int.tmod_eq_emod_of_nonneg (by omega), IntKind.wrap_u64]; omega
      obtain ⟨v, hv2⟩ : ∃ v, v = (x0 + n % 128 * 128 ^ i) % 18446744073709551616 := ⟨_, rfl⟩
      have hX : IntKind.u64.wrap (xx + IntKind.u64.wrap (m * sc)) = (v : Int) := by
        rw [hxx, hmn, hsc, hv2]
        exact u64_mac x0 (n % 128) (128 ^ i)
      obtain ⟨s', es'⟩ : ∃ s' : Int, s' = IntKind.u64.wrap (sc * 128) := ⟨_, rfl⟩
      have hS : s' = ((128 ^ (i + 1) % 18446744073709551616 : Nat) : Int) := by
        rw [es', hsc, Nat.pow_succ]
        exact u64_mul (128 ^ i) 128
      by_cases hs : n < 128
      · have hs' : c < 128 := by omega
        rw [raw_small _ hs] at hraw
        simp only at hraw
        have em : n % 128 = n := Nat.mod_eq_of_lt hs
        rw [em] at hv2
        have hint : ∀ y : Nat, ints (putN y) = l.take (i + 1) ↔ putN y = (nats l).take (i + 1) := by
          intro y
          constructor
          · intro h
            rw [← nats_take, ← h, nats_ints]
          · intro h
            rw [h, ← nats_take, ints_nats (isB_take hB _)]
        obtain ⟨y, hy⟩ : ∃ y, x0 + n * 128 ^ i = y := ⟨_, rfl⟩
        rw [hy] at hraw hv2
        have hvlt : v < 18446744073709551616 := by rw [hv2]; exact Nat.mod_lt _ (by decide)
        have hyv : y < 18446744073709551616 → v = y := fun h => by rw [hv2]; exact Nat.mod_eq_of_lt h
        obtain ⟨q, hq⟩ : ∃ q, putI (v : Int) = q := ⟨_, rfl⟩
        have hq' : ints (putN v) = q := by rw [← hq]; simp [putI]
        have hK := K39 (v : Int) (by omega) (by omega)
        rw [hq] at hK
        have hqB : isB q := by rw [← hq]; exact isB_put _
        have hql : q.length ≤ 10 := by rw [← hq]; exact putI_len10 _ (by omega)
        have hint2 := hint v
        rw [hq'] at hint2
        have hres : varI l = if q = l.take (i + 1) then ((v : Int), (i : Int) + 1) else (0, 0) := by
          unfold varI
          rw [hv, hraw]
          simp only
          by_cases hp : q = l.take (i + 1)
          · rw [if_pos hp]
            have hp2 := hint2.1 hp
            have hd : dec (nats l) = some (v, (putN v).length) := by
              have h1 : nats l = putN v ++ (nats l).drop (i + 1) := by rw [hp2, List.take_append_drop]
              conv => lhs; rw [h1]
              exact dec_put _ _
            have h2 := dec_raw _ hN _ _ hd
            rw [hraw] at h2
            simp only [Option.some.injEq, Prod.mk.injEq] at h2
            have hyv2 : y = v := h2.1
            rw [hyv2, if_pos ⟨hp2, hvlt⟩]
            simp
          · rw [if_neg hp, if_neg]
            · rfl
            · rintro ⟨h1, h2⟩
              rw [← hyv h2] at h1
              exact hp (hint2.2 h1)
        unfold V79
        rw [hres]
        obtain ⟨p, hp⟩ : ∃ p, l.take (i + 1) = p := ⟨_, rfl⟩
        have hpB : isB p := by rw [← hp]; exact isB_take hB _
        rw [hp]
        have m1 : List.take (i + 1) (l.map (D.int .u8)) = p.map (D.int .u8) := by rw [← hp]; simp [List.map_take]
        have hbeq := u8_beq q p hqB hpB
        have hl1 : 0 ≤ (i : Int) + 1 := by omega
        have hl2 : (i : Int) + 1 ≤ l.length := by omega
        rw [LpB_eq]
        by_cases he : q = p
        · have he' : (q == p) = true := by simp [he]
          rw [if_pos he]
          simp only [t79]
          conv => lhs; arg 4; arg 3; arg 6; simp [b79_0, hil, h10', hgi, ← hm, hX, hw, hs', hK, m1, hbeq, he', hl1, hl2, evOp, evM, wants, Ins.go, X.ev, iaM, ldM, binD, intOp, setD, applyW, Ek_ops_nil, allFree, free, callM, callP]
          simp [kn79]
        · have he' : (q == p) = false := by simpa using he
          rw [if_neg he]
          simp only [t79]
          conv => lhs; arg 4; arg 3; arg 6; simp [b79_0, hil, h10', hgi, ← hm, hX, hw, hs', hK, m1, hbeq, he', hl1, hl2, evOp, evM, wants, Ins.go, X.ev, iaM, ldM, binD, intOp, setD, applyW, Ek_ops_nil, allFree, free, callM, callP]
          simp [kn79]
      · rw [raw_big _ hs] at hraw
        have hs' : ¬ c < 128 := by omega
        have ih' := ih (x0 + n % 128 * 128 ^ i) (i + 1) (v : Int) s' (pre ++ [c]) (by omega) (by rw [hlp]; simp) (by simp [hip]) (by rw [hv2]) hS (by
          rw [hraw]
          cases raw (nats t) with
          | none => rfl
          | some p =>
            obtain ⟨z, m⟩ := p
            simp only [Option.some.injEq, Prod.mk.injEq]
            constructor
            · rw [Nat.pow_succ, Nat.add_mul]
              have : 128 * z * 128 ^ i = z * (128 ^ i * 128) := by ac_rfl
              omega
            · omega)
        rw [LpB_eq]
        simp only [t79] at ih' ⊢
        conv => lhs; arg 4; arg 3; arg 6; simp [b79_0, hil, h10', hgi, ← hm, hX, hw, hs', ← es']
        simp at ih' ⊢
        exact ih'
    · have hi10 : i = 10 := by omega
      have h0 : varI l = (0, 0) := by
        refine none_ (fun z m hz => ?_)
        rw [hz] at hraw
        cases hr2 : raw (n :: nats t) with
        | none => rw [hr2] at hraw; cases hraw
        | some p =>
          obtain ⟨z2, m2⟩ := p
          rw [hr2] at hraw
          have := raw_le _ _ _ hr2
          simp only [Option.some.injEq, Prod.mk.injEq] at hraw
          omega
      unfold V79
      rw [h0]
      have h10' : ¬ (i : Int) < 10 := by omega
      rw [LpB_eq]
      simp only [t79]
      conv => lhs; arg 4; arg 3; arg 6; simp [b79_0, hil, h10']
      simp [kn79]
set_option maxHeartbeats 2000000 in
/-- thresherref01.Var. -/
theorem K79 (c : Bool) (l : List Int) (hl : l.length ≤ 2 ^ 45) (hB : isB l) : K0 79 [.slc c 1 (l.map (.int .u8))] [] = some (.tuple [.int .u64 (varI l).1, .int .i64 (varI l).2], []) := by
  refine K_call k79 (oraG_none (by decide) (by decide)) (by simp [c79]) ?_
  have h := L79 c l hl hB l 0 0 0 1 [] (by decide) rfl rfl rfl rfl (by
      cases raw (nats l) with
      | none => rfl
      | some p => obtain ⟨z, m⟩ := p; simp)
  simp only [t79, kn79, V79] at h
  simp [c79]
  simp at h
  rw [h]
end Go.Ab
