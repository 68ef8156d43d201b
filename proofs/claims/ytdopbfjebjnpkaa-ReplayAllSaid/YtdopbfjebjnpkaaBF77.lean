/- THE FUNCTIONS' EQUATIONS: record: reader.number, reader.schema. -/
import Derived.Test.YtdopbfjebjnpkaaBF110
import Derived.Test.YtdopbfjebjnpkaaBF33
set_option linter.all false
set_option maxRecDepth 100000
namespace Go.Ab
open Go.Proofs Go.Proofs.YtdopbfjebjnpkaaH Go.Proofs.YtdopbfjebjnpkaaH.Crc Go.Proofs.YtdopbfjebjnpkaaH.Var Go.Proofs.YtdopbfjebjnpkaaH.Fr Go.Proofs.YtdopbfjebjnpkaaH.Rec
def c78 : Fn' := ⟨33, [(.tmp 2)], (.seq (.reg none [⟨(some 2), none, (.mv (.k (.int .i64 0)))⟩]) (.seq (.reg none [⟨(some 6), none, (.mv (.t 0))⟩, ⟨(some 7), none, (.nc (.t 6))⟩, ⟨(some 8), none, (.fa 0 1 false (.t 7))⟩, ⟨(some 9), none, (.ld none (.t 8))⟩, ⟨(some 10), none, (.call (.f 59) [(.t 9)])⟩, ⟨(some 5), none, (.mv (.t 10))⟩, ⟨(some 11), none, (.ext (.t 5) 0)⟩, ⟨(some 12), none, (.ext (.t 5) 1)⟩, ⟨(some 3), none, (.mv (.t 11))⟩, ⟨(some 4), none, (.mv (.t 12))⟩]) (.seq (.seq (.reg none [⟨(some 13), none, (.mv (.t 4))⟩, ⟨(some 14), none, (.bin .eql [] (.t 13) (.k (.int .i64 0)))⟩, ⟨(some 15), none, (.mv (.t 14))⟩, ⟨(some 16), (some ((some 15), false)), (.mv (.t 3))⟩, ⟨(some 17), (some ((some 15), false)), (.bin .gtr [] (.t 16) (.k (.int .u64 999999)))⟩, ⟨(some 18), none, (.pick (.t 15) (.k (.bool true)) (.t 17))⟩]) (.cond (.t 18) (.seq (.reg none [⟨(some 19), none, (.mv (.t 0))⟩, ⟨(some 20), none, (.nc (.t 19))⟩, ⟨(some 21), none, (.fa 1 1 false (.t 20))⟩, ⟨none, none, (.st 1 (.t 21) (.k (.bool true)))⟩]) (.seq (.reg none [⟨(some 2), none, (.mv (.k (.int .i64 0)))⟩]) .ret)) .skip)) (.seq (.reg none [⟨(some 22), none, (.mv (.t 0))⟩, ⟨(some 23), none, (.mv (.t 0))⟩, ⟨(some 24), none, (.nc (.t 23))⟩, ⟨(some 25), none, (.fa 0 1 false (.t 24))⟩, ⟨(some 26), none, (.ld none (.t 25))⟩, ⟨(some 27), none, (.mv (.t 4))⟩, ⟨(some 28), none, (.sub 1 1 (.t 26) (some (.t 27)) none none)⟩, ⟨(some 29), none, (.nc (.t 22))⟩, ⟨(some 30), none, (.fa 0 1 false (.t 29))⟩, ⟨none, none, (.st 1 (.t 30) (.t 28))⟩]) (.seq (.reg none [⟨(some 31), none, (.mv (.t 3))⟩, ⟨(some 32), none, (.cvt (.int .i64) (.t 31))⟩, ⟨(some 2), none, (.mv (.t 32))⟩]) .ret)))))⟩
theorem k78 : compF Try.prog 65 = some c78 := by kernel_rfl
def c77 : Fn' := ⟨50, [(.cell 2 (some 4))], (.seq (.reg none [⟨(some 2), none, (.alloc false [nilS, (.int .i64 0), (.int .i64 0), (.int .i64 0)])⟩]) (.seq (.reg none [⟨(some 6), none, (.mv (.t 0))⟩, ⟨(some 7), none, (.call (.f 65) [(.t 6)])⟩, ⟨(some 3), none, (.mv (.t 7))⟩]) (.seq (.seq (.reg none [⟨(some 8), none, (.mv (.t 0))⟩, ⟨(some 9), none, (.nc (.t 8))⟩, ⟨(some 10), none, (.fa 1 1 false (.t 9))⟩, ⟨(some 11), none, (.ld none (.t 10))⟩, ⟨(some 12), none, (.mv (.t 11))⟩, ⟨(some 13), (some ((some 12), false)), (.mv (.t 3))⟩, ⟨(some 14), (some ((some 12), false)), (.mv (.t 0))⟩, ⟨(some 15), (some ((some 12), false)), (.nc (.t 14))⟩, ⟨(some 16), (some ((some 12), false)), (.fa 0 1 false (.t 15))⟩, ⟨(some 17), (some ((some 12), false)), (.ld none (.t 16))⟩, ⟨(some 18), (some ((some 12), false)), (.len 1 (.t 17))⟩, ⟨(some 19), (some ((some 12), false)), (.bin .gtr [] (.t 13) (.t 18))⟩, ⟨(some 20), none, (.pick (.t 12) (.k (.bool true)) (.t 19))⟩]) (.cond (.t 20) (.seq (.reg none [⟨(some 21), none, (.mv (.t 0))⟩, ⟨(some 22), none, (.nc (.t 21))⟩, ⟨(some 23), none, (.fa 1 1 false (.t 22))⟩, ⟨none, none, (.st 1 (.t 23) (.k (.bool true)))⟩]) (.seq (.reg none [⟨(some 24), none, (.bld [nilS, (.int .i64 0), (.int .i64 0), (.int .i64 0)] [])⟩, ⟨none, none, (.st 4 (.t 2) (.t 24))⟩]) .ret)) .skip)) (.seq (.reg none [⟨(some 26), none, (.mv (.t 0))⟩, ⟨(some 27), none, (.nc (.t 26))⟩, ⟨(some 28), none, (.fa 0 1 false (.t 27))⟩, ⟨(some 29), none, (.ld none (.t 28))⟩, ⟨(some 30), none, (.mv (.t 3))⟩, ⟨(some 31), none, (.sub 1 1 (.t 29) none (some (.t 30)) none)⟩, ⟨(some 32), none, (.call (.f 81) [(.t 31)])⟩, ⟨(some 25), none, (.mv (.t 32))⟩, ⟨(some 33), none, (.ext (.t 25) 0)⟩, ⟨(some 34), none, (.ext (.t 25) 1)⟩, ⟨(some 4), none, (.alloc false [nilS, (.int .i64 0), (.int .i64 0), (.int .i64 0)])⟩, ⟨none, none, (.st 4 (.t 4) (.t 33))⟩, ⟨(some 5), none, (.mv (.t 34))⟩]) (.seq (.reg none [⟨(some 35), none, (.mv (.t 0))⟩, ⟨(some 36), none, (.mv (.t 0))⟩, ⟨(some 37), none, (.mv (.t 0))⟩, ⟨(some 38), none, (.nc (.t 37))⟩, ⟨(some 39), none, (.fa 0 1 false (.t 38))⟩, ⟨(some 40), none, (.ld none (.t 39))⟩, ⟨(some 41), none, (.mv (.t 3))⟩, ⟨(some 42), none, (.sub 1 1 (.t 40) (some (.t 41)) none none)⟩, ⟨(some 43), none, (.mv (.t 5))⟩, ⟨(some 44), none, (.bin .neq [] (.t 43) (.k (.int .i64 0)))⟩, ⟨(some 45), none, (.nc (.t 35))⟩, ⟨(some 46), none, (.fa 0 1 false (.t 45))⟩, ⟨none, none, (.st 1 (.t 46) (.t 42))⟩, ⟨(some 47), none, (.nc (.t 36))⟩, ⟨(some 48), none, (.fa 1 1 false (.t 47))⟩, ⟨none, none, (.st 1 (.t 48) (.t 44))⟩]) (.seq (.reg none [⟨(some 49), none, (.ld (some 4) (.t 4))⟩, ⟨none, none, (.st 4 (.t 2) (.t 49))⟩]) .ret))))))⟩
theorem k77 : compF Try.prog 64 = some c77 := by kernel_rfl
attribute [local simp] op_or op_an op_add op_sub op_mul oq_eql oq_neq oq_lss oq_gtr oq_leq oq_geq
attribute [-simp] intOp bin_shl
/-- A reader. -/
def Rdr (c : Bool) (l : List Int) (bad : Bool) : List Obj := [.box [.slc c 1 (l.map (.int .u8)), .bool bad]]
set_option maxHeartbeats 4000000 in
/-- reader.number. -/
theorem K78 (c : Bool) (l : List Int) (bad : Bool) (hl : l.length ≤ 2 ^ 45) (hB : isB l) : K0 65 [.ptr 0 0 0 0] (Rdr c l bad) = some (.int .i64 (numR l bad).1, Rdr c (numR l bad).2.1 (numR l bad).2.2) := by
  refine K_call k78 (oraG_none (by decide) (by decide)) (by simp [c78, Rdr]) ?_
  have hr := varI_range l
  have hK := fun cl => K74 cl l (by omega) hB
  unfold numR
  obtain ⟨x, hx⟩ : ∃ x : Nat, (varI l).1 = x := ⟨(varI l).1.toNat, by omega⟩
  obtain ⟨n, hn⟩ : ∃ n : Nat, (varI l).2 = n := ⟨(varI l).2.toNat, by omega⟩
  rw [hx, hn] at hK hr ⊢
  by_cases h1 : (n : Int) = 0
  · have z1 := eqI_t h1
    rw [if_pos h1]
    simp [c78, Rdr, hK, z1]
  · have z1 := eqI_f h1
    rw [if_neg h1]
    by_cases h2 : 999999 < (x : Int)
    · have z2 := ltI_t h2
      rw [if_pos h2]
      simp [c78, Rdr, hK, z1, z2]
    · have z2 := ltI_f h2
      rw [if_neg h2]
      have hw : IntKind.i64.wrap (x : Int) = x := w64 _ (by omega)
      have hnl : n ≤ l.length := by omega
      have e : (Int.toNat (n : Int)) = n := by omega
      rw [e]
      obtain ⟨r, hr2⟩ : ∃ r, l.drop n = r := ⟨_, rfl⟩
      have m1 : List.drop n (l.map (D.int .u8)) = r.map (D.int .u8) := by rw [← hr2]; simp [List.map_drop]
      rw [hr2]
      simp [c78, Rdr, hK, z1, z2, hw, hnl, m1]
set_option maxHeartbeats 4000000 in
/-- reader.schema. -/
theorem K77 (c : Bool) (l : List Int) (bad : Bool) (hl : l.length ≤ 2 ^ 38) (hB : isB l) : ∃ c' s', (s' = 1 ∨ (schR l bad).1.1 = []) ∧
    K0 64 [.ptr 0 0 0 0] (Rdr c l bad) = some (Sd c' s' (schR l bad).1.1 (schR l bad).1.2.1 (schR l bad).1.2.2.1 (schR l bad).1.2.2.2, Rdr c (schR l bad).2.1 (schR l bad).2.2) := by
  have hK := K78 c l bad (by omega) hB
  have hq := numR_range l bad
  have hqB := numR_B (bad := bad) hB
  have hql := numR_le l bad
  unfold schR
  generalize numR l bad = q at *
  obtain ⟨n, r, b⟩ := q
  simp only at hK hq hqB hql ⊢
  unfold Rdr at hK
  by_cases hb : b = true
  · subst hb
    refine ⟨true, 0, .inr (by simp), ?_⟩
    refine K_call k77 (oraG_none (by decide) (by decide)) (by simp [c77, Rdr]) ?_
    simp [c77, Rdr, hK, backK, Sd]
  · obtain rfl : b = false := by cases b <;> simp at hb ⊢
    obtain ⟨n, rfl⟩ := Int.eq_ofNat_of_zero_le hq.1
    by_cases h2 : (r.length : Int) < n
    · have z2 := ltI_t h2
      rw [if_pos (.inr h2)]
      refine ⟨true, 0, .inr rfl, ?_⟩
      refine K_call k77 (oraG_none (by decide) (by decide)) (by simp [c77, Rdr]) ?_
      simp [c77, Rdr, hK, backK, Sd, z2]
    · have z2 := ltI_f h2
      rw [if_neg (by rintro (h | h); cases h; exact h2 h)]
      have e : (Int.toNat (n : Int)) = n := by omega
      rw [e]
      obtain ⟨u, hu⟩ : ∃ u, r.take n = u := ⟨_, rfl⟩
      obtain ⟨v, hv⟩ : ∃ v, r.drop n = v := ⟨_, rfl⟩
      have m1 : List.take n (r.map (D.int .u8)) = u.map (D.int .u8) := by rw [← hu]; simp [List.map_take]
      have m2 : List.drop n (r.map (D.int .u8)) = v.map (D.int .u8) := by rw [← hv]; simp [List.map_drop]
      have hub : isB u := by rw [← hu]; exact isB_take hqB _
      have hul : u.length ≤ r.length := by rw [← hu]; simp; omega
      have hnl : n ≤ r.length := by omega
      rw [hu, hv]
      obtain ⟨c', s', hs, hT⟩ := K110 (c && n == r.length) u (by omega) hub
      refine ⟨c', s', hs, ?_⟩
      have hne : ((schT u).2 != 0) = neI (schT u).2 0 := rfl
      rw [hne]
      unfold Sd at hT ⊢
      refine K_call k77 (oraG_none (by decide) (by decide)) (by simp [c77, Rdr]) ?_
      simp [c77, Rdr, hK, backK, z2, m1, m2, hnl, hT]
      trace_state
end Go.Ab
/- THE FUNCTIONS' EQUATIONS: record: reader.record. -/
set_option linter.all false
set_option maxRecDepth 100000
namespace Go.Ab
open Go.Proofs Go.Proofs.YtdopbfjebjnpkaaH Go.Proofs.YtdopbfjebjnpkaaH.Crc Go.Proofs.YtdopbfjebjnpkaaH.Var Go.Proofs.YtdopbfjebjnpkaaH.Fr Go.Proofs.YtdopbfjebjnpkaaH.Rec
def b42_0 : C := (.seq (.reg none [⟨(some 34), none, (.bin .lss [] (.t 33) (.t 32))⟩]) (.seq (.cond (.t 34) .skip (.exit 0)) (.seq (.block 1 (.reg (some [(1, 3), (1, 4)]) [⟨(some 35), none, (.fa 5 1 false (.t 5))⟩, ⟨(some 36), none, (.ld none (.t 35))⟩, ⟨(some 37), none, (.mv (.t 0))⟩, ⟨(some 38), none, (.call (.f 65) [(.t 37)])⟩, ⟨(some 39), none, (.bsl false 1 1 [(.int .i64 0)] [(0, (.t 38))])⟩, ⟨(some 40), none, (.app 1 8 (.t 36) (.t 39))⟩, ⟨(some 41), none, (.fa 5 1 false (.t 5))⟩, ⟨none, none, (.st 1 (.t 41) (.t 40))⟩])) (.reg none [⟨(some 42), none, (.bin .add [] (.t 33) (.k (.int .i64 1)))⟩, ⟨(some 33), none, (.mv (.t 42))⟩]))))
def r42 : C := (.seq (.seq (.reg none [⟨(some 13), none, (.mv (.t 0))⟩, ⟨(some 14), none, (.nc (.t 13))⟩, ⟨(some 15), none, (.fa 1 1 false (.t 14))⟩, ⟨(some 16), none, (.ld none (.t 15))⟩]) (.cond (.t 16) (.seq (.reg none [⟨(some 17), none, (.ld (some 7) (.t 5))⟩, ⟨none, none, (.st 7 (.t 4) (.t 17))⟩]) .ret) .skip)) (.seq (.reg none [⟨(some 18), none, (.mv (.t 0))⟩, ⟨(some 19), none, (.call (.f 65) [(.t 18)])⟩, ⟨(some 20), none, (.fa 6 1 false (.t 5))⟩, ⟨none, none, (.st 1 (.t 20) (.t 19))⟩]) (.seq (.seq (.reg none [⟨(some 21), none, (.mv (.t 1))⟩, ⟨(some 22), none, (.bin .eql [] (.t 21) (.k (.int .i64 2)))⟩, ⟨(some 23), none, (.mv (.t 22))⟩, ⟨(some 24), (some ((some 23), false)), (.mv (.t 0))⟩, ⟨(some 25), (some ((some 23), false)), (.nc (.t 24))⟩, ⟨(some 26), (some ((some 23), false)), (.fa 1 1 false (.t 25))⟩, ⟨(some 27), (some ((some 23), false)), (.ld none (.t 26))⟩, ⟨(some 28), none, (.pick (.t 23) (.k (.bool true)) (.t 27))⟩]) (.cond (.t 28) (.seq (.reg none [⟨(some 29), none, (.ld (some 7) (.t 5))⟩, ⟨none, none, (.st 7 (.t 4) (.t 29))⟩]) .ret) .skip)) (.seq (.seq (.reg none [⟨(some 30), none, (.mv (.t 0))⟩, ⟨(some 31), none, (.call (.f 65) [(.t 30)])⟩, ⟨(some 32), none, (.mn [(.t 31), (.k (.int .i64 40))])⟩, ⟨(some 33), none, (.mv (.k (.int .i64 0)))⟩]) (.block 0 (.loop b42_0))) (.seq (.reg none [⟨(some 43), none, (.ld (some 7) (.t 5))⟩, ⟨none, none, (.st 7 (.t 4) (.t 43))⟩]) .ret)))))
def c42 : Fn' := ⟨44, [(.cell 4 (some 7))], (.seq (.reg none [⟨(some 4), none, (.alloc true [(.int .i64 0), nilS, (.int .i64 0), (.int .i64 0), (.int .i64 0), nilS, (.int .i64 0)])⟩]) (.seq (.reg none [⟨(some 6), none, (.mv (.t 1))⟩, ⟨(some 7), none, (.bld [(.int .i64 0), nilS, (.int .i64 0), (.int .i64 0), (.int .i64 0), nilS, (.int .i64 0)] [(0, (1, (.t 6)))])⟩, ⟨(some 5), none, (.alloc true [(.int .i64 0), nilS, (.int .i64 0), (.int .i64 0), (.int .i64 0), nilS, (.int .i64 0)])⟩, ⟨none, none, (.st 7 (.t 5) (.t 7))⟩]) (.seq (.seq (.reg none [⟨(some 8), none, (.mv (.t 1))⟩, ⟨(some 9), none, (.bin .eql [] (.t 8) (.k (.int .i64 1)))⟩]) (.cond (.t 9) (.reg none [⟨(some 10), none, (.mv (.t 0))⟩, ⟨(some 11), none, (.call (.f 64) [(.t 10)])⟩, ⟨(some 12), none, (.fa 1 4 true (.t 5))⟩, ⟨none, none, (.st 4 (.t 12) (.t 11))⟩]) .skip)) r42)))⟩
theorem k42 : compF Try.prog 41 = some c42 := by kernel_rfl
attribute [local simp] op_or op_an op_add op_sub op_mul oq_eql oq_neq oq_lss oq_gtr oq_leq oq_geq
attribute [-simp] intOp bin_shl
/-- What there is while a record is read: the reader, the record's variables. -/
def H42 (c : Bool) (r : List Int) (b : Bool) (kd : Int) (x : D) (k m g id : Int) (acc : List Int) : List Obj :=
  if acc = [] then [.box [.slc c 1 (r.map (.int .u8)), .bool b], .row 0 [] 0, .row 0 [] 0, .box [.int .i64 0, .sl 1 0 0 0, .int .i64 0, .int .i64 0, .int .i64 0, .sl 2 0 0 0, .int .i64 0], .row 0 [] 0, .row 0 [] 0, .box [.int .i64 kd, x, .int .i64 k, .int .i64 m, .int .i64 g, nilS, .int .i64 id]]
  else [.box [.slc c 1 (r.map (.int .u8)), .bool b], .row 0 [] 0, .row 0 [] 0, .box [.int .i64 0, .sl 1 0 0 0, .int .i64 0, .int .i64 0, .int .i64 0, .sl 2 0 0 0, .int .i64 0], .row 0 [] 0, .row 0 [] 0, .box [.int .i64 kd, x, .int .i64 k, .int .i64 m, .int .i64 g, .sl 7 0 acc.length acc.length, .int .i64 id], .row 1 (acc.map (.int .i64)) 0]
def t42 (e : Bool) (kd : Int) (x : D) (k m g id n N : Int) (i : Nat) : List D :=
  if e = true then [.ptr 0 0 0 0, .int .i64 kd, .undef, .undef, .ptr 3 0 0 0, .ptr 6 0 0 0, .int .i64 kd, .agg [.int .i64 kd, nilS, .int .i64 0, .int .i64 0, .int .i64 0, nilS, .int .i64 0], .int .i64 kd, .bool true, .ptr 0 0 0 0, .agg [x, .int .i64 k, .int .i64 m, .int .i64 g], .ptr 6 0 1 0, .ptr 0 0 0 0, .ptr 0 0 0 0, .ptr 0 0 1 0, .bool false, .undef, .ptr 0 0 0 0, .int .i64 id, .ptr 6 0 6 0, .int .i64 kd, .bool false, .bool false, .ptr 0 0 0 0, .ptr 0 0 0 0, .ptr 0 0 1 0, .bool false, .bool false, .undef, .ptr 0 0 0 0, .int .i64 n, .int .i64 N, .int .i64 i, .undef, .undef, .undef, .undef, .undef, .undef, .undef, .undef, .undef, .undef]
  else [.ptr 0 0 0 0, .int .i64 kd, .undef, .undef, .ptr 3 0 0 0, .ptr 6 0 0 0, .int .i64 kd, .agg [.int .i64 kd, nilS, .int .i64 0, .int .i64 0, .int .i64 0, nilS, .int .i64 0], .int .i64 kd, .bool false, .undef, .undef, .undef, .ptr 0 0 0 0, .ptr 0 0 0 0, .ptr 0 0 1 0, .bool false, .undef, .ptr 0 0 0 0, .int .i64 id, .ptr 6 0 6 0, .int .i64 kd, .bool false, .bool false, .ptr 0 0 0 0, .ptr 0 0 0 0, .ptr 0 0 1 0, .bool false, .bool false, .undef, .ptr 0 0 0 0, .int .i64 n, .int .i64 N, .int .i64 i, .undef, .undef, .undef, .undef, .undef, .undef, .undef, .undef, .undef, .undef]
set_option maxHeartbeats 8000000 in
theorem L42 (e : Bool) (c : Bool) (kd : Int) (cs : Bool) (ss : Nat) (ts : List Int) (k m g id n : Int) (N : Nat) (hN : N ≤ 40) : ∀ (j i : Nat) (r acc : List Int) (b : Bool), i + j = N → acc.length = i → r.length ≤ 2 ^ 38 → isB r →
    LpB cf0 K0 b42_0 (t42 e kd (.slc cs ss (ts.map (.int .i64))) k m g id n N 0) 7 ⟨t42 e kd (.slc cs ss (ts.map (.int .i64))) k m g id n N i, H42 c r b kd (.slc cs ss (ts.map (.int .i64))) k m g id acc⟩ =
      some (.exit 0, ⟨t42 e kd (.slc cs ss (ts.map (.int .i64))) k m g id n N N, H42 c (idsN j r b).2.1 (idsN j r b).2.2 kd (.slc cs ss (ts.map (.int .i64))) k m g id (acc ++ (idsN j r b).1)⟩)
  | 0, i, r, acc, b, hij, ha, hl, hB => by
    have hi : i = N := by omega
    subst hi
    have z1 : ltI (i : Int) (i : Int) = false := ltI_f (by omega)
    rw [LpB_eq]
    by_cases hacc : acc = []
    · subst hacc
      cases e <;> simp [b42_0, t42, H42, z1, idsN]
    · cases e <;> simp [b42_0, t42, H42, z1, idsN, hacc]
  | j + 1, i, r, acc, b, hij, ha, hl, hB => by
    have z1 : ltI (i : Int) (N : Int) = true := ltI_t (by omega)
    have hw := w64 (i + 1) (by omega)
    have hK := K78 c r b (by omega) hB
    have hqB := numR_B (bad := b) hB
    have hql := numR_le r b
    have ih := L42 e c kd cs ss ts k m g id n N hN j (i + 1) (numR r b).2.1 (acc ++ [(numR r b).1]) (numR r b).2.2 (by omega) (by simp; omega) (by omega) hqB
    have e1 := idsN_step j r b acc
    simp only at e1
    have e2 := congrArg Prod.fst e1
    have e3 := congrArg (fun p => p.2.1) e1
    have e4 := congrArg (fun p => p.2.2) e1
    simp only at e2 e3 e4
    rw [e2, e3, e4]
    generalize numR r b = q at *
    obtain ⟨x, r', b'⟩ := q
    simp only at hK hqB hql ih ⊢
    clear e1 e2 e3 e4
    rw [LpB_eq]
    have hb1 : (acc.length + 1) * 8 ≤ 70368744177664 := by omega
    by_cases hacc : acc = []
    · subst hacc
      simp only [H42, Rdr] at hK ih ⊢
      cases e
      · simp only [t42, Bool.false_eq_true, reduceIte] at ih ⊢
        conv => lhs; arg 6; simp [b42_0, z1, hK, hw, backK, evOp, evM, wants, Ins.go, X.ev, iaM, ldM, binD, setD, applyW, Ek_ops_nil, allFree, free, callM, callP, callO, appM]
        simp at ih ⊢
        exact ih
      · simp only [t42, reduceIte] at ih ⊢
        conv => lhs; arg 6; simp [b42_0, z1, hK, hw, backK, evOp, evM, wants, Ins.go, X.ev, iaM, ldM, binD, setD, applyW, Ek_ops_nil, allFree, free, callM, callP, callO, appM]
        simp at ih ⊢
        exact ih
    · simp only [H42, Rdr] at hK ih ⊢
      simp only [hacc, reduceIte] at ⊢
      cases e
      · simp only [t42, Bool.false_eq_true, reduceIte] at ih ⊢
        conv => lhs; arg 6; simp [b42_0, z1, hK, hw, hacc, hb1, backK, evOp, evM, wants, Ins.go, X.ev, iaM, ldM, binD, setD, applyW, Ek_ops_nil, allFree, free, callM, callP, callO, appM]
        simp [hacc] at ih ⊢
        exact ih
      · simp only [t42, reduceIte] at ih ⊢
        conv => lhs; arg 6; simp [b42_0, z1, hK, hw, hacc, hb1, backK, evOp, evM, wants, Ins.go, X.ev, iaM, ldM, binD, setD, applyW, Ek_ops_nil, allFree, free, callM, callP, callO, appM]
        simp [hacc] at ih ⊢
        exact ih
set_option maxHeartbeats 8000000 in
theorem R42 (e : Bool) (c : Bool) (kd : Int) (he : eqI kd 1 = e) (cs : Bool) (ss : Nat) (ts : List Int) (k m g : Int) (r : List Int) (b : Bool) (hl : r.length ≤ 2 ^ 38) (hB : isB r) :
    ∃ c' s', (s' = 1 ∨ (recR2 kd ((ts, k, m, g), r, b)).1.2.2.1 = []) ∧
    finK false 1 [.cell 4 (some 7)] (Ek cf0 K0 [.c r42] ⟨if e = true then [.ptr 0 0 0 0, .int .i64 kd, .undef, .undef, .ptr 3 0 0 0, .ptr 6 0 0 0, .int .i64 kd, .agg [.int .i64 kd, nilS, .int .i64 0, .int .i64 0, .int .i64 0, nilS, .int .i64 0], .int .i64 kd, .bool true, .ptr 0 0 0 0, .agg [.slc cs ss (ts.map (.int .i64)), .int .i64 k, .int .i64 m, .int .i64 g], .ptr 6 0 1 0, .undef, .undef, .undef, .undef, .undef, .undef, .undef, .undef, .undef, .undef, .undef, .undef, .undef, .undef, .undef, .undef, .undef, .undef, .undef, .undef, .undef, .undef, .undef, .undef, .undef, .undef, .undef, .undef, .undef, .undef, .undef]
      else [.ptr 0 0 0 0, .int .i64 kd, .undef, .undef, .ptr 3 0 0 0, .ptr 6 0 0 0, .int .i64 kd, .agg [.int .i64 kd, nilS, .int .i64 0, .int .i64 0, .int .i64 0, nilS, .int .i64 0], .int .i64 kd, .bool false, .undef, .undef, .undef, .undef, .undef, .undef, .undef, .undef, .undef, .undef, .undef, .undef, .undef, .undef, .undef, .undef, .undef, .undef, .undef, .undef, .undef, .undef, .undef, .undef, .undef, .undef, .undef, .undef, .undef, .undef, .undef, .undef, .undef, .undef], H42 c r b kd (.slc cs ss (ts.map (.int .i64))) k m g 0 []⟩) =
    some (Rcd kd cs ss ts k m g c' s' (recR2 kd ((ts, k, m, g), r, b)).1.2.2.1 (recR2 kd ((ts, k, m, g), r, b)).1.2.2.2, Rdr c (recR2 kd ((ts, k, m, g), r, b)).2.1 (recR2 kd ((ts, k, m, g), r, b)).2.2) := by
  cases b with
  | true =>
    refine ⟨true, 0, .inr (by simp [recR2]), ?_⟩
    simp only [recR2, reduceIte, H42, Rcd, Rdr]
    cases e <;> simp [r42]
  | false =>
    have hK := K78 c r false (by omega) hB
    have hqB := numR_B (bad := false) hB
    have hql := numR_le r false
    simp only [recR2, Bool.false_eq_true, reduceIte]
    generalize numR r false = q at *
    obtain ⟨id, r1, b1⟩ := q
    simp only at hK hqB hql ⊢
    by_cases h2 : kd = 2
    · have z2 := eqI_t h2
      rw [if_pos (.inl h2)]
      refine ⟨true, 0, .inr rfl, ?_⟩
      simp only [H42, Rcd, Rdr, reduceIte] at hK ⊢
      cases e <;> simp [r42, hK, backK, z2]
    · have z2 := eqI_f h2
      cases b1 with
      | true =>
        rw [if_pos (.inr rfl)]
        refine ⟨true, 0, .inr rfl, ?_⟩
        simp only [H42, Rcd, Rdr, reduceIte] at hK ⊢
        cases e <;> simp [r42, hK, backK, z2]
      | false =>
        rw [if_neg (by simp [h2])]
        have hK2 := K78 c r1 false (by omega) hqB
        have hqB2 := numR_B (bad := false) hqB
        have hql2 := numR_le r1 false
        have hqr2 := numR_range r1 false
        generalize numR r1 false = q at *
        obtain ⟨x, r2, b2⟩ := q
        simp only at hK2 hqB2 hql2 hqr2 ⊢
        obtain ⟨N, hN⟩ : ∃ N : Nat, (min x 40).toNat = N := ⟨_, rfl⟩
        rw [hN]
        have hN40 : N ≤ 40 := by omega
        have hL := L42 e c kd cs ss ts k m g id x N hN40 N 0 r2 [] b2 (by omega) rfl (by omega) hqB2
        have hmin : (if (40 : Int) < x then (40 : Int) else x) = (N : Int) := by split <;> omega
        refine ⟨(idsN N r2 b2).1.isEmpty, if (idsN N r2 b2).1.isEmpty then 0 else 1, by cases (idsN N r2 b2).1 <;> simp, ?_⟩
        simp only [List.nil_append] at hL
        generalize idsN N r2 b2 = w at *
        obtain ⟨ids, r3, b3⟩ := w
        simp only at hL ⊢
        simp only [Rcd, Rdr, H42, reduceIte] at hK hK2 hL ⊢
        by_cases hids : ids = []
        · subst hids
          cases e
          · simp only [t42, Bool.false_eq_true, reduceIte] at hL ⊢
            simp at hL
            simp [r42, hK, hK2, backK, z2, hmin]
            rw [hL]
            simp
          · simp only [t42, reduceIte] at hL ⊢
            simp at hL
            simp [r42, hK, hK2, backK, z2, hmin]
            rw [hL]
            simp
        · have hie : ids.isEmpty = false := by cases ids <;> simp at hids ⊢
          simp only [hids, reduceIte] at hL
          cases e
          · simp only [t42, Bool.false_eq_true, reduceIte] at hL ⊢
            simp at hL
            simp [r42, hK, hK2, backK, z2, hmin]
            rw [hL]
            simp [hie, hids, List.take_of_length_le, List.lookup]
          · simp only [t42, reduceIte] at hL ⊢
            simp at hL
            simp [r42, hK, hK2, backK, z2, hmin]
            rw [hL]
            simp [hie, hids, List.take_of_length_le, List.lookup]
set_option maxHeartbeats 8000000 in
/-- reader.record. -/
theorem K42 (c : Bool) (kd : Int) (l : List Int) (hl : l.length ≤ 2 ^ 38) (hB : isB l) : ∃ cs ss c' s', (ss = 1 ∨ (recR kd l false).1.2.1.1 = []) ∧ (s' = 1 ∨ (recR kd l false).1.2.2.1 = []) ∧
    K0 41 [.ptr 0 0 0 0, .int .i64 kd] (Rdr c l false) = some (Rcd kd cs ss (recR kd l false).1.2.1.1 (recR kd l false).1.2.1.2.1 (recR kd l false).1.2.1.2.2.1 (recR kd l false).1.2.1.2.2.2 c' s' (recR kd l false).1.2.2.1 (recR kd l false).1.2.2.2, Rdr c (recR kd l false).2.1 (recR kd l false).2.2) := by
  have h1e : ∀ s, (recR2 kd s).1.2.1 = s.1 := by
    intro s
    unfold recR2
    split
    · rfl
    · simp only
      split
      · rfl
      · rfl
  unfold recR
  rw [h1e]
  by_cases hk : kd = 1
  · have z1 := eqI_t hk
    rw [if_pos hk]
    obtain ⟨cs, ss, hss, hK⟩ := K77 c l false hl hB
    have hqB := schR_B (bad := false) hB
    have hql := schR_le l false
    generalize schR l false = q at *
    obtain ⟨⟨ts, k, m, g⟩, r, b⟩ := q
    simp only at hss hK hqB hql ⊢
    obtain ⟨c', s', hs', hR⟩ := R42 true c kd z1 cs ss ts k m g r b (by omega) hqB
    refine ⟨cs, ss, c', s', hss, hs', K_call k42 (oraG_none (by decide) (by decide)) (by simp [c42, Rdr]) ?_⟩
    rw [← hR]
    simp only [Rdr, Sd] at hK
    simp [c42, Rdr, z1, hK, backK, H42]
  · have z1 := eqI_f hk
    rw [if_neg hk]
    obtain ⟨c', s', hs', hR⟩ := R42 false c kd z1 true 0 [] 0 0 0 l false hl hB
    refine ⟨true, 0, c', s', .inr rfl, hs', K_call k42 (oraG_none (by decide) (by decide)) (by simp [c42, Rdr]) ?_⟩
    rw [← hR]
    simp [c42, Rdr, z1, backK, H42]
end Go.Ab
