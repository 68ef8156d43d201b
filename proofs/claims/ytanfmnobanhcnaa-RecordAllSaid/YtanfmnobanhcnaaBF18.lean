/- THE FUNCTIONS' EQUATIONS: thresherref16: numbers, Put, number, Same. -/
import Derived.Test.YtanfmnobanhcnaaBF37
import Derived.Test.YtanfmnobanhcnaaBF44
import Derived.Test.YtanfmnobanhcnaaBF35
set_option linter.all false
set_option maxRecDepth 100000
namespace Go.Ab
open Go.Proofs Go.Proofs.YtanfmnobanhcnaaH Go.Proofs.YtanfmnobanhcnaaH.Crc Go.Proofs.YtanfmnobanhcnaaH.Var Go.Proofs.YtanfmnobanhcnaaH.Fr Go.Proofs.YtanfmnobanhcnaaH.Rec
def c18 : Fn' := ⟨45, [(.tmp 2), (.tmp 3)], (.seq (.reg none [⟨(some 1), none, (.box false (.t 0))⟩, ⟨(some 2), none, (.mv (.k nilS))⟩, ⟨(some 3), none, (.mv (.k (.bool false)))⟩]) (.seq (.reg none [⟨(some 7), none, (.ld (some 7) (.t 1))⟩, ⟨(some 8), none, (.call (.f 37) [(.t 7)])⟩, ⟨(some 4), none, (.mv (.t 8))⟩]) (.seq (.seq (.reg none [⟨(some 9), none, (.mv (.t 4))⟩, ⟨(some 10), none, (.un .not (.t 9))⟩]) (.cond (.t 10) (.seq (.reg none [⟨(some 2), none, (.mv (.k nilS))⟩, ⟨(some 3), none, (.mv (.k (.bool false)))⟩]) .ret) .skip)) (.seq (.reg none [⟨(some 11), none, (.fa 0 1 false (.t 1))⟩, ⟨(some 12), none, (.ld none (.t 11))⟩, ⟨(some 13), none, (.cvt (.int .u8) (.t 12))⟩, ⟨(some 14), none, (.bsl true 1 1 [(.int .u8 0)] [(0, (.t 13))])⟩, ⟨(some 5), none, (.mv (.t 14))⟩]) (.seq (.seq (.reg none [⟨(some 15), none, (.fa 0 1 false (.t 1))⟩, ⟨(some 16), none, (.ld none (.t 15))⟩, ⟨(some 17), none, (.bin .eql [] (.t 16) (.k (.int .i64 1)))⟩]) (.cond (.t 17) (.seq (.reg none [⟨(some 18), none, (.fa 1 4 true (.t 1))⟩, ⟨(some 19), none, (.ld (some 4) (.t 18))⟩, ⟨(some 20), none, (.call (.f 38) [(.t 19)])⟩, ⟨(some 6), none, (.mv (.t 20))⟩]) (.reg none [⟨(some 21), none, (.mv (.t 5))⟩, ⟨(some 22), none, (.mv (.t 6))⟩, ⟨(some 23), none, (.len 1 (.t 22))⟩, ⟨(some 24), none, (.cvt (.int .u64) (.t 23))⟩, ⟨(some 25), none, (.call (.f 39) [(.t 24)])⟩, ⟨(some 26), none, (.app 1 1 (.t 21) (.t 25))⟩, ⟨(some 27), none, (.mv (.t 6))⟩, ⟨(some 28), none, (.app 1 1 (.t 26) (.t 27))⟩, ⟨(some 5), none, (.mv (.t 28))⟩])) .skip)) (.seq (.reg none [⟨(some 29), none, (.mv (.t 5))⟩, ⟨(some 30), none, (.fa 6 1 false (.t 1))⟩, ⟨(some 31), none, (.ld none (.t 30))⟩, ⟨(some 32), none, (.cvt (.int .u64) (.t 31))⟩, ⟨(some 33), none, (.call (.f 39) [(.t 32)])⟩, ⟨(some 34), none, (.app 1 1 (.t 29) (.t 33))⟩, ⟨(some 5), none, (.mv (.t 34))⟩]) (.seq (.seq (.reg none [⟨(some 35), none, (.fa 0 1 false (.t 1))⟩, ⟨(some 36), none, (.ld none (.t 35))⟩, ⟨(some 37), none, (.bin .neq [] (.t 36) (.k (.int .i64 2)))⟩]) (.cond (.t 37) (.reg none [⟨(some 38), none, (.mv (.t 5))⟩, ⟨(some 39), none, (.fa 5 1 false (.t 1))⟩, ⟨(some 40), none, (.ld none (.t 39))⟩, ⟨(some 41), none, (.call (.f 40) [(.t 40)])⟩, ⟨(some 42), none, (.app 1 1 (.t 38) (.t 41))⟩, ⟨(some 5), none, (.mv (.t 42))⟩]) .skip)) (.seq (.reg none [⟨(some 43), none, (.mv (.t 5))⟩, ⟨(some 44), none, (.call (.f 23) [(.t 43)])⟩, ⟨(some 2), none, (.mv (.t 44))⟩, ⟨(some 3), none, (.mv (.k (.bool true)))⟩]) .ret))))))))⟩
theorem k18 : compF Try.prog 18 = some c18 := by kernel_rfl
def c80 : Fn' := ⟨23, [(.tmp 2), (.tmp 3), (.tmp 4)], (.seq (.reg none [⟨(some 2), none, (.mv (.k (.int .i64 0)))⟩, ⟨(some 3), none, (.mv (.k nilS))⟩, ⟨(some 4), none, (.mv (.k (.bool false)))⟩]) (.seq (.reg none [⟨(some 8), none, (.mv (.t 0))⟩, ⟨(some 9), none, (.call (.f 79) [(.t 8)])⟩, ⟨(some 7), none, (.mv (.t 9))⟩, ⟨(some 10), none, (.ext (.t 7) 0)⟩, ⟨(some 11), none, (.ext (.t 7) 1)⟩, ⟨(some 5), none, (.mv (.t 10))⟩, ⟨(some 6), none, (.mv (.t 11))⟩]) (.seq (.seq (.reg none [⟨(some 12), none, (.mv (.t 6))⟩, ⟨(some 13), none, (.bin .eql [] (.t 12) (.k (.int .i64 0)))⟩, ⟨(some 14), none, (.mv (.t 13))⟩, ⟨(some 15), (some ((some 14), false)), (.mv (.t 5))⟩, ⟨(some 16), (some ((some 14), false)), (.bin .gtr [] (.t 15) (.k (.int .u64 999999)))⟩, ⟨(some 17), none, (.pick (.t 14) (.k (.bool true)) (.t 16))⟩]) (.cond (.t 17) (.seq (.reg none [⟨(some 2), none, (.mv (.k (.int .i64 0)))⟩, ⟨(some 3), none, (.mv (.k nilS))⟩, ⟨(some 4), none, (.mv (.k (.bool false)))⟩]) .ret) .skip)) (.seq (.reg (some []) [⟨(some 18), none, (.mv (.t 5))⟩, ⟨(some 19), none, (.cvt (.int .i64) (.t 18))⟩, ⟨(some 20), none, (.mv (.t 0))⟩, ⟨(some 21), none, (.mv (.t 6))⟩, ⟨(some 22), none, (.sub 1 1 (.t 20) (some (.t 21)) none none)⟩, ⟨(some 2), none, (.mv (.t 19))⟩, ⟨(some 3), none, (.mv (.t 22))⟩, ⟨(some 4), none, (.mv (.k (.bool true)))⟩]) .ret))))⟩
theorem k80 : compF Try.prog 80 = some c80 := by kernel_rfl
def c21 : Fn' := ⟨35, [(.tmp 4)], (.seq (.reg none [⟨(some 2), none, (.box false (.t 0))⟩, ⟨(some 3), none, (.box false (.t 1))⟩, ⟨(some 4), none, (.mv (.k (.bool false)))⟩]) (.seq (.reg none [⟨(some 7), none, (.fa 1 4 true (.t 2))⟩, ⟨(some 8), none, (.ld (some 4) (.t 7))⟩, ⟨(some 9), none, (.fa 1 4 true (.t 3))⟩, ⟨(some 10), none, (.ld (some 4) (.t 9))⟩, ⟨(some 11), none, (.call (.f 46) [(.t 8), (.t 10)])⟩, ⟨(some 5), none, (.mv (.t 11))⟩]) (.seq (.reg none [⟨(some 12), none, (.fa 5 1 false (.t 2))⟩, ⟨(some 13), none, (.ld none (.t 12))⟩, ⟨(some 14), none, (.fa 5 1 false (.t 3))⟩, ⟨(some 15), none, (.ld none (.t 14))⟩, ⟨(some 16), none, (.call (.f 47) [(.t 13), (.t 15)])⟩, ⟨(some 6), none, (.mv (.t 16))⟩]) (.seq (.reg none [⟨(some 17), none, (.mv (.t 5))⟩, ⟨(some 18), none, (.mv (.t 17))⟩, ⟨(some 19), (some ((some 18), true)), (.mv (.t 6))⟩, ⟨(some 20), none, (.pick (.t 18) (.t 19) (.k (.bool false)))⟩, ⟨(some 21), none, (.mv (.t 20))⟩, ⟨(some 22), (some ((some 21), true)), (.fa 0 1 false (.t 2))⟩, ⟨(some 23), (some ((some 21), true)), (.ld none (.t 22))⟩, ⟨(some 24), (some ((some 21), true)), (.fa 0 1 false (.t 3))⟩, ⟨(some 25), (some ((some 21), true)), (.ld none (.t 24))⟩, ⟨(some 26), (some ((some 21), true)), (.bin .eql [] (.t 23) (.t 25))⟩, ⟨(some 27), none, (.pick (.t 21) (.t 26) (.k (.bool false)))⟩, ⟨(some 28), none, (.mv (.t 27))⟩, ⟨(some 29), (some ((some 28), true)), (.fa 6 1 false (.t 2))⟩, ⟨(some 30), (some ((some 28), true)), (.ld none (.t 29))⟩, ⟨(some 31), (some ((some 28), true)), (.fa 6 1 false (.t 3))⟩, ⟨(some 32), (some ((some 28), true)), (.ld none (.t 31))⟩, ⟨(some 33), (some ((some 28), true)), (.bin .eql [] (.t 30) (.t 32))⟩, ⟨(some 34), none, (.pick (.t 28) (.t 33) (.k (.bool false)))⟩, ⟨(some 4), none, (.mv (.t 34))⟩]) .ret))))⟩
theorem k21 : compF Try.prog 21 = some c21 := by kernel_rfl
attribute [local simp] op_or op_an op_add op_sub op_mul oq_eql oq_neq oq_lss oq_gtr oq_leq oq_geq
attribute [-simp] intOp bin_shl
def t40 (x : D) (n : Int) (p a i : Nat) : List D := [x, .undef, nilS, .sl 0 0 a a, .int .i64 i, x, .int .i64 n, .int .u64 n, .sl 0 0 p p, .undef, .undef, .undef, .undef, .undef, .undef, .undef, .undef, .undef, .undef, .undef, .undef, .undef, .undef, .undef]
set_option maxHeartbeats 4000000 in
theorem L40 (c : Bool) (l : List Int) (n : Int) (p : Nat) (hl : l.length ≤ 2 ^ 47) : ∀ (t pre acc : List Int) (a i : Nat), l = pre ++ t → i = pre.length → a = acc.length → acc.length + 10 * t.length ≤ 2 ^ 40 → (∀ x ∈ t, 0 ≤ x ∧ x ≤ 9223372036854775807) →
    LpB cf0 K0 b40_0 (t40 (Sl c l) n p p 0) 1 ⟨t40 (Sl c l) n p a i, [.row 1 (acc.map (.int .u8)) 0]⟩ =
    some (.exit 0, ⟨t40 (Sl c l) n p (acc ++ putAllI t).length l.length, [.row 1 ((acc ++ putAllI t).map (.int .u8)) 0]⟩)
  | [], pre, acc, a, i, h, hi, ha, hb, hx => by
    have : l = pre := by simpa using h
    subst this
    have z1 : ltI (i : Int) l.length = false := ltI_f (by omega)
    rw [LpB_eq]
    simp only [t40]
    conv => lhs; arg 6; simp [b40_0, z1]
    simp [hi, ha, putAllI]
  | x :: t, pre, acc, a, i, h, hi, ha, hb, hx => by
    have hx0 := hx x List.mem_cons_self
    have hll : i < l.length := by rw [h, hi]; simp
    have z1 : ltI (i : Int) l.length = true := ltI_t (by omega)
    have hget : l[i]? = some x := by rw [h, hi]; simp
    have hgi : l[i]'hll = x := by rw [List.getElem?_eq_getElem hll] at hget; exact Option.some.inj hget
    have hw := w64 (i + 1) (by omega)
    have hwx : IntKind.u64.wrap x = x := by rw [IntKind.wrap_u64]; omega
    have hK := K39 x (by omega) (by omega)
    have hqn := putI_ne x
    have hql := putI_len10 x (by omega)
    obtain ⟨q, hq⟩ : ∃ q, putI x = q := ⟨_, rfl⟩
    rw [hq] at hK hqn hql
    have ih := L40 c l n p hl t (pre ++ [x]) (acc ++ q) (acc ++ q).length (i + 1) (by rw [h]; simp) (by simp [hi]) rfl (by simp at hb ⊢; omega) (fun y hy => hx y (List.mem_cons_of_mem _ hy))
    rw [allP_pos, hq, ← List.append_assoc]
    simp only [List.length_cons] at hb
    have b1 : acc.length + q.length ≤ 70368744177664 := by omega
    rw [LpB_eq]
    simp only [t40] at ih ⊢
    conv => lhs; arg 6; simp [b40_0, z1, hll, hgi, hw, hwx, hK, hqn, ha, b1, List.take_of_length_le]
    simp at ih ⊢
    exact ih
set_option maxHeartbeats 4000000 in
/-- thresherref16.numbers. -/
theorem K40 (c : Bool) (s : Nat) (l : List Int) (hs : s = 1 ∨ l = []) (hl : l.length ≤ 2 ^ 30) (hpos : ∀ x ∈ l, 0 ≤ x ∧ x ≤ 9223372036854775807) :
    K0 40 [.slc c s (l.map (.int .i64))] [] = some (.slc false 1 ((putI l.length ++ putAllI l).map (.int .u8)), []) := by
  refine K_call k40 (oraG_none (by decide) (by decide)) (by simp [c40]) ?_
  have wn : IntKind.u64.wrap (l.length : Int) = l.length := by rw [IntKind.wrap_u64]; omega
  have Kn := K39 (l.length : Int) (by omega) (by omega)
  have ln := putI_len10 (l.length : Int) (by omega)
  have hloop : ∀ s, (s = 1 ∨ l = []) → LpB cf0 K0 b40_0 (t40 (.slc c s (l.map (.int .i64))) l.length (putI l.length).length (putI l.length).length 0) 1 ⟨t40 (.slc c s (l.map (.int .i64))) l.length (putI l.length).length (putI l.length).length 0, [.row 1 ((putI l.length).map (.int .u8)) 0]⟩ =
    some (.exit 0, ⟨t40 (.slc c s (l.map (.int .i64))) l.length (putI l.length).length (putI l.length ++ putAllI l).length l.length, [.row 1 ((putI l.length ++ putAllI l).map (.int .u8)) 0]⟩) := by
    intro s hs
    rcases hs with rfl | rfl
    · exact L40 c l l.length _ (by omega) l [] (putI l.length) _ 0 rfl rfl rfl (by omega) hpos
    · have z1 : ltI 0 0 = false := rfl
      rw [LpB_eq]
      simp only [t40]
      conv => lhs; arg 6; simp [b40_0, z1]
      simp [putAllI]
  have h := hloop s hs
  clear hloop
  generalize putI (l.length : Int) = pn at *
  simp only [t40] at h
  simp [c40, wn, Kn]
  simp at h
  rw [h]
  simp [List.take_of_length_le]
set_option maxHeartbeats 8000000 in
/-- thresherref16.Put: what may not be. -/
theorem K18_f (kd : Int) (c : Bool) (s : Nat) (ts : List Int) (k m g : Int) (c' : Bool) (s' : Nat) (ids : List Int) (id : Int) (hs : s = 1 ∨ ts = []) (hs' : s' = 1 ∨ ids = []) (hl : ts.length ≤ 2 ^ 30) (hl' : ids.length ≤ 2 ^ 30) (h : mayI kd ts k m g ids id = false) :
    K0 18 [Rcd kd c s ts k m g c' s' ids id] [] = some (.tuple [nilS, .bool false], []) := by
  refine K_call k18 (oraG_none (by decide) (by decide)) (by simp [c18, Rcd]) ?_
  have hK := K37 kd c s ts k m g c' s' ids id hs hs' (by omega) (by omega)
  rw [h] at hK
  unfold Rcd at hK ⊢
  simp [c18, hK]
theorem putS_ne (ts : List Int) (k m g : Int) : ¬ putS ts k m g = [] := by
  intro e
  have := putI_ne ts.length
  unfold putS at e
  rw [allP_pos] at e
  exact this (List.append_eq_nil_iff.1 e).1
set_option maxHeartbeats 8000000 in
/-- thresherref16.Put: what may be. -/
theorem K18_t (kd : Int) (c : Bool) (s : Nat) (ts : List Int) (k m g : Int) (c' : Bool) (s' : Nat) (ids : List Int) (id : Int) (hs : s = 1 ∨ ts = []) (hs' : s' = 1 ∨ ids = []) (h : mayI kd ts k m g ids id = true) :
    K0 18 [Rcd kd c s ts k m g c' s' ids id] [] = some (.tuple [.slc false 1 ((frameI (recB kd ts k m g ids id)).map (.int .u8)), .bool true], []) := by
  refine K_call k18 (oraG_none (by decide) (by decide)) (by simp [c18, Rcd]) ?_
  have hm := mayI_some h
  have htl : ts.length ≤ 64 := by
    rcases hm.1 with ⟨_, h1⟩ | ⟨_, h1, _⟩ | ⟨_, h1, _⟩
    · exact (schemaOk_iff.1 h1).1.2
    · rw [(bare_eq h1).1]; simp
    · rw [(bare_eq h1).1]; simp
  have hK := K37 kd c s ts k m g c' s' ids id hs hs' (by omega) (by omega)
  rw [h] at hK
  have hB : isB (recB kd ts k m g ids id) := isB_recB h
  have hrl := recB_len h
  have hfr := K23 (recB kd ts k m g ids id) false hB (by omega)
  have wi : IntKind.u64.wrap id = id := by rw [IntKind.wrap_u64]; omega
  have Ki := K39 id (by omega) (by omega)
  have ni := putI_ne id
  have li := putI_len10 id (by omega)
  have Kn := K40 c' s' ids hs' (by omega) (fun x hx => by have := hm.2.2.2 x hx; omega)
  have nn : ¬ putI (ids.length : Int) ++ putAllI ids = [] := fun e => putI_ne _ (List.append_eq_nil_iff.1 e).1
  have ln : (putI (ids.length : Int) ++ putAllI ids).length ≤ 410 := by
    have h1 := putI_len10 (ids.length : Int) (by omega)
    have h2 := putAllI_len ids (fun x hx => by have := hm.2.2.2 x hx; omega)
    simp; omega
  unfold Rcd at hK ⊢
  rcases hm.1 with ⟨rfl, h1⟩ | ⟨rfl, h1, h2⟩ | ⟨rfl, h1, h2⟩
  · have hrec : recB 1 ts k m g ids id = [1] ++ (putI (putS ts k m g).length ++ (putS ts k m g ++ (putI id ++ (putI ids.length ++ putAllI ids)))) := by unfold recB; simp
    have hsc := schemaOk_iff.1 h1
    have h38 := K38 c s ts hs k m g (by omega) (by
      intro x hx
      rcases List.mem_append.1 hx with hx | hx
      · have := hsc.2.1 x hx; omega
      · simp at hx
        rcases hx with rfl | rfl | rfl <;> omega)
    unfold Sd at h38
    have hSl := putS_len ts k m g h1
    have nS := putS_ne ts k m g
    have w1 : IntKind.u8.wrap 1 = 1 := by decide
    have wS : IntKind.u64.wrap ((putS ts k m g).length : Int) = (putS ts k m g).length := by rw [IntKind.wrap_u64]; omega
    have KS := K39 ((putS ts k m g).length : Int) (by omega) (by omega)
    have nP := putI_ne ((putS ts k m g).length : Int)
    have lP := putI_len10 ((putS ts k m g).length : Int) (by omega)
    have q1 : eqI 1 1 = true := rfl
    have q2 : neI 1 2 = true := rfl
    rw [hrec] at hfr hrl
    rw [hrec]
    generalize putS ts k m g = S at *
    generalize putI (S.length : Int) = P at *
    generalize putI id = I at *
    generalize putI (ids.length : Int) ++ putAllI ids = A at *
    have b1 : 1 + P.length ≤ 70368744177664 := by omega
    have b2 : 1 + (P.length + S.length) ≤ 70368744177664 := by omega
    have b3 : 1 + (P.length + (S.length + I.length)) ≤ 70368744177664 := by omega
    have b4 : 1 + (P.length + (S.length + (I.length + A.length))) ≤ 70368744177664 := by omega
    simp only [Nat.add_assoc, Nat.add_comm, Nat.add_left_comm] at b1 b2 b3 b4
    simp at hfr
    simp [c18, hK, h38, w1, wS, KS, nP, nS, wi, Ki, ni, Kn, nn, q1, q2, b1, b2, b3, b4, hfr, Nat.add_assoc, Nat.add_comm, Nat.add_left_comm, List.take_of_length_le]
  · obtain ⟨rfl, rfl, rfl, rfl⟩ := bare_eq h1
    obtain rfl := List.eq_nil_of_length_eq_zero h2
    have hrec : recB 2 [] 0 0 0 [] id = [2] ++ putI id := by unfold recB; simp
    have w1 : IntKind.u8.wrap 2 = 2 := by decide
    have q1 : eqI 2 1 = false := rfl
    have q2 : neI 2 2 = false := rfl
    rw [hrec] at hfr hrl
    rw [hrec]
    generalize putI id = I at *
    have b1 : 1 + I.length ≤ 70368744177664 := by omega
    simp only [Nat.add_assoc, Nat.add_comm, Nat.add_left_comm] at b1
    simp at hfr hK
    simp [c18, hK, w1, wi, Ki, ni, q1, q2, b1, hfr, Nat.add_assoc, Nat.add_comm, Nat.add_left_comm, List.take_of_length_le]
  · obtain ⟨rfl, rfl, rfl, rfl⟩ := bare_eq h1
    have hrec : recB 3 [] 0 0 0 ids id = [3] ++ (putI id ++ (putI ids.length ++ putAllI ids)) := by unfold recB; simp
    have w1 : IntKind.u8.wrap 3 = 3 := by decide
    have q1 : eqI 3 1 = false := rfl
    have q2 : neI 3 2 = true := rfl
    rw [hrec] at hfr hrl
    rw [hrec]
    generalize putI id = I at *
    generalize putI (ids.length : Int) ++ putAllI ids = A at *
    have b1 : 1 + I.length ≤ 70368744177664 := by omega
    have b2 : 1 + (I.length + A.length) ≤ 70368744177664 := by omega
    simp only [Nat.add_assoc, Nat.add_comm, Nat.add_left_comm] at b1 b2
    simp at hfr hK
    simp [c18, hK, w1, wi, Ki, ni, Kn, nn, q1, q2, b1, b2, hfr, Nat.add_assoc, Nat.add_comm, Nat.add_left_comm, List.take_of_length_le]
set_option maxHeartbeats 4000000 in
/-- thresherref16.Same. -/
theorem K21 (kd : Int) (c : Bool) (s : Nat) (ts : List Int) (k m g : Int) (c1 : Bool) (s1 : Nat) (ids : List Int) (id : Int) (kd' : Int) (d : Bool) (r : Nat) (ts' : List Int) (k' m' g' : Int) (d1 : Bool) (r1 : Nat) (ids' : List Int) (id' : Int)
    (hs : s = 1 ∨ ts = []) (hs1 : s1 = 1 ∨ ids = []) (hr : r = 1 ∨ ts' = []) (hr1 : r1 = 1 ∨ ids' = []) (hl : ts.length ≤ 2 ^ 47) (hl1 : ids.length ≤ 2 ^ 47) :
    K0 21 [Rcd kd c s ts k m g c1 s1 ids id, Rcd kd' d r ts' k' m' g' d1 r1 ids' id'] [] = some (.bool (decide (ts = ts' ∧ k = k' ∧ m = m' ∧ g = g') && (ids == ids') && eqI kd kd' && eqI id id'), []) := by
  refine K_call k21 (oraG_none (by decide) (by decide)) (by simp [c21, Rcd]) ?_
  have h1 := K46 c d s r ts ts' k m g k' m' g' hs hr hl
  have h2 := K47 c1 d1 s1 r1 ids ids' hs1 hr1 hl1
  unfold Sd at h1
  unfold Rcd
  generalize decide (ts = ts' ∧ k = k' ∧ m = m' ∧ g = g') = z1 at *
  generalize (ids == ids') = z2 at *
  obtain ⟨z3, hz3⟩ : ∃ z, eqI kd kd' = z := ⟨_, rfl⟩
  obtain ⟨z4, hz4⟩ : ∃ z, eqI id id' = z := ⟨_, rfl⟩
  rw [hz3, hz4]
  cases z1
  · simp [c21, h1, h2]
  cases z2
  · simp [c21, h1, h2]
  cases z3
  · simp [c21, h1, h2, hz3]
  · simp [c21, h1, h2, hz3, hz4]
end Go.Ab
