/- THE FUNCTIONS' EQUATIONS: thresherref16: number, read. -/
import Derived.Test.YtanfmnobanhcnaaBF18
import Derived.Test.YtanfmnobanhcnaaBF81
import Derived.Test.YtanfmnobanhcnaaBPCrc
set_option linter.all false
set_option maxRecDepth 100000
namespace Go.Ab
open Go.Proofs Go.Proofs.YtanfmnobanhcnaaH Go.Proofs.YtanfmnobanhcnaaH.Crc Go.Proofs.YtanfmnobanhcnaaH.Var Go.Proofs.YtanfmnobanhcnaaH.Fr Go.Proofs.YtanfmnobanhcnaaH.Rec
def b45_0 : C := (.seq (.seq (.reg none [⟨(some 85), none, (.mv (.t 16))⟩, ⟨(some 86), none, (.mv (.t 13))⟩, ⟨(some 87), none, (.bin .lss [] (.t 85) (.t 86))⟩, ⟨(some 88), none, (.mv (.t 87))⟩, ⟨(some 89), (some ((some 88), true)), (.mv (.t 15))⟩, ⟨(some 90), none, (.pick (.t 88) (.t 89) (.k (.bool false)))⟩]) (.cond (.t 90) .skip (.exit 0))) (.seq (.block 1 (.seq (.reg none [⟨(some 94), none, (.mv (.t 14))⟩, ⟨(some 95), none, (.call (.f 80) [(.t 94)])⟩, ⟨(some 93), none, (.mv (.t 95))⟩, ⟨(some 96), none, (.ext (.t 93) 0)⟩, ⟨(some 97), none, (.ext (.t 93) 1)⟩, ⟨(some 98), none, (.ext (.t 93) 2)⟩, ⟨(some 17), none, (.mv (.t 96))⟩, ⟨(some 18), none, (.mv (.t 97))⟩, ⟨(some 19), none, (.mv (.t 98))⟩]) (.seq (.reg none [⟨(some 99), none, (.mv (.t 19))⟩, ⟨(some 100), none, (.mv (.t 99))⟩, ⟨(some 101), (some ((some 100), true)), (.mv (.t 13))⟩, ⟨(some 102), (some ((some 100), true)), (.bin .leq [] (.t 101) (.k (.int .i64 40)))⟩, ⟨(some 103), none, (.pick (.t 100) (.t 102) (.k (.bool false)))⟩, ⟨(some 15), none, (.mv (.t 103))⟩]) (.seq (.reg none [⟨(some 104), none, (.fa 5 1 false (.t 4))⟩, ⟨(some 105), none, (.ld none (.t 104))⟩, ⟨(some 106), none, (.mv (.t 17))⟩, ⟨(some 107), none, (.bsl false 1 1 [(.int .i64 0)] [(0, (.t 106))])⟩, ⟨(some 108), none, (.app 1 8 (.t 105) (.t 107))⟩, ⟨(some 109), none, (.fa 5 1 false (.t 4))⟩, ⟨none, none, (.st 1 (.t 109) (.t 108))⟩]) (.reg none [⟨(some 110), none, (.mv (.t 18))⟩, ⟨(some 14), none, (.mv (.t 110))⟩]))))) (.reg none [⟨(some 91), none, (.mv (.t 16))⟩, ⟨(some 92), none, (.bin .add [] (.t 91) (.k (.int .i64 1)))⟩, ⟨(some 16), none, (.mv (.t 92))⟩])))
def r45 : C := (.seq (.reg none [⟨(some 61), none, (.mv (.t 0))⟩, ⟨(some 62), none, (.call (.f 80) [(.t 61)])⟩, ⟨(some 60), none, (.mv (.t 62))⟩, ⟨(some 63), none, (.ext (.t 60) 0)⟩, ⟨(some 64), none, (.ext (.t 60) 1)⟩, ⟨(some 65), none, (.ext (.t 60) 2)⟩, ⟨(some 10), none, (.mv (.t 63))⟩, ⟨(some 11), none, (.mv (.t 64))⟩, ⟨(some 12), none, (.mv (.t 65))⟩]) (.seq (.seq (.reg none [⟨(some 66), none, (.mv (.t 12))⟩, ⟨(some 67), none, (.un .not (.t 66))⟩, ⟨(some 68), none, (.mv (.t 67))⟩, ⟨(some 69), (some ((some 68), false)), (.fa 0 1 false (.t 4))⟩, ⟨(some 70), (some ((some 68), false)), (.ld none (.t 69))⟩, ⟨(some 71), (some ((some 68), false)), (.bin .eql [] (.t 70) (.k (.int .i64 2)))⟩, ⟨(some 72), none, (.pick (.t 68) (.k (.bool true)) (.t 71))⟩]) (.cond (.t 72) (.seq (.reg none [⟨(some 73), none, (.mv (.t 10))⟩, ⟨(some 74), none, (.fa 6 1 false (.t 4))⟩, ⟨none, none, (.st 1 (.t 74) (.t 73))⟩]) (.seq (.reg none [⟨(some 75), none, (.ld (some 7) (.t 4))⟩, ⟨(some 76), none, (.mv (.t 12))⟩, ⟨none, none, (.st 7 (.t 2) (.t 75))⟩, ⟨(some 3), none, (.mv (.t 76))⟩]) .ret)) .skip)) (.seq (.reg none [⟨(some 77), none, (.mv (.t 10))⟩, ⟨(some 78), none, (.fa 6 1 false (.t 4))⟩, ⟨none, none, (.st 1 (.t 78) (.t 77))⟩]) (.seq (.reg none [⟨(some 80), none, (.mv (.t 11))⟩, ⟨(some 81), none, (.call (.f 80) [(.t 80)])⟩, ⟨(some 79), none, (.mv (.t 81))⟩, ⟨(some 82), none, (.ext (.t 79) 0)⟩, ⟨(some 83), none, (.ext (.t 79) 1)⟩, ⟨(some 84), none, (.ext (.t 79) 2)⟩, ⟨(some 13), none, (.mv (.t 82))⟩, ⟨(some 14), none, (.mv (.t 83))⟩, ⟨(some 15), none, (.mv (.t 84))⟩]) (.seq (.seq (.reg none [⟨(some 16), none, (.mv (.k (.int .i64 0)))⟩]) (.block 0 (.loop b45_0))) (.seq (.reg none [⟨(some 111), none, (.ld (some 7) (.t 4))⟩, ⟨(some 112), none, (.mv (.t 15))⟩, ⟨none, none, (.st 7 (.t 2) (.t 111))⟩, ⟨(some 3), none, (.mv (.t 112))⟩]) .ret))))))
def c45 : Fn' := ⟨113, [(.cell 2 (some 7)), (.tmp 3)], (.seq (.reg none [⟨(some 2), none, (.alloc true [(.int .i64 0), nilS, (.int .i64 0), (.int .i64 0), (.int .i64 0), nilS, (.int .i64 0)])⟩, ⟨(some 3), none, (.mv (.k (.bool false)))⟩]) (.seq (.reg none [⟨(some 20), none, (.mv (.t 0))⟩, ⟨(some 21), none, (.ia none 1 false (.t 20) (.k (.int .i64 0)))⟩, ⟨(some 22), none, (.ld none (.t 21))⟩, ⟨(some 23), none, (.cvt (.int .i64) (.t 22))⟩, ⟨(some 24), none, (.bld [(.int .i64 0), nilS, (.int .i64 0), (.int .i64 0), (.int .i64 0), nilS, (.int .i64 0)] [(0, (1, (.t 23)))])⟩, ⟨(some 4), none, (.alloc true [(.int .i64 0), nilS, (.int .i64 0), (.int .i64 0), (.int .i64 0), nilS, (.int .i64 0)])⟩, ⟨none, none, (.st 7 (.t 4) (.t 24))⟩]) (.seq (.reg none [⟨(some 25), none, (.mv (.t 0))⟩, ⟨(some 26), none, (.sub 1 1 (.t 25) (some (.k (.int .i64 1))) none none)⟩, ⟨(some 0), none, (.mv (.t 26))⟩]) (.seq (.seq (.reg none [⟨(some 27), none, (.fa 0 1 false (.t 4))⟩, ⟨(some 28), none, (.ld none (.t 27))⟩, ⟨(some 29), none, (.bin .eql [] (.t 28) (.k (.int .i64 1)))⟩]) (.cond (.t 29) (.seq (.reg none [⟨(some 31), none, (.mv (.t 0))⟩, ⟨(some 32), none, (.call (.f 80) [(.t 31)])⟩, ⟨(some 30), none, (.mv (.t 32))⟩, ⟨(some 33), none, (.ext (.t 30) 0)⟩, ⟨(some 34), none, (.ext (.t 30) 1)⟩, ⟨(some 35), none, (.ext (.t 30) 2)⟩, ⟨(some 5), none, (.mv (.t 33))⟩, ⟨(some 6), none, (.mv (.t 34))⟩, ⟨(some 7), none, (.mv (.t 35))⟩]) (.seq (.seq (.reg none [⟨(some 36), none, (.mv (.t 7))⟩, ⟨(some 37), none, (.un .not (.t 36))⟩, ⟨(some 38), none, (.mv (.t 37))⟩, ⟨(some 39), (some ((some 38), false)), (.mv (.t 5))⟩, ⟨(some 40), (some ((some 38), false)), (.mv (.t 6))⟩, ⟨(some 41), (some ((some 38), false)), (.len 1 (.t 40))⟩, ⟨(some 42), (some ((some 38), false)), (.bin .gtr [] (.t 39) (.t 41))⟩, ⟨(some 43), none, (.pick (.t 38) (.k (.bool true)) (.t 42))⟩]) (.cond (.t 43) (.seq (.reg none [⟨(some 44), none, (.ld (some 7) (.t 4))⟩, ⟨none, none, (.st 7 (.t 2) (.t 44))⟩, ⟨(some 3), none, (.mv (.k (.bool false)))⟩]) .ret) .skip)) (.seq (.reg none [⟨(some 46), none, (.mv (.t 6))⟩, ⟨(some 47), none, (.mv (.t 5))⟩, ⟨(some 48), none, (.sub 1 1 (.t 46) none (some (.t 47)) none)⟩, ⟨(some 49), none, (.call (.f 81) [(.t 48)])⟩, ⟨(some 45), none, (.mv (.t 49))⟩, ⟨(some 50), none, (.ext (.t 45) 0)⟩, ⟨(some 51), none, (.ext (.t 45) 1)⟩, ⟨(some 8), none, (.alloc true [nilS, (.int .i64 0), (.int .i64 0), (.int .i64 0)])⟩, ⟨none, none, (.st 4 (.t 8) (.t 50))⟩, ⟨(some 9), none, (.mv (.t 51))⟩]) (.seq (.seq (.reg none [⟨(some 52), none, (.mv (.t 9))⟩, ⟨(some 53), none, (.bin .neq [] (.t 52) (.k (.int .i64 0)))⟩]) (.cond (.t 53) (.seq (.reg none [⟨(some 54), none, (.ld (some 7) (.t 4))⟩, ⟨none, none, (.st 7 (.t 2) (.t 54))⟩, ⟨(some 3), none, (.mv (.k (.bool false)))⟩]) .ret) .skip)) (.seq (.reg none [⟨(some 55), none, (.ld (some 4) (.t 8))⟩, ⟨(some 56), none, (.fa 1 4 true (.t 4))⟩, ⟨none, none, (.st 4 (.t 56) (.t 55))⟩]) (.reg none [⟨(some 57), none, (.mv (.t 6))⟩, ⟨(some 58), none, (.mv (.t 5))⟩, ⟨(some 59), none, (.sub 1 1 (.t 57) (some (.t 58)) none none)⟩, ⟨(some 0), none, (.mv (.t 59))⟩])))))) .skip)) r45))))⟩
theorem k45 : compF Try.prog 45 = some c45 := by kernel_rfl
attribute [local simp] op_or op_an op_add op_sub op_mul oq_eql oq_neq oq_lss oq_gtr oq_leq oq_geq
attribute [-simp] intOp bin_shl
/-- What is behind a number. -/
def rst (c : Bool) (q : Int × List Int × Bool) : D := if q.2.2 = true then nilS else .slc c 1 (q.2.1.map (.int .u8))
set_option maxHeartbeats 4000000 in
/-- thresherref16.number. -/
theorem K80 (c : Bool) (l : List Int) (hl : l.length ≤ 2 ^ 45) (hB : isB l) : K0 80 [.slc c 1 (l.map (.int .u8))] [] = some (.tuple [.int .i64 (numR l false).1, rst c (numR l false), .bool (!(numR l false).2.2)], []) := by
  refine K_call k80 (oraG_none (by decide) (by decide)) (by simp [c80]) ?_
  have hr := varI_range l
  have hK := K79 c l (by omega) hB
  unfold numR
  obtain ⟨x, hx⟩ : ∃ x : Nat, (varI l).1 = x := ⟨(varI l).1.toNat, by omega⟩
  obtain ⟨n, hn⟩ : ∃ n : Nat, (varI l).2 = n := ⟨(varI l).2.toNat, by omega⟩
  rw [hx, hn] at hK hr ⊢
  by_cases h1 : (n : Int) = 0
  · have z1 := eqI_t h1
    rw [if_pos h1]
    simp [c80, hK, z1, rst]
  · have z1 := eqI_f h1
    rw [if_neg h1]
    by_cases h2 : 999999 < (x : Int)
    · have z2 := ltI_t h2
      rw [if_pos h2]
      simp [c80, hK, z1, z2, rst]
    · have z2 := ltI_f h2
      rw [if_neg h2]
      have hw : IntKind.i64.wrap (x : Int) = x := w64 _ (by omega)
      have hnl : n ≤ l.length := by omega
      have e : (Int.toNat (n : Int)) = n := by omega
      rw [e]
      obtain ⟨r, hr2⟩ : ∃ r, l.drop n = r := ⟨_, rfl⟩
      have m1 : List.drop n (l.map (D.int .u8)) = r.map (D.int .u8) := by rw [← hr2]; simp [List.map_drop]
      rw [hr2]
      simp [c80, hK, z1, z2, hw, hnl, m1, rst, evOp, evM, wants, Ins.go, X.ev, iaM, ldM, binD, setD, applyW, Ek_ops_nil, allFree, free, callM, callP]
/-- What there is while a record is read. -/
def H45 (e : Bool) (kd : Int) (x : D) (k m g id : Int) (acc : List Int) : List Obj :=
  if e = true then (if acc = [] then [.row 0 [] 0, .row 0 [] 0, .box [.int .i64 0, .sl 0 0 0 0, .int .i64 0, .int .i64 0, .int .i64 0, .sl 1 0 0 0, .int .i64 0], .row 0 [] 0, .row 0 [] 0, .box [.int .i64 kd, x, .int .i64 k, .int .i64 m, .int .i64 g, nilS, .int .i64 id], .row 0 [] 0, .box [x, .int .i64 k, .int .i64 m, .int .i64 g]]
    else [.row 0 [] 0, .row 0 [] 0, .box [.int .i64 0, .sl 0 0 0 0, .int .i64 0, .int .i64 0, .int .i64 0, .sl 1 0 0 0, .int .i64 0], .row 0 [] 0, .row 0 [] 0, .box [.int .i64 kd, x, .int .i64 k, .int .i64 m, .int .i64 g, .sl 8 0 acc.length acc.length, .int .i64 id], .row 0 [] 0, .box [x, .int .i64 k, .int .i64 m, .int .i64 g], .row 1 (acc.map (.int .i64)) 0])
  else (if acc = [] then [.row 0 [] 0, .row 0 [] 0, .box [.int .i64 0, .sl 0 0 0 0, .int .i64 0, .int .i64 0, .int .i64 0, .sl 1 0 0 0, .int .i64 0], .row 0 [] 0, .row 0 [] 0, .box [.int .i64 kd, x, .int .i64 k, .int .i64 m, .int .i64 g, nilS, .int .i64 id]]
    else [.row 0 [] 0, .row 0 [] 0, .box [.int .i64 0, .sl 0 0 0 0, .int .i64 0, .int .i64 0, .int .i64 0, .sl 1 0 0 0, .int .i64 0], .row 0 [] 0, .row 0 [] 0, .box [.int .i64 kd, x, .int .i64 k, .int .i64 m, .int .i64 g, .sl 6 0 acc.length acc.length, .int .i64 id], .row 1 (acc.map (.int .i64)) 0])
def s45 (e : Bool) (c : Bool) (kd : Int) (l : List Int) (v : D) (n1 : Int) (r0 : List Int) (S u : D) : List D :=
  if e = true then [v, .undef, .ptr 2 0 0 0, .bool false, .ptr 5 0 0 0, .int .i64 n1, .slc c 1 (r0.map (.int .u8)), .bool true, .ptr 7 0 0 0, .int .i64 0, .undef, .undef, .undef, .undef, .undef, .undef, .undef, .undef, .undef, .undef, .slc c 1 ((kd :: l).map (.int .u8)), .fptr (.int .u8 kd), .int .u8 kd, .int .i64 kd, .agg [.int .i64 kd, nilS, .int .i64 0, .int .i64 0, .int .i64 0, nilS, .int .i64 0], .slc c 1 ((kd :: l).map (.int .u8)), .slc c 1 (l.map (.int .u8)), .ptr 5 0 0 0, .int .i64 kd, .bool true, .tuple [.int .i64 n1, .slc c 1 (r0.map (.int .u8)), .bool true], .slc c 1 (l.map (.int .u8)), .tuple [.int .i64 n1, .slc c 1 (r0.map (.int .u8)), .bool true], .int .i64 n1, .slc c 1 (r0.map (.int .u8)), .bool true, .bool true, .bool false, .bool false, .int .i64 n1, .slc c 1 (r0.map (.int .u8)), .int .i64 r0.length, .bool false, .bool false, .undef, .tuple [S, .int .i64 0], .slc c 1 (r0.map (.int .u8)), .int .i64 n1, u, .tuple [S, .int .i64 0], S, .int .i64 0, .int .i64 0, .bool false, .undef, S, .ptr 5 0 1 0, .slc c 1 (r0.map (.int .u8)), .int .i64 n1, v, .undef, .undef, .undef, .undef, .undef, .undef, .undef, .undef, .undef, .undef, .undef, .undef, .undef, .undef, .undef, .undef, .undef, .undef, .undef, .undef, .undef, .undef, .undef, .undef, .undef, .undef, .undef, .undef, .undef, .undef, .undef, .undef, .undef, .undef, .undef, .undef, .undef, .undef, .undef, .undef, .undef, .undef, .undef, .undef, .undef, .undef, .undef, .undef, .undef, .undef, .undef, .undef, .undef]
  else [v, .undef, .ptr 2 0 0 0, .bool false, .ptr 5 0 0 0, .undef, .undef, .undef, .undef, .undef, .undef, .undef, .undef, .undef, .undef, .undef, .undef, .undef, .undef, .undef, .slc c 1 ((kd :: l).map (.int .u8)), .fptr (.int .u8 kd), .int .u8 kd, .int .i64 kd, .agg [.int .i64 kd, nilS, .int .i64 0, .int .i64 0, .int .i64 0, nilS, .int .i64 0], .slc c 1 ((kd :: l).map (.int .u8)), .slc c 1 (l.map (.int .u8)), .ptr 5 0 0 0, .int .i64 kd, .bool false, .undef, .undef, .undef, .undef, .undef, .undef, .undef, .undef, .undef, .undef, .undef, .undef, .undef, .undef, .undef, .undef, .undef, .undef, .undef, .undef, .undef, .undef, .undef, .undef, .undef, .undef, .undef, .undef, .undef, .undef, .undef, .undef, .undef, .undef, .undef, .undef, .undef, .undef, .undef, .undef, .undef, .undef, .undef, .undef, .undef, .undef, .undef, .undef, .undef, .undef, .undef, .undef, .undef, .undef, .undef, .undef, .undef, .undef, .undef, .undef, .undef, .undef, .undef, .undef, .undef, .undef, .undef, .undef, .undef, .undef, .undef, .undef, .undef, .undef, .undef, .undef, .undef, .undef, .undef, .undef, .undef, .undef, .undef]
def t45 (e : Bool) (c : Bool) (kd : Int) (l : List Int) (v : D) (n1 : Int) (r0 : List Int) (S u : D) (id : Int) (r1 r2 : List Int) (n : Int) (y : D) (is : Bool) (i : Nat) : List D :=
  if e = true then [v, .undef, .ptr 2 0 0 0, .bool false, .ptr 5 0 0 0, .int .i64 n1, .slc c 1 (r0.map (.int .u8)), .bool true, .ptr 7 0 0 0, .int .i64 0, .int .i64 id, .slc c 1 (r1.map (.int .u8)), .bool true, .int .i64 n, y, .bool is, .int .i64 i, .undef, .undef, .undef, .slc c 1 ((kd :: l).map (.int .u8)), .fptr (.int .u8 kd), .int .u8 kd, .int .i64 kd, .agg [.int .i64 kd, nilS, .int .i64 0, .int .i64 0, .int .i64 0, nilS, .int .i64 0], .slc c 1 ((kd :: l).map (.int .u8)), .slc c 1 (l.map (.int .u8)), .ptr 5 0 0 0, .int .i64 kd, .bool true, .tuple [.int .i64 n1, .slc c 1 (r0.map (.int .u8)), .bool true], .slc c 1 (l.map (.int .u8)), .tuple [.int .i64 n1, .slc c 1 (r0.map (.int .u8)), .bool true], .int .i64 n1, .slc c 1 (r0.map (.int .u8)), .bool true, .bool true, .bool false, .bool false, .int .i64 n1, .slc c 1 (r0.map (.int .u8)), .int .i64 r0.length, .bool false, .bool false, .undef, .tuple [S, .int .i64 0], .slc c 1 (r0.map (.int .u8)), .int .i64 n1, u, .tuple [S, .int .i64 0], S, .int .i64 0, .int .i64 0, .bool false, .undef, S, .ptr 5 0 1 0, .slc c 1 (r0.map (.int .u8)), .int .i64 n1, v, .tuple [.int .i64 id, .slc c 1 (r1.map (.int .u8)), .bool true], v, .tuple [.int .i64 id, .slc c 1 (r1.map (.int .u8)), .bool true], .int .i64 id, .slc c 1 (r1.map (.int .u8)), .bool true, .bool true, .bool false, .bool false, .ptr 5 0 0 0, .int .i64 kd, .bool false, .bool false, .undef, .undef, .undef, .undef, .int .i64 id, .ptr 5 0 6 0, .tuple [.int .i64 n, .slc c 1 (r2.map (.int .u8)), .bool true], .slc c 1 (r1.map (.int .u8)), .tuple [.int .i64 n, .slc c 1 (r2.map (.int .u8)), .bool true], .int .i64 n, .slc c 1 (r2.map (.int .u8)), .bool true, .undef, .undef, .undef, .undef, .undef, .undef, .undef, .undef, .undef, .undef, .undef, .undef, .undef, .undef, .undef, .undef, .undef, .undef, .undef, .undef, .undef, .undef, .undef, .undef, .undef, .undef, .undef, .undef]
  else [v, .undef, .ptr 2 0 0 0, .bool false, .ptr 5 0 0 0, .undef, .undef, .undef, .undef, .undef, .int .i64 id, .slc c 1 (r1.map (.int .u8)), .bool true, .int .i64 n, y, .bool is, .int .i64 i, .undef, .undef, .undef, .slc c 1 ((kd :: l).map (.int .u8)), .fptr (.int .u8 kd), .int .u8 kd, .int .i64 kd, .agg [.int .i64 kd, nilS, .int .i64 0, .int .i64 0, .int .i64 0, nilS, .int .i64 0], .slc c 1 ((kd :: l).map (.int .u8)), .slc c 1 (l.map (.int .u8)), .ptr 5 0 0 0, .int .i64 kd, .bool false, .undef, .undef, .undef, .undef, .undef, .undef, .undef, .undef, .undef, .undef, .undef, .undef, .undef, .undef, .undef, .undef, .undef, .undef, .undef, .undef, .undef, .undef, .undef, .undef, .undef, .undef, .undef, .undef, .undef, .undef, .tuple [.int .i64 id, .slc c 1 (r1.map (.int .u8)), .bool true], v, .tuple [.int .i64 id, .slc c 1 (r1.map (.int .u8)), .bool true], .int .i64 id, .slc c 1 (r1.map (.int .u8)), .bool true, .bool true, .bool false, .bool false, .ptr 5 0 0 0, .int .i64 kd, .bool false, .bool false, .undef, .undef, .undef, .undef, .int .i64 id, .ptr 5 0 6 0, .tuple [.int .i64 n, .slc c 1 (r2.map (.int .u8)), .bool true], .slc c 1 (r1.map (.int .u8)), .tuple [.int .i64 n, .slc c 1 (r2.map (.int .u8)), .bool true], .int .i64 n, .slc c 1 (r2.map (.int .u8)), .bool true, .undef, .undef, .undef, .undef, .undef, .undef, .undef, .undef, .undef, .undef, .undef, .undef, .undef, .undef, .undef, .undef, .undef, .undef, .undef, .undef, .undef, .undef, .undef, .undef, .undef, .undef, .undef, .undef]
set_option maxHeartbeats 8000000 in
theorem L45 (e : Bool) (c : Bool) (kd : Int) (l0 lv lu : List Int) (cv cu : Bool) (n1 : Int) (r0 : List Int) (id : Int) (r1 r2 : List Int) (n : Int) (hn : 0 ≤ n ∧ n ≤ 999999) (cs : Bool) (ss : Nat) (ts : List Int) (k m g : Int) :
    ∀ (j i : Nat) (l acc : List Int) (is : Bool) (y : D), ((i + j : Nat) : Int) = n → acc.length ≤ i → l.length ≤ 2 ^ 38 → isB l → (is = true → y = .slc c 1 (l.map (.int .u8))) →
    ∃ y' i', LpB cf0 K0 b45_0 (t45 e c kd l0 (.slc cv 1 (lv.map (.int .u8))) n1 r0 (.agg [.slc cs ss (ts.map (.int .i64)), .int .i64 k, .int .i64 m, .int .i64 g]) (.slc cu 1 (lu.map (.int .u8))) id r1 r2 n (.slc c 1 (r2.map (.int .u8))) true 0) (if e = true then 8 else 6) ⟨t45 e c kd l0 (.slc cv 1 (lv.map (.int .u8))) n1 r0 (.agg [.slc cs ss (ts.map (.int .i64)), .int .i64 k, .int .i64 m, .int .i64 g]) (.slc cu 1 (lu.map (.int .u8))) id r1 r2 n y is i, H45 e kd (.slc cs ss (ts.map (.int .i64))) k m g id acc⟩ =
      some (.exit 0, ⟨t45 e c kd l0 (.slc cv 1 (lv.map (.int .u8))) n1 r0 (.agg [.slc cs ss (ts.map (.int .i64)), .int .i64 k, .int .i64 m, .int .i64 g]) (.slc cu 1 (lu.map (.int .u8))) id r1 r2 n y' (idsR n j l is).2 i', H45 e kd (.slc cs ss (ts.map (.int .i64))) k m g id (acc ++ (idsR n j l is).1)⟩)
  | 0, i, l, acc, is, y, hij, ha, hl, hB, hy => by
    have z1 : ltI (i : Int) n = false := ltI_f (by omega)
    refine ⟨y, i, ?_⟩
    rw [LpB_eq]
    by_cases hacc : acc = []
    · subst hacc
      cases e <;> simp [b45_0, t45, H45, z1, idsR]
    · cases e <;> simp [b45_0, t45, H45, z1, idsR, hacc]
  | j + 1, i, l, acc, false, y, hij, ha, hl, hB, hy => by
    have z1 : ltI (i : Int) n = true := ltI_t (by omega)
    refine ⟨y, i, ?_⟩
    rw [LpB_eq]
    by_cases hacc : acc = []
    · subst hacc
      cases e <;> simp [b45_0, t45, H45, z1, idsR]
    · cases e <;> simp [b45_0, t45, H45, z1, idsR, hacc]
  | j + 1, i, l, acc, true, y, hij, ha, hl, hB, hy => by
    obtain rfl := hy rfl
    have z1 : ltI (i : Int) n = true := ltI_t (by omega)
    have hw := w64 (i + 1) (by omega)
    have hK := K80 c l (by omega) hB
    have hqB := numR_B (bad := false) hB
    have hql := numR_le l false
    have hb1 : (acc.length + 1) * 8 ≤ 70368744177664 := by omega
    have ih := fun is y hy => L45 e c kd l0 lv lu cv cu n1 r0 id r1 r2 n hn cs ss ts k m g j (i + 1) (numR l false).2.1 (acc ++ [(numR l false).1]) is y (by rw [← hij]; congr 1; omega) (by simp; omega) (by omega) hqB hy
    simp only [idsR, reduceIte]
    generalize numR l false = q at *
    obtain ⟨x, r', b'⟩ := q
    simp only [rst] at hK hqB hql ih ⊢
    cases b' with
    | true =>
      simp only [reduceIte, Bool.not_true, Bool.false_and] at hK ⊢
      obtain ⟨y', i', ih⟩ := ih false nilS (fun h => by cases h)
      refine ⟨y', i', ?_⟩
      rw [LpB_eq]
      rw [show acc ++ x :: (idsR n j r' false).1 = acc ++ [x] ++ (idsR n j r' false).1 by simp]
      by_cases hacc : acc = []
      · subst hacc
        simp only [H45] at ih ⊢
        cases e
        · simp only [t45, Bool.false_eq_true, reduceIte] at ih ⊢
          conv => lhs; arg 6; simp [b45_0, z1, hK, hw]
          simp at ih ⊢
          exact ih
        · simp only [t45, reduceIte] at ih ⊢
          conv => lhs; arg 6; simp [b45_0, z1, hK, hw]
          simp at ih ⊢
          exact ih
      · simp only [H45] at ih ⊢
        cases e
        · simp only [t45, hacc, Bool.false_eq_true, reduceIte] at ih ⊢
          conv => lhs; arg 6; simp [b45_0, z1, hK, hw, hacc, hb1]
          simp [hacc] at ih ⊢
          exact ih
        · simp only [t45, hacc, reduceIte] at ih ⊢
          conv => lhs; arg 6; simp [b45_0, z1, hK, hw, hacc, hb1]
          simp [hacc] at ih ⊢
          exact ih
    | false =>
      simp only [Bool.false_eq_true, reduceIte, Bool.not_false, Bool.true_and] at hK ⊢
      obtain ⟨z40, hz40⟩ : ∃ z, leI n 40 = z := ⟨_, rfl⟩
      have hd : decide (n ≤ 40) = z40 := hz40
      rw [hd]
      obtain ⟨y', i', ih⟩ := ih z40 (.slc c 1 (r'.map (.int .u8))) (fun _ => rfl)
      refine ⟨y', i', ?_⟩
      rw [LpB_eq]
      rw [show acc ++ x :: (idsR n j r' z40).1 = acc ++ [x] ++ (idsR n j r' z40).1 by simp]
      by_cases hacc : acc = []
      · subst hacc
        simp only [H45] at ih ⊢
        cases e
        · simp only [t45, Bool.false_eq_true, reduceIte] at ih ⊢
          conv => lhs; arg 6; simp [b45_0, z1, hK, hw, hz40]
          simp at ih ⊢
          exact ih
        · simp only [t45, reduceIte] at ih ⊢
          conv => lhs; arg 6; simp [b45_0, z1, hK, hw, hz40]
          simp at ih ⊢
          exact ih
      · simp only [H45] at ih ⊢
        cases e
        · simp only [t45, hacc, Bool.false_eq_true, reduceIte] at ih ⊢
          conv => lhs; arg 6; simp [b45_0, z1, hK, hw, hz40, hacc, hb1]
          simp [hacc] at ih ⊢
          exact ih
        · simp only [t45, hacc, reduceIte] at ih ⊢
          conv => lhs; arg 6; simp [b45_0, z1, hK, hw, hz40, hacc, hb1]
          simp [hacc] at ih ⊢
          exact ih
end Go.Ab
