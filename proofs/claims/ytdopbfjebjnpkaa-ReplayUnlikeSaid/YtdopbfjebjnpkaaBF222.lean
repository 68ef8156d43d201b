/- THE FUNCTIONS' EQUATIONS: thresherlaw17.ReplayUnlike. (printed by mk222.py) -/
import Derived.Test.YtdopbfjebjnpkaaBPLog2
set_option linter.all false
set_option maxRecDepth 100000
namespace Go.Ab
open Go.Proofs Go.Proofs.YtdopbfjebjnpkaaH Go.Proofs.YtdopbfjebjnpkaaH.Crc Go.Proofs.YtdopbfjebjnpkaaH.Var Go.Proofs.YtdopbfjebjnpkaaH.Fr Go.Proofs.YtdopbfjebjnpkaaH.Rec
def b222_0 : C := (.seq (.seq (.reg none [⟨(some 79), none, (.mv (.t 15))⟩, ⟨(some 80), none, (.mv (.t 14))⟩, ⟨(some 81), none, (.bin .lss [] (.t 79) (.t 80))⟩]) (.cond (.t 81) .skip (.exit 2))) (.seq (.block 3 (.seq (.reg (some [(1, 6), (3, 6), (4, 6), (1, 8), (3, 8), (4, 8), (1, 9), (3, 9), (4, 9)]) [⟨(some 84), none, (.fa 4 1 false (.t 11))⟩, ⟨(some 85), none, (.ld none (.t 84))⟩, ⟨(some 86), none, (.mv (.t 14))⟩, ⟨(some 87), none, (.ia none 1 false (.t 85) (.t 86))⟩, ⟨(some 88), none, (.ld none (.t 87))⟩, ⟨(some 89), none, (.fa 4 1 false (.t 11))⟩, ⟨(some 90), none, (.ld none (.t 89))⟩, ⟨(some 91), none, (.mv (.t 15))⟩, ⟨(some 92), none, (.ia none 1 false (.t 90) (.t 91))⟩, ⟨(some 93), none, (.ld none (.t 92))⟩, ⟨(some 94), none, (.bin .eql [] (.t 88) (.t 93))⟩]) (.cond (.t 94) (.seq (.reg none [⟨(some 6), none, (.mv (.k (.bool false)))⟩]) .ret) .skip))) (.reg none [⟨(some 82), none, (.mv (.t 15))⟩, ⟨(some 83), none, (.bin .add [] (.t 82) (.k (.int .i64 1)))⟩, ⟨(some 15), none, (.mv (.t 83))⟩])))
def b222_1 : C := (.seq (.seq (.reg none [⟨(some 56), none, (.mv (.t 14))⟩, ⟨(some 57), none, (.fa 4 1 false (.t 11))⟩, ⟨(some 58), none, (.ld none (.t 57))⟩, ⟨(some 59), none, (.len 1 (.t 58))⟩, ⟨(some 60), none, (.bin .lss [] (.t 56) (.t 59))⟩]) (.cond (.t 60) .skip (.exit 0))) (.seq (.block 1 (.seq (.seq (.reg (some [(8, 13), (10, 13), (11, 13)]) [⟨(some 63), none, (.fa 4 1 false (.t 11))⟩, ⟨(some 64), none, (.ld none (.t 63))⟩, ⟨(some 65), none, (.mv (.t 14))⟩, ⟨(some 66), none, (.ia none 1 false (.t 64) (.t 65))⟩, ⟨(some 67), none, (.ld none (.t 66))⟩, ⟨(some 68), none, (.bin .lss [] (.t 67) (.k (.int .i64 0)))⟩, ⟨(some 69), none, (.mv (.t 68))⟩, ⟨(some 70), (some ((some 69), false)), (.fa 4 1 false (.t 11))⟩, ⟨(some 71), (some ((some 69), false)), (.ld none (.t 70))⟩, ⟨(some 72), (some ((some 69), false)), (.mv (.t 14))⟩, ⟨(some 73), (some ((some 69), false)), (.ia none 1 false (.t 71) (.t 72))⟩, ⟨(some 74), (some ((some 69), false)), (.ld none (.t 73))⟩, ⟨(some 75), (some ((some 69), false)), (.fa 5 1 false (.t 11))⟩, ⟨(some 76), (some ((some 69), false)), (.ld none (.t 75))⟩, ⟨(some 77), (some ((some 69), false)), (.bin .geq [] (.t 74) (.t 76))⟩, ⟨(some 78), none, (.pick (.t 69) (.k (.bool true)) (.t 77))⟩]) (.cond (.t 78) (.seq (.reg none [⟨(some 6), none, (.mv (.k (.bool false)))⟩]) .ret) .skip)) (.seq (.reg none [⟨(some 15), none, (.mv (.k (.int .i64 0)))⟩]) (.block 2 (.loop b222_0))))) (.reg none [⟨(some 61), none, (.mv (.t 14))⟩, ⟨(some 62), none, (.bin .add [] (.t 61) (.k (.int .i64 1)))⟩, ⟨(some 14), none, (.mv (.t 62))⟩])))
def r222 : C := (.seq (.reg none [⟨(some 23), none, (.ld (some 12) (.t 3))⟩, ⟨(some 24), none, (.call (.f 10) [(.t 23)])⟩, ⟨(some 25), none, (.mv (.t 1))⟩, ⟨(some 26), none, (.call (.f 9) [(.t 24), (.t 25)])⟩, ⟨(some 27), none, (.call (.f 11) [(.t 26)])⟩, ⟨(some 28), none, (.call (.f 12) [(.t 27)])⟩, ⟨(some 22), none, (.mv (.t 28))⟩, ⟨(some 29), none, (.ext (.t 22) 0)⟩, ⟨(some 30), none, (.ext (.t 22) 1)⟩, ⟨(some 31), none, (.ext (.t 22) 2)⟩, ⟨(some 8), none, (.alloc false [nilS, (.int .i64 0), (.int .i64 0), (.int .i64 0), nilS, (.int .i64 0)])⟩, ⟨none, none, (.st 6 (.t 8) (.t 29))⟩, ⟨(some 9), none, (.mv (.t 30))⟩, ⟨(some 10), none, (.mv (.t 31))⟩]) (.seq (.seq (.reg none [⟨(some 32), none, (.mv (.t 10))⟩, ⟨(some 33), none, (.un .not (.t 32))⟩]) (.cond (.t 33) (.seq (.reg none [⟨(some 6), none, (.mv (.k (.bool false)))⟩]) .ret) .skip)) (.seq (.reg (some [(0, 1), (0, 2), (0, 7), (1, 7), (2, 7), (3, 7)]) [⟨(some 35), none, (.ld (some 6) (.t 8))⟩, ⟨(some 36), none, (.ld (some 7) (.t 5))⟩, ⟨(some 37), none, (.call (.f 16) [(.t 36)])⟩, ⟨(some 38), none, (.call (.f 14) [(.t 35), (.t 37)])⟩, ⟨(some 34), none, (.mv (.t 38))⟩, ⟨(some 39), none, (.ext (.t 34) 0)⟩, ⟨(some 40), none, (.ext (.t 34) 1)⟩, ⟨(some 11), none, (.alloc false [nilS, (.int .i64 0), (.int .i64 0), (.int .i64 0), nilS, (.int .i64 0)])⟩, ⟨none, none, (.st 6 (.t 11) (.t 39))⟩, ⟨(some 12), none, (.mv (.t 40))⟩]) (.seq (.reg none [⟨(some 41), none, (.ld (some 6) (.t 8))⟩, ⟨(some 42), none, (.ld (some 6) (.t 11))⟩, ⟨(some 43), none, (.call (.f 15) [(.t 41), (.t 42)])⟩, ⟨(some 13), none, (.mv (.t 43))⟩]) (.seq (.seq (.reg none [⟨(some 44), none, (.mv (.t 12))⟩, ⟨(some 45), none, (.un .not (.t 44))⟩, ⟨(some 46), none, (.mv (.t 45))⟩, ⟨(some 47), (some ((some 46), true)), (.mv (.t 13))⟩, ⟨(some 48), (some ((some 46), true)), (.un .not (.t 47))⟩, ⟨(some 49), none, (.pick (.t 46) (.t 48) (.k (.bool false)))⟩, ⟨(some 50), none, (.mv (.t 49))⟩, ⟨(some 51), (some ((some 50), false)), (.fa 4 1 false (.t 11))⟩, ⟨(some 52), (some ((some 50), false)), (.ld none (.t 51))⟩, ⟨(some 53), (some ((some 50), false)), (.len 1 (.t 52))⟩, ⟨(some 54), (some ((some 50), false)), (.bin .gtr [] (.t 53) (.k (.int .i64 40)))⟩, ⟨(some 55), none, (.pick (.t 50) (.k (.bool true)) (.t 54))⟩]) (.cond (.t 55) (.seq (.reg none [⟨(some 6), none, (.mv (.k (.bool false)))⟩]) .ret) .skip)) (.seq (.seq (.reg none [⟨(some 14), none, (.mv (.k (.int .i64 0)))⟩]) (.block 0 (.loop b222_1))) (.seq (.reg none [⟨(some 95), none, (.mv (.t 7))⟩, ⟨(some 6), none, (.mv (.t 95))⟩]) .ret)))))))
def c222 : Fn' := ⟨96, [(.tmp 6)], (.seq (.reg none [⟨(some 3), none, (.box false (.t 0))⟩, ⟨(some 5), none, (.box false (.t 2))⟩, ⟨(some 6), none, (.mv (.k (.bool false)))⟩]) (.seq (.reg none [⟨(some 16), none, (.call (.f 8) [])⟩, ⟨(some 7), none, (.mv (.t 16))⟩]) (.seq (.seq (.reg none [⟨(some 17), none, (.mv (.t 1))⟩, ⟨(some 18), none, (.len 1 (.t 17))⟩, ⟨(some 19), none, (.bin .gtr [] (.t 18) (.k (.int .i64 30)))⟩]) (.cond (.t 19) (.reg none [⟨(some 20), none, (.mv (.t 1))⟩, ⟨(some 21), none, (.sub 1 3 (.t 20) none (some (.k (.int .i64 30))) none)⟩, ⟨(some 1), none, (.mv (.t 21))⟩]) .skip)) r222)))⟩
theorem k222 : compF Try.prog 4 = some c222 := by kernel_rfl
attribute [local simp] op_or op_an op_add op_sub op_mul oq_eql oq_neq oq_lss oq_gtr oq_leq oq_geq
attribute [-simp] intOp bin_shl
attribute [local simp] reset_self
def t222a (a0 a1 a2 a3 a4 a5 a6 a7 n0 k0 m0 g0 : Int) (v17 v18 v19 v20 v21 v47 v48 : D) (c : Bool) (s : Nat) (l : List B3) (mts : List Int) (mk mm mg : Int) (acc : List RcE) (al : List Int) (n : Nat) (y t : StV) (c1 : Bool) (s1 : Nat) (c2 : Bool) (s2 : Nat) (d1 : Bool) (u1 : Nat) (d2 : Bool) (kd : Int) (rts : List Int) (rk rm rg : Int) (rids : List Int) (rid : Int) (fts fids : List Int) (f1 f2 okB same : Bool) (i : Nat) : List D := [.agg [.int .u8 a0, .int .u8 a1, .int .u8 a2, .int .u8 a3, .int .u8 a4, .int .u8 a5, .int .u8 a6, .int .u8 a7, .int .u8 n0, .int .u8 k0, .int .u8 m0, .int .u8 g0], .slc c s (List.map B3.d l), .agg [.int .i64 kd, .slc false 1 (rts.map (.int .i64)), .int .i64 rk, .int .i64 rm, .int .i64 rg, .slc false 1 (rids.map (.int .i64)), .int .i64 rid], .ptr 0 0 0 0, .undef, .ptr 1 0 0 0, .bool false, .bool true, .ptr 2 0 0 0, .int .i64 n, .bool true, .ptr 3 0 0 0, .bool okB, .bool same, .int .i64 i, .undef, .bool true, v17, v18, v19, v20, v21, .tuple [.agg [.slc c1 s1 (y.1.1.map (.int .i64)), .int .i64 y.1.2.1, .int .i64 y.1.2.2.1, .int .i64 y.1.2.2.2, .slc c2 s2 (y.2.1.map (.int .i64)), .int .i64 y.2.2], .int .i64 n, .bool true], .agg [.int .u8 a0, .int .u8 a1, .int .u8 a2, .int .u8 a3, .int .u8 a4, .int .u8 a5, .int .u8 a6, .int .u8 a7, .int .u8 n0, .int .u8 k0, .int .u8 m0, .int .u8 g0], .agg [.slc false 1 (mts.map (.int .i64)), .int .i64 mk, .int .i64 mm, .int .i64 mg], .slc c s (List.map B3.d l), .slc false 7 (List.map RcE.d acc), .slc false 1 (al.map (.int .u8)), .tuple [.agg [.slc c1 s1 (y.1.1.map (.int .i64)), .int .i64 y.1.2.1, .int .i64 y.1.2.2.1, .int .i64 y.1.2.2.2, .slc c2 s2 (y.2.1.map (.int .i64)), .int .i64 y.2.2], .int .i64 n, .bool true], .agg [.slc c1 s1 (y.1.1.map (.int .i64)), .int .i64 y.1.2.1, .int .i64 y.1.2.2.1, .int .i64 y.1.2.2.2, .slc c2 s2 (y.2.1.map (.int .i64)), .int .i64 y.2.2], .int .i64 n, .bool true, .bool true, .bool false, .tuple [.agg [.slc d1 u1 (t.1.1.map (.int .i64)), .int .i64 t.1.2.1, .int .i64 t.1.2.2.1, .int .i64 t.1.2.2.2, .slc d2 1 (t.2.1.map (.int .i64)), .int .i64 t.2.2], .bool okB], .agg [.slc c1 s1 (y.1.1.map (.int .i64)), .int .i64 y.1.2.1, .int .i64 y.1.2.2.1, .int .i64 y.1.2.2.2, .slc c2 s2 (y.2.1.map (.int .i64)), .int .i64 y.2.2], .agg [.int .i64 kd, .slc false 1 (rts.map (.int .i64)), .int .i64 rk, .int .i64 rm, .int .i64 rg, .slc false 1 (rids.map (.int .i64)), .int .i64 rid], .agg [.int .i64 kd, .slc f1 1 (fts.map (.int .i64)), .int .i64 rk, .int .i64 rm, .int .i64 rg, .slc f2 1 (fids.map (.int .i64)), .int .i64 rid], .tuple [.agg [.slc d1 u1 (t.1.1.map (.int .i64)), .int .i64 t.1.2.1, .int .i64 t.1.2.2.1, .int .i64 t.1.2.2.2, .slc d2 1 (t.2.1.map (.int .i64)), .int .i64 t.2.2], .bool okB], .agg [.slc d1 u1 (t.1.1.map (.int .i64)), .int .i64 t.1.2.1, .int .i64 t.1.2.2.1, .int .i64 t.1.2.2.2, .slc d2 1 (t.2.1.map (.int .i64)), .int .i64 t.2.2], .bool okB, .agg [.slc c1 s1 (y.1.1.map (.int .i64)), .int .i64 y.1.2.1, .int .i64 y.1.2.2.1, .int .i64 y.1.2.2.2, .slc c2 s2 (y.2.1.map (.int .i64)), .int .i64 y.2.2], .agg [.slc d1 u1 (t.1.1.map (.int .i64)), .int .i64 t.1.2.1, .int .i64 t.1.2.2.1, .int .i64 t.1.2.2.2, .slc d2 1 (t.2.1.map (.int .i64)), .int .i64 t.2.2], .bool same, .bool okB, .bool (!okB), .bool (!okB), v47, v48, .bool false, .bool false, .ptr 3 0 4 0, Sl d2 t.2.1, .int .i64 t.2.1.length, .bool false, .bool false, .undef, .undef, .undef, .undef, .undef, .undef, .undef, .undef, .undef, .undef, .undef, .undef, .undef, .undef, .undef, .undef, .undef, .undef, .undef, .undef, .undef, .undef, .undef, .undef, .undef, .undef, .undef, .undef, .undef, .undef, .undef, .undef, .undef, .undef, .undef, .undef, .undef, .undef, .undef, .undef]
def t222b (a0 a1 a2 a3 a4 a5 a6 a7 n0 k0 m0 g0 : Int) (v17 v18 v19 v20 v21 v47 v48 : D) (c : Bool) (s : Nat) (l : List B3) (mts : List Int) (mk mm mg : Int) (acc : List RcE) (al : List Int) (n : Nat) (y t : StV) (c1 : Bool) (s1 : Nat) (c2 : Bool) (s2 : Nat) (d1 : Bool) (u1 : Nat) (d2 : Bool) (kd : Int) (rts : List Int) (rk rm rg : Int) (rids : List Int) (rid : Int) (fts fids : List Int) (f1 f2 okB same : Bool) (x : Int) (i j : Nat) : List D := [.agg [.int .u8 a0, .int .u8 a1, .int .u8 a2, .int .u8 a3, .int .u8 a4, .int .u8 a5, .int .u8 a6, .int .u8 a7, .int .u8 n0, .int .u8 k0, .int .u8 m0, .int .u8 g0], .slc c s (List.map B3.d l), .agg [.int .i64 kd, .slc false 1 (rts.map (.int .i64)), .int .i64 rk, .int .i64 rm, .int .i64 rg, .slc false 1 (rids.map (.int .i64)), .int .i64 rid], .ptr 0 0 0 0, .undef, .ptr 1 0 0 0, .bool false, .bool true, .ptr 2 0 0 0, .int .i64 n, .bool true, .ptr 3 0 0 0, .bool okB, .bool same, .int .i64 i, .int .i64 j, .bool true, v17, v18, v19, v20, v21, .tuple [.agg [.slc c1 s1 (y.1.1.map (.int .i64)), .int .i64 y.1.2.1, .int .i64 y.1.2.2.1, .int .i64 y.1.2.2.2, .slc c2 s2 (y.2.1.map (.int .i64)), .int .i64 y.2.2], .int .i64 n, .bool true], .agg [.int .u8 a0, .int .u8 a1, .int .u8 a2, .int .u8 a3, .int .u8 a4, .int .u8 a5, .int .u8 a6, .int .u8 a7, .int .u8 n0, .int .u8 k0, .int .u8 m0, .int .u8 g0], .agg [.slc false 1 (mts.map (.int .i64)), .int .i64 mk, .int .i64 mm, .int .i64 mg], .slc c s (List.map B3.d l), .slc false 7 (List.map RcE.d acc), .slc false 1 (al.map (.int .u8)), .tuple [.agg [.slc c1 s1 (y.1.1.map (.int .i64)), .int .i64 y.1.2.1, .int .i64 y.1.2.2.1, .int .i64 y.1.2.2.2, .slc c2 s2 (y.2.1.map (.int .i64)), .int .i64 y.2.2], .int .i64 n, .bool true], .agg [.slc c1 s1 (y.1.1.map (.int .i64)), .int .i64 y.1.2.1, .int .i64 y.1.2.2.1, .int .i64 y.1.2.2.2, .slc c2 s2 (y.2.1.map (.int .i64)), .int .i64 y.2.2], .int .i64 n, .bool true, .bool true, .bool false, .tuple [.agg [.slc d1 u1 (t.1.1.map (.int .i64)), .int .i64 t.1.2.1, .int .i64 t.1.2.2.1, .int .i64 t.1.2.2.2, .slc d2 1 (t.2.1.map (.int .i64)), .int .i64 t.2.2], .bool okB], .agg [.slc c1 s1 (y.1.1.map (.int .i64)), .int .i64 y.1.2.1, .int .i64 y.1.2.2.1, .int .i64 y.1.2.2.2, .slc c2 s2 (y.2.1.map (.int .i64)), .int .i64 y.2.2], .agg [.int .i64 kd, .slc false 1 (rts.map (.int .i64)), .int .i64 rk, .int .i64 rm, .int .i64 rg, .slc false 1 (rids.map (.int .i64)), .int .i64 rid], .agg [.int .i64 kd, .slc f1 1 (fts.map (.int .i64)), .int .i64 rk, .int .i64 rm, .int .i64 rg, .slc f2 1 (fids.map (.int .i64)), .int .i64 rid], .tuple [.agg [.slc d1 u1 (t.1.1.map (.int .i64)), .int .i64 t.1.2.1, .int .i64 t.1.2.2.1, .int .i64 t.1.2.2.2, .slc d2 1 (t.2.1.map (.int .i64)), .int .i64 t.2.2], .bool okB], .agg [.slc d1 u1 (t.1.1.map (.int .i64)), .int .i64 t.1.2.1, .int .i64 t.1.2.2.1, .int .i64 t.1.2.2.2, .slc d2 1 (t.2.1.map (.int .i64)), .int .i64 t.2.2], .bool okB, .agg [.slc c1 s1 (y.1.1.map (.int .i64)), .int .i64 y.1.2.1, .int .i64 y.1.2.2.1, .int .i64 y.1.2.2.2, .slc c2 s2 (y.2.1.map (.int .i64)), .int .i64 y.2.2], .agg [.slc d1 u1 (t.1.1.map (.int .i64)), .int .i64 t.1.2.1, .int .i64 t.1.2.2.1, .int .i64 t.1.2.2.2, .slc d2 1 (t.2.1.map (.int .i64)), .int .i64 t.2.2], .bool same, .bool okB, .bool (!okB), .bool (!okB), v47, v48, .bool false, .bool false, .ptr 3 0 4 0, Sl d2 t.2.1, .int .i64 t.2.1.length, .bool false, .bool false, .int .i64 i, .ptr 3 0 4 0, Sl d2 t.2.1, .int .i64 t.2.1.length, .bool true, .undef, .undef, .ptr 3 0 4 0, Sl d2 t.2.1, .int .i64 i, (D.int .i64 x).fptr, .int .i64 x, .bool false, .bool false, .ptr 3 0 4 0, Sl d2 t.2.1, .int .i64 i, (D.int .i64 x).fptr, .int .i64 x, .ptr 3 0 5 0, .int .i64 t.2.2, .bool false, .bool false, .undef, .undef, .undef, .undef, .undef, .undef, .undef, .undef, .undef, .undef, .undef, .undef, .undef, .undef, .undef, .undef, .undef]
set_option maxHeartbeats 8000000 in
theorem L222b (a0 a1 a2 a3 a4 a5 a6 a7 n0 k0 m0 g0 : Int) (v17 v18 v19 v20 v21 v47 v48 : D) (c : Bool) (s : Nat) (l : List B3) (mts : List Int) (mk mm mg : Int) (acc : List RcE) (al : List Int) (n : Nat) (y t : StV) (c1 : Bool) (s1 : Nat) (c2 : Bool) (s2 : Nat) (d1 : Bool) (u1 : Nat) (d2 : Bool) (kd : Int) (rts : List Int) (rk rm rg : Int) (rids : List Int) (rid : Int) (fts fids : List Int) (f1 f2 okB same : Bool) (u17 : v17.keys = []) (u18 : v18.keys = []) (u19 : v19.keys = []) (u20 : v20.keys = []) (u21 : v21.keys = []) (u47 : v47.keys = []) (u48 : v48.keys = []) (x : Int) (i : Nat) (hl : t.2.1.length ≤ 40) (hi : i < t.2.1.length) (hx : t.2.1[i]'hi = x) (hne : ∀ (j : Nat) (hj : j < i), t.2.1[j]'(by omega) ≠ x) : ∀ (q j : Nat), j + q = i →
    LpB cf0 K0 b222_0 (t222b a0 a1 a2 a3 a4 a5 a6 a7 n0 k0 m0 g0 v17 v18 v19 v20 v21 v47 v48 c s l mts mk mm mg acc al n y t c1 s1 c2 s2 d1 u1 d2 kd rts rk rm rg rids rid fts fids f1 f2 okB same x i 0) 4 ⟨t222b a0 a1 a2 a3 a4 a5 a6 a7 n0 k0 m0 g0 v17 v18 v19 v20 v21 v47 v48 c s l mts mk mm mg acc al n y t c1 s1 c2 s2 d1 u1 d2 kd rts rk rm rg rids rid fts fids f1 f2 okB same x i j, [.box [.int .u8 a0, .int .u8 a1, .int .u8 a2, .int .u8 a3, .int .u8 a4, .int .u8 a5, .int .u8 a6, .int .u8 a7, .int .u8 n0, .int .u8 k0, .int .u8 m0, .int .u8 g0], .box [.int .i64 kd, .slc false 1 (rts.map (.int .i64)), .int .i64 rk, .int .i64 rm, .int .i64 rg, .slc false 1 (rids.map (.int .i64)), .int .i64 rid], .box [.slc c1 s1 (y.1.1.map (.int .i64)), .int .i64 y.1.2.1, .int .i64 y.1.2.2.1, .int .i64 y.1.2.2.2, .slc c2 s2 (y.2.1.map (.int .i64)), .int .i64 y.2.2], .box [.slc d1 u1 (t.1.1.map (.int .i64)), .int .i64 t.1.2.1, .int .i64 t.1.2.2.1, .int .i64 t.1.2.2.2, .slc d2 1 (t.2.1.map (.int .i64)), .int .i64 t.2.2]]⟩ = some (.exit 2, ⟨t222b a0 a1 a2 a3 a4 a5 a6 a7 n0 k0 m0 g0 v17 v18 v19 v20 v21 v47 v48 c s l mts mk mm mg acc al n y t c1 s1 c2 s2 d1 u1 d2 kd rts rk rm rg rids rid fts fids f1 f2 okB same x i i, [.box [.int .u8 a0, .int .u8 a1, .int .u8 a2, .int .u8 a3, .int .u8 a4, .int .u8 a5, .int .u8 a6, .int .u8 a7, .int .u8 n0, .int .u8 k0, .int .u8 m0, .int .u8 g0], .box [.int .i64 kd, .slc false 1 (rts.map (.int .i64)), .int .i64 rk, .int .i64 rm, .int .i64 rg, .slc false 1 (rids.map (.int .i64)), .int .i64 rid], .box [.slc c1 s1 (y.1.1.map (.int .i64)), .int .i64 y.1.2.1, .int .i64 y.1.2.2.1, .int .i64 y.1.2.2.2, .slc c2 s2 (y.2.1.map (.int .i64)), .int .i64 y.2.2], .box [.slc d1 u1 (t.1.1.map (.int .i64)), .int .i64 t.1.2.1, .int .i64 t.1.2.2.1, .int .i64 t.1.2.2.2, .slc d2 1 (t.2.1.map (.int .i64)), .int .i64 t.2.2]]⟩)
  | 0, j, hj => by
    have : j = i := by omega
    subst this
    have z := ltI_f (show ¬ ((j : Int) < j) by omega)
    rw [LpB_eq]
    simp only [t222b]
    conv => lhs; arg 6; simp [b222_0, z]
    simp [u17, u18, u19, u20, u21, u47, u48]
  | q + 1, j, hj => by
    have z := ltI_t (show ((j : Int) < i) by omega)
    have hw := w64 (j + 1) (by omega)
    have hjl : j < t.2.1.length := by omega
    obtain ⟨v, hv⟩ : ∃ v, t.2.1[j]'hjl = v := ⟨_, rfl⟩
    have hvx : eqI x v = false := eqI_f (by have := hne j (by omega); rw [hv] at this; exact fun e => this e.symm)
    have ih := L222b a0 a1 a2 a3 a4 a5 a6 a7 n0 k0 m0 g0 v17 v18 v19 v20 v21 v47 v48 c s l mts mk mm mg acc al n y t c1 s1 c2 s2 d1 u1 d2 kd rts rk rm rg rids rid fts fids f1 f2 okB same u17 u18 u19 u20 u21 u47 u48 x i hl hi hx hne q (j + 1) (by omega)
    refine Eq.trans ?_ ih
    clear ih hne
    obtain ⟨⟨ts, k, m, g⟩, ids, nx⟩ := t
    simp only at hl hi hx hjl hv
    rw [LpB_eq]
    simp only [t222b]
    conv => lhs; arg 6; simp [b222_0, z, hi, hx, hjl, hv, hvx, hw, evOp, evM, wants, Ins.go, X.ev, iaM, ldM, binD, setD, applyW, Ek_ops_nil, allFree, free, callM, callP, callO, appM]
    simp [u17, u18, u19, u20, u21, u47, u48]
set_option maxHeartbeats 8000000 in
theorem L222a (a0 a1 a2 a3 a4 a5 a6 a7 n0 k0 m0 g0 : Int) (v17 v18 v19 v20 v21 v47 v48 : D) (c : Bool) (s : Nat) (l : List B3) (mts : List Int) (mk mm mg : Int) (acc : List RcE) (al : List Int) (n : Nat) (y t : StV) (c1 : Bool) (s1 : Nat) (c2 : Bool) (s2 : Nat) (d1 : Bool) (u1 : Nat) (d2 : Bool) (kd : Int) (rts : List Int) (rk rm rg : Int) (rids : List Int) (rid : Int) (fts fids : List Int) (f1 f2 okB same : Bool) (u17 : v17.keys = []) (u18 : v18.keys = []) (u19 : v19.keys = []) (u20 : v20.keys = []) (u21 : v21.keys = []) (u47 : v47.keys = []) (u48 : v48.keys = []) (hl : t.2.1.length ≤ 40) (ho : okT t) : ∀ (q i : Nat), i + q = t.2.1.length →
    LpB cf0 K0 b222_1 (t222a a0 a1 a2 a3 a4 a5 a6 a7 n0 k0 m0 g0 v17 v18 v19 v20 v21 v47 v48 c s l mts mk mm mg acc al n y t c1 s1 c2 s2 d1 u1 d2 kd rts rk rm rg rids rid fts fids f1 f2 okB same 0) 4 ⟨t222a a0 a1 a2 a3 a4 a5 a6 a7 n0 k0 m0 g0 v17 v18 v19 v20 v21 v47 v48 c s l mts mk mm mg acc al n y t c1 s1 c2 s2 d1 u1 d2 kd rts rk rm rg rids rid fts fids f1 f2 okB same i, [.box [.int .u8 a0, .int .u8 a1, .int .u8 a2, .int .u8 a3, .int .u8 a4, .int .u8 a5, .int .u8 a6, .int .u8 a7, .int .u8 n0, .int .u8 k0, .int .u8 m0, .int .u8 g0], .box [.int .i64 kd, .slc false 1 (rts.map (.int .i64)), .int .i64 rk, .int .i64 rm, .int .i64 rg, .slc false 1 (rids.map (.int .i64)), .int .i64 rid], .box [.slc c1 s1 (y.1.1.map (.int .i64)), .int .i64 y.1.2.1, .int .i64 y.1.2.2.1, .int .i64 y.1.2.2.2, .slc c2 s2 (y.2.1.map (.int .i64)), .int .i64 y.2.2], .box [.slc d1 u1 (t.1.1.map (.int .i64)), .int .i64 t.1.2.1, .int .i64 t.1.2.2.1, .int .i64 t.1.2.2.2, .slc d2 1 (t.2.1.map (.int .i64)), .int .i64 t.2.2]]⟩ = some (.exit 0, ⟨t222a a0 a1 a2 a3 a4 a5 a6 a7 n0 k0 m0 g0 v17 v18 v19 v20 v21 v47 v48 c s l mts mk mm mg acc al n y t c1 s1 c2 s2 d1 u1 d2 kd rts rk rm rg rids rid fts fids f1 f2 okB same t.2.1.length, [.box [.int .u8 a0, .int .u8 a1, .int .u8 a2, .int .u8 a3, .int .u8 a4, .int .u8 a5, .int .u8 a6, .int .u8 a7, .int .u8 n0, .int .u8 k0, .int .u8 m0, .int .u8 g0], .box [.int .i64 kd, .slc false 1 (rts.map (.int .i64)), .int .i64 rk, .int .i64 rm, .int .i64 rg, .slc false 1 (rids.map (.int .i64)), .int .i64 rid], .box [.slc c1 s1 (y.1.1.map (.int .i64)), .int .i64 y.1.2.1, .int .i64 y.1.2.2.1, .int .i64 y.1.2.2.2, .slc c2 s2 (y.2.1.map (.int .i64)), .int .i64 y.2.2], .box [.slc d1 u1 (t.1.1.map (.int .i64)), .int .i64 t.1.2.1, .int .i64 t.1.2.2.1, .int .i64 t.1.2.2.2, .slc d2 1 (t.2.1.map (.int .i64)), .int .i64 t.2.2]]⟩)
  | 0, i, hi => by
    have : i = t.2.1.length := by omega
    subst this
    have z := ltI_f (show ¬ ((t.2.1.length : Int) < t.2.1.length) by omega)
    rw [LpB_eq]
    simp only [t222a]
    conv => lhs; arg 6; simp [b222_1, z]
    simp [u17, u18, u19, u20, u21, u47, u48]
  | q + 1, i, hiq => by
    have hi : i < t.2.1.length := by omega
    have z := ltI_t (show ((i : Int) < t.2.1.length) by omega)
    have hw := w64 (i + 1) (by omega)
    obtain ⟨x, hx⟩ : ∃ x, t.2.1[i]'hi = x := ⟨_, rfl⟩
    have hxo := ho.2 x (by rw [← hx]; exact List.getElem_mem hi)
    have z1 := ltI_f (show ¬ x < 0 by omega)
    have z2 : leI t.2.2 x = false := leI_f (by omega)
    have hne : ∀ (j : Nat) (hj : j < i), t.2.1[j]'(by omega) ≠ x := fun j hj e => by
      have := List.pairwise_iff_getElem.1 ho.1 j i (by omega) hi hj
      rw [e, hx] at this
      exact this rfl
    have hb := L222b a0 a1 a2 a3 a4 a5 a6 a7 n0 k0 m0 g0 v17 v18 v19 v20 v21 v47 v48 c s l mts mk mm mg acc al n y t c1 s1 c2 s2 d1 u1 d2 kd rts rk rm rg rids rid fts fids f1 f2 okB same u17 u18 u19 u20 u21 u47 u48 x i hl hi hx hne i 0 (by omega)
    have ih := L222a a0 a1 a2 a3 a4 a5 a6 a7 n0 k0 m0 g0 v17 v18 v19 v20 v21 v47 v48 c s l mts mk mm mg acc al n y t c1 s1 c2 s2 d1 u1 d2 kd rts rk rm rg rids rid fts fids f1 f2 okB same u17 u18 u19 u20 u21 u47 u48 hl ho q (i + 1) (by omega)
    refine Eq.trans ?_ ih
    clear ih hne hxo ho
    obtain ⟨⟨ts, k, m, g⟩, ids, nx⟩ := t
    simp only at hl hi hx z z2 hb
    simp only [t222b] at hb
    simp at hb
    rw [LpB_eq]
    simp only [t222a]
    conv => lhs; arg 6; simp [b222_1, z, hi, hx, z1, z2, hw, evOp, evM, wants, Ins.go, X.ev, iaM, ldM, binD, setD, applyW, Ek_ops_nil, allFree, free, callM, callP, callO, appM]
    rw [hb]
    simp [u17, u18, u19, u20, u21, u47, u48, hw]
end Go.Ab
/- THE FUNCTIONS' EQUATIONS: thresherlaw17.ReplayUnlike, the whole. (printed by mk231.py) -/
set_option linter.all false
set_option maxRecDepth 100000
namespace Go.Ab
open Go.Proofs Go.Proofs.YtdopbfjebjnpkaaH Go.Proofs.YtdopbfjebjnpkaaH.Crc Go.Proofs.YtdopbfjebjnpkaaH.Var Go.Proofs.YtdopbfjebjnpkaaH.Fr Go.Proofs.YtdopbfjebjnpkaaH.Rec
attribute [local simp] op_or op_an op_add op_sub op_mul oq_eql oq_neq oq_lss oq_gtr oq_leq oq_geq
attribute [-simp] intOp bin_shl
attribute [local simp] reset_self
theorem applyI_no {x : StV} {r : RecV} (h : (applyI x r).2 = false) : (applyI x r).1 = x := by
  unfold applyI at h ⊢
  split
  · rfl
  · rename_i hm
    rw [if_neg hm] at h
    split
    · rename_i h1
      rw [if_pos h1] at h
      split
      · rename_i h2; rw [if_pos h2] at h; cases h
      · rfl
    · rename_i h1
      rw [if_neg h1] at h
      split
      · rfl
      · rename_i h2
        rw [if_neg h2] at h
        split
        · rename_i h3
          rw [if_pos h3] at h
          split
          · rename_i h4; rw [if_pos h4] at h; cases h
          · rfl
        · rename_i h3
          rw [if_neg h3] at h
          split
          · rename_i h4; rw [h4] at h; cases h
          · rfl
set_option maxHeartbeats 16000000 in
theorem R222 (a0 a1 a2 a3 a4 a5 a6 a7 n0 k0 m0 g0 : Int) (hts : ∀ x ∈ [a0, a1, a2, a3, a4, a5, a6, a7], 0 ≤ x ∧ x < 256) (hn : 0 ≤ n0 ∧ n0 < 256) (hk : 0 ≤ k0 ∧ k0 < 256) (hm : 0 ≤ m0 ∧ m0 < 256) (hg : 0 ≤ g0 ∧ g0 < 256) (v17 v18 v19 v20 v21 : D) (u17 : v17.keys = []) (u18 : v18.keys = []) (u19 : v19.keys = []) (u20 : v20.keys = []) (u21 : v21.keys = []) (c : Bool) (s : Nat) (l : List B3) (hs : s = 3 ∨ l = []) (hl : l.length ≤ 30) (hB : ∀ x ∈ l, (0 ≤ x.1 ∧ x.1 < 256) ∧ (0 ≤ x.2.1 ∧ x.2.1 < 256) ∧ (0 ≤ x.2.2 ∧ x.2.2 < 256)) (kd : Int) (rts : List Int) (rk rm rg : Int) (rids : List Int) (rid : Int) :
    finK false 0 [.tmp 6] (Ek cf0 K0 [.c r222] ⟨[.agg [.int .u8 a0, .int .u8 a1, .int .u8 a2, .int .u8 a3, .int .u8 a4, .int .u8 a5, .int .u8 a6, .int .u8 a7, .int .u8 n0, .int .u8 k0, .int .u8 m0, .int .u8 g0], .slc c s (l.map B3.d), .agg [.int .i64 kd, .slc false 1 (rts.map (.int .i64)), .int .i64 rk, .int .i64 rm, .int .i64 rg, .slc false 1 (rids.map (.int .i64)), .int .i64 rid], .ptr 0 0 0 0, .undef, .ptr 1 0 0 0, .bool false, .bool true, .undef, .undef, .undef, .undef, .undef, .undef, .undef, .undef, .bool true, v17, v18, v19, v20, v21, .undef, .undef, .undef, .undef, .undef, .undef, .undef, .undef, .undef, .undef, .undef, .undef, .undef, .undef, .undef, .undef, .undef, .undef, .undef, .undef, .undef, .undef, .undef, .undef, .undef, .undef, .undef, .undef, .undef, .undef, .undef, .undef, .undef, .undef, .undef, .undef, .undef, .undef, .undef, .undef, .undef, .undef, .undef, .undef, .undef, .undef, .undef, .undef, .undef, .undef, .undef, .undef, .undef, .undef, .undef, .undef, .undef, .undef, .undef, .undef, .undef, .undef, .undef, .undef, .undef, .undef, .undef, .undef, .undef, .undef, .undef, .undef, .undef, .undef], [.box [.int .u8 a0, .int .u8 a1, .int .u8 a2, .int .u8 a3, .int .u8 a4, .int .u8 a5, .int .u8 a6, .int .u8 a7, .int .u8 n0, .int .u8 k0, .int .u8 m0, .int .u8 g0], .box [.int .i64 kd, .slc false 1 (rts.map (.int .i64)), .int .i64 rk, .int .i64 rm, .int .i64 rg, .slc false 1 (rids.map (.int .i64)), .int .i64 rid]]⟩) = some (.bool true, []) := by
  have hM := K217 [a0, a1, a2, a3, a4, a5, a6, a7] n0 k0 m0 g0 hts hn hk hm hg rfl
  have hok := madeS_ok (n := n0) (k := k0) (m := m0) (g := g0) hts rfl hk.1
  generalize madeS [a0, a1, a2, a3, a4, a5, a6, a7] n0 k0 m0 g0 = M at *
  obtain ⟨mts, mk, mm, mg⟩ := M
  simp only [List.map_cons, List.map_nil, List.cons_append, List.nil_append] at hM hok
  obtain ⟨acc, hacc, hR⟩ := K215 false 1 mts mk mm mg c s l (.inl rfl) hs (by omega) hB
  have hfit := madeI_fits (s := (mts, mk, mm, mg)) hok l
  have hml := madeI_len (mts, mk, mm, mg) l
  have hst := madeI_st (s := (mts, mk, mm, mg)) hok l
  rw [← hacc] at hfit hml hst
  rw [List.length_map] at hml
  have hmay : ∀ e ∈ acc, mayOf e.r = true := fun e he => fitsR_may _ _ _ hfit _ (List.mem_map_of_mem he)
  have hA := K216 false 7 acc (.inl rfl) (by omega) (fun e he => by have := mayOf_len (hmay e he); omega)
  have hpl := putsR_len (acc.map RcE.r)
  rw [List.length_map] at hpl
  have hpB := isB_putsR (acc.map RcE.r)
  have hall := allI_all hfit
  have hsch := stR_sch (acc.map RcE.r) noSt (by simp [noSt, noSc])
  have hpos : 0 < (putsR (acc.map RcE.r)).length := by
    rw [hacc]
    unfold madeI
    have hm1 : mayOf (1, (mts, mk, mm, mg), [], 0) = true := applyI_may (x := noSt) (by rw [applyI_head hok])
    rw [putsR_cons hm1, List.length_append]
    have := recOf_len hm1
    omega
  generalize hal : putsR (acc.map RcE.r) = al at *
  obtain ⟨r1, r2, r3, r4, z1, z2, hFull⟩ := K200 false 1 al (.inl rfl) (by omega) hpB
  rw [hall] at hFull z1 z2
  generalize stR noSt (acc.map RcE.r) = y at *
  obtain ⟨hy1, hy2, hy3, hy4, hy5⟩ := hst
  simp only [List.length_nil, Nat.sub_zero] at hFull
  have zal := ltI_t (show (0 : Int) < al.length by omega)
  rw [zal] at hFull
  obtain ⟨f1, f2, hF⟩ := K218 kd false rts rk rm rg false rids rid
  obtain ⟨fts, hfts⟩ : ∃ t, rts.take 10 = t := ⟨_, rfl⟩
  obtain ⟨fids, hfids⟩ : ∃ t, rids.take 45 = t := ⟨_, rfl⟩
  have hfl : fts.length ≤ 10 ∧ fids.length ≤ 45 := by rw [← hfts, ← hfids]; simp; omega
  rw [hfts, hfids] at hF
  obtain ⟨d1, u1, d2, u2, x1, x2, hP⟩ := K203 y r1 r2 r3 r4 z1 z2 (kd, (fts, rk, rm, rg), fids, rid) f1 1 f2 1 (.inl rfl) (.inl rfl) (by omega) (by simp only; omega) (by simp only; omega)
  have ho := okT_apply hy5 (kd, (fts, rk, rm, rg), fids, rid)
  have htl := applyI_len (x := y) (r := (kd, (fts, rk, rm, rg), fids, rid)) (by omega)
  have hno := @applyI_no y (kd, (fts, rk, rm, rg), fids, rid)
  generalize applyI y (kd, (fts, rk, rm, rg), fids, rid) = A at *
  obtain ⟨t, okB⟩ := A
  dsimp only at *
  have hS := K214 y t r1 r2 r3 r4 d1 u1 d2 u2 z1 z2 x1 x2 (by omega) (by omega)
  obtain ⟨same, hsame⟩ : ∃ b, decide (y = t) = b := ⟨_, rfl⟩
  rw [hsame] at hS
  have hsm : okB = false → same = true := fun e => by rw [← hsame, hno e]; simp
  clear hno hsame
  have z40 : ltI 40 (t.2.1.length : Int) = false := ltI_f (by omega)
  simp only [StD, Sd] at hFull hR hA hM hP hS
  simp only [Rcd] at hF hP
  by_cases hn0 : t.2.1 = []
  · obtain ⟨⟨ts, k, m, g⟩, ids, nx⟩ := t
    simp only at hn0
    subst hn0
    simp only [List.length_nil, List.map_nil] at z40 hP hS
    have z0 := ltI_f (show ¬ ((0 : Int) < 0) by omega)
    have z40' : ltI 40 0 = false := rfl
    cases okB with
    | true =>
      simp [r222, hM, hR, hA, hFull, hF, hP, hS, z40', evOp, evM, wants, Ins.go, X.ev, iaM, ldM, binD, setD, applyW, Ek_ops_nil, allFree, free, callM, callP, callO, appM]
      rw [LpB_eq]
      simp [b222_1, z0, u17, u18, u19, u20, u21]
    | false =>
      obtain rfl := hsm rfl
      simp [r222, hM, hR, hA, hFull, hF, hP, hS, z40', evOp, evM, wants, Ins.go, X.ev, iaM, ldM, binD, setD, applyW, Ek_ops_nil, allFree, free, callM, callP, callO, appM]
      rw [LpB_eq]
      simp [b222_1, z0, u17, u18, u19, u20, u21]
  · obtain rfl := x2.resolve_right hn0
    cases okB with
    | true =>
      have hL := L222a a0 a1 a2 a3 a4 a5 a6 a7 n0 k0 m0 g0 v17 v18 v19 v20 v21 (.tuple []) (.tuple []) c s l mts mk mm mg acc al al.length y t r1 r2 r3 r4 d1 u1 d2 kd rts rk rm rg rids rid fts fids f1 f2 true same u17 u18 u19 u20 u21 rfl rfl htl ho t.2.1.length 0 (by omega)
      simp only [t222a] at hL
      simp [r222, hM, hR, hA, hFull, hF, hP, hS, z40, evOp, evM, wants, Ins.go, X.ev, iaM, ldM, binD, setD, applyW, Ek_ops_nil, allFree, free, callM, callP, callO, appM]
      simp at hL
      rw [hL]
      simp
    | false =>
      obtain rfl := hsm rfl
      have hL := L222a a0 a1 a2 a3 a4 a5 a6 a7 n0 k0 m0 g0 v17 v18 v19 v20 v21 (.bool true) (.bool false) c s l mts mk mm mg acc al al.length y t r1 r2 r3 r4 d1 u1 d2 kd rts rk rm rg rids rid fts fids f1 f2 false true u17 u18 u19 u20 u21 rfl rfl htl ho t.2.1.length 0 (by omega)
      simp only [t222a] at hL
      simp [r222, hM, hR, hA, hFull, hF, hP, hS, z40, evOp, evM, wants, Ins.go, X.ev, iaM, ldM, binD, setD, applyW, Ek_ops_nil, allFree, free, callM, callP, callO, appM]
      simp at hL
      rw [hL]
      simp
set_option maxHeartbeats 8000000 in
/-- thresherlaw17.ReplayUnlike. -/
theorem K222 (a0 a1 a2 a3 a4 a5 a6 a7 n0 k0 m0 g0 : Int) (hts : ∀ x ∈ [a0, a1, a2, a3, a4, a5, a6, a7], 0 ≤ x ∧ x < 256) (hn : 0 ≤ n0 ∧ n0 < 256) (hk : 0 ≤ k0 ∧ k0 < 256) (hm : 0 ≤ m0 ∧ m0 < 256) (hg : 0 ≤ g0 ∧ g0 < 256) (c : Bool) (l : List B3) (kd : Int) (rts : List Int) (rk rm rg : Int) (rids : List Int) (rid : Int) (hB : ∀ x ∈ l, (0 ≤ x.1 ∧ x.1 < 256) ∧ (0 ≤ x.2.1 ∧ x.2.1 < 256) ∧ (0 ≤ x.2.2 ∧ x.2.2 < 256)) :
    K0 4 [.agg [.int .u8 a0, .int .u8 a1, .int .u8 a2, .int .u8 a3, .int .u8 a4, .int .u8 a5, .int .u8 a6, .int .u8 a7, .int .u8 n0, .int .u8 k0, .int .u8 m0, .int .u8 g0], .slc c 3 (l.map B3.d), Rcd kd false 1 rts rk rm rg false 1 rids rid] [] = some (.bool true, []) := by
  refine K_call k222 (oraG_none (by decide) (by decide)) (by simp [c222, Rcd]) ?_
  obtain ⟨t, ht⟩ : ∃ t, l.take 30 = t := ⟨_, rfl⟩
  have htl : t.length ≤ 30 := by rw [← ht]; simp; omega
  have htB : ∀ x ∈ t, (0 ≤ x.1 ∧ x.1 < 256) ∧ (0 ≤ x.2.1 ∧ x.2.1 < 256) ∧ (0 ≤ x.2.2 ∧ x.2.2 < 256) := fun x hx => hB x (by rw [← ht] at hx; exact List.mem_of_mem_take hx)
  have m1 : List.take 30 (l.map B3.d) = t.map B3.d := by rw [← ht]; simp [List.map_take]
  by_cases h30 : 30 < (l.length : Int)
  · have z := ltI_t h30
    have b1 : (30 : Int) ≤ l.length := by omega
    have b2 : 30 ≤ l.length := by omega
    simp [c222, Rcd, K219, z, b1, b2, m1]
    exact R222 a0 a1 a2 a3 a4 a5 a6 a7 n0 k0 m0 g0 hts hn hk hm hg _ _ _ _ _ rfl rfl rfl rfl rfl _ 3 t (.inl rfl) htl htB kd rts rk rm rg rids rid
  · have z := ltI_f h30
    obtain rfl : l = t := by rw [← ht, List.take_of_length_le (by omega)]
    simp [c222, Rcd, K219, z]
    exact R222 a0 a1 a2 a3 a4 a5 a6 a7 n0 k0 m0 g0 hts hn hk hm hg _ _ _ _ _ rfl rfl rfl rfl rfl c 3 l (.inl rfl) htl htB kd rts rk rm rg rids rid
end Go.Ab
