/- THE FUNCTIONS' EQUATIONS: thresherlaw17.ReplayTorn. (printed by mk221.py) -/
import Derived.Test.YtdopbfjebjnpkaaBF215
set_option linter.all false
set_option maxRecDepth 100000
namespace Go.Ab
open Go.Proofs Go.Proofs.YtdopbfjebjnpkaaH Go.Proofs.YtdopbfjebjnpkaaH.Crc Go.Proofs.YtdopbfjebjnpkaaH.Var Go.Proofs.YtdopbfjebjnpkaaH.Fr Go.Proofs.YtdopbfjebjnpkaaH.Rec
def b221_0 : C := (.seq (.seq (.reg none [⟨(some 56), none, (.mv (.t 16))⟩, ⟨(some 57), none, (.mv (.t 8))⟩, ⟨(some 58), none, (.len 1 (.t 57))⟩, ⟨(some 59), none, (.bin .lss [] (.t 56) (.t 58))⟩]) (.cond (.t 59) .skip (.exit 0))) (.seq (.block 1 (.seq (.reg none [⟨(some 63), none, (.mv (.t 8))⟩, ⟨(some 64), none, (.mv (.t 16))⟩, ⟨(some 65), none, (.ia none 7 true (.t 63) (.t 64))⟩, ⟨(some 66), none, (.ld (some 7) (.t 65))⟩, ⟨(some 67), none, (.call (.f 13) [(.t 66)])⟩, ⟨(some 62), none, (.mv (.t 67))⟩, ⟨(some 68), none, (.ext (.t 62) 0)⟩, ⟨(some 69), none, (.ext (.t 62) 1)⟩, ⟨(some 17), none, (.mv (.t 68))⟩, ⟨(some 18), none, (.mv (.t 69))⟩]) (.seq (.seq (.reg none [⟨(some 70), none, (.mv (.t 14))⟩, ⟨(some 71), none, (.mv (.t 17))⟩, ⟨(some 72), none, (.len 1 (.t 71))⟩, ⟨(some 73), none, (.bin .add [] (.t 70) (.t 72))⟩, ⟨(some 74), none, (.mv (.t 10))⟩, ⟨(some 75), none, (.bin .gtr [] (.t 73) (.t 74))⟩]) (.cond (.t 75) (.exit 0) .skip)) (.seq (.reg none [⟨(some 76), none, (.mv (.t 14))⟩, ⟨(some 77), none, (.mv (.t 17))⟩, ⟨(some 78), none, (.len 1 (.t 77))⟩, ⟨(some 79), none, (.bin .add [] (.t 76) (.t 78))⟩, ⟨(some 14), none, (.mv (.t 79))⟩]) (.seq (.reg (some [(0, 3), (0, 4), (0, 9), (3, 9), (4, 9), (5, 9)]) [⟨(some 81), none, (.ld (some 6) (.t 15))⟩, ⟨(some 82), none, (.mv (.t 8))⟩, ⟨(some 83), none, (.mv (.t 16))⟩, ⟨(some 84), none, (.ia none 7 true (.t 82) (.t 83))⟩, ⟨(some 85), none, (.ld (some 7) (.t 84))⟩, ⟨(some 86), none, (.call (.f 14) [(.t 81), (.t 85)])⟩, ⟨(some 80), none, (.mv (.t 86))⟩, ⟨(some 87), none, (.ext (.t 80) 0)⟩, ⟨(some 88), none, (.ext (.t 80) 1)⟩, ⟨(some 19), none, (.alloc false [nilS, (.int .i64 0), (.int .i64 0), (.int .i64 0), nilS, (.int .i64 0)])⟩, ⟨none, none, (.st 6 (.t 19) (.t 87))⟩, ⟨(some 20), none, (.mv (.t 88))⟩]) (.seq (.seq (.reg none [⟨(some 89), none, (.mv (.t 20))⟩, ⟨(some 90), none, (.un .not (.t 89))⟩]) (.cond (.t 90) (.seq (.reg none [⟨(some 6), none, (.mv (.k (.bool false)))⟩]) .ret) .skip)) (.reg none [⟨(some 91), none, (.ld (some 6) (.t 19))⟩, ⟨none, none, (.st 6 (.t 15) (.t 91))⟩]))))))) (.reg none [⟨(some 60), none, (.mv (.t 16))⟩, ⟨(some 61), none, (.bin .add [] (.t 60) (.k (.int .i64 1)))⟩, ⟨(some 16), none, (.mv (.t 61))⟩])))
def r221 : C := (.seq (.reg none [⟨(some 35), none, (.ld (some 12) (.t 3))⟩, ⟨(some 36), none, (.call (.f 10) [(.t 35)])⟩, ⟨(some 37), none, (.mv (.t 1))⟩, ⟨(some 38), none, (.call (.f 9) [(.t 36), (.t 37)])⟩, ⟨(some 8), none, (.mv (.t 38))⟩]) (.seq (.reg none [⟨(some 39), none, (.mv (.t 8))⟩, ⟨(some 40), none, (.call (.f 11) [(.t 39)])⟩, ⟨(some 9), none, (.mv (.t 40))⟩]) (.seq (.reg none [⟨(some 41), none, (.mv (.t 2))⟩, ⟨(some 42), none, (.cvt (.int .i64) (.t 41))⟩, ⟨(some 43), none, (.mv (.t 9))⟩, ⟨(some 44), none, (.len 1 (.t 43))⟩, ⟨(some 45), none, (.bin .add [] (.t 44) (.k (.int .i64 1)))⟩, ⟨(some 46), none, (.bin .rem [] (.t 42) (.t 45))⟩, ⟨(some 10), none, (.mv (.t 46))⟩]) (.seq (.reg none [⟨(some 48), none, (.mv (.t 9))⟩, ⟨(some 49), none, (.mv (.t 10))⟩, ⟨(some 50), none, (.sub 1 1 (.t 48) none (some (.t 49)) none)⟩, ⟨(some 51), none, (.call (.f 12) [(.t 50)])⟩, ⟨(some 47), none, (.mv (.t 51))⟩, ⟨(some 52), none, (.ext (.t 47) 0)⟩, ⟨(some 53), none, (.ext (.t 47) 1)⟩, ⟨(some 54), none, (.ext (.t 47) 2)⟩, ⟨(some 11), none, (.alloc false [nilS, (.int .i64 0), (.int .i64 0), (.int .i64 0), nilS, (.int .i64 0)])⟩, ⟨none, none, (.st 6 (.t 11) (.t 52))⟩, ⟨(some 12), none, (.mv (.t 53))⟩, ⟨(some 13), none, (.mv (.t 54))⟩]) (.seq (.reg none [⟨(some 14), none, (.mv (.k (.int .i64 0)))⟩]) (.seq (.reg none [⟨(some 55), none, (.bld [nilS, (.int .i64 0), (.int .i64 0), (.int .i64 0), nilS, (.int .i64 0)] [])⟩, ⟨(some 15), none, (.alloc false [nilS, (.int .i64 0), (.int .i64 0), (.int .i64 0), nilS, (.int .i64 0)])⟩, ⟨none, none, (.st 6 (.t 15) (.t 55))⟩]) (.seq (.seq (.reg none [⟨(some 16), none, (.mv (.k (.int .i64 0)))⟩]) (.block 0 (.loop b221_0))) (.seq (.reg none [⟨(some 92), none, (.ld (some 6) (.t 11))⟩, ⟨(some 93), none, (.ld (some 6) (.t 15))⟩, ⟨(some 94), none, (.call (.f 15) [(.t 92), (.t 93)])⟩, ⟨(some 21), none, (.mv (.t 94))⟩]) (.seq (.reg (some [(0, 3), (0, 7), (3, 7), (4, 7), (0, 14), (3, 14), (4, 14), (7, 14), (8, 14), (9, 14)]) [⟨(some 96), none, (.bsl false 1 0 [(.int .u8 0)] [])⟩, ⟨(some 97), none, (.mv (.t 9))⟩, ⟨(some 98), none, (.mv (.t 12))⟩, ⟨(some 99), none, (.sub 1 1 (.t 97) none (some (.t 98)) none)⟩, ⟨(some 100), none, (.app 1 1 (.t 96) (.t 99))⟩, ⟨(some 101), none, (.mv (.t 9))⟩, ⟨(some 102), none, (.mv (.t 12))⟩, ⟨(some 103), none, (.sub 1 1 (.t 101) (some (.t 102)) none none)⟩, ⟨(some 104), none, (.app 1 1 (.t 100) (.t 103))⟩, ⟨(some 105), none, (.call (.f 12) [(.t 104)])⟩, ⟨(some 95), none, (.mv (.t 105))⟩, ⟨(some 106), none, (.ext (.t 95) 0)⟩, ⟨(some 107), none, (.ext (.t 95) 1)⟩, ⟨(some 108), none, (.ext (.t 95) 2)⟩, ⟨(some 22), none, (.alloc false [nilS, (.int .i64 0), (.int .i64 0), (.int .i64 0), nilS, (.int .i64 0)])⟩, ⟨none, none, (.st 6 (.t 22) (.t 106))⟩, ⟨(some 23), none, (.mv (.t 107))⟩, ⟨(some 24), none, (.mv (.t 108))⟩]) (.seq (.seq (.reg none [⟨(some 109), none, (.mv (.t 14))⟩, ⟨(some 110), none, (.bin .eql [] (.t 109) (.k (.int .i64 0)))⟩]) (.cond (.t 110) (.seq (.reg none [⟨(some 111), none, (.mv (.t 7))⟩, ⟨(some 112), none, (.mv (.t 111))⟩, ⟨(some 113), (some ((some 112), true)), (.mv (.t 13))⟩, ⟨(some 114), (some ((some 112), true)), (.un .not (.t 113))⟩, ⟨(some 115), none, (.pick (.t 112) (.t 114) (.k (.bool false)))⟩, ⟨(some 116), none, (.mv (.t 115))⟩, ⟨(some 117), (some ((some 116), true)), (.mv (.t 12))⟩, ⟨(some 118), (some ((some 116), true)), (.bin .eql [] (.t 117) (.k (.int .i64 0)))⟩, ⟨(some 119), none, (.pick (.t 116) (.t 118) (.k (.bool false)))⟩, ⟨(some 120), none, (.mv (.t 119))⟩, ⟨(some 121), (some ((some 120), true)), (.mv (.t 21))⟩, ⟨(some 122), none, (.pick (.t 120) (.t 121) (.k (.bool false)))⟩, ⟨(some 6), none, (.mv (.t 122))⟩]) .ret) .skip)) (.seq (.reg none [⟨(some 124), none, (.mv (.t 9))⟩, ⟨(some 125), none, (.call (.f 12) [(.t 124)])⟩, ⟨(some 123), none, (.mv (.t 125))⟩, ⟨(some 126), none, (.ext (.t 123) 0)⟩, ⟨(some 127), none, (.ext (.t 123) 1)⟩, ⟨(some 128), none, (.ext (.t 123) 2)⟩, ⟨(some 25), none, (.alloc false [nilS, (.int .i64 0), (.int .i64 0), (.int .i64 0), nilS, (.int .i64 0)])⟩, ⟨none, none, (.st 6 (.t 25) (.t 126))⟩, ⟨(some 26), none, (.mv (.t 127))⟩, ⟨(some 27), none, (.mv (.t 128))⟩]) (.seq (.reg none [⟨(some 129), none, (.ld (some 6) (.t 22))⟩, ⟨(some 130), none, (.ld (some 6) (.t 25))⟩, ⟨(some 131), none, (.call (.f 15) [(.t 129), (.t 130)])⟩, ⟨(some 28), none, (.mv (.t 131))⟩]) (.seq (.reg none [⟨(some 132), none, (.mv (.t 7))⟩, ⟨(some 133), none, (.mv (.t 132))⟩, ⟨(some 134), (some ((some 133), true)), (.mv (.t 13))⟩, ⟨(some 135), none, (.pick (.t 133) (.t 134) (.k (.bool false)))⟩, ⟨(some 136), none, (.mv (.t 135))⟩, ⟨(some 137), (some ((some 136), true)), (.mv (.t 12))⟩, ⟨(some 138), (some ((some 136), true)), (.mv (.t 14))⟩, ⟨(some 139), (some ((some 136), true)), (.bin .eql [] (.t 137) (.t 138))⟩, ⟨(some 140), none, (.pick (.t 136) (.t 139) (.k (.bool false)))⟩, ⟨(some 141), none, (.mv (.t 140))⟩, ⟨(some 142), (some ((some 141), true)), (.mv (.t 21))⟩, ⟨(some 143), none, (.pick (.t 141) (.t 142) (.k (.bool false)))⟩, ⟨(some 144), none, (.mv (.t 143))⟩, ⟨(some 145), (some ((some 144), true)), (.mv (.t 24))⟩, ⟨(some 146), none, (.pick (.t 144) (.t 145) (.k (.bool false)))⟩, ⟨(some 147), none, (.mv (.t 146))⟩, ⟨(some 148), (some ((some 147), true)), (.mv (.t 27))⟩, ⟨(some 149), none, (.pick (.t 147) (.t 148) (.k (.bool false)))⟩, ⟨(some 150), none, (.mv (.t 149))⟩, ⟨(some 151), (some ((some 150), true)), (.mv (.t 23))⟩, ⟨(some 152), (some ((some 150), true)), (.mv (.t 9))⟩, ⟨(some 153), (some ((some 150), true)), (.len 1 (.t 152))⟩, ⟨(some 154), (some ((some 150), true)), (.bin .eql [] (.t 151) (.t 153))⟩, ⟨(some 155), none, (.pick (.t 150) (.t 154) (.k (.bool false)))⟩, ⟨(some 156), none, (.mv (.t 155))⟩, ⟨(some 157), (some ((some 156), true)), (.mv (.t 26))⟩, ⟨(some 158), (some ((some 156), true)), (.mv (.t 23))⟩, ⟨(some 159), (some ((some 156), true)), (.bin .eql [] (.t 157) (.t 158))⟩, ⟨(some 160), none, (.pick (.t 156) (.t 159) (.k (.bool false)))⟩, ⟨(some 161), none, (.mv (.t 160))⟩, ⟨(some 162), (some ((some 161), true)), (.mv (.t 28))⟩, ⟨(some 163), none, (.pick (.t 161) (.t 162) (.k (.bool false)))⟩, ⟨(some 6), none, (.mv (.t 163))⟩]) .ret)))))))))))))
def c221 : Fn' := ⟨164, [(.tmp 6)], (.seq (.reg none [⟨(some 3), none, (.box false (.t 0))⟩, ⟨(some 6), none, (.mv (.k (.bool false)))⟩]) (.seq (.reg none [⟨(some 29), none, (.call (.f 8) [])⟩, ⟨(some 7), none, (.mv (.t 29))⟩]) (.seq (.seq (.reg none [⟨(some 30), none, (.mv (.t 1))⟩, ⟨(some 31), none, (.len 1 (.t 30))⟩, ⟨(some 32), none, (.bin .gtr [] (.t 31) (.k (.int .i64 30)))⟩]) (.cond (.t 32) (.reg none [⟨(some 33), none, (.mv (.t 1))⟩, ⟨(some 34), none, (.sub 1 3 (.t 33) none (some (.k (.int .i64 30))) none)⟩, ⟨(some 1), none, (.mv (.t 34))⟩]) .skip)) r221)))⟩
theorem k221 : compF Try.prog 3 = some c221 := by kernel_rfl
attribute [local simp] op_or op_an op_add op_sub op_mul oq_eql oq_neq oq_lss oq_gtr oq_leq oq_geq
attribute [-simp] intOp bin_shl
def t221 (a0 a1 a2 a3 a4 a5 a6 a7 n0 k0 m0 g0 : Int) (v30 v31 v32 v33 v34 : D) (c : Bool) (s : Nat) (l : List B3) (at_ : Int) (mts : List Int) (mk mm mg : Int) (acc : List RcE) (al : List Int) (k n : Nat) (okB : Bool) (y : StV) (c1 : Bool) (s1 : Nat) (c2 : Bool) (s2 : Nat) (used i : Nat) : List D := [.agg [.int .u8 a0, .int .u8 a1, .int .u8 a2, .int .u8 a3, .int .u8 a4, .int .u8 a5, .int .u8 a6, .int .u8 a7, .int .u8 n0, .int .u8 k0, .int .u8 m0, .int .u8 g0], .slc c s (List.map B3.d l), .int .u16 at_, .ptr 0 0 0 0, .undef, .undef, .bool false, .bool true, .slc false 7 (List.map RcE.d acc), .slc false 1 (al.map (.int .u8)), .int .i64 k, .ptr 1 0 0 0, .int .i64 n, .bool okB, .int .i64 used, .ptr 2 0 0 0, .int .i64 i, .undef, .undef, .undef, .undef, .undef, .undef, .undef, .undef, .undef, .undef, .undef, .undef, .bool true, v30, v31, v32, v33, v34, .agg [.int .u8 a0, .int .u8 a1, .int .u8 a2, .int .u8 a3, .int .u8 a4, .int .u8 a5, .int .u8 a6, .int .u8 a7, .int .u8 n0, .int .u8 k0, .int .u8 m0, .int .u8 g0], .agg [.slc false 1 (mts.map (.int .i64)), .int .i64 mk, .int .i64 mm, .int .i64 mg], .slc c s (List.map B3.d l), .slc false 7 (List.map RcE.d acc), .slc false 7 (List.map RcE.d acc), .slc false 1 (al.map (.int .u8)), .int .u16 at_, .int .i64 at_, .slc false 1 (al.map (.int .u8)), .int .i64 al.length, .int .i64 (al.length + 1), .int .i64 k, .tuple [.agg [.slc c1 s1 (y.1.1.map (.int .i64)), .int .i64 y.1.2.1, .int .i64 y.1.2.2.1, .int .i64 y.1.2.2.2, .slc c2 s2 (y.2.1.map (.int .i64)), .int .i64 y.2.2], .int .i64 n, .bool okB], .slc false 1 (al.map (.int .u8)), .int .i64 k, .slc false 1 (List.take k (al.map (.int .u8))), .tuple [.agg [.slc c1 s1 (y.1.1.map (.int .i64)), .int .i64 y.1.2.1, .int .i64 y.1.2.2.1, .int .i64 y.1.2.2.2, .slc c2 s2 (y.2.1.map (.int .i64)), .int .i64 y.2.2], .int .i64 n, .bool okB], .agg [.slc c1 s1 (y.1.1.map (.int .i64)), .int .i64 y.1.2.1, .int .i64 y.1.2.2.1, .int .i64 y.1.2.2.2, .slc c2 s2 (y.2.1.map (.int .i64)), .int .i64 y.2.2], .int .i64 n, .bool okB, .agg [nilS, .int .i64 0, .int .i64 0, .int .i64 0, nilS, .int .i64 0], .undef, .undef, .undef, .undef, .undef, .undef, .undef, .undef, .undef, .undef, .undef, .undef, .undef, .undef, .undef, .undef, .undef, .undef, .undef, .undef, .undef, .undef, .undef, .undef, .undef, .undef, .undef, .undef, .undef, .undef, .undef, .undef, .undef, .undef, .undef, .undef, .undef, .undef, .undef, .undef, .undef, .undef, .undef, .undef, .undef, .undef, .undef, .undef, .undef, .undef, .undef, .undef, .undef, .undef, .undef, .undef, .undef, .undef, .undef, .undef, .undef, .undef, .undef, .undef, .undef, .undef, .undef, .undef, .undef, .undef, .undef, .undef, .undef, .undef, .undef, .undef, .undef, .undef, .undef, .undef, .undef, .undef, .undef, .undef, .undef, .undef, .undef, .undef, .undef, .undef, .undef, .undef, .undef, .undef, .undef, .undef, .undef, .undef, .undef, .undef, .undef, .undef, .undef, .undef, .undef, .undef, .undef, .undef]
theorem reset_self (v : D) : reset.match_1 (fun _ => D) v (fun _ => .undef) (fun _ => v) = v := by cases v <;> rfl
attribute [local simp] reset_self
set_option maxHeartbeats 8000000 in
theorem L221 (a0 a1 a2 a3 a4 a5 a6 a7 n0 k0 m0 g0 : Int) (v30 v31 v32 v33 v34 : D) (c : Bool) (s : Nat) (l : List B3) (at_ : Int) (mts : List Int) (mk mm mg : Int) (acc : List RcE) (al : List Int) (k n : Nat) (okB : Bool) (y : StV) (c1 : Bool) (s1 : Nat) (c2 : Bool) (s2 : Nat) (u30 : v30.keys = []) (u31 : v31.keys = []) (u32 : v32.keys = []) (u33 : v33.keys = []) (u34 : v34.keys = []) (hal : acc.length ≤ 2 ^ 20) (hmay : ∀ e ∈ acc, mayOf e.r = true) (hk : k ≤ 2 ^ 40) : ∀ (r pre : List RcE) (i used : Nat) (first : Bool) (x : StV) (d : Bool) (u : Nat) (d' : Bool) (u' : Nat), acc = pre ++ r → i = pre.length → used ≤ k → fitsR x first (r.map RcE.r) → (u = 1 ∨ x.1.1 = []) → (u' = 1 ∨ x.2.1 = []) → x.2.1.length ≤ 40 →
    ∃ i' d3 u3 d4 u4, (u3 = 1 ∨ (tornR (r.map RcE.r) (k - used) x).1.1.1 = []) ∧ (u4 = 1 ∨ (tornR (r.map RcE.r) (k - used) x).1.2.1 = []) ∧
      LpB cf0 K0 b221_0 (t221 a0 a1 a2 a3 a4 a5 a6 a7 n0 k0 m0 g0 v30 v31 v32 v33 v34 c s l at_ mts mk mm mg acc al k n okB y c1 s1 c2 s2 0 0) 3 ⟨t221 a0 a1 a2 a3 a4 a5 a6 a7 n0 k0 m0 g0 v30 v31 v32 v33 v34 c s l at_ mts mk mm mg acc al k n okB y c1 s1 c2 s2 used i, [.box [.int .u8 a0, .int .u8 a1, .int .u8 a2, .int .u8 a3, .int .u8 a4, .int .u8 a5, .int .u8 a6, .int .u8 a7, .int .u8 n0, .int .u8 k0, .int .u8 m0, .int .u8 g0], StB y c1 s1 c2 s2, StB x d u d' u']⟩ =
        some (.exit 0, ⟨t221 a0 a1 a2 a3 a4 a5 a6 a7 n0 k0 m0 g0 v30 v31 v32 v33 v34 c s l at_ mts mk mm mg acc al k n okB y c1 s1 c2 s2 (used + (tornR (r.map RcE.r) (k - used) x).2) i', [.box [.int .u8 a0, .int .u8 a1, .int .u8 a2, .int .u8 a3, .int .u8 a4, .int .u8 a5, .int .u8 a6, .int .u8 a7, .int .u8 n0, .int .u8 k0, .int .u8 m0, .int .u8 g0], StB y c1 s1 c2 s2, StB (tornR (r.map RcE.r) (k - used) x).1 d3 u3 d4 u4]⟩)
  | [], pre, i, used, first, x, d, u, d', u', h, hi, hu, hf, h1, h2, h3 => by
    have : acc = pre := by simpa using h
    subst this
    have z := ltI_f (show ¬ ((acc.length : Int) < acc.length) by omega)
    refine ⟨acc.length, d, u, d', u', h1, h2, ?_⟩
    rw [LpB_eq]
    simp only [t221, StB]
    conv => lhs; arg 6; simp [b221_0, hi, z, u30, u31, u32, u33, u34]
    simp [hi, tornR]
  | e :: r, pre, i, used, first, x, d, u, d', u', h, hi, hu, hf, h1, h2, h3 => by
    have hll : i < acc.length := by rw [h, hi]; simp
    have hget : acc[i]? = some e := by rw [h, hi]; simp
    have hgi : acc[i]'hll = e := by rw [List.getElem?_eq_getElem hll] at hget; exact Option.some.inj hget
    have hw := w64 (i + 1) (by omega)
    have z := ltI_t (show ((i : Int) < acc.length) by omega)
    have hem := hmay e (by rw [h]; simp)
    have hml := mayOf_len hem
    have hrl := recOf_len hem
    obtain ⟨er, ec, es, ec', es', eh⟩ := e
    obtain ⟨g1, g2⟩ := eh
    simp only at hem hml hrl g1 g2
    obtain ⟨f1, f2, f3⟩ := hf
    simp only at f1 f2 f3
    have hP := K18_t er.1 ec es er.2.1.1 er.2.1.2.1 er.2.1.2.2.1 er.2.1.2.2.2 ec' es' er.2.2.1 er.2.2.2 g1 g2 hem
    have hPe : frameI (recB er.1 er.2.1.1 er.2.1.2.1 er.2.1.2.2.1 er.2.1.2.2.2 er.2.2.1 er.2.2.2) = recOf er := rfl
    rw [hPe] at hP
    obtain ⟨e1, e2, e3, e4, v1, v2, hA⟩ := K203 x d u d' u' h1 h2 er ec es ec' es' g1 g2 (by omega) (by omega) (by omega)
    have hlen := applyI_len (r := er) h3
    have L := L221 a0 a1 a2 a3 a4 a5 a6 a7 n0 k0 m0 g0 v30 v31 v32 v33 v34 c s l at_ mts mk mm mg acc al k n okB y c1 s1 c2 s2 u30 u31 u32 u33 u34 hal hmay hk r (pre ++ [⟨er, ec, es, ec', es', g1, g2⟩])
    simp only [List.map_cons]
    have et : tornR (er :: r.map RcE.r) (k - used) x = if (recOf er).length ≤ k - used then ((tornR (r.map RcE.r) (k - used - (recOf er).length) (applyI x er).1).1, (recOf er).length + (tornR (r.map RcE.r) (k - used - (recOf er).length) (applyI x er).1).2) else (x, 0) := rfl
    rw [et]
    clear et
    generalize recOf er = P at *
    obtain ⟨N, hN⟩ : ∃ N, N = used + P.length := ⟨_, rfl⟩
    have wN : IntKind.i64.wrap ((used : Int) + (P.length : Int)) = N := by rw [w64 _ (by omega)]; omega
    by_cases hb : P.length ≤ k - used
    · have zb : ltI (k : Int) (N : Int) = false := ltI_f (by omega)
      obtain ⟨i', d3, u3, d4, u4, q1, q2, ih⟩ := L (i + 1) N false (applyI x er).1 e1 e2 e3 e4 (by rw [h]; simp) (by simp [hi]) (by omega) f3 v1 v2 hlen
      rw [if_pos hb]
      have ek : k - used - P.length = k - N := by omega
      rw [ek]
      refine ⟨i', d3, u3, d4, u4, q1, q2, ?_⟩
      have eu : used + (P.length + (tornR (r.map RcE.r) (k - N) (applyI x er).1).2) = N + (tornR (r.map RcE.r) (k - N) (applyI x er).1).2 := by omega
      dsimp only
      rw [eu]
      refine Eq.trans ?_ ih
      clear ih L q1 q2 eu f3
      generalize applyI x er = A at *
      obtain ⟨⟨⟨ts2, k2, m2, g2'⟩, ids2, nx2⟩, ok⟩ := A
      obtain ⟨⟨ts0, k0', m0', g0'⟩, ids0, nx0⟩ := x
      obtain ⟨kd, ⟨ts3, k3, m3, g3⟩, ids3, id3⟩ := er
      simp only at f1
      subst f1
      simp only [StD, Rcd] at hA hP
      rw [LpB_eq]
      simp only [t221, StB]
      conv => lhs; arg 6; simp [b221_0, hll, hgi, hw, z, RcE.d, Rcd, hP, wN, zb, hA, evOp, evM, wants, Ins.go, X.ev, iaM, ldM, binD, setD, applyW, Ek_ops_nil, allFree, free, callM, callP, callO, appM]
      simp [u30, u31, u32, u33, u34]
    · have zb : ltI (k : Int) (N : Int) = true := ltI_t (by omega)
      rw [if_neg hb]
      refine ⟨i, d, u, d', u', h1, h2, ?_⟩
      obtain ⟨⟨ts0, k0', m0', g0'⟩, ids0, nx0⟩ := x
      obtain ⟨kd, ⟨ts3, k3, m3, g3⟩, ids3, id3⟩ := er
      simp only [StD, Rcd] at hP
      rw [LpB_eq]
      simp only [t221, StB]
      conv => lhs; arg 6; simp [b221_0, hll, hgi, hw, z, RcE.d, Rcd, hP, wN, zb, u30, u31, u32, u33, u34]
      simp [u30, u31, u32, u33, u34]
end Go.Ab
/- THE FUNCTIONS' EQUATIONS: thresherlaw17.ReplayTorn, the whole. (printed by mk226.py) -/
set_option linter.all false
set_option maxRecDepth 100000
namespace Go.Ab
open Go.Proofs Go.Proofs.YtdopbfjebjnpkaaH Go.Proofs.YtdopbfjebjnpkaaH.Crc Go.Proofs.YtdopbfjebjnpkaaH.Var Go.Proofs.YtdopbfjebjnpkaaH.Fr Go.Proofs.YtdopbfjebjnpkaaH.Rec
attribute [local simp] op_or op_an op_add op_sub op_mul oq_eql oq_neq oq_lss oq_gtr oq_leq oq_geq
attribute [-simp] intOp bin_shl
theorem madeI_len (s : ScV) (l : List B3) : (madeI s l).length ≤ 1 + l.length := by
  unfold madeI
  have := madeL_len l (s, [], 0)
  simp only [List.length_cons]
  omega
theorem applyI_sch {x : StV} {r : RecV} (h : x.1.1.length ≤ 64) : (applyI x r).1.1.1.length ≤ 64 := by
  unfold applyI
  split
  · exact h
  · rename_i hm
    have hm1 : mayOf r = true := by simpa using hm
    split
    · split
      · exact (mayOf_len hm1).1
      · exact h
    · split
      · exact h
      · split
        · split <;> exact h
        · split <;> exact h
theorem tornR_sch : ∀ (rs : List RecV) (k : Nat) (s : StV), s.1.1.length ≤ 64 ∧ s.2.1.length ≤ 40 → (tornR rs k s).1.1.1.length ≤ 64 ∧ (tornR rs k s).1.2.1.length ≤ 40
  | [], k, s, h => h
  | r :: t, k, s, h => by
    unfold tornR
    split
    · exact tornR_sch t _ _ ⟨applyI_sch h.1, applyI_len h.2⟩
    · exact h
theorem stR_sch : ∀ (rs : List RecV) (s : StV), s.1.1.length ≤ 64 ∧ s.2.1.length ≤ 40 → (stR s rs).1.1.length ≤ 64 ∧ (stR s rs).2.1.length ≤ 40
  | [], s, h => h
  | r :: t, s, h => stR_sch t _ ⟨applyI_sch h.1, applyI_len h.2⟩
set_option maxHeartbeats 8000000 in
theorem R221 (a0 a1 a2 a3 a4 a5 a6 a7 n0 k0 m0 g0 : Int) (hts : ∀ x ∈ [a0, a1, a2, a3, a4, a5, a6, a7], 0 ≤ x ∧ x < 256) (hn : 0 ≤ n0 ∧ n0 < 256) (hk : 0 ≤ k0 ∧ k0 < 256) (hm : 0 ≤ m0 ∧ m0 < 256) (hg : 0 ≤ g0 ∧ g0 < 256) (v30 v31 v32 v33 v34 : D) (u30 : v30.keys = []) (u31 : v31.keys = []) (u32 : v32.keys = []) (u33 : v33.keys = []) (u34 : v34.keys = []) (c : Bool) (s : Nat) (l : List B3) (at_ : Int) (hs : s = 3 ∨ l = []) (hl : l.length ≤ 30) (hB : ∀ x ∈ l, (0 ≤ x.1 ∧ x.1 < 256) ∧ (0 ≤ x.2.1 ∧ x.2.1 < 256) ∧ (0 ≤ x.2.2 ∧ x.2.2 < 256)) (hat : 0 ≤ at_ ∧ at_ < 65536) :
    finK false 0 [.tmp 6] (Ek cf0 K0 [.c r221] ⟨[.agg [.int .u8 a0, .int .u8 a1, .int .u8 a2, .int .u8 a3, .int .u8 a4, .int .u8 a5, .int .u8 a6, .int .u8 a7, .int .u8 n0, .int .u8 k0, .int .u8 m0, .int .u8 g0], .slc c s (l.map B3.d), .int .u16 at_, .ptr 0 0 0 0, .undef, .undef, .bool false, .bool true, .undef, .undef, .undef, .undef, .undef, .undef, .undef, .undef, .undef, .undef, .undef, .undef, .undef, .undef, .undef, .undef, .undef, .undef, .undef, .undef, .undef, .bool true, v30, v31, v32, v33, v34, .undef, .undef, .undef, .undef, .undef, .undef, .undef, .undef, .undef, .undef, .undef, .undef, .undef, .undef, .undef, .undef, .undef, .undef, .undef, .undef, .undef, .undef, .undef, .undef, .undef, .undef, .undef, .undef, .undef, .undef, .undef, .undef, .undef, .undef, .undef, .undef, .undef, .undef, .undef, .undef, .undef, .undef, .undef, .undef, .undef, .undef, .undef, .undef, .undef, .undef, .undef, .undef, .undef, .undef, .undef, .undef, .undef, .undef, .undef, .undef, .undef, .undef, .undef, .undef, .undef, .undef, .undef, .undef, .undef, .undef, .undef, .undef, .undef, .undef, .undef, .undef, .undef, .undef, .undef, .undef, .undef, .undef, .undef, .undef, .undef, .undef, .undef, .undef, .undef, .undef, .undef, .undef, .undef, .undef, .undef, .undef, .undef, .undef, .undef, .undef, .undef, .undef, .undef, .undef, .undef, .undef, .undef, .undef, .undef, .undef, .undef, .undef, .undef, .undef, .undef, .undef, .undef, .undef, .undef, .undef, .undef, .undef, .undef, .undef, .undef, .undef, .undef, .undef, .undef], [.box [.int .u8 a0, .int .u8 a1, .int .u8 a2, .int .u8 a3, .int .u8 a4, .int .u8 a5, .int .u8 a6, .int .u8 a7, .int .u8 n0, .int .u8 k0, .int .u8 m0, .int .u8 g0]]⟩) = some (.bool true, []) := by
  have hM := K217 [a0, a1, a2, a3, a4, a5, a6, a7] n0 k0 m0 g0 hts hn hk hm hg rfl
  have hok := madeS_ok (n := n0) (k := k0) (m := m0) (g := g0) hts rfl hk.1
  generalize madeS [a0, a1, a2, a3, a4, a5, a6, a7] n0 k0 m0 g0 = M at *
  obtain ⟨mts, mk, mm, mg⟩ := M
  simp only [List.map_cons, List.map_nil, List.cons_append, List.nil_append] at hM hok
  obtain ⟨acc, hacc, hR⟩ := K215 false 1 mts mk mm mg c s l (.inl rfl) hs (by omega) hB
  have hfit := madeI_fits (s := (mts, mk, mm, mg)) hok l
  have hml := madeI_len (mts, mk, mm, mg) l
  rw [← hacc] at hfit hml
  rw [List.length_map] at hml
  have hmay : ∀ e ∈ acc, mayOf e.r = true := fun e he => fitsR_may _ _ _ hfit _ (List.mem_map_of_mem he)
  have hA := K216 false 7 acc (.inl rfl) (by omega) (fun e he => by have := mayOf_len (hmay e he); omega)
  have hpl := putsR_len (acc.map RcE.r)
  rw [List.length_map] at hpl
  have hpB := isB_putsR (acc.map RcE.r)
  have hpos : 0 < (putsR (acc.map RcE.r)).length := by
    rw [hacc]
    unfold madeI
    have hm1 : mayOf (1, (mts, mk, mm, mg), [], 0) = true := applyI_may (x := noSt) (by rw [applyI_head hok])
    rw [putsR_cons hm1, List.length_append]
    have := recOf_len hm1
    omega
  have hall := allI_all hfit
  have htorn := fun k hk => allI_torn hfit k hk
  generalize hal : putsR (acc.map RcE.r) = al at *
  have w1 : IntKind.i64.wrap at_ = at_ := by rw [IntKind.wrap_i64]; omega
  have w2 : IntKind.i64.wrap ((al.length : Int) + 1) = (al.length : Int) + 1 := w64 _ (by omega)
  have k1 := Int.emod_nonneg at_ (show (al.length : Int) + 1 ≠ 0 by omega)
  have k2 := Int.emod_lt_of_pos at_ (show 0 < (al.length : Int) + 1 by omega)
  obtain ⟨k, hkk⟩ : ∃ k : Nat, at_ % ((al.length : Int) + 1) = k := ⟨(at_ % ((al.length : Int) + 1)).toNat, by omega⟩
  rw [hkk] at k1 k2
  have q : intOp .rem .i64 at_ ((al.length : Int) + 1) = some (.int .i64 k) := by rw [← hkk]; exact rem_pos hat.1 (by omega)
  have b1 : k ≤ al.length := by omega
  have b2 : (k : Int) ≤ al.length := by omega
  have ht := htorn k b1
  have hle := tornR_le (acc.map RcE.r) k noSt
  have hBk : isB (al.take k) := isB_take hpB k
  obtain ⟨p1, p2, p3, p4, x1, x2, hAll⟩ := K200 (false && k == al.length) 1 (al.take k) (.inl rfl) (by rw [List.length_take]; omega) hBk
  rw [ht] at hAll x1 x2
  obtain ⟨i', d3, u3, d4, u4, y1, y2, hLoop⟩ := L221 a0 a1 a2 a3 a4 a5 a6 a7 n0 k0 m0 g0 v30 v31 v32 v33 v34 c s l at_ mts mk mm mg acc al k (tornR (acc.map RcE.r) k noSt).2 (ltI 0 ((tornR (acc.map RcE.r) k noSt).2 : Int)) (tornR (acc.map RcE.r) k noSt).1 p1 p2 p3 p4 u30 u31 u32 u33 u34 (by omega) hmay (by omega) acc [] 0 0 true noSt true 0 true 0 rfl rfl (Nat.zero_le _) hfit (.inr rfl) (.inr rfl) (by simp [noSt])
  rw [Nat.sub_zero, Nat.zero_add] at hLoop
  rw [Nat.sub_zero] at y1 y2
  have e3 : ((al.take k).length - (((al.take k).drop (tornR (acc.map RcE.r) k noSt).2).length) : Nat) = (tornR (acc.map RcE.r) k noSt).2 := by
    rw [List.length_drop, List.length_take]; omega
  dsimp only at hAll x1 x2
  rw [e3] at hAll
  clear e3 ht htorn
  have hsch := tornR_sch (acc.map RcE.r) k noSt (by simp [noSt, noSc])
  have hsch2 := stR_sch (acc.map RcE.r) noSt (by simp [noSt, noSc])
  generalize tornR (acc.map RcE.r) k noSt = Q at *
  obtain ⟨y, n⟩ := Q
  dsimp only at hle hLoop hAll x1 x2 y1 y2 hsch
  have hSame : K0 15 [StD y p1 p2 p3 p4, StD y d3 u3 d4 u4] [] = some (.bool true, []) := by
    have := K214 y y p1 p2 p3 p4 d3 u3 d4 u4 x1 x2 y1 y2 (by omega) (by omega)
    simpa using this
  obtain ⟨r1, r2, r3, r4, z1, z2, hFull⟩ := K200 false 1 al (.inl rfl) (by omega) hpB
  rw [hall] at hFull z1 z2
  generalize stR noSt (acc.map RcE.r) = w at *
  have hSame2 : K0 15 [StD w r1 r2 r3 r4, StD w r1 r2 r3 r4] [] = some (.bool true, []) := by
    have := K214 w w r1 r2 r3 r4 r1 r2 r3 r4 z1 z2 z1 z2 (by omega) (by omega)
    simpa using this
  simp only [List.length_nil, Nat.sub_zero] at hFull
  have zal := ltI_t (show (0 : Int) < al.length by omega)
  have ee1 : eqI (al.length : Int) al.length = true := eqI_t rfl
  have een : eqI (n : Int) n = true := eqI_t rfl
  have bn1 : n ≤ al.length := by omega
  have bn2 : (n : Int) ≤ al.length := by omega
  obtain ⟨P1, hP1⟩ : ∃ P1, al.take n = P1 := ⟨_, rfl⟩
  obtain ⟨P2, hP2⟩ : ∃ P2, al.drop n = P2 := ⟨_, rfl⟩
  have hPP : P1 ++ P2 = al := by rw [← hP1, ← hP2, List.take_append_drop]
  have mt : List.take n (al.map (D.int .u8)) = P1.map (D.int .u8) := by rw [← hP1]; simp [List.map_take]
  have md : List.drop n (al.map (D.int .u8)) = P2.map (D.int .u8) := by rw [← hP2]; simp [List.map_drop]
  obtain ⟨AK, hAK⟩ : ∃ AK, al.take k = AK := ⟨_, rfl⟩
  have mk' : List.take k (al.map (D.int .u8)) = AK.map (D.int .u8) := by rw [← hAK]; simp [List.map_take]
  rw [hAK] at hAll
  have hPm : P1.map (D.int .u8) ++ P2.map (D.int .u8) = al.map (D.int .u8) := by rw [← hPP]; simp
  have bl1 : P1.length ≤ 70368744177664 := by rw [← hP1]; simp; omega
  have bl2 : P1.length + P2.length ≤ 70368744177664 := by have := congrArg List.length hPP; simp at this; omega
  have bl3 : P2.length ≤ 70368744177664 := by omega
  simp only [StD, Sd, Bool.false_and] at hAll hR hA hM
  simp only [t221, StB, noSt, noSc] at hLoop
  simp only [StD] at hSame hFull hSame2
  simp [r221, hM, hR, hA, w1, w2, q, b1, b2, mk', hAll]
  simp [mk'] at hLoop
  rw [hLoop]
  by_cases hn0 : n = 0
  · subst hn0
    have z0 : ltI 0 0 = false := rfl
    have z0' : eqI 0 0 = true := rfl
    have e1 : P1 = [] := by rw [← hP1]; rfl
    have e2 : P2 = al := by rw [← hP2]; rfl
    subst e1 e2
    have hne : ¬ P2 = [] := by intro e; rw [e] at hpos; simp at hpos
    simp [mt, md, hne, bl3, hSame, hFull, z0, z0', evOp, evM, wants, Ins.go, X.ev, iaM, ldM, binD, setD, applyW, Ek_ops_nil, allFree, free, callM, callP, callO, appM]
  · have zn := ltI_t (show (0 : Int) < n by omega)
    have zn' : eqI (n : Int) 0 = false := eqI_f (by omega)
    have hne : ¬ P1 = [] := by intro e; have := congrArg List.length hP1; rw [e, List.length_take, List.length_nil] at this; omega
    by_cases hn2 : P2 = []
    · subst hn2
      rw [List.append_nil] at hPP
      subst hPP
      simp [mt, md, hne, bn1, bn2, bl1, hSame, hSame2, hFull, zn, zn', zal, een, ee1, evOp, evM, wants, Ins.go, X.ev, iaM, ldM, binD, setD, applyW, Ek_ops_nil, allFree, free, callM, callP, callO, appM]
    · have hlen : P1.length + P2.length = al.length := by rw [← hPP, List.length_append]
      have bl4 : al.length ≤ 70368744177664 := by omega
      simp [mt, md, hne, hn2, bn1, bn2, bl1, bl4, hlen, List.take_of_length_le, hSame, hSame2, hFull, zn, zn', zal, een, ee1, hPm, evOp, evM, wants, Ins.go, X.ev, iaM, ldM, binD, setD, applyW, Ek_ops_nil, allFree, free, callM, callP, callO, appM]
end Go.Ab
/- PLAIN: numbers of a state are unlike, and below the next one. -/
set_option linter.all false
namespace Go.Ab
open Go.Proofs Go.Proofs.YtdopbfjebjnpkaaH Go.Proofs.YtdopbfjebjnpkaaH.Crc Go.Proofs.YtdopbfjebjnpkaaH.Var Go.Proofs.YtdopbfjebjnpkaaH.Fr Go.Proofs.YtdopbfjebjnpkaaH.Rec
/-- Numbers that are unlike, and below the next one. -/
def okT (s : StV) : Prop := s.2.1.Nodup ∧ ∀ x ∈ s.2.1, 0 ≤ x ∧ x < s.2.2
theorem unl_of {l : List Int} {n : Int} (h : l.Nodup) (h2 : ∀ x ∈ l, x < n) : unl l n = true := by
  unfold unl
  rw [Bool.and_eq_true, decide_eq_true_eq, List.all_eq_true]
  exact ⟨h, fun x hx => by simpa using h2 x hx⟩
theorem unl_to {l : List Int} {n : Int} (h : unl l n = true) : l.Nodup ∧ ∀ x ∈ l, x < n := by
  unfold unl at h
  rw [Bool.and_eq_true, decide_eq_true_eq, List.all_eq_true] at h
  exact ⟨h.1, fun x hx => by simpa using h.2 x hx⟩
theorem okT_apply {s : StV} (h : okT s) (r : RecV) : okT (applyI s r).1 := by
  unfold applyI
  split
  · exact h
  · rename_i hm
    have hm1 : mayOf r = true := by simpa using hm
    have hmm := mayI_some hm1
    split
    · split
      · rename_i hu
        have hu := unl_to hu
        exact ⟨hu.1, fun x hx => ⟨(hmm.2.2.2 x hx).1, hu.2 x hx⟩⟩
      · exact h
    · split
      · exact h
      · rename_i hlt
        have hnew : r.2.2.2 ∉ s.2.1 := fun hx => by have := h.2 _ hx; omega
        have hall : ∀ x ∈ s.2.1, 0 ≤ x ∧ x < r.2.2.2 + 1 := fun x hx => by have := h.2 x hx; omega
        split
        · split
          · refine ⟨?_, fun x hx => ?_⟩
            · show (s.2.1 ++ [r.2.2.2]).Nodup
              rw [List.nodup_append]
              refine ⟨h.1, by simp, fun a ha b hb => ?_⟩
              rw [List.mem_singleton.1 hb]
              rintro rfl
              exact hnew ha
            · rcases List.mem_append.1 hx with hx | hx
              · exact hall x hx
              · rw [List.mem_singleton.1 hx]
                have := hmm.2.2.1
                show 0 ≤ r.2.2.2 ∧ r.2.2.2 < r.2.2.2 + 1
                omega
          · exact h
        · split
          · rename_i a ha
            have hsub1 : (s.2.1.drop (a + r.2.2.1.length)).Sublist (s.2.1.drop a) := by
              rw [← List.drop_drop]; exact List.drop_sublist _ _
            have h0 := h.1
            rw [← List.take_append_drop a s.2.1, List.nodup_append] at h0
            refine ⟨?_, fun x hx => ?_⟩
            · show (s.2.1.take a ++ r.2.2.2 :: s.2.1.drop (a + r.2.2.1.length)).Nodup
              rw [List.nodup_append]
              refine ⟨h0.1, List.nodup_cons.2 ⟨fun hx => hnew (List.mem_of_mem_drop hx), hsub1.nodup h0.2.1⟩, fun x hx y hy => ?_⟩
              rcases List.mem_cons.1 hy with rfl | hy
              · rintro rfl; exact hnew (List.mem_of_mem_take hx)
              · exact h0.2.2 x hx y (hsub1.mem hy)
            · rcases List.mem_append.1 hx with hx | hx
              · exact hall x (List.mem_of_mem_take hx)
              · rcases List.mem_cons.1 hx with rfl | hx
                · have := hmm.2.2.1
                  show 0 ≤ r.2.2.2 ∧ r.2.2.2 < r.2.2.2 + 1
                  omega
                · exact hall x (List.mem_of_mem_drop hx)
          · exact h
theorem okT_st : ∀ (rs : List RecV) (s : StV), okT s → okT (stR s rs)
  | [], s, h => h
  | r :: t, s, h => okT_st t _ (okT_apply h r)
/-- A step of Made: the schema stays, there is at most one number more, and the next one is at most two more. -/
theorem madeR_step (st : StV) (x : B3) : (applyI st (madeR st x)).1.1 = st.1 ∧ (applyI st (madeR st x)).1.2.1.length ≤ st.2.1.length + 1 ∧ (applyI st (madeR st x)).1.2.2 ≤ max st.2.2 (st.2.2 + 2) := by
  have hk : (madeR st x).1 ≠ 1 := by unfold madeR; split <;> simp
  have hid : (madeR st x).2.2.2 ≤ st.2.2 + 1 := by
    unfold madeR
    split
    · simp only; omega
    · simp only; omega
  have same : (st, false).1.1 = st.1 ∧ (st, false).1.2.1.length ≤ st.2.1.length + 1 ∧ (st, false).1.2.2 ≤ max st.2.2 (st.2.2 + 2) := by
    refine ⟨rfl, ?_, ?_⟩ <;> dsimp only <;> omega
  unfold applyI
  by_cases hm : mayOf (madeR st x) = false
  · rw [if_pos hm]; exact same
  · rw [if_neg hm, if_neg hk]
    split
    · exact same
    · split
      · split
        · exact ⟨rfl, by simp, by dsimp only; omega⟩
        · exact same
      · split
        · refine ⟨rfl, ?_, by dsimp only; omega⟩
          simp
          omega
        · exact same
theorem madeL_bounds : ∀ (l : List B3) (st : StV), (stR st (madeL l st)).1 = st.1 ∧ (stR st (madeL l st)).2.1.length ≤ st.2.1.length + l.length ∧ (stR st (madeL l st)).2.2 ≤ st.2.2 + 2 * l.length
  | [], st => ⟨rfl, by simp [madeL, stR], by simp [madeL, stR]⟩
  | x :: t, st => by
    obtain ⟨h1, h2, h3⟩ := madeR_step st x
    unfold madeL
    split
    · obtain ⟨q1, q2, q3⟩ := madeL_bounds t (applyI st (madeR st x)).1
      simp only [stR, List.length_cons]
      exact ⟨q1.trans h1, by omega, by omega⟩
    · obtain ⟨q1, q2, q3⟩ := madeL_bounds t st
      simp only [List.length_cons]
      exact ⟨q1, by omega, by omega⟩
/-- What a log of any numbers says. -/
theorem madeI_st {s : ScV} (h : schemaOk s.1 s.2.1 s.2.2.1 s.2.2.2 = true) (l : List B3) : (stR noSt (madeI s l)).1 = s ∧ (stR noSt (madeI s l)).2.1.length ≤ l.length ∧ (stR noSt (madeI s l)).2.2 ≤ 2 * l.length ∧ 0 ≤ (stR noSt (madeI s l)).2.2 ∧ okT (stR noSt (madeI s l)) := by
  have e : stR noSt (madeI s l) = stR (s, [], 0) (madeL l (s, [], 0)) := by
    unfold madeI
    simp only [stR]
    rw [applyI_head h]
  have hb := madeL_bounds l (s, [], 0)
  have ho : okT (stR (s, [], 0) (madeL l (s, [], 0))) := okT_st _ _ ⟨List.nodup_nil, fun x hx => by cases hx⟩
  rw [e]
  refine ⟨hb.1, by simpa using hb.2.1, by simpa using hb.2.2, ?_, ho⟩
  have : ∀ (rs : List RecV) (s : StV), 0 ≤ s.2.2 → 0 ≤ (stR s rs).2.2 := by
    intro rs
    induction rs with
    | nil => exact fun s h => h
    | cons r t ih =>
      intro s h
      refine ih _ ?_
      unfold applyI
      split
      · exact h
      · rename_i hm
        have hm1 : mayOf r = true := by simpa using hm
        have hi := (mayI_some hm1).2.2.1
        split
        · split
          · simp only; omega
          · exact h
        · split
          · exact h
          · split
            · split
              · simp only; omega
              · exact h
            · split
              · simp only; omega
              · exact h
  exact this _ _ (Int.le_refl 0)
/-- The head of a state is a log of it. -/
theorem head_fits {y : StV} (hs : schemaOk y.1.1 y.1.2.1 y.1.2.2.1 y.1.2.2.2 = true) (ho : okT y) (hl : y.2.1.length ≤ 40) (hn : 0 ≤ y.2.2 ∧ y.2.2 ≤ 999998) :
    mayOf (1, y.1, y.2.1, y.2.2) = true ∧ applyI noSt (1, y.1, y.2.1, y.2.2) = (y, true) := by
  have hm : mayOf (1, y.1, y.2.1, y.2.2) = true := by
    unfold mayOf mayI
    simp only
    rw [if_pos trivial, hs, Bool.and_true, Bool.not_eq_true', Bool.or_eq_false_iff, Bool.or_eq_false_iff]
    refine ⟨⟨?_, by simp; omega⟩, ?_⟩
    · rw [odd_iff]; omega
    · rw [List.any_eq_false]
      intro x hx
      have := ho.2 x hx
      rw [Bool.not_eq_true, odd_iff]
      omega
  refine ⟨hm, ?_⟩
  unfold applyI
  rw [hm, if_neg (by decide), if_pos rfl]
  simp only
  rw [if_pos (unl_of ho.1 (fun x hx => (ho.2 x hx).2))]
end Go.Ab
/- THE FUNCTIONS' EQUATIONS: thresherlaw17.few. -/
set_option linter.all false
set_option maxRecDepth 100000
namespace Go.Ab
open Go.Proofs Go.Proofs.YtdopbfjebjnpkaaH Go.Proofs.YtdopbfjebjnpkaaH.Crc Go.Proofs.YtdopbfjebjnpkaaH.Var Go.Proofs.YtdopbfjebjnpkaaH.Fr Go.Proofs.YtdopbfjebjnpkaaH.Rec
def c218 : Fn' := ⟨23, [(.cell 2 (some 7))], (.seq (.reg none [⟨(some 1), none, (.box false (.t 0))⟩, ⟨(some 2), none, (.alloc false [(.int .i64 0), nilS, (.int .i64 0), (.int .i64 0), (.int .i64 0), nilS, (.int .i64 0)])⟩]) (.seq (.seq (.reg none [⟨(some 3), none, (.fa 5 1 false (.t 1))⟩, ⟨(some 4), none, (.ld none (.t 3))⟩, ⟨(some 5), none, (.len 1 (.t 4))⟩, ⟨(some 6), none, (.bin .gtr [] (.t 5) (.k (.int .i64 45)))⟩]) (.cond (.t 6) (.reg none [⟨(some 7), none, (.fa 5 1 false (.t 1))⟩, ⟨(some 8), none, (.ld none (.t 7))⟩, ⟨(some 9), none, (.sub 1 1 (.t 8) none (some (.k (.int .i64 45))) none)⟩, ⟨(some 10), none, (.fa 5 1 false (.t 1))⟩, ⟨none, none, (.st 1 (.t 10) (.t 9))⟩]) .skip)) (.seq (.seq (.reg none [⟨(some 11), none, (.fa 1 4 true (.t 1))⟩, ⟨(some 12), none, (.fa 0 1 false (.t 11))⟩, ⟨(some 13), none, (.ld none (.t 12))⟩, ⟨(some 14), none, (.len 1 (.t 13))⟩, ⟨(some 15), none, (.bin .gtr [] (.t 14) (.k (.int .i64 10)))⟩]) (.cond (.t 15) (.reg none [⟨(some 16), none, (.fa 1 4 true (.t 1))⟩, ⟨(some 17), none, (.fa 0 1 false (.t 16))⟩, ⟨(some 18), none, (.ld none (.t 17))⟩, ⟨(some 19), none, (.sub 1 1 (.t 18) none (some (.k (.int .i64 10))) none)⟩, ⟨(some 20), none, (.fa 1 4 true (.t 1))⟩, ⟨(some 21), none, (.fa 0 1 false (.t 20))⟩, ⟨none, none, (.st 1 (.t 21) (.t 19))⟩]) .skip)) (.seq (.reg none [⟨(some 22), none, (.ld (some 7) (.t 1))⟩, ⟨none, none, (.st 7 (.t 2) (.t 22))⟩]) .ret))))⟩
theorem k218 : compF Try.prog 16 = some c218 := by kernel_rfl
attribute [local simp] op_or op_an op_add op_sub op_mul oq_eql oq_neq oq_lss oq_gtr oq_leq oq_geq
attribute [-simp] intOp bin_shl
/-- A record of few numbers. -/
def fewR (r : RecV) : RecV := (r.1, (r.2.1.1.take 10, r.2.1.2), r.2.2.1.take 45, r.2.2.2)
set_option maxHeartbeats 4000000 in
theorem K218 (kd : Int) (c : Bool) (ts : List Int) (k m g : Int) (c' : Bool) (ids : List Int) (id : Int) : ∃ c1 c2, K0 16 [Rcd kd c 1 ts k m g c' 1 ids id] [] = some (Rcd kd c1 1 (ts.take 10) k m g c2 1 (ids.take 45) id, []) := by
  obtain ⟨t, ht⟩ : ∃ t, ts.take 10 = t := ⟨_, rfl⟩
  obtain ⟨i, hi⟩ : ∃ i, ids.take 45 = i := ⟨_, rfl⟩
  have m1 : List.take 10 (ts.map (D.int .i64)) = t.map (D.int .i64) := by rw [← ht]; simp [List.map_take]
  have m2 : List.take 45 (ids.map (D.int .i64)) = i.map (D.int .i64) := by rw [← hi]; simp [List.map_take]
  rw [ht, hi]
  by_cases h1 : 45 < (ids.length : Int)
  · have z1 := ltI_t h1
    have b1 : (45 : Int) ≤ ids.length := by omega
    by_cases h2 : 10 < (ts.length : Int)
    · have z2 := ltI_t h2
      have b2 : (10 : Int) ≤ ts.length := by omega
      refine ⟨(c && 10 == ts.length), (c' && 45 == ids.length), K_call k218 (oraG_none (by decide) (by decide)) (by simp [c218, Rcd]) ?_⟩
      simp [c218, Rcd, z1, z2, b1, b2, m1, m2]
    · have z2 := ltI_f h2
      obtain rfl : ts = t := by rw [← ht, List.take_of_length_le (by omega)]
      refine ⟨c, (c' && 45 == ids.length), K_call k218 (oraG_none (by decide) (by decide)) (by simp [c218, Rcd]) ?_⟩
      simp [c218, Rcd, z1, z2, b1, m1, m2]
  · have z1 := ltI_f h1
    obtain rfl : ids = i := by rw [← hi, List.take_of_length_le (by omega)]
    by_cases h2 : 10 < (ts.length : Int)
    · have z2 := ltI_t h2
      have b2 : (10 : Int) ≤ ts.length := by omega
      refine ⟨(c && 10 == ts.length), c', K_call k218 (oraG_none (by decide) (by decide)) (by simp [c218, Rcd]) ?_⟩
      simp [c218, Rcd, z1, z2, b2, m1, m2]
    · have z2 := ltI_f h2
      obtain rfl : ts = t := by rw [← ht, List.take_of_length_le (by omega)]
      refine ⟨c, c', K_call k218 (oraG_none (by decide) (by decide)) (by simp [c218, Rcd]) ?_⟩
      simp [c218, Rcd, z1, z2, m1, m2]
end Go.Ab
