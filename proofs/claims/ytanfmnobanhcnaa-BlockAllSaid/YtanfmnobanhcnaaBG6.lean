/- THE FUNCTIONS' EQUATIONS: thresherref07: Put, Take; thresherlaw07.BlockAll. -/
import Derived.Test.YtanfmnobanhcnaaBG3
import Derived.Test.YtanfmnobanhcnaaBF10
import Derived.Test.YtanfmnobanhcnaaBF79
set_option linter.all false
set_option maxRecDepth 100000
namespace Go.Ab
open Go.Proofs Go.Proofs.YtanfmnobanhcnaaH Go.Proofs.YtanfmnobanhcnaaH.Crc Go.Proofs.YtanfmnobanhcnaaH.Var Go.Proofs.YtanfmnobanhcnaaH.Fr
def b27_0 : C := (.seq (.seq (.reg none [⟨(some 23), none, (.mv (.t 8))⟩, ⟨(some 24), none, (.mv (.t 1))⟩, ⟨(some 25), none, (.len 1 (.t 24))⟩, ⟨(some 26), none, (.bin .lss [] (.t 23) (.t 25))⟩]) (.cond (.t 26) .skip (.exit 0))) (.seq (.block 1 (.seq (.reg none [⟨(some 29), none, (.mv (.t 0))⟩, ⟨(some 30), none, (.mv (.t 1))⟩, ⟨(some 31), none, (.mv (.t 8))⟩, ⟨(some 32), none, (.ia none 2 true (.t 30) (.t 31))⟩, ⟨(some 33), none, (.ld (some 2) (.t 32))⟩, ⟨(some 34), none, (.call (.f 31) [(.t 29), (.t 33)])⟩, ⟨(some 9), none, (.mv (.t 34))⟩]) (.seq (.seq (.reg none [⟨(some 35), none, (.mv (.t 9))⟩, ⟨(some 36), none, (.un .not (.t 35))⟩]) (.cond (.t 36) (.seq (.reg none [⟨(some 4), none, (.mv (.k nilS))⟩, ⟨(some 5), none, (.mv (.k (.bool false)))⟩]) .ret) .skip)) (.seq (.reg none [⟨(some 37), none, (.mv (.t 6))⟩, ⟨(some 38), none, (.mv (.t 1))⟩, ⟨(some 39), none, (.mv (.t 8))⟩, ⟨(some 40), none, (.ia none 2 true (.t 38) (.t 39))⟩, ⟨(some 41), none, (.fa 0 1 false (.t 40))⟩, ⟨(some 42), none, (.ld none (.t 41))⟩, ⟨(some 43), none, (.bsl false 1 1 [(.int .i64 0)] [(0, (.t 42))])⟩, ⟨(some 44), none, (.app 1 8 (.t 37) (.t 43))⟩, ⟨(some 6), none, (.mv (.t 44))⟩]) (.reg none [⟨(some 45), none, (.mv (.t 7))⟩, ⟨(some 46), none, (.mv (.t 1))⟩, ⟨(some 47), none, (.mv (.t 8))⟩, ⟨(some 48), none, (.ia none 2 true (.t 46) (.t 47))⟩, ⟨(some 49), none, (.fa 1 1 false (.t 48))⟩, ⟨(some 50), none, (.ld none (.t 49))⟩, ⟨(some 51), none, (.bsl false 1 1 [(.str [])] [(0, (.t 50))])⟩, ⟨(some 52), none, (.app 1 16 (.t 45) (.t 51))⟩, ⟨(some 7), none, (.mv (.t 52))⟩]))))) (.reg none [⟨(some 27), none, (.mv (.t 8))⟩, ⟨(some 28), none, (.bin .add [] (.t 27) (.k (.int .i64 1)))⟩, ⟨(some 8), none, (.mv (.t 28))⟩])))
def r27 : C := (.seq (.seq (.reg none [⟨(some 53), none, (.mv (.t 0))⟩, ⟨(some 54), none, (.bin .eql [] (.t 53) (.k (.int .i64 3)))⟩]) (.cond (.t 54) (.seq (.reg none [⟨(some 55), none, (.mv (.t 0))⟩, ⟨(some 56), none, (.cvt (.int .u8) (.t 55))⟩, ⟨(some 57), none, (.bsl false 1 1 [(.int .u8 0)] [(0, (.t 56))])⟩, ⟨(some 58), none, (.mv (.t 7))⟩, ⟨(some 59), none, (.call (.f 61) [(.t 58)])⟩, ⟨(some 60), none, (.app 1 1 (.t 57) (.t 59))⟩, ⟨(some 61), none, (.call (.f 23) [(.t 60)])⟩, ⟨(some 4), none, (.mv (.t 61))⟩, ⟨(some 5), none, (.mv (.k (.bool true)))⟩]) .ret) .skip)) (.seq (.reg none [⟨(some 62), none, (.mv (.t 0))⟩, ⟨(some 63), none, (.cvt (.int .u8) (.t 62))⟩, ⟨(some 64), none, (.bsl false 1 1 [(.int .u8 0)] [(0, (.t 63))])⟩, ⟨(some 65), none, (.mv (.t 6))⟩, ⟨(some 66), none, (.call (.f 62) [(.t 65)])⟩, ⟨(some 67), none, (.app 1 1 (.t 64) (.t 66))⟩, ⟨(some 68), none, (.call (.f 23) [(.t 67)])⟩, ⟨(some 4), none, (.mv (.t 68))⟩, ⟨(some 5), none, (.mv (.k (.bool true)))⟩]) .ret))
def c27 : Fn' := ⟨69, [(.tmp 4), (.tmp 5)], (.seq (.reg none [⟨(some 4), none, (.mv (.k nilS))⟩, ⟨(some 5), none, (.mv (.k (.bool false)))⟩]) (.seq (.seq (.reg none [⟨(some 10), none, (.mv (.t 0))⟩, ⟨(some 11), none, (.bin .lss [] (.t 10) (.k (.int .i64 1)))⟩, ⟨(some 12), none, (.mv (.t 11))⟩, ⟨(some 13), (some ((some 12), false)), (.mv (.t 0))⟩, ⟨(some 14), (some ((some 12), false)), (.bin .gtr [] (.t 13) (.k (.int .i64 3)))⟩, ⟨(some 15), none, (.pick (.t 12) (.k (.bool true)) (.t 14))⟩, ⟨(some 16), none, (.mv (.t 15))⟩, ⟨(some 17), (some ((some 16), false)), (.mv (.t 1))⟩, ⟨(some 18), (some ((some 16), false)), (.len 1 (.t 17))⟩, ⟨(some 19), (some ((some 16), false)), (.bin .gtr [] (.t 18) (.k (.int .i64 2000)))⟩, ⟨(some 20), none, (.pick (.t 16) (.k (.bool true)) (.t 19))⟩]) (.cond (.t 20) (.seq (.reg none [⟨(some 4), none, (.mv (.k nilS))⟩, ⟨(some 5), none, (.mv (.k (.bool false)))⟩]) .ret) .skip)) (.seq (.reg none [⟨(some 21), none, (.bsl true 1 0 [(.int .i64 0)] [])⟩, ⟨(some 6), none, (.mv (.t 21))⟩]) (.seq (.reg none [⟨(some 22), none, (.bsl true 1 0 [(.str [])] [])⟩, ⟨(some 7), none, (.mv (.t 22))⟩]) (.seq (.seq (.reg none [⟨(some 8), none, (.mv (.k (.int .i64 0)))⟩]) (.block 0 (.loop b27_0))) r27)))))⟩
theorem k27 : compF Try.prog 27 = some c27 := by kernel_rfl
def b29_0 : C := (.seq (.seq (.reg none [⟨(some 82), none, (.mv (.t 16))⟩, ⟨(some 83), none, (.mv (.t 14))⟩, ⟨(some 84), none, (.len 1 (.t 83))⟩, ⟨(some 85), none, (.bin .lss [] (.t 82) (.t 84))⟩]) (.cond (.t 85) .skip (.exit 2))) (.seq (.block 3 (.reg none [⟨(some 88), none, (.mv (.t 10))⟩, ⟨(some 89), none, (.mv (.t 14))⟩, ⟨(some 90), none, (.mv (.t 16))⟩, ⟨(some 91), none, (.ia none 1 false (.t 89) (.t 90))⟩, ⟨(some 92), none, (.ld none (.t 91))⟩, ⟨(some 93), none, (.bld [(.int .i64 0), (.str [])] [(0, (1, (.t 92)))])⟩, ⟨(some 94), none, (.bsl false 2 1 [(.int .i64 0), (.str [])] [(0, (.t 93))])⟩, ⟨(some 95), none, (.app 2 24 (.t 88) (.t 94))⟩, ⟨(some 10), none, (.mv (.t 95))⟩])) (.reg none [⟨(some 86), none, (.mv (.t 16))⟩, ⟨(some 87), none, (.bin .add [] (.t 86) (.k (.int .i64 1)))⟩, ⟨(some 16), none, (.mv (.t 87))⟩])))
def b29_1 : C := (.seq (.seq (.reg none [⟨(some 57), none, (.mv (.t 13))⟩, ⟨(some 58), none, (.mv (.t 11))⟩, ⟨(some 59), none, (.len 1 (.t 58))⟩, ⟨(some 60), none, (.bin .lss [] (.t 57) (.t 59))⟩]) (.cond (.t 60) .skip (.exit 0))) (.seq (.block 1 (.reg none [⟨(some 63), none, (.mv (.t 10))⟩, ⟨(some 64), none, (.mv (.t 11))⟩, ⟨(some 65), none, (.mv (.t 13))⟩, ⟨(some 66), none, (.ia none 1 false (.t 64) (.t 65))⟩, ⟨(some 67), none, (.ld none (.t 66))⟩, ⟨(some 68), none, (.bld [(.int .i64 0), (.str [])] [(1, (1, (.t 67)))])⟩, ⟨(some 69), none, (.bsl false 2 1 [(.int .i64 0), (.str [])] [(0, (.t 68))])⟩, ⟨(some 70), none, (.app 2 24 (.t 63) (.t 69))⟩, ⟨(some 10), none, (.mv (.t 70))⟩])) (.reg none [⟨(some 61), none, (.mv (.t 13))⟩, ⟨(some 62), none, (.bin .add [] (.t 61) (.k (.int .i64 1)))⟩, ⟨(some 13), none, (.mv (.t 62))⟩])))
def r29 : C := (.seq (.seq (.reg none [⟨(some 46), none, (.mv (.t 0))⟩, ⟨(some 47), none, (.bin .eql [] (.t 46) (.k (.int .i64 3)))⟩]) (.cond (.t 47) (.seq (.reg none [⟨(some 49), none, (.mv (.t 7))⟩, ⟨(some 50), none, (.sub 1 1 (.t 49) (some (.k (.int .i64 1))) none none)⟩, ⟨(some 51), none, (.call (.f 64) [(.t 50)])⟩, ⟨(some 48), none, (.mv (.t 51))⟩, ⟨(some 52), none, (.ext (.t 48) 0)⟩, ⟨(some 53), none, (.ext (.t 48) 1)⟩, ⟨(some 11), none, (.mv (.t 52))⟩, ⟨(some 12), none, (.mv (.t 53))⟩]) (.seq (.seq (.reg none [⟨(some 54), none, (.mv (.t 12))⟩, ⟨(some 55), none, (.bin .neq [] (.t 54) (.k (.int .i64 0)))⟩]) (.cond (.t 55) (.seq (.reg none [⟨(some 56), none, (.mv (.t 12))⟩, ⟨(some 4), none, (.mv (.k nilS))⟩, ⟨(some 5), none, (.mv (.k (.int .i64 0)))⟩, ⟨(some 6), none, (.mv (.t 56))⟩]) .ret) .skip)) (.seq (.seq (.reg none [⟨(some 13), none, (.mv (.k (.int .i64 0)))⟩]) (.block 0 (.loop b29_1))) (.seq (.reg none [⟨(some 71), none, (.mv (.t 10))⟩, ⟨(some 72), none, (.mv (.t 8))⟩, ⟨(some 4), none, (.mv (.t 71))⟩, ⟨(some 5), none, (.mv (.t 72))⟩, ⟨(some 6), none, (.mv (.k (.int .i64 0)))⟩]) .ret)))) .skip)) (.seq (.reg none [⟨(some 74), none, (.mv (.t 7))⟩, ⟨(some 75), none, (.sub 1 1 (.t 74) (some (.k (.int .i64 1))) none none)⟩, ⟨(some 76), none, (.call (.f 65) [(.t 75)])⟩, ⟨(some 73), none, (.mv (.t 76))⟩, ⟨(some 77), none, (.ext (.t 73) 0)⟩, ⟨(some 78), none, (.ext (.t 73) 1)⟩, ⟨(some 14), none, (.mv (.t 77))⟩, ⟨(some 15), none, (.mv (.t 78))⟩]) (.seq (.seq (.reg none [⟨(some 79), none, (.mv (.t 15))⟩, ⟨(some 80), none, (.bin .neq [] (.t 79) (.k (.int .i64 0)))⟩]) (.cond (.t 80) (.seq (.reg none [⟨(some 81), none, (.mv (.t 15))⟩, ⟨(some 4), none, (.mv (.k nilS))⟩, ⟨(some 5), none, (.mv (.k (.int .i64 0)))⟩, ⟨(some 6), none, (.mv (.t 81))⟩]) .ret) .skip)) (.seq (.seq (.reg none [⟨(some 16), none, (.mv (.k (.int .i64 0)))⟩]) (.block 2 (.loop b29_0))) (.seq (.reg none [⟨(some 96), none, (.mv (.t 10))⟩, ⟨(some 97), none, (.mv (.t 8))⟩, ⟨(some 4), none, (.mv (.t 96))⟩, ⟨(some 5), none, (.mv (.t 97))⟩, ⟨(some 6), none, (.mv (.k (.int .i64 0)))⟩]) .ret)))))
def c29 : Fn' := ⟨98, [(.tmp 4), (.tmp 5), (.tmp 6)], (.seq (.reg none [⟨(some 4), none, (.mv (.k nilS))⟩, ⟨(some 5), none, (.mv (.k (.int .i64 0)))⟩, ⟨(some 6), none, (.mv (.k (.int .i64 0)))⟩]) (.seq (.reg none [⟨(some 18), none, (.mv (.t 1))⟩, ⟨(some 19), none, (.call (.f 44) [(.t 18)])⟩, ⟨(some 17), none, (.mv (.t 19))⟩, ⟨(some 20), none, (.ext (.t 17) 0)⟩, ⟨(some 21), none, (.ext (.t 17) 1)⟩, ⟨(some 22), none, (.ext (.t 17) 2)⟩, ⟨(some 7), none, (.mv (.t 20))⟩, ⟨(some 8), none, (.mv (.t 21))⟩, ⟨(some 9), none, (.mv (.t 22))⟩]) (.seq (.seq (.reg none [⟨(some 23), none, (.mv (.t 9))⟩, ⟨(some 24), none, (.bin .neq [] (.t 23) (.k (.int .i64 0)))⟩]) (.cond (.t 24) (.seq (.reg none [⟨(some 25), none, (.mv (.t 9))⟩, ⟨(some 4), none, (.mv (.k nilS))⟩, ⟨(some 5), none, (.mv (.k (.int .i64 0)))⟩, ⟨(some 6), none, (.mv (.t 25))⟩]) .ret) .skip)) (.seq (.seq (.reg none [⟨(some 26), none, (.mv (.t 7))⟩, ⟨(some 27), none, (.len 1 (.t 26))⟩, ⟨(some 28), none, (.bin .lss [] (.t 27) (.k (.int .i64 1)))⟩, ⟨(some 29), none, (.mv (.t 28))⟩, ⟨(some 30), (some ((some 29), false)), (.mv (.t 0))⟩, ⟨(some 31), (some ((some 29), false)), (.bin .lss [] (.t 30) (.k (.int .i64 1)))⟩, ⟨(some 32), none, (.pick (.t 29) (.k (.bool true)) (.t 31))⟩, ⟨(some 33), none, (.mv (.t 32))⟩, ⟨(some 34), (some ((some 33), false)), (.mv (.t 0))⟩, ⟨(some 35), (some ((some 33), false)), (.bin .gtr [] (.t 34) (.k (.int .i64 3)))⟩, ⟨(some 36), none, (.pick (.t 33) (.k (.bool true)) (.t 35))⟩, ⟨(some 37), none, (.mv (.t 36))⟩, ⟨(some 38), (some ((some 37), false)), (.mv (.t 7))⟩, ⟨(some 39), (some ((some 37), false)), (.ia none 1 false (.t 38) (.k (.int .i64 0)))⟩, ⟨(some 40), (some ((some 37), false)), (.ld none (.t 39))⟩, ⟨(some 41), (some ((some 37), false)), (.cvt (.int .i64) (.t 40))⟩, ⟨(some 42), (some ((some 37), false)), (.mv (.t 0))⟩, ⟨(some 43), (some ((some 37), false)), (.bin .neq [] (.t 41) (.t 42))⟩, ⟨(some 44), none, (.pick (.t 37) (.k (.bool true)) (.t 43))⟩]) (.cond (.t 44) (.seq (.reg none [⟨(some 4), none, (.mv (.k nilS))⟩, ⟨(some 5), none, (.mv (.k (.int .i64 0)))⟩, ⟨(some 6), none, (.mv (.k (.int .i64 10)))⟩]) .ret) .skip)) (.seq (.reg none [⟨(some 45), none, (.bsl true 2 0 [(.int .i64 0), (.str [])] [])⟩, ⟨(some 10), none, (.mv (.t 45))⟩]) r29)))))⟩
theorem k29 : compF Try.prog 29 = some c29 := by kernel_rfl
def r9 : C := (.seq (.reg none [⟨(some 28), none, (.mv (.t 0))⟩, ⟨(some 29), none, (.mv (.t 1))⟩, ⟨(some 30), none, (.call (.f 26) [(.t 28), (.t 29)])⟩, ⟨(some 27), none, (.mv (.t 30))⟩, ⟨(some 31), none, (.ext (.t 27) 0)⟩, ⟨(some 32), none, (.ext (.t 27) 1)⟩, ⟨(some 8), none, (.mv (.t 31))⟩, ⟨(some 9), none, (.mv (.t 32))⟩]) (.seq (.reg none [⟨(some 34), none, (.mv (.t 0))⟩, ⟨(some 35), none, (.mv (.t 1))⟩, ⟨(some 36), none, (.call (.f 27) [(.t 34), (.t 35)])⟩, ⟨(some 33), none, (.mv (.t 36))⟩, ⟨(some 37), none, (.ext (.t 33) 0)⟩, ⟨(some 38), none, (.ext (.t 33) 1)⟩, ⟨(some 10), none, (.mv (.t 37))⟩, ⟨(some 11), none, (.mv (.t 38))⟩]) (.seq (.reg none [⟨(some 40), none, (.mv (.t 0))⟩, ⟨(some 41), none, (.mv (.t 2))⟩, ⟨(some 42), none, (.call (.f 28) [(.t 40), (.t 41)])⟩, ⟨(some 39), none, (.mv (.t 42))⟩, ⟨(some 43), none, (.ext (.t 39) 0)⟩, ⟨(some 44), none, (.ext (.t 39) 1)⟩, ⟨(some 45), none, (.ext (.t 39) 2)⟩, ⟨(some 12), none, (.mv (.t 43))⟩, ⟨(some 13), none, (.mv (.t 44))⟩, ⟨(some 14), none, (.mv (.t 45))⟩]) (.seq (.reg none [⟨(some 47), none, (.mv (.t 0))⟩, ⟨(some 48), none, (.mv (.t 2))⟩, ⟨(some 49), none, (.call (.f 29) [(.t 47), (.t 48)])⟩, ⟨(some 46), none, (.mv (.t 49))⟩, ⟨(some 50), none, (.ext (.t 46) 0)⟩, ⟨(some 51), none, (.ext (.t 46) 1)⟩, ⟨(some 52), none, (.ext (.t 46) 2)⟩, ⟨(some 15), none, (.mv (.t 50))⟩, ⟨(some 16), none, (.mv (.t 51))⟩, ⟨(some 17), none, (.mv (.t 52))⟩]) (.seq (.reg none [⟨(some 53), none, (.mv (.t 12))⟩, ⟨(some 54), none, (.mv (.t 15))⟩, ⟨(some 55), none, (.call (.f 30) [(.t 53), (.t 54)])⟩, ⟨(some 18), none, (.mv (.t 55))⟩]) (.seq (.reg none [⟨(some 56), none, (.mv (.t 7))⟩, ⟨(some 57), none, (.mv (.t 56))⟩, ⟨(some 58), (some ((some 57), true)), (.mv (.t 8))⟩, ⟨(some 59), (some ((some 57), true)), (.cvt .b2s (.t 58))⟩, ⟨(some 60), (some ((some 57), true)), (.mv (.t 10))⟩, ⟨(some 61), (some ((some 57), true)), (.cvt .b2s (.t 60))⟩, ⟨(some 62), (some ((some 57), true)), (.bin .eql [] (.t 59) (.t 61))⟩, ⟨(some 63), none, (.pick (.t 57) (.t 62) (.k (.bool false)))⟩, ⟨(some 64), none, (.mv (.t 63))⟩, ⟨(some 65), (some ((some 64), true)), (.mv (.t 9))⟩, ⟨(some 66), (some ((some 64), true)), (.mv (.t 11))⟩, ⟨(some 67), (some ((some 64), true)), (.bin .eql [3] (.t 65) (.t 66))⟩, ⟨(some 68), none, (.pick (.t 64) (.t 67) (.k (.bool false)))⟩, ⟨(some 69), none, (.mv (.t 68))⟩, ⟨(some 70), (some ((some 69), true)), (.mv (.t 18))⟩, ⟨(some 71), none, (.pick (.t 69) (.t 70) (.k (.bool false)))⟩, ⟨(some 72), none, (.mv (.t 71))⟩, ⟨(some 73), (some ((some 72), true)), (.mv (.t 13))⟩, ⟨(some 74), (some ((some 72), true)), (.mv (.t 16))⟩, ⟨(some 75), (some ((some 72), true)), (.bin .eql [] (.t 73) (.t 74))⟩, ⟨(some 76), none, (.pick (.t 72) (.t 75) (.k (.bool false)))⟩, ⟨(some 77), none, (.mv (.t 76))⟩, ⟨(some 78), (some ((some 77), true)), (.mv (.t 14))⟩, ⟨(some 79), (some ((some 77), true)), (.mv (.t 17))⟩, ⟨(some 80), (some ((some 77), true)), (.bin .eql [] (.t 78) (.t 79))⟩, ⟨(some 81), none, (.pick (.t 77) (.t 80) (.k (.bool false)))⟩, ⟨(some 6), none, (.mv (.t 81))⟩]) .ret))))))
def c9 : Fn' := ⟨82, [(.tmp 6)], (.seq (.reg none [⟨(some 6), none, (.mv (.k (.bool false)))⟩]) (.seq (.reg none [⟨(some 19), none, (.call (.f 24) [])⟩, ⟨(some 7), none, (.mv (.t 19))⟩]) (.seq (.reg none [⟨(some 20), none, (.mv (.t 1))⟩, ⟨(some 21), none, (.call (.f 25) [(.t 20)])⟩, ⟨(some 1), none, (.mv (.t 21))⟩]) (.seq (.seq (.reg none [⟨(some 22), none, (.mv (.t 2))⟩, ⟨(some 23), none, (.len 1 (.t 22))⟩, ⟨(some 24), none, (.bin .gtr [] (.t 23) (.k (.int .i64 600)))⟩]) (.cond (.t 24) (.reg none [⟨(some 25), none, (.mv (.t 2))⟩, ⟨(some 26), none, (.sub 1 1 (.t 25) none (some (.k (.int .i64 600))) none)⟩, ⟨(some 2), none, (.mv (.t 26))⟩]) .skip)) r9))))⟩
theorem k9 : compF Try.prog 9 = some c9 := by kernel_rfl
attribute [local simp] op_or op_an op_add op_sub op_mul oq_eql oq_neq oq_lss oq_gtr oq_leq oq_geq op_rm op_qu
attribute [-simp] intOp bin_shl bin_shr D.cells
attribute [local simp ↓] List.forall_mem_map
def t27 (c : Bool) (s : Nat) (l : List Va) (t : Int) (a i : Nat) : List D := [.int .i64 t, .slc c s (l.map Va.d), .undef, .undef, nilS, .bool false, .sl 0 0 a a, .sl 1 0 a a, .int .i64 i, .undef, .int .i64 t, .bool false, .bool false, .int .i64 t, .bool false, .bool false, .bool false, .slc c s (l.map Va.d), .int .i64 l.length, .bool false, .bool false, .sl 0 0 0 0, .sl 1 0 0 0, .undef, .undef, .undef, .undef, .undef, .undef, .undef, .undef, .undef, .undef, .undef, .undef, .undef, .undef, .undef, .undef, .undef, .undef, .undef, .undef, .undef, .undef, .undef, .undef, .undef, .undef, .undef, .undef, .undef, .undef, .undef, .undef, .undef, .undef, .undef, .undef, .undef, .undef, .undef, .undef, .undef, .undef, .undef, .undef, .undef, .undef]
def H27 (l : List Va) : List Obj := [.row 1 (l.map fun p => D.int .i64 p.1) 0, .row 1 (l.map fun p => D.str p.2) 0]
def V27 (t : Int) (l : List Va) (ok : Bool) : D := .tuple (if ok then [.slc false 1 ((blockI t l).map (.int .u8)), .bool true] else [nilS, .bool false])
set_option maxHeartbeats 8000000 in
theorem R27 (c : Bool) (s : Nat) (l : List Va) (t : Int) (hok : blockOk t l = true) : finK false 0 [.tmp 4, .tmp 5] (Ek cf0 K0 [.c r27] ⟨t27 c s l t l.length l.length, H27 l⟩) = some (V27 t l true, []) := by
  obtain ⟨hk, hl, hf⟩ := (blockOk_eq t l).1 hok
  have hkk := (kind_eq t).1 hk
  have hw8 : IntKind.u8.wrap t = t := by rw [IntKind.wrap_u8]; omega
  have h60 : ∀ p ∈ l, p.2.length ≤ 60 := fun p hp => fits60 (hf p hp)
  have hcl := col_len t l h60 hl
  have hiB := isB_col t l
  have h23 := K23 (t :: colI t l) false (isB_cons' (by omega) hiB) (by simp; omega)
  have hb : blockI t l = frameI (t :: colI t l) := rfl
  have hcn : ¬ colI t l = [] := by intro e; have := col_two t l; rw [e] at this; simp at this
  unfold V27
  rw [hb]
  generalize frameI (t :: colI t l) = Y at *
  by_cases h3 : t = 3
  · have z1 : eqI t 3 = true := eqI_t h3
    have hc : colI t l = textsI (l.map (·.2)) := by unfold colI; rw [z1]; rfl
    have h2 : ∀ s ∈ l.map (·.2), s.length ≤ 60 := by
      intro s hs
      obtain ⟨p, hp, rfl⟩ := List.mem_map.1 hs
      exact h60 p hp
    have h61 := K61 false 1 (l.map (·.2)) (.inl rfl) (by simp; omega) (by have := each_len 60 (by omega) _ h2; simp at this; omega) (by have := dict_len _ 60 (by omega) (by simp; omega) h2; simp at this; omega)
    rw [← hc, List.map_map] at h61
    have e1 : (D.str ∘ fun p : Va => p.2) = fun p => D.str p.2 := rfl
    rw [e1] at h61
    generalize colI t l = X at *
    have b1 : 1 + X.length ≤ 70368744177664 := by omega
    have c1 : X.length + 1 = 1 + X.length := Nat.add_comm _ _
    clear hok hk hf h60 hc h2 hb hcl
    simp only [List.map_cons] at h23
    simp only [t27, H27]
    simp [r27, z1, hw8, h61, hcn, b1, c1, h23, List.take_of_length_le]
  · have z1 : eqI t 3 = false := eqI_f h3
    have hc : colI t l = intsI (l.map (·.1)) := by unfold colI; rw [z1]; rfl
    have h62 := K62 false 1 (l.map (·.1)) (.inl rfl) (by simp; omega)
    rw [← hc, List.map_map] at h62
    have e1 : (D.int .i64 ∘ fun p : Va => p.1) = fun p => D.int .i64 p.1 := rfl
    rw [e1] at h62
    generalize colI t l = X at *
    have b1 : 1 + X.length ≤ 70368744177664 := by omega
    have c1 : X.length + 1 = 1 + X.length := Nat.add_comm _ _
    clear hok hk hf h60 hc hb hcl
    simp only [List.map_cons] at h23
    simp only [t27, H27]
    simp [r27, z1, hw8, h62, hcn, b1, c1, h23, List.take_of_length_le]
set_option maxHeartbeats 8000000 in
theorem L27 (c : Bool) (s : Nat) (l : List Va) (hs : s = 2 ∨ l = []) (t : Int) (hk : kindI t = true) (hl : l.length ≤ 2000) : ∀ (q pre : List Va) (i : Nat), l = pre ++ q → i = pre.length → (∀ p ∈ pre, fitsI t p = true) →
    finK false 0 [.tmp 4, .tmp 5] (loopK cf0 K0 (LpB cf0 K0 b27_0 (t27 c s l t 0 0) 2 ⟨t27 c s l t i i, H27 pre⟩) [.blk 0, .c r27]) = some (V27 t l (q.all (fitsI t)), [])
  | [], pre, i, h, hi, hf => by
    have : l = pre := by simpa using h
    subst this
    have z1 : ltI (i : Int) l.length = false := ltI_f (by omega)
    have hR := R27 c s l t ((blockOk_eq t l).2 ⟨hk, hl, hf⟩)
    simp only [List.all_nil]
    generalize V27 t l true = V at *
    subst hi
    rw [LpB_eq]
    simp only [t27, H27] at hR ⊢
    conv => lhs; arg 4; arg 3; arg 6; simp [b27_0, z1]
    simp at hR ⊢
    exact hR
  | (m, x) :: q, pre, i, h, hi, hf => by
    have hll : i < l.length := by rw [h, hi]; simp
    have z1 : ltI (i : Int) l.length = true := ltI_t (by omega)
    have hget : l[i]? = some (m, x) := by rw [h, hi]; simp
    have hgi : l[i]'hll = (m, x) := by rw [List.getElem?_eq_getElem hll] at hget; exact Option.some.inj hget
    have hw := w64 (i + 1) (by omega)
    have h31 := K31 t (m, x)
    obtain rfl : s = 2 := hs.resolve_right (by intro e; subst e; simp at hll)
    simp only [Va.d] at h31
    rw [List.all_cons]
    cases hft : fitsI t (m, x) with
    | false =>
      rw [hft] at h31
      rw [Bool.false_and]
      simp only [V27, Bool.false_eq_true, if_false]
      rw [LpB_eq]
      simp only [t27, H27]
      conv => lhs; arg 4; arg 3; arg 6; simp [b27_0, z1, hll, hgi, h31, Va.d]
      simp [Ks_rt]
    | true =>
      rw [hft] at h31
      rw [Bool.true_and]
      have ih := L27 c 2 l hs t hk hl q (pre ++ [(m, x)]) (i + 1) (by rw [h]; simp) (by simp [hi]) (fun p hp => by
        rcases List.mem_append.1 hp with hp | hp
        · exact hf p hp
        · obtain rfl := List.mem_singleton.1 hp; exact hft)
      generalize V27 t l (q.all (fitsI t)) = V at *
      have hb1 : (pre.length + 1) * 8 ≤ 70368744177664 := by have := congrArg List.length h; simp at this; omega
      have hb2 : (pre.length + 1) * 16 ≤ 70368744177664 := by have := congrArg List.length h; simp at this; omega
      have hip : pre.length = i := hi.symm
      rw [hip] at hb1 hb2
      rw [LpB_eq]
      simp only [t27, H27] at ih ⊢
      conv => lhs; arg 4; arg 3; arg 6; simp [b27_0, z1, hll, hgi, h31, Va.d, hip, hb1, hb2, hw]
      simp at ih ⊢
      exact ih
set_option maxHeartbeats 8000000 in
/-- thresherref07.Put. -/
theorem K27 (c : Bool) (s : Nat) (t : Int) (l : List Va) (hs : s = 2 ∨ l = []) (hl : l.length ≤ 2 ^ 30) : K0 27 [.int .i64 t, .slc c s (l.map Va.d)] [] = some (V27 t l (blockOk t l), []) := by
  refine K_call k27 (oraG_none (by decide) (by decide)) (by simp [c27]) ?_
  by_cases h1 : t < 1
  · have z1 : ltI t 1 = true := ltI_t h1
    have hok : blockOk t l = false := by
      cases h : blockOk t l with
      | false => rfl
      | true => have := (kind_eq t).1 ((blockOk_eq t l).1 h).1; omega
    rw [hok]
    simp [c27, z1, V27]
  have z1 : ltI t 1 = false := ltI_f (by omega)
  by_cases h3 : 3 < t
  · have z2 : ltI 3 t = true := ltI_t h3
    have hok : blockOk t l = false := by
      cases h : blockOk t l with
      | false => rfl
      | true => have := (kind_eq t).1 ((blockOk_eq t l).1 h).1; omega
    rw [hok]
    simp [c27, z1, z2, V27]
  have z2 : ltI 3 t = false := ltI_f (by omega)
  by_cases h2 : 2000 < l.length
  · have z3 : ltI 2000 (l.length : Int) = true := ltI_t (by omega)
    have hok : blockOk t l = false := by
      cases h : blockOk t l with
      | false => rfl
      | true => have := ((blockOk_eq t l).1 h).2.1; omega
    rw [hok]
    simp [c27, z1, z2, z3, V27]
  have z3 : ltI 2000 (l.length : Int) = false := ltI_f (by omega)
  have hk := (kind_eq t).2 ⟨by omega, by omega⟩
  have hok : blockOk t l = l.all (fitsI t) := by unfold blockOk; rw [hk]; simp; omega
  have h := L27 c s l hs t hk (by omega) l [] 0 rfl rfl (by simp)
  rw [hok]
  generalize V27 t l (l.all (fitsI t)) = V at *
  simp only [t27, H27] at h
  simp [c27, z1, z2, z3]
  simp at h
  exact h
def t29s (c cd : Bool) (l r : List Int) (t n : Int) (ts : List Tx) (a i : Nat) : List D := [.int .i64 t, .slc c 1 (l.map (.int .u8)), .undef, .undef, nilS, .int .i64 0, .int .i64 0, .slc cd 1 ((t :: r).map (.int .u8)), .int .i64 n, .int .i64 0, .sl 0 0 a a, .slc false 1 (ts.map D.str), .int .i64 0, .int .i64 i, .undef, .undef, .undef, .tuple [.slc cd 1 ((t :: r).map (.int .u8)), .int .i64 n, .int .i64 0], .slc c 1 (l.map (.int .u8)), .tuple [.slc cd 1 ((t :: r).map (.int .u8)), .int .i64 n, .int .i64 0], .slc cd 1 ((t :: r).map (.int .u8)), .int .i64 n, .int .i64 0, .int .i64 0, .bool false, .undef, .slc cd 1 ((t :: r).map (.int .u8)), .int .i64 ((t :: r).length : Nat), .bool false, .bool false, .int .i64 t, .bool false, .bool false, .bool false, .int .i64 t, .bool false, .bool false, .bool false, .slc cd 1 ((t :: r).map (.int .u8)), .fptr (.int .u8 t), .int .u8 t, .int .i64 t, .int .i64 t, .bool false, .bool false, .sl 0 0 0 0, .int .i64 t, .bool true, .tuple [.slc false 1 (ts.map D.str), .int .i64 0], .slc cd 1 ((t :: r).map (.int .u8)), .slc cd 1 (r.map (.int .u8)), .tuple [.slc false 1 (ts.map D.str), .int .i64 0], .slc false 1 (ts.map D.str), .int .i64 0, .int .i64 0, .bool false, .undef, .undef, .undef, .undef, .undef, .undef, .undef, .undef, .undef, .undef, .undef, .undef, .undef, .undef, .undef, .undef, .undef, .undef, .undef, .undef, .undef, .undef, .undef, .undef, .undef, .undef, .undef, .undef, .undef, .undef, .undef, .undef, .undef, .undef, .undef, .undef, .undef, .undef, .undef, .undef, .undef, .undef]
def t29n (c cd : Bool) (l r : List Int) (t n : Int) (ts : List Int) (a i : Nat) : List D := [.int .i64 t, .slc c 1 (l.map (.int .u8)), .undef, .undef, nilS, .int .i64 0, .int .i64 0, .slc cd 1 ((t :: r).map (.int .u8)), .int .i64 n, .int .i64 0, .sl 0 0 a a, .undef, .undef, .undef, .slc false 1 (ts.map (.int .i64)), .int .i64 0, .int .i64 i, .tuple [.slc cd 1 ((t :: r).map (.int .u8)), .int .i64 n, .int .i64 0], .slc c 1 (l.map (.int .u8)), .tuple [.slc cd 1 ((t :: r).map (.int .u8)), .int .i64 n, .int .i64 0], .slc cd 1 ((t :: r).map (.int .u8)), .int .i64 n, .int .i64 0, .int .i64 0, .bool false, .undef, .slc cd 1 ((t :: r).map (.int .u8)), .int .i64 ((t :: r).length : Nat), .bool false, .bool false, .int .i64 t, .bool false, .bool false, .bool false, .int .i64 t, .bool false, .bool false, .bool false, .slc cd 1 ((t :: r).map (.int .u8)), .fptr (.int .u8 t), .int .u8 t, .int .i64 t, .int .i64 t, .bool false, .bool false, .sl 0 0 0 0, .int .i64 t, .bool false, .undef, .undef, .undef, .undef, .undef, .undef, .undef, .undef, .undef, .undef, .undef, .undef, .undef, .undef, .undef, .undef, .undef, .undef, .undef, .undef, .undef, .undef, .undef, .undef, .undef, .tuple [.slc false 1 (ts.map (.int .i64)), .int .i64 0], .slc cd 1 ((t :: r).map (.int .u8)), .slc cd 1 (r.map (.int .u8)), .tuple [.slc false 1 (ts.map (.int .i64)), .int .i64 0], .slc false 1 (ts.map (.int .i64)), .int .i64 0, .int .i64 0, .bool false, .undef, .undef, .undef, .undef, .undef, .undef, .undef, .undef, .undef, .undef, .undef, .undef, .undef, .undef, .undef, .undef, .undef]
set_option maxHeartbeats 4000000 in
theorem L29s (c cd : Bool) (l r : List Int) (t n : Int) (ts : List Tx) (hl : ts.length ≤ 2 ^ 30) : ∀ (q pre : List Tx) (acc : List Va) (a i : Nat), ts = pre ++ q → i = pre.length → a = acc.length → acc.length = i →
    LpB cf0 K0 b29_1 (t29s c cd l r t n ts 0 0) 1 ⟨t29s c cd l r t n ts a i, [.row 2 (acc.map Va.d) 0]⟩ = some (.exit 0, ⟨t29s c cd l r t n ts (acc ++ q.map sV).length ts.length, [.row 2 ((acc ++ q.map sV).map Va.d) 0]⟩)
  | [], pre, acc, a, i, h, hi, ha, hai => by
    have : ts = pre := by simpa using h
    subst this
    have z1 : ltI (i : Int) ts.length = false := ltI_f (by omega)
    rw [LpB_eq]
    simp only [t29s]
    conv => lhs; arg 6; simp [b29_1, z1]
    simp [hi, ha]
  | x :: q, pre, acc, a, i, h, hi, ha, hai => by
    have hll : i < ts.length := by rw [h, hi]; simp
    have z1 : ltI (i : Int) ts.length = true := ltI_t (by omega)
    have hget : ts[i]? = some x := by rw [h, hi]; simp
    have hgi : ts[i]'hll = x := by rw [List.getElem?_eq_getElem hll] at hget; exact Option.some.inj hget
    have hw := w64 (i + 1) (by omega)
    have ih := L29s c cd l r t n ts hl q (pre ++ [x]) (acc ++ [sV x]) (acc ++ [sV x]).length (i + 1) (by rw [h]; simp) (by simp [hi]) rfl (by simp [hai])
    rw [show acc ++ (x :: q).map sV = acc ++ [sV x] ++ q.map sV by simp]
    have hd : (sV x).d = .agg [.int .i64 (sV x).1, .str (sV x).2] := rfl
    have hd1 : (sV x).1 = 0 := rfl
    have hd2 : (sV x).2 = x := rfl
    rw [hd1, hd2] at hd
    have hb1 : (acc.length + 1) * 24 ≤ 70368744177664 := by omega
    generalize List.map sV q = M at *
    generalize sV x = y at *
    subst ha
    rw [LpB_eq]
    simp only [t29s] at ih ⊢
    conv => lhs; arg 6; simp [b29_1, z1, hll, hgi, hw, hb1]
    simp [hd] at ih ⊢
    exact ih
set_option maxHeartbeats 4000000 in
theorem L29n (c cd : Bool) (l r : List Int) (t n : Int) (ts : List Int) (hl : ts.length ≤ 2 ^ 30) : ∀ (q pre : List Int) (acc : List Va) (a i : Nat), ts = pre ++ q → i = pre.length → a = acc.length → acc.length = i →
    LpB cf0 K0 b29_0 (t29n c cd l r t n ts 0 0) 1 ⟨t29n c cd l r t n ts a i, [.row 2 (acc.map Va.d) 0]⟩ = some (.exit 2, ⟨t29n c cd l r t n ts (acc ++ q.map nV).length ts.length, [.row 2 ((acc ++ q.map nV).map Va.d) 0]⟩)
  | [], pre, acc, a, i, h, hi, ha, hai => by
    have : ts = pre := by simpa using h
    subst this
    have z1 : ltI (i : Int) ts.length = false := ltI_f (by omega)
    rw [LpB_eq]
    simp only [t29n]
    conv => lhs; arg 6; simp [b29_0, z1]
    simp [hi, ha]
  | x :: q, pre, acc, a, i, h, hi, ha, hai => by
    have hll : i < ts.length := by rw [h, hi]; simp
    have z1 : ltI (i : Int) ts.length = true := ltI_t (by omega)
    have hget : ts[i]? = some x := by rw [h, hi]; simp
    have hgi : ts[i]'hll = x := by rw [List.getElem?_eq_getElem hll] at hget; exact Option.some.inj hget
    have hw := w64 (i + 1) (by omega)
    have ih := L29n c cd l r t n ts hl q (pre ++ [x]) (acc ++ [nV x]) (acc ++ [nV x]).length (i + 1) (by rw [h]; simp) (by simp [hi]) rfl (by simp [hai])
    rw [show acc ++ (x :: q).map nV = acc ++ [nV x] ++ q.map nV by simp]
    have hd : (nV x).d = .agg [.int .i64 (nV x).1, .str (nV x).2] := rfl
    have hd1 : (nV x).1 = x := rfl
    have hd2 : (nV x).2 = [] := rfl
    rw [hd1, hd2] at hd
    have hb1 : (acc.length + 1) * 24 ≤ 70368744177664 := by omega
    generalize List.map nV q = M at *
    generalize nV x = y at *
    subst ha
    rw [LpB_eq]
    simp only [t29n] at ih ⊢
    conv => lhs; arg 6; simp [b29_0, z1, hll, hgi, hw, hb1]
    simp [hd] at ih ⊢
    exact ih
/-- The values, as the reference gives them. -/
def cw (e : Int) (v : List Va) : D := if e = 0 then .slc false 2 (v.map Va.d) else nilS
theorem cw_ten : cw 10 [] = nilS := rfl
theorem cw_zero (v : List Va) : cw 0 v = .slc false 2 (v.map Va.d) := rfl
set_option maxHeartbeats 8000000 in
/-- thresherref07.Take. -/
theorem K29 (t : Int) (c : Bool) (l : List Int) (hl : l.length ≤ 2 ^ 39) (hB : isB l) : K0 29 [.int .i64 t, .slc c 1 (l.map (.int .u8))] [] = some (.tuple [cw (takeI t l).2.2 (takeI t l).1, .int .i64 (takeI t l).2.1, .int .i64 (takeI t l).2.2], []) := by
  obtain ⟨d, hK, hd⟩ := K44 c l (by omega) hB
  have hul := uI_len l
  have huB := uI_B hB
  refine K_call k29 (oraG_none (by decide) (by decide)) (by simp [c29]) ?_
  unfold takeI
  generalize unframeI l = u at *
  obtain ⟨data, n, e⟩ := u
  simp only at hK hd hul huB ⊢
  by_cases he : e = 0
  · subst he
    obtain ⟨cd, rfl⟩ : ∃ c', d = .slc c' 1 (data.map (.int .u8)) := by
      rcases hd with ⟨_, h⟩ | ⟨h, _⟩
      · exact h
      · exact absurd rfl h
    rw [if_neg (fun h => h rfl)]
    have z0 : neI 0 0 = false := rfl
    cases data with
    | nil =>
      rw [if_pos (.inl rfl), cw_ten]
      have z1 : ltI 0 1 = true := rfl
      simp at hK
      simp [c29, hK, z0, z1]
    | cons w r =>
      have z1 : ltI ((r.length : Int) + 1) 1 = false := ltI_f (by omega)
      have hw := huB w List.mem_cons_self
      have hww : IntKind.i64.wrap w = w := w64 _ (by omega)
      by_cases h1 : t < 1
      · have hk : kindI t = false := by
          cases h : kindI t with
          | false => rfl
          | true => have := (kind_eq t).1 h; omega
        have z2 : ltI t 1 = true := ltI_t h1
        rw [if_pos (.inr (.inl hk)), cw_ten]
        simp at hK
        simp [c29, hK, z0, z1, z2]
      have z2 : ltI t 1 = false := ltI_f (by omega)
      by_cases h3 : 3 < t
      · have hk : kindI t = false := by
          cases h : kindI t with
          | false => rfl
          | true => have := (kind_eq t).1 h; omega
        have z3 : ltI 3 t = true := ltI_t h3
        rw [if_pos (.inr (.inl hk)), cw_ten]
        simp at hK
        simp [c29, hK, z0, z1, z2, z3]
      have z3 : ltI 3 t = false := ltI_f (by omega)
      have hk := (kind_eq t).2 ⟨by omega, by omega⟩
      by_cases hwt : w = t
      case neg =>
        have z4 : neI w t = true := by simp [neI, hwt]
        rw [if_pos (.inr (.inr hwt)), cw_ten]
        simp at hK
        simp [c29, hK, z0, z1, z2, z3, hww, z4]
      obtain rfl := hwt
      have z4 : neI w w = false := by simp [neI]
      rw [if_neg (by simp [hk])]
      simp only [List.tail_cons]
      have h1r : 1 ≤ (r.length : Int) + 1 := by omega
      have hrl : r.length ≤ 2 ^ 40 := by simp at hul; omega
      have hrB : isB r := fun x hx => huB x (List.mem_cons_of_mem _ hx)
      have z10 : neI 10 0 = true := rfl
      unfold readO
      by_cases ht : w = 3
      · have z5 : eqI w 3 = true := eqI_t ht
        rw [if_pos ht]
        have h64 := fun c => K64 c r hrl hrB
        rw [ref_eq] at h64
        cases ho : textsT r with
        | none =>
          simp only [ho, V64] at h64
          simp only [Option.map_none, cw_ten]
          simp at hK
          simp [c29, r29, hK, z0, z1, z2, z3, hww, z4, z5, h1r, h64, z10]
        | some ts =>
          simp only [ho, V64] at h64
          simp only [Option.map_some, cw_zero]
          have h := L29s c cd l r w n ts (by have := (textsT_some ho).1; omega) ts [] [] 0 0 rfl rfl rfl rfl
          rw [List.nil_append] at h
          generalize List.map sV ts = M at *
          simp only [t29s] at h
          simp at hK h
          simp [c29, r29, hK, z0, z1, z2, z3, hww, z4, z5, h1r, h64]
          rw [h]
          simp [List.take_of_length_le]
      · have z5 : eqI w 3 = false := eqI_f ht
        rw [if_neg ht]
        have h65 := fun c => K65 c r hrl hrB
        cases ho : intsT r with
        | none =>
          simp only [ho, V65] at h65
          simp only [Option.map_none, cw_ten]
          simp at hK
          simp [c29, r29, hK, z0, z1, z2, z3, hww, z4, z5, h1r, h65, z10]
        | some ts =>
          simp only [ho, V65] at h65
          simp only [Option.map_some, cw_zero]
          have h := L29n c cd l r w n ts (by have := (intsT_some ho).1; omega) ts [] [] 0 0 rfl rfl rfl rfl
          rw [List.nil_append] at h
          generalize List.map nV ts = M at *
          simp only [t29n] at h
          simp at hK h
          simp [c29, r29, hK, z0, z1, z2, z3, hww, z4, z5, h1r, h65]
          rw [h]
          simp [List.take_of_length_le]
  · have z0 : neI e 0 = true := by simp [neI, he]
    rcases hd with ⟨h, _⟩ | ⟨_, rfl⟩
    · exact absurd h he
    rw [if_pos he]
    have hc : cw e [] = nilS := by unfold cw; rw [if_neg he]
    simp only [hc]
    simp [c29, hK, z0]
theorem bool_eq9 (a b : Bool) : binD .eql [3] (.bool a) (.bool b) = some (.bool (a == b)) := rfl
attribute [local simp] bool_eq9
set_option maxHeartbeats 8000000 in
theorem R9 {v3 v4 v5 v19 v20 v21 v22 v23 v24 v25 v26 : D} (t : Int) (ht : i64R t) (v : List Va) (hv : v.length ≤ 60) (c2 : Bool) (b : List Int) (hb : b.length ≤ 600) (hB : isB b) : finK false 0 [.tmp 6] (Ek cf0 K0 [.c r9] ⟨[.int .i64 t, .slc false 2 (v.map Va.d), .slc c2 1 (b.map (.int .u8)), v3, v4, v5, .bool false, .bool true, .undef, .undef, .undef, .undef, .undef, .undef, .undef, .undef, .undef, .undef, .undef, v19, v20, v21, v22, v23, v24, v25, v26, .undef, .undef, .undef, .undef, .undef, .undef, .undef, .undef, .undef, .undef, .undef, .undef, .undef, .undef, .undef, .undef, .undef, .undef, .undef, .undef, .undef, .undef, .undef, .undef, .undef, .undef, .undef, .undef, .undef, .undef, .undef, .undef, .undef, .undef, .undef, .undef, .undef, .undef, .undef, .undef, .undef, .undef, .undef, .undef, .undef, .undef, .undef, .undef, .undef, .undef, .undef, .undef, .undef, .undef, .undef], []⟩) = some (.bool true, []) := by
  have h26 := K26 false 2 t ht v (.inl rfl) (by omega)
  have h27 := K27 false 2 t v (.inl rfl) (by omega)
  have h28 := K28 t c2 b (by omega) hB
  have h29 := K29 t c2 b (by omega) hB
  have he := take_err t b
  have hso := take_some t b hB
  obtain ⟨cx, sx, X, ok, hx⟩ : ∃ cx sx X ok, (if blockOk t v = true then [D.slc false 1 ((blockI t v).map (.int .u8)), D.bool true] else [nilS, .bool false]) = [.slc cx sx (List.map (D.int .u8) X), .bool ok] := by
    split
    · exact ⟨_, _, _, _, rfl⟩
    · exact ⟨true, 0, [], false, rfl⟩
  unfold V27 at h27
  rw [hx] at h26 h27
  clear hx
  generalize takeI t b = q at *
  obtain ⟨p, n, e⟩ := q
  simp only at h28 h29 he hso
  obtain ⟨c3, s3, e3, c4, s4, e4, hc3, hc4, h30⟩ : ∃ c3 s3 e3 c4 s4 e4, cvV p = .slc c3 s3 e3 ∧ cw e p = .slc c4 s4 e4 ∧ K0 30 [.slc c3 s3 e3, .slc c4 s4 e4] [] = some (.bool true, []) := by
    by_cases h0 : e = 0
    · have hp : p.length ≤ 2 ^ 47 := by have := ((blockOk_eq t p).1 (hso h0).1).2.1; omega
      have ht : (p == p) = true := by simp
      subst h0
      rw [cw_zero]
      unfold cvV
      by_cases hp0 : p = []
      · subst hp0
        exact ⟨_, _, _, _, _, _, rfl, rfl, K30 true false 0 2 [] [] (.inr rfl) (.inl rfl) (by simp)⟩
      · rw [if_neg hp0]
        have := K30 false false 2 2 p p (.inl rfl) (.inl rfl) hp
        rw [ht] at this
        exact ⟨_, _, _, _, _, _, rfl, rfl, this⟩
    · have hp0 := (he.resolve_left h0).1
      subst hp0
      have hc : cw e [] = nilS := by unfold cw; rw [if_neg h0]
      rw [hc]
      exact ⟨_, _, _, _, _, _, rfl, rfl, K30 true true 0 0 [] [] (.inr rfl) (.inr rfl) (by simp)⟩
  rw [hc3] at h28
  rw [hc4] at h29
  have z1 : eqI n n = true := eqI_t rfl
  have z2 : eqI e e = true := eqI_t rfl
  simp [r9, h26, h27, h28, h29, h30, z1, z2]
set_option maxHeartbeats 8000000 in
/-- thresherlaw07.BlockAll. -/
theorem K9 (t : Int) (ht : i64R t) (c : Bool) (s : Nat) (hs : s = 2 ∨ False) (l : List Va) (hl : l.length ≤ 2 ^ 44) (_ : ∀ p ∈ l, i64R p.1) (c2 : Bool) (s2 : Nat) (hs2 : s2 = 1 ∨ False) (b : List Int) (hb : b.length ≤ 2 ^ 47) (hB : isB b) :
    K0 9 [.int .i64 t, .slc c s (l.map Va.d), .slc c2 s2 (b.map (.int .u8))] [] = some (.bool true, []) := by
  obtain rfl := hs2.resolve_right id
  have h25 := K25 c s l (hs.imp id False.elim) (by omega)
  have hv := few_len10 l
  generalize fewV l = v at *
  have hR := fun {v3 v4 v5 v19 v20 v21 v22 v23 v24 v25 v26 : D} => @R9 v3 v4 v5 v19 v20 v21 v22 v23 v24 v25 v26 t ht v hv
  refine K_call k9 (oraG_none (by decide) (by decide)) (by simp [c9]) ?_
  by_cases h6 : 600 < b.length
  · have z1 : ltI 600 (b.length : Int) = true := ltI_t (by omega)
    have h7 : 600 ≤ b.length := by omega
    have h7' : (600 : Int) ≤ b.length := by omega
    obtain ⟨m, hm⟩ : ∃ m, b.take 600 = m := ⟨_, rfl⟩
    have m1 : List.take 600 (b.map (D.int .u8)) = m.map (.int .u8) := by rw [← hm, List.map_take]
    simp [c9, K24, h25, z1, h7, h7', m1]
    exact hR _ m (by rw [← hm]; simp; omega) (by rw [← hm]; exact isB_take hB _)
  · have z1 : ltI 600 (b.length : Int) = false := ltI_f (by omega)
    simp [c9, K24, h25, z1]
    exact hR c2 b (by omega) hB
end Go.Ab
