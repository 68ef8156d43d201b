/- THE FUNCTIONS' EQUATIONS: texts: reader.number, reader.text. -/
import Derived.Test.YtomomeabfnmncaaGreatBF120
import Derived.Test.YtomomeabfnmncaaGreatBF84
set_option linter.all false
set_option maxRecDepth 100000
namespace Go.Ab
open Go.Proofs Go.Proofs.YtomomeabfnmncaaGreatH Go.Proofs.YtomomeabfnmncaaGreatH.Crc Go.Proofs.YtomomeabfnmncaaGreatH.Var Go.Proofs.YtomomeabfnmncaaGreatH.Fr
def c114 : Fn' := ⟨43, [(.tmp 4)], (.seq (.reg none [⟨(some 4), none, (.mv (.k (.int .i64 0)))⟩]) (.seq (.reg none [⟨(some 8), none, (.mv (.t 0))⟩, ⟨(some 9), none, (.nc (.t 8))⟩, ⟨(some 10), none, (.fa 0 1 false (.t 9))⟩, ⟨(some 11), none, (.ld none (.t 10))⟩, ⟨(some 12), none, (.call (.f 87) [(.t 11)])⟩, ⟨(some 7), none, (.mv (.t 12))⟩, ⟨(some 13), none, (.ext (.t 7) 0)⟩, ⟨(some 14), none, (.ext (.t 7) 1)⟩, ⟨(some 5), none, (.mv (.t 13))⟩, ⟨(some 6), none, (.mv (.t 14))⟩]) (.seq (.seq (.reg none [⟨(some 15), none, (.mv (.t 0))⟩, ⟨(some 16), none, (.nc (.t 15))⟩, ⟨(some 17), none, (.fa 1 1 false (.t 16))⟩, ⟨(some 18), none, (.ld none (.t 17))⟩, ⟨(some 19), none, (.mv (.t 18))⟩, ⟨(some 20), (some ((some 19), false)), (.mv (.t 6))⟩, ⟨(some 21), (some ((some 19), false)), (.bin .eql [] (.t 20) (.k (.int .i64 0)))⟩, ⟨(some 22), none, (.pick (.t 19) (.k (.bool true)) (.t 21))⟩, ⟨(some 23), none, (.mv (.t 22))⟩, ⟨(some 24), (some ((some 23), false)), (.mv (.t 5))⟩, ⟨(some 25), (some ((some 23), false)), (.mv (.t 1))⟩, ⟨(some 26), (some ((some 23), false)), (.cvt (.int .u64) (.t 25))⟩, ⟨(some 27), (some ((some 23), false)), (.bin .geq [] (.t 24) (.t 26))⟩, ⟨(some 28), none, (.pick (.t 23) (.k (.bool true)) (.t 27))⟩]) (.cond (.t 28) (.seq (.reg none [⟨(some 29), none, (.mv (.t 0))⟩, ⟨(some 30), none, (.nc (.t 29))⟩, ⟨(some 31), none, (.fa 1 1 false (.t 30))⟩, ⟨none, none, (.st 1 (.t 31) (.k (.bool true)))⟩]) (.seq (.reg none [⟨(some 4), none, (.mv (.k (.int .i64 0)))⟩]) .ret)) .skip)) (.seq (.reg none [⟨(some 32), none, (.mv (.t 0))⟩, ⟨(some 33), none, (.mv (.t 0))⟩, ⟨(some 34), none, (.nc (.t 33))⟩, ⟨(some 35), none, (.fa 0 1 false (.t 34))⟩, ⟨(some 36), none, (.ld none (.t 35))⟩, ⟨(some 37), none, (.mv (.t 6))⟩, ⟨(some 38), none, (.sub 1 1 (.t 36) (some (.t 37)) none none)⟩, ⟨(some 39), none, (.nc (.t 32))⟩, ⟨(some 40), none, (.fa 0 1 false (.t 39))⟩, ⟨none, none, (.st 1 (.t 40) (.t 38))⟩]) (.seq (.reg none [⟨(some 41), none, (.mv (.t 5))⟩, ⟨(some 42), none, (.cvt (.int .i64) (.t 41))⟩, ⟨(some 4), none, (.mv (.t 42))⟩]) .ret)))))⟩
theorem k114 : compF Tryz.prog 145 = some c114 := by kernel_rfl
def c115 : Fn' := ⟨40, [(.tmp 2)], (.seq (.reg none [⟨(some 2), none, (.mv (.k (.str [])))⟩]) (.seq (.reg none [⟨(some 5), none, (.mv (.t 0))⟩, ⟨(some 6), none, (.call (.f 145) [(.t 5), (.k (.int .i64 61))])⟩, ⟨(some 3), none, (.mv (.t 6))⟩]) (.seq (.seq (.reg none [⟨(some 7), none, (.mv (.t 0))⟩, ⟨(some 8), none, (.nc (.t 7))⟩, ⟨(some 9), none, (.fa 1 1 false (.t 8))⟩, ⟨(some 10), none, (.ld none (.t 9))⟩, ⟨(some 11), none, (.mv (.t 10))⟩, ⟨(some 12), (some ((some 11), false)), (.mv (.t 3))⟩, ⟨(some 13), (some ((some 11), false)), (.mv (.t 0))⟩, ⟨(some 14), (some ((some 11), false)), (.nc (.t 13))⟩, ⟨(some 15), (some ((some 11), false)), (.fa 0 1 false (.t 14))⟩, ⟨(some 16), (some ((some 11), false)), (.ld none (.t 15))⟩, ⟨(some 17), (some ((some 11), false)), (.len 1 (.t 16))⟩, ⟨(some 18), (some ((some 11), false)), (.bin .gtr [] (.t 12) (.t 17))⟩, ⟨(some 19), none, (.pick (.t 11) (.k (.bool true)) (.t 18))⟩]) (.cond (.t 19) (.seq (.reg none [⟨(some 20), none, (.mv (.t 0))⟩, ⟨(some 21), none, (.nc (.t 20))⟩, ⟨(some 22), none, (.fa 1 1 false (.t 21))⟩, ⟨none, none, (.st 1 (.t 22) (.k (.bool true)))⟩]) (.seq (.reg none [⟨(some 2), none, (.mv (.k (.str [])))⟩]) .ret)) .skip)) (.seq (.reg none [⟨(some 23), none, (.mv (.t 0))⟩, ⟨(some 24), none, (.nc (.t 23))⟩, ⟨(some 25), none, (.fa 0 1 false (.t 24))⟩, ⟨(some 26), none, (.ld none (.t 25))⟩, ⟨(some 27), none, (.mv (.t 3))⟩, ⟨(some 28), none, (.sub 1 1 (.t 26) none (some (.t 27)) none)⟩, ⟨(some 29), none, (.cvt .b2s (.t 28))⟩, ⟨(some 4), none, (.mv (.t 29))⟩]) (.seq (.reg none [⟨(some 30), none, (.mv (.t 0))⟩, ⟨(some 31), none, (.mv (.t 0))⟩, ⟨(some 32), none, (.nc (.t 31))⟩, ⟨(some 33), none, (.fa 0 1 false (.t 32))⟩, ⟨(some 34), none, (.ld none (.t 33))⟩, ⟨(some 35), none, (.mv (.t 3))⟩, ⟨(some 36), none, (.sub 1 1 (.t 34) (some (.t 35)) none none)⟩, ⟨(some 37), none, (.nc (.t 30))⟩, ⟨(some 38), none, (.fa 0 1 false (.t 37))⟩, ⟨none, none, (.st 1 (.t 38) (.t 36))⟩]) (.seq (.reg none [⟨(some 39), none, (.mv (.t 4))⟩, ⟨(some 2), none, (.mv (.t 39))⟩]) .ret))))))⟩
theorem k115 : compF Tryz.prog 146 = some c115 := by kernel_rfl
attribute [local simp] op_or op_an op_add op_sub op_mul oq_eql oq_neq oq_lss oq_gtr oq_leq oq_geq
attribute [-simp] intOp bin_shl bin_shr
/-- A reader of texts. -/
def TxR (c : Bool) (l : List Int) (bad : Bool) : Obj := .box [.slc c 1 (l.map (.int .u8)), .bool bad]
/-- A number below another one. -/
def numT (b : Nat) (l : List Int) (bad : Bool) : Int × List Int × Bool :=
  if bad = true ∨ (varI l).2 = 0 ∨ (b : Int) ≤ (varI l).1 then (0, l, true) else ((varI l).1, l.drop (varI l).2.toNat, false)
theorem numT_le (b : Nat) (l : List Int) (bad : Bool) : (numT b l bad).2.1.length ≤ l.length := by unfold numT; split <;> simp
theorem numT_B {b : Nat} {l : List Int} {bad : Bool} (h : isB l) : isB (numT b l bad).2.1 := by
  unfold numT; split
  · exact h
  · exact isB_drop h _
theorem numT_range (b : Nat) (l : List Int) (bad : Bool) : 0 ≤ (numT b l bad).1 ∧ ((numT b l bad).1 < b ∨ (numT b l bad).2.2 = true) := by
  have hr := varI_range l
  unfold numT; split
  · exact ⟨by simp, .inr rfl⟩
  · simp only; omega
set_option maxHeartbeats 4000000 in
/-- reader.number. -/
theorem K114 (c : Bool) (b : Nat) (hb : b ≤ 2 ^ 62) (l : List Int) (bad : Bool) (hl : l.length ≤ 2 ^ 45) (hB : isB l) : K0 145 [.ptr 0 0 0 0, .int .i64 b] [TxR c l bad] = some (.int .i64 (numT b l bad).1, [TxR c (numT b l bad).2.1 (numT b l bad).2.2]) := by
  refine K_call k114 (oraG_none (by decide) (by decide)) (by simp [c114, TxR]) ?_
  have hr := varI_range l
  have hK := fun cl => K74 cl l (by omega) hB
  have hwb : IntKind.u64.wrap (b : Int) = b := by rw [IntKind.wrap_u64]; omega
  unfold numT
  obtain ⟨x, hx⟩ : ∃ x : Nat, (varI l).1 = x := ⟨(varI l).1.toNat, by omega⟩
  obtain ⟨n, hn⟩ : ∃ n : Nat, (varI l).2 = n := ⟨(varI l).2.toNat, by omega⟩
  rw [hx, hn] at hK hr ⊢
  cases bad with
  | true =>
    rw [if_pos (.inl rfl)]
    simp [c114, TxR, hK]
  | false =>
    by_cases h1 : (n : Int) = 0
    · have z1 := eqI_t h1
      rw [if_pos (.inr (.inl h1))]
      simp [c114, TxR, hK, z1]
    · have z1 := eqI_f h1
      by_cases h2 : (b : Int) ≤ x
      · have z2 := leI_t h2
        rw [if_pos (.inr (.inr h2))]
        simp [c114, TxR, hK, z1, z2, hwb]
      · have z2 := leI_f (a := (b : Int)) (b := x) (by omega)
        rw [if_neg (by simp only [h1, h2]; decide)]
        have hw : IntKind.i64.wrap (x : Int) = x := w64 _ (by omega)
        have hnl : n ≤ l.length := by omega
        have e : (Int.toNat (n : Int)) = n := by omega
        rw [e]
        obtain ⟨r, hr2⟩ : ∃ r, l.drop n = r := ⟨_, rfl⟩
        have m1 : List.drop n (l.map (D.int .u8)) = r.map (D.int .u8) := by rw [← hr2]; simp [List.map_drop]
        rw [hr2]
        simp [c114, TxR, hK, z1, z2, hw, hwb, hnl, m1]
def u8I (x : Int) : UInt8 := UInt8.ofNat x.toNat
/-- A text. -/
def textT (l : List Int) (bad : Bool) : Tx × List Int × Bool :=
  let q := numT 61 l bad
  if q.2.2 = true ∨ (q.2.1.length : Int) < q.1 then ([], q.2.1, true) else ((q.2.1.take q.1.toNat).map u8I, q.2.1.drop q.1.toNat, false)
theorem textT_le (l : List Int) (bad : Bool) : (textT l bad).2.1.length ≤ l.length := by
  have := numT_le 61 l bad
  unfold textT; dsimp only; split
  · exact this
  · simp only [List.length_drop]; omega
theorem textT_B {l : List Int} {bad : Bool} (h : isB l) : isB (textT l bad).2.1 := by
  have := numT_B (b := 61) (bad := bad) h
  unfold textT; dsimp only; split
  · exact this
  · exact isB_drop this _
set_option maxHeartbeats 4000000 in
/-- reader.text. -/
theorem K115 (c : Bool) (l : List Int) (bad : Bool) (hl : l.length ≤ 2 ^ 45) (hB : isB l) : K0 146 [.ptr 0 0 0 0] [TxR c l bad] = some (.str (textT l bad).1, [TxR c (textT l bad).2.1 (textT l bad).2.2]) := by
  refine K_call k115 (oraG_none (by decide) (by decide)) (by simp [c115, TxR]) ?_
  have hK := K114 c 61 (by omega) l bad hl hB
  have hq := numT_range 61 l bad
  have hqB := numT_B (b := 61) (bad := bad) hB
  unfold textT
  generalize numT 61 l bad = q at *
  obtain ⟨n, r, b⟩ := q
  simp only at hK hq hqB ⊢
  unfold TxR at hK ⊢
  simp at hK
  cases b with
  | true =>
    rw [if_pos (.inl rfl)]
    simp [c115, hK, backK]
  | false =>
    obtain ⟨n, rfl⟩ : ∃ m : Nat, n = m := ⟨n.toNat, by omega⟩
    by_cases h2 : (r.length : Int) < n
    · have z2 := ltI_t h2
      rw [if_pos (.inr h2)]
      simp [c115, hK, backK, z2]
    · have z2 := ltI_f (a := (r.length : Int)) (b := n) (by omega)
      rw [if_neg (by simp only [h2]; decide)]
      have hnl : n ≤ r.length := by omega
      have e : (Int.toNat (n : Int)) = n := by omega
      rw [e]
      obtain ⟨u, hu⟩ : ∃ u, (r.take n).map u8I = u := ⟨_, rfl⟩
      rw [hu]
      have hU : (r.take n).map (fun x => UInt8.ofNat x.toNat) = u := hu
      obtain ⟨t, ht⟩ : ∃ t, r.take n = t := ⟨_, rfl⟩
      obtain ⟨d, hd⟩ : ∃ d, r.drop n = d := ⟨_, rfl⟩
      have m1 : List.take n (r.map (D.int .u8)) = t.map (D.int .u8) := by rw [← ht]; simp [List.map_take]
      have m2 : List.drop n (r.map (D.int .u8)) = d.map (D.int .u8) := by rw [← hd]; simp [List.map_drop]
      rw [ht] at hU
      rw [hd]
      simp [c115, hK, backK, z2, hnl, m1, m2, hU]
end Go.Ab
/- THE FUNCTIONS' EQUATIONS: texts: a dictionary's word, reader.some. -/
set_option linter.all false
set_option maxRecDepth 100000
namespace Go.Ab
open Go.Proofs Go.Proofs.YtomomeabfnmncaaGreatH Go.Proofs.YtomomeabfnmncaaGreatH.Crc Go.Proofs.YtomomeabfnmncaaGreatH.Var Go.Proofs.YtomomeabfnmncaaGreatH.Fr
def b116_0 : C := (.seq (.seq (.reg none [⟨(some 9), none, (.mv (.t 8))⟩, ⟨(some 10), none, (.mv (.t 1))⟩, ⟨(some 11), none, (.bin .lss [] (.t 9) (.t 10))⟩, ⟨(some 12), none, (.mv (.t 11))⟩, ⟨(some 13), (some ((some 12), true)), (.mv (.t 0))⟩, ⟨(some 14), (some ((some 12), true)), (.nc (.t 13))⟩, ⟨(some 15), (some ((some 12), true)), (.fa 1 1 false (.t 14))⟩, ⟨(some 16), (some ((some 12), true)), (.ld none (.t 15))⟩, ⟨(some 17), (some ((some 12), true)), (.un .not (.t 16))⟩, ⟨(some 18), none, (.pick (.t 12) (.t 17) (.k (.bool false)))⟩]) (.cond (.t 18) .skip (.exit 0))) (.seq (.block 1 (.reg none [⟨(some 21), none, (.mv (.t 7))⟩, ⟨(some 22), none, (.mv (.t 2))⟩, ⟨(some 23), none, (.call (.t 22) [])⟩, ⟨(some 24), none, (.bsl false 1 1 [(.str [])] [(0, (.t 23))])⟩, ⟨(some 25), none, (.app 1 16 (.t 21) (.t 24))⟩, ⟨(some 7), none, (.mv (.t 25))⟩])) (.reg none [⟨(some 19), none, (.mv (.t 8))⟩, ⟨(some 20), none, (.bin .add [] (.t 19) (.k (.int .i64 1)))⟩, ⟨(some 8), none, (.mv (.t 20))⟩])))
def c116 : Fn' := ⟨27, [(.tmp 6)], (.seq (.reg none [⟨(some 6), none, (.mv (.k nilS))⟩]) (.seq (.reg none [⟨(some 7), none, .nilrow⟩]) (.seq (.seq (.reg none [⟨(some 8), none, (.mv (.k (.int .i64 0)))⟩]) (.block 0 (.loop b116_0))) (.seq (.reg none [⟨(some 26), none, (.mv (.t 7))⟩, ⟨(some 6), none, (.mv (.t 26))⟩]) .ret))))⟩
theorem k116 : compF Tryz.prog 147 = some c116 := by kernel_rfl
def c117 : Fn' := ⟨17, [(.tmp 2)], (.seq (.reg none [⟨(some 2), none, (.mv (.k (.str [])))⟩]) (.seq (.seq (.reg none [⟨(some 4), none, (.ld none (.t 0))⟩, ⟨(some 5), none, (.ld none (.t 1))⟩, ⟨(some 6), none, (.len 1 (.t 5))⟩, ⟨(some 7), none, (.call (.f 145) [(.t 4), (.t 6)])⟩, ⟨(some 3), none, (.mv (.t 7))⟩]) (.seq (.reg none [⟨(some 8), none, (.ld none (.t 0))⟩, ⟨(some 9), none, (.nc (.t 8))⟩, ⟨(some 10), none, (.fa 1 1 false (.t 9))⟩, ⟨(some 11), none, (.ld none (.t 10))⟩, ⟨(some 12), none, (.un .not (.t 11))⟩]) (.cond (.t 12) (.seq (.reg none [⟨(some 13), none, (.ld none (.t 1))⟩, ⟨(some 14), none, (.mv (.t 3))⟩, ⟨(some 15), none, (.ia none 1 false (.t 13) (.t 14))⟩, ⟨(some 16), none, (.ld none (.t 15))⟩, ⟨(some 2), none, (.mv (.t 16))⟩]) .ret) .skip))) (.seq (.reg none [⟨(some 2), none, (.mv (.k (.str [])))⟩]) .ret)))⟩
theorem k117 : compF Tryz.prog 148 = some c117 := by kernel_rfl
attribute [local simp] op_or op_an op_add op_sub op_mul oq_eql oq_neq oq_lss oq_gtr oq_leq oq_geq
attribute [-simp] intOp bin_shl bin_shr
theorem rg2 : List.range 2 = [0, 1] := rfl
theorem rg3 : List.range 3 = [0, 1, 2] := rfl
theorem rg4 : List.range 4 = [0, 1, 2, 3] := rfl
theorem rg5 : List.range 5 = [0, 1, 2, 3, 4] := rfl
attribute [simp] rg2 rg3 rg4 rg5
/-- A word of a dictionary. -/
def wordT (W : List Tx) (l : List Int) (bad : Bool) : Tx × List Int × Bool :=
  let q := numT W.length l bad
  if q.2.2 = true then ([], q.2) else (W.getD q.1.toNat [], q.2)
theorem wordT_le (W : List Tx) (l : List Int) (bad : Bool) : (wordT W l bad).2.1.length ≤ l.length := by
  have := numT_le W.length l bad
  unfold wordT; dsimp only; split <;> exact this
theorem wordT_B {W : List Tx} {l : List Int} {bad : Bool} (h : isB l) : isB (wordT W l bad).2.1 := by
  have := numT_B (b := W.length) (bad := bad) h
  unfold wordT; dsimp only; split <;> exact this
set_option maxHeartbeats 4000000 in
theorem K117 (cw : Bool) (sw : Nat) (W : List Tx) (hs : sw = 1 ∨ W = []) (hW : W.length ≤ 2 ^ 30) (c : Bool) (l : List Int) (bad : Bool) (hl : l.length ≤ 2 ^ 45) (hB : isB l) :
    K0 148 [.ptr 0 0 0 0, .ptr 1 0 0 0] [.box [.ptr 2 0 0 0], .box [.slc cw sw (W.map D.str)], TxR c l bad] = some (.str (wordT W l bad).1, [.box [.ptr 2 0 0 0], .box [.slc cw sw (W.map D.str)], TxR c (wordT W l bad).2.1 (wordT W l bad).2.2]) := by
  refine K_call k117 (oraG_none (by decide) (by decide)) (by simp [c117, TxR]) ?_
  have hK := K114 c W.length (by omega) l bad hl hB
  have hq := numT_range W.length l bad
  unfold wordT
  generalize numT W.length l bad = q at *
  obtain ⟨n, r, b⟩ := q
  simp only at hK hq ⊢
  unfold TxR at hK ⊢
  cases b with
  | true =>
    rw [if_pos rfl]
    simp [c117, hK, backK]
  | false =>
    obtain ⟨n, rfl⟩ : ∃ m : Nat, n = m := ⟨n.toNat, by omega⟩
    have hn : n < W.length := by simp at hq; omega
    rw [if_neg (by simp)]
    obtain ⟨w, hw⟩ : ∃ w, W[n]'hn = w := ⟨_, rfl⟩
    have e : W.getD (Int.toNat (n : Int)) [] = w := by rw [← hw]; simp [hn]
    rw [e]
    rcases hs with rfl | rfl
    · simp [c117, hK, backK, hn, hw]
    · simp at hn
/-- So many texts. -/
def someT (one : List Int → Bool → Tx × List Int × Bool) : Nat → List Int → Bool → List Tx × List Int × Bool
  | 0, l, bad => ([], l, bad)
  | _ + 1, l, true => ([], l, true)
  | k + 1, l, false => ((one l false).1 :: (someT one k (one l false).2.1 (one l false).2.2).1, (someT one k (one l false).2.1 (one l false).2.2).2)
def rowT (l : List Tx) : Obj := .row (if l = [] then 0 else 1) (l.map D.str) 0
def cvT (t : List Tx) : D := if t = [] then .slc true 0 [] else .slc false 1 (t.map D.str)
def fn16 (e : Bool) : D := if e = true then .func 148 [] [.ptr 1 0 0 0, .ptr 2 0 0 0] else .func 146 [.ptr 0 0 0 0] []
def H16 (e : Bool) (cw : Bool) (sw : Nat) (W : List Tx) (c : Bool) (l : List Int) (bad : Bool) : List Obj :=
  if e = true then [TxR c l bad, .box [.ptr 0 0 0 0], .box [.slc cw sw (W.map D.str)]] else [TxR c l bad]
def t116 (e : Bool) (n : Nat) (a i : Nat) : List D := [.ptr 0 0 0 0, .int .i64 n, fn16 e, .undef, .undef, .undef, nilS, .sl (if e = true then 3 else 1) 0 a a, .int .i64 i, .undef, .undef, .undef, .undef, .undef, .undef, .undef, .undef, .undef, .undef, .undef, .undef, .undef, .undef, .undef, .undef, .undef, .undef]
def one16 (e : Bool) (W : List Tx) : List Int → Bool → Tx × List Int × Bool := if e = true then wordT W else textT
set_option maxHeartbeats 8000000 in
theorem L116 (e : Bool) (cw : Bool) (sw : Nat) (W : List Tx) (hs : sw = 1 ∨ W = []) (hW : W.length ≤ 2 ^ 30) (c : Bool) (n : Nat) (hn : n ≤ 2 ^ 30) : ∀ (k : Nat) (l : List Int) (bad : Bool) (acc : List Tx) (a i : Nat), l.length ≤ 2 ^ 40 → i + k = n → a = acc.length → acc.length = i → isB l →
    ∃ i', LpB cf0 K0 b116_0 (t116 e n 0 0) (if e = true then 4 else 2) ⟨t116 e n a i, H16 e cw sw W c l bad ++ [rowT acc]⟩ = some (.exit 0, ⟨t116 e n (acc ++ (someT (one16 e W) k l bad).1).length i', H16 e cw sw W c (someT (one16 e W) k l bad).2.1 (someT (one16 e W) k l bad).2.2 ++ [rowT (acc ++ (someT (one16 e W) k l bad).1)]⟩)
  | 0, l, bad, acc, a, i, hl, hi, ha, hai, hB => by
    have z1 : ltI (i : Int) n = false := ltI_f (by omega)
    refine ⟨i, ?_⟩
    rw [LpB_eq]
    cases e <;> simp [b116_0, t116, H16, TxR, rowT, fn16, someT, z1, ha]
  | k + 1, l, true, acc, a, i, hl, hi, ha, hai, hB => by
    have z1 : ltI (i : Int) n = true := ltI_t (by omega)
    refine ⟨i, ?_⟩
    rw [LpB_eq]
    cases e <;> simp [b116_0, t116, H16, TxR, rowT, fn16, someT, z1, ha]
  | k + 1, l, false, acc, a, i, hl, hi, ha, hai, hB => by
    have z1 : ltI (i : Int) n = true := ltI_t (by omega)
    have hw := w64 (i + 1) (by omega)
    have hb1 : (acc.length + 1) * 16 ≤ 70368744177664 := by omega
    cases e with
    | true =>
      have hK := K117 cw sw W hs hW c l false (by omega) hB
      have hq := wordT_le W l false
      have hqB := wordT_B (W := W) (bad := false) hB
      simp only [one16, if_true, someT]
      generalize wordT W l false = q at *
      obtain ⟨s, r, b⟩ := q
      simp only at hK hq hqB ⊢
      obtain ⟨i', ih⟩ := L116 true cw sw W hs hW c n hn k r b (acc ++ [s]) (acc ++ [s]).length (i + 1) (by omega) (by omega) rfl (by simp [hai]) hqB
      refine ⟨i', ?_⟩
      simp only [one16, if_true] at ih
      generalize someT (wordT W) k r b = V at *
      rw [show acc ++ s :: V.1 = acc ++ [s] ++ V.1 by simp]
      rw [LpB_eq]
      simp only [t116, H16, TxR, rowT, fn16, if_true] at hK ih ⊢
      by_cases hacc : acc = []
      · subst hacc
        subst ha
        conv => lhs; arg 6; simp [b116_0, z1, hK, hw, backK]
        simp at ih ⊢
        exact ih
      · conv => lhs; arg 6; simp [b116_0, z1, hK, hw, backK, hacc, ha, hb1]
        simp [hacc] at ih ⊢
        exact ih
    | false =>
      have hK := K115 c l false (by omega) hB
      have hq := textT_le l false
      have hqB := textT_B (bad := false) hB
      simp only [one16, Bool.false_eq_true, if_false, someT]
      generalize textT l false = q at *
      obtain ⟨s, r, b⟩ := q
      simp only at hK hq hqB ⊢
      obtain ⟨i', ih⟩ := L116 false cw sw W hs hW c n hn k r b (acc ++ [s]) (acc ++ [s]).length (i + 1) (by omega) (by omega) rfl (by simp [hai]) hqB
      refine ⟨i', ?_⟩
      simp only [one16, Bool.false_eq_true, if_false] at ih
      generalize someT textT k r b = V at *
      rw [show acc ++ s :: V.1 = acc ++ [s] ++ V.1 by simp]
      rw [LpB_eq]
      simp only [t116, H16, TxR, rowT, fn16, Bool.false_eq_true, if_false] at hK ih ⊢
      by_cases hacc : acc = []
      · subst hacc
        subst ha
        conv => lhs; arg 6; simp [b116_0, z1, hK, hw, backK]
        simp at ih ⊢
        exact ih
      · conv => lhs; arg 6; simp [b116_0, z1, hK, hw, backK, hacc, ha, hb1]
        simp [hacc] at ih ⊢
        exact ih
set_option maxHeartbeats 4000000 in
/-- reader.some. -/
theorem K116 (e : Bool) (cw : Bool) (sw : Nat) (W : List Tx) (hs : sw = 1 ∨ W = []) (hW : W.length ≤ 2 ^ 30) (c : Bool) (n : Nat) (hn : n ≤ 2 ^ 30) (l : List Int) (bad : Bool) (hl : l.length ≤ 2 ^ 40) (hB : isB l) :
    K0 147 [.ptr 0 0 0 0, .int .i64 n, fn16 e] (H16 e cw sw W c l bad) = some (cvT (someT (one16 e W) n l bad).1, H16 e cw sw W c (someT (one16 e W) n l bad).2.1 (someT (one16 e W) n l bad).2.2) := by
  obtain ⟨i', h⟩ := L116 e cw sw W hs hW c n hn n l bad [] 0 0 hl (by omega) rfl rfl hB
  generalize someT (one16 e W) n l bad = V at *
  unfold cvT
  cases e with
  | true =>
    simp only [t116, H16, TxR, rowT, fn16, if_true] at h ⊢
    refine K_call k116 (oraG_none (by decide) (by decide)) (by simp [c116]) ?_
    simp [c116]
    simp at h
    rw [h]
    by_cases hV : V.1 = []
    · simp [hV]
    · simp [hV, List.take_of_length_le, List.lookup]
  | false =>
    simp only [t116, H16, TxR, rowT, fn16, Bool.false_eq_true, if_false] at h ⊢
    refine K_call k116 (oraG_none (by decide) (by decide)) (by simp [c116]) ?_
    simp [c116]
    simp at h
    rw [h]
    by_cases hV : V.1 = []
    · simp [hV]
    · simp [hV, List.take_of_length_le, List.lookup]
end Go.Ab
/- THE FUNCTIONS' EQUATIONS: texts.Take. -/
set_option linter.all false
set_option maxRecDepth 100000
namespace Go.Ab
open Go.Proofs Go.Proofs.YtomomeabfnmncaaGreatH Go.Proofs.YtomomeabfnmncaaGreatH.Crc Go.Proofs.YtomomeabfnmncaaGreatH.Var Go.Proofs.YtomomeabfnmncaaGreatH.Fr
def c93 : Fn' := ⟨70, [(.tmp 2), (.tmp 3)], (.seq (.reg none [⟨(some 2), none, (.mv (.k nilS))⟩, ⟨(some 3), none, (.mv (.k (.int .i64 0)))⟩]) (.seq (.reg none [⟨(some 10), none, (.mv (.t 0))⟩, ⟨(some 11), none, (.bld [nilS, (.bool false)] [(0, (1, (.t 10)))])⟩, ⟨(some 12), none, (.box false (.t 11))⟩, ⟨(some 4), none, (.alloc false [.nilptr])⟩, ⟨none, none, (.st 1 (.t 4) (.t 12))⟩]) (.seq (.reg none [⟨(some 13), none, (.ld none (.t 4))⟩, ⟨(some 14), none, (.call (.f 145) [(.t 13), (.k (.int .i64 2001))])⟩, ⟨(some 5), none, (.mv (.t 14))⟩]) (.seq (.seq (.reg none [⟨(some 15), none, (.ld none (.t 4))⟩, ⟨(some 16), none, (.nc (.t 15))⟩, ⟨(some 17), none, (.fa 1 1 false (.t 16))⟩, ⟨(some 18), none, (.ld none (.t 17))⟩, ⟨(some 19), none, (.mv (.t 18))⟩, ⟨(some 20), (some ((some 19), false)), (.ld none (.t 4))⟩, ⟨(some 21), (some ((some 19), false)), (.nc (.t 20))⟩, ⟨(some 22), (some ((some 19), false)), (.fa 0 1 false (.t 21))⟩, ⟨(some 23), (some ((some 19), false)), (.ld none (.t 22))⟩, ⟨(some 24), (some ((some 19), false)), (.len 1 (.t 23))⟩, ⟨(some 25), (some ((some 19), false)), (.bin .eql [] (.t 24) (.k (.int .i64 0)))⟩, ⟨(some 26), none, (.pick (.t 19) (.k (.bool true)) (.t 25))⟩]) (.cond (.t 26) (.seq (.reg none [⟨(some 2), none, (.mv (.k nilS))⟩, ⟨(some 3), none, (.mv (.k (.int .i64 10)))⟩]) .ret) .skip)) (.seq (.reg none [⟨(some 27), none, (.ld none (.t 4))⟩, ⟨(some 28), none, (.nc (.t 27))⟩, ⟨(some 29), none, (.fa 0 1 false (.t 28))⟩, ⟨(some 30), none, (.ld none (.t 29))⟩, ⟨(some 31), none, (.ia none 1 false (.t 30) (.k (.int .i64 0)))⟩, ⟨(some 32), none, (.ld none (.t 31))⟩, ⟨(some 6), none, (.mv (.t 32))⟩]) (.seq (.reg (some [(0, 1), (0, 4), (0, 5)]) [⟨(some 33), none, (.ld none (.t 4))⟩, ⟨(some 34), none, (.ld none (.t 4))⟩, ⟨(some 35), none, (.nc (.t 34))⟩, ⟨(some 36), none, (.fa 0 1 false (.t 35))⟩, ⟨(some 37), none, (.ld none (.t 36))⟩, ⟨(some 38), none, (.sub 1 1 (.t 37) (some (.k (.int .i64 1))) none none)⟩, ⟨(some 39), none, (.nc (.t 33))⟩, ⟨(some 40), none, (.fa 0 1 false (.t 39))⟩, ⟨none, none, (.st 1 (.t 40) (.t 38))⟩]) (.seq (.reg none [⟨(some 41), none, (.ld none (.t 4))⟩, ⟨(some 42), none, (.fn 146 [(.t 41)] [])⟩, ⟨(some 7), none, (.mv (.t 42))⟩]) (.seq (.seq (.reg none [⟨(some 43), none, (.mv (.t 6))⟩, ⟨(some 44), none, (.bin .eql [] (.t 43) (.k (.int .u8 1)))⟩]) (.cond (.t 44) (.seq (.reg (some [(0, 1), (0, 4), (0, 5), (1, 5), (4, 5), (0, 8), (1, 8), (4, 8), (5, 8), (7, 8)]) [⟨(some 45), none, (.ld none (.t 4))⟩, ⟨(some 46), none, (.ld none (.t 4))⟩, ⟨(some 47), none, (.mv (.t 5))⟩, ⟨(some 48), none, (.bin .add [] (.t 47) (.k (.int .i64 1)))⟩, ⟨(some 49), none, (.call (.f 145) [(.t 46), (.t 48)])⟩, ⟨(some 50), none, (.ld none (.t 4))⟩, ⟨(some 51), none, (.fn 146 [(.t 50)] [])⟩, ⟨(some 52), none, (.call (.f 147) [(.t 45), (.t 49), (.t 51)])⟩, ⟨(some 8), none, (.alloc false [nilS])⟩, ⟨none, none, (.st 1 (.t 8) (.t 52))⟩]) (.reg none [⟨(some 53), none, (.fn 148 [] [(.t 4), (.t 8)])⟩, ⟨(some 7), none, (.mv (.t 53))⟩])) .skip)) (.seq (.reg none [⟨(some 54), none, (.ld none (.t 4))⟩, ⟨(some 55), none, (.mv (.t 5))⟩, ⟨(some 56), none, (.mv (.t 7))⟩, ⟨(some 57), none, (.call (.f 147) [(.t 54), (.t 55), (.t 56)])⟩, ⟨(some 9), none, (.mv (.t 57))⟩]) (.seq (.seq (.reg none [⟨(some 58), none, (.ld none (.t 4))⟩, ⟨(some 59), none, (.nc (.t 58))⟩, ⟨(some 60), none, (.fa 1 1 false (.t 59))⟩, ⟨(some 61), none, (.ld none (.t 60))⟩, ⟨(some 62), none, (.mv (.t 61))⟩, ⟨(some 63), (some ((some 62), false)), (.mv (.t 9))⟩, ⟨(some 64), (some ((some 62), false)), (.call (.f 79) [(.t 63)])⟩, ⟨(some 65), (some ((some 62), false)), (.mv (.t 0))⟩, ⟨(some 66), (some ((some 62), false)), (.call (.f 44) [(.t 64), (.t 65)])⟩, ⟨(some 67), (some ((some 62), false)), (.un .not (.t 66))⟩, ⟨(some 68), none, (.pick (.t 62) (.k (.bool true)) (.t 67))⟩]) (.cond (.t 68) (.seq (.reg none [⟨(some 2), none, (.mv (.k nilS))⟩, ⟨(some 3), none, (.mv (.k (.int .i64 10)))⟩]) .ret) .skip)) (.seq (.reg none [⟨(some 69), none, (.mv (.t 9))⟩, ⟨(some 2), none, (.mv (.t 69))⟩, ⟨(some 3), none, (.mv (.k (.int .i64 0)))⟩]) .ret)))))))))))⟩
theorem k93 : compF Tryz.prog 135 = some c93 := by kernel_rfl
attribute [local simp] op_or op_an op_add op_sub op_mul oq_eql oq_neq oq_lss oq_gtr oq_leq oq_geq
attribute [-simp] intOp bin_shl bin_shr
theorem text60 (l : List Int) (bad : Bool) : (textT l bad).1.length ≤ 60 := by
  have h := numT_range 61 l bad
  unfold textT; dsimp only; split
  · simp
  · rename_i h1
    simp only [List.length_map, List.length_take]
    have := h.2.resolve_right fun e => h1 (.inl e)
    omega
theorem word60 (W : List Tx) (hW : ∀ s ∈ W, s.length ≤ 60) (l : List Int) (bad : Bool) : (wordT W l bad).1.length ≤ 60 := by
  unfold wordT; dsimp only; split
  · simp
  · rw [List.getD_eq_getElem?_getD]
    cases h : W[(numT W.length l bad).1.toNat]? with
    | none => simp
    | some w => exact hW w (List.mem_of_getElem? h)
theorem some_le (one : List Int → Bool → Tx × List Int × Bool) (h1 : ∀ l bad, (one l bad).2.1.length ≤ l.length) : ∀ (k : Nat) (l : List Int) (bad : Bool), (someT one k l bad).2.1.length ≤ l.length
  | 0, l, bad => Nat.le_refl _
  | k + 1, l, true => Nat.le_refl _
  | k + 1, l, false => Nat.le_trans (some_le one h1 k _ _) (h1 l false)
theorem some_B (one : List Int → Bool → Tx × List Int × Bool) (h1 : ∀ l bad, isB l → isB (one l bad).2.1) : ∀ (k : Nat) (l : List Int) (bad : Bool), isB l → isB (someT one k l bad).2.1
  | 0, l, bad, h => h
  | k + 1, l, true, h => h
  | k + 1, l, false, h => some_B one h1 k _ _ (h1 l false h)
theorem some_len (one : List Int → Bool → Tx × List Int × Bool) : ∀ (k : Nat) (l : List Int) (bad : Bool), (someT one k l bad).1.length ≤ k
  | 0, l, bad => Nat.le_refl _
  | k + 1, l, true => Nat.zero_le _
  | k + 1, l, false => by simpa [someT] using some_len one k _ _
theorem some60 (one : List Int → Bool → Tx × List Int × Bool) (h1 : ∀ l bad, (one l bad).1.length ≤ 60) : ∀ (k : Nat) (l : List Int) (bad : Bool), ∀ s ∈ (someT one k l bad).1, s.length ≤ 60
  | 0, l, bad => by simp [someT]
  | k + 1, l, true => by simp [someT]
  | k + 1, l, false => by
    intro s hs
    simp only [someT, List.mem_cons] at hs
    rcases hs with rfl | hs
    · exact h1 l false
    · exact some60 one h1 k _ _ s hs
/-- What is behind the way's byte: the texts, and the dictionary's. -/
def wordsT (n : Int) (r : List Int) : List Tx × List Int × Bool := someT textT (numT (n + 1).toNat r false).1.toNat (numT (n + 1).toNat r false).2.1 (numT (n + 1).toNat r false).2.2
def rawT (n : Int) (w : Int) (r : List Int) : List Tx × List Int × Bool :=
  if w = 1 then someT (wordT (wordsT n r).1) n.toNat (wordsT n r).2.1 (wordsT n r).2.2 else someT textT n.toNat r false
/-- What is taken: only what putting it gives. -/
def okT (l : List Int) (s : List Tx × List Int × Bool) : Option (List Tx) := if s.2.2 = true then none else if textsI s.1 = l then some s.1 else none
/-- Texts taken: only what putting them gives. -/
def textsT (l : List Int) : Option (List Tx) :=
  if (numT 2001 l false).2.2 = true ∨ (numT 2001 l false).2.1 = [] then none
  else okT l (rawT (numT 2001 l false).1 ((numT 2001 l false).2.1.headD 0) (numT 2001 l false).2.1.tail)
def V93 : Option (List Tx) → D
  | none => .tuple [nilS, .int .i64 10]
  | some t => .tuple [cvT t, .int .i64 0]
theorem cvT_slc (t : List Tx) : ∃ cc ss, (ss = 1 ∨ t = []) ∧ cvT t = .slc cc ss (t.map D.str) := by
  unfold cvT
  by_cases h : t = []
  · subst h; exact ⟨true, 0, .inr rfl, rfl⟩
  · rw [if_neg h]; exact ⟨false, 1, .inl rfl, rfl⟩
theorem raw60 (n w : Int) (r : List Int) : ∀ s ∈ (rawT n w r).1, s.length ≤ 60 := by
  unfold rawT
  split
  · exact some60 _ (word60 _ (some60 _ text60 _ _ _)) _ _ _
  · exact some60 _ text60 _ _ _
theorem rawT_len (n w : Int) (r : List Int) : (rawT n w r).1.length ≤ n.toNat := by
  unfold rawT
  split <;> exact some_len _ _ _ _
set_option maxHeartbeats 8000000 in
/-- texts.Take. -/
theorem K93 (c : Bool) (l : List Int) (hl : l.length ≤ 2 ^ 40) (hB : isB l) : K0 135 [.slc c 1 (l.map (.int .u8))] [] = some (V93 (textsT l), []) := by
  have hK := K114 c 2001 (by omega) l false (by omega) hB
  have hq := numT_range 2001 l false
  have hqB := numT_B (b := 2001) (bad := false) hB
  have hql := numT_le 2001 l false
  refine K_call k93 (oraG_none (by decide) (by decide)) (by simp [c93]) ?_
  unfold textsT
  generalize numT 2001 l false = q at *
  obtain ⟨n, r, b⟩ := q
  simp only at hK hq hqB hql ⊢
  rw [show ((2001 : Nat) : Int) = 2001 from rfl] at hK hq
  cases b with
  | true =>
    rw [if_pos (.inl rfl)]
    simp only [TxR] at hK
    simp [c93, hK, backK, V93]
  | false =>
    cases r with
    | nil =>
      rw [if_pos (.inr rfl)]
      simp only [TxR] at hK
      simp at hK
      have z : eqI 0 0 = true := rfl
      simp [c93, hK, backK, V93, z]
    | cons w r =>
      rw [if_neg (by simp)]
      obtain ⟨n, rfl⟩ : ∃ m : Nat, n = m := ⟨n.toNat, by omega⟩
      have hn : n ≤ 2000 := by simp at hq; omega
      have hBr : isB r := fun x hx => hqB x (List.mem_cons_of_mem _ hx)
      simp only [List.length_cons] at hql
      simp only [List.headD_cons, List.tail_cons]
      have h60 := raw60 n w r
      have hlen := rawT_len n w r
      have z0 : eqI ((r.length : Int) + 1) 0 = false := eqI_f (by omega)
      have e : Int.toNat (n : Int) = n := by omega
      have h1r : 1 ≤ (r.length : Int) + 1 := by omega
      by_cases hw : w = 1
      · subst hw
        have z1 : eqI 1 1 = true := rfl
        have er : rawT n 1 r = someT (wordT (wordsT n r).1) n (wordsT n r).2.1 (wordsT n r).2.2 := by unfold rawT; rw [if_pos rfl, e]
        rw [er] at h60 hlen ⊢
        unfold wordsT at h60 hlen ⊢
        have e1 : Int.toNat ((n : Int) + 1) = n + 1 := by omega
        rw [e1] at h60 hlen ⊢
        have hwn : IntKind.i64.wrap ((n : Int) + 1) = (n : Int) + 1 := w64 _ (by omega)
        have hD := K114 c (n + 1) (by omega) r false (by omega) hBr
        have hDr := numT_range (n + 1) r false
        have hDl := numT_le (n + 1) r false
        have hDB := numT_B (b := n + 1) (bad := false) hBr
        have hDn : (numT (n + 1) r false).1.toNat ≤ 2 ^ 30 := by
          rcases hDr.2 with h | h
          · omega
          · have : (numT (n + 1) r false).1 = 0 := by
              unfold numT at h ⊢
              split at h
              · rename_i h1; rw [if_pos h1]
              · cases h
            rw [this]; decide
        generalize numT (n + 1) r false = q at *
        obtain ⟨m, r1, b1⟩ := q
        simp only at hD hDr hDl hDB hDn h60 hlen ⊢
        obtain ⟨m, rfl⟩ : ∃ k : Nat, m = k := ⟨m.toNat, by omega⟩
        have e2 : Int.toNat (m : Int) = m := by omega
        rw [e2] at h60 hlen hDn ⊢
        have hW16 := K116 false true 1 [] (.inl rfl) (by simp) c m hDn r1 b1 (by omega) hDB
        have hWl := some_le textT textT_le m r1 b1
        have hWB := some_B textT (fun _ _ => textT_B) m r1 b1 hDB
        have hWn := some_len textT m r1 b1
        simp only [one16, Bool.false_eq_true, if_false, H16, fn16] at hW16
        generalize someT textT m r1 b1 = S at *
        obtain ⟨W, r2, b2⟩ := S
        simp only at hW16 hWl hWB hWn h60 hlen ⊢
        obtain ⟨cw, sw, hsw, hcw⟩ := cvT_slc W
        rw [hcw] at hW16
        have h16 := K116 true cw sw W hsw (by omega) c n (by omega) r2 b2 (by omega) hWB
        simp only [one16, if_true, H16, fn16] at h16
        generalize someT (wordT W) n r2 b2 = s at *
        obtain ⟨t, r', b'⟩ := s
        simp only at h16 h60 hlen ⊢
        obtain ⟨cc, ss, hss, hcv⟩ := cvT_slc t
        rw [hcv] at h16
        have hd := dict_len t 60 (by omega) (by omega) h60
        have he := each_len 60 (by omega) t h60
        have h54 := K54 cc ss t hss (by omega) (by omega) (by omega)
        have hEq := K43 false c (textsI t) l (isB_texts t) hB
        unfold TxR at hK h16 hW16 hD
        simp at hK hD
        unfold okT
        simp only
        cases b' with
        | true =>
          rw [if_pos rfl]
          simp [c93, hK, hD, backK, V93, z0, z1, h1r, hwn, hW16, h16, evOp, evM, wants, Ins.go, X.ev, iaM, ldM, binD, setD, applyW, Ek_ops_nil, allFree, free, callM, callP, callO, appM]
        | false =>
          rw [if_neg (by simp)]
          generalize textsI t = E at *
          by_cases hE : E = l
          · have hEE : (E == l) = true := by simp [hE]
            rw [hEE] at hEq
            rw [if_pos hE]
            simp [c93, hK, hD, backK, V93, z0, z1, h1r, hwn, hW16, h16, hcv, h54, hEq, evOp, evM, wants, Ins.go, X.ev, iaM, ldM, binD, setD, applyW, Ek_ops_nil, allFree, free, callM, callP, callO, appM]
          · have hEE : (E == l) = false := by simp [hE]
            rw [hEE] at hEq
            rw [if_neg hE]
            simp [c93, hK, hD, backK, V93, z0, z1, h1r, hwn, hW16, h16, h54, hEq, evOp, evM, wants, Ins.go, X.ev, iaM, ldM, binD, setD, applyW, Ek_ops_nil, allFree, free, callM, callP, callO, appM]
      · have z1 : eqI w 1 = false := eqI_f hw
        have er : rawT n w r = someT textT n r false := by unfold rawT; rw [if_neg hw, e]
        rw [er] at h60 hlen ⊢
        have h16 := K116 false true 1 [] (.inl rfl) (by simp) c n (by omega) r false (by omega) hBr
        simp only [one16, Bool.false_eq_true, if_false, H16, fn16] at h16
        generalize someT textT n r false = s at *
        obtain ⟨t, r', b'⟩ := s
        simp only at h16 h60 hlen ⊢
        obtain ⟨cc, ss, hss, hcv⟩ := cvT_slc t
        rw [hcv] at h16
        have hd := dict_len t 60 (by omega) (by omega) h60
        have he := each_len 60 (by omega) t h60
        have h54 := K54 cc ss t hss (by omega) (by omega) (by omega)
        have hEq := K43 false c (textsI t) l (isB_texts t) hB
        unfold TxR at hK h16
        simp at hK
        unfold okT
        simp only
        cases b' with
        | true =>
          rw [if_pos rfl]
          simp [c93, hK, backK, V93, z0, z1, h1r, h16, evOp, evM, wants, Ins.go, X.ev, iaM, ldM, binD, setD, applyW, Ek_ops_nil, allFree, free, callM, callP, appM]
        | false =>
          rw [if_neg (by simp)]
          generalize textsI t = E at *
          by_cases hE : E = l
          · have hEE : (E == l) = true := by simp [hE]
            rw [hEE] at hEq
            rw [if_pos hE]
            simp [c93, hK, backK, V93, z0, z1, h1r, h16, hcv, h54, hEq, evOp, evM, wants, Ins.go, X.ev, iaM, ldM, binD, setD, applyW, Ek_ops_nil, allFree, free, callM, callP, appM]
          · have hEE : (E == l) = false := by simp [hE]
            rw [hEE] at hEq
            rw [if_neg hE]
            simp [c93, hK, backK, V93, z0, z1, h1r, h16, h54, hEq, evOp, evM, wants, Ins.go, X.ev, iaM, ldM, binD, setD, applyW, Ek_ops_nil, allFree, free, callM, callP, appM]
end Go.Ab
