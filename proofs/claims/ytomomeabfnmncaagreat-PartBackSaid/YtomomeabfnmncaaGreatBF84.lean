/- THE FUNCTIONS' EQUATIONS: texts.Each. -/
import Derived.Test.YtomomeabfnmncaaGreatBBr
set_option linter.all false
set_option maxRecDepth 100000
namespace Go.Ab
open Go.Proofs Go.Proofs.YtomomeabfnmncaaGreatH Go.Proofs.YtomomeabfnmncaaGreatH.Crc Go.Proofs.YtomomeabfnmncaaGreatH.Var Go.Proofs.YtomomeabfnmncaaGreatH.Fr
def b84_0 : C := (.seq (.reg none [⟨(some 9), none, (.bin .lss [] (.t 8) (.t 7))⟩]) (.seq (.cond (.t 9) .skip (.exit 0)) (.seq (.block 1 (.seq (.reg none [⟨(some 10), none, (.ia none 1 false (.t 6) (.t 8))⟩, ⟨(some 11), none, (.ld none (.t 10))⟩, ⟨(some 5), none, (.mv (.t 11))⟩]) (.reg none [⟨(some 12), none, (.mv (.t 3))⟩, ⟨(some 13), none, (.mv (.t 5))⟩, ⟨(some 14), none, (.len 0 (.t 13))⟩, ⟨(some 15), none, (.cvt (.int .u64) (.t 14))⟩, ⟨(some 16), none, (.call (.f 71) [(.t 15)])⟩, ⟨(some 17), none, (.app 1 1 (.t 12) (.t 16))⟩, ⟨(some 18), none, (.mv (.t 5))⟩, ⟨(some 19), none, (.app 1 1 (.t 17) (.t 18))⟩, ⟨(some 3), none, (.mv (.t 19))⟩]))) (.reg none [⟨(some 20), none, (.bin .add [] (.t 8) (.k (.int .i64 1)))⟩, ⟨(some 8), none, (.mv (.t 20))⟩]))))
def c84 : Fn' := ⟨22, [(.tmp 2)], (.seq (.reg none [⟨(some 2), none, (.mv (.k nilS))⟩]) (.seq (.reg none [⟨(some 3), none, .nilrow⟩]) (.seq (.seq (.reg none [⟨(some 6), none, (.mv (.t 0))⟩, ⟨(some 7), none, (.len 1 (.t 6))⟩, ⟨(some 8), none, (.mv (.k (.int .i64 0)))⟩]) (.block 0 (.loop b84_0))) (.seq (.reg none [⟨(some 21), none, (.mv (.t 3))⟩, ⟨(some 2), none, (.mv (.t 21))⟩]) .ret))))⟩
theorem k84 : compF Tryz.prog 110 = some c84 := by kernel_rfl
attribute [local simp] op_or op_an op_add op_sub op_mul oq_eql oq_neq oq_lss oq_gtr oq_leq oq_geq
attribute [-simp] intOp bin_shl
/-- A text's bytes. -/
def bsI (s : List UInt8) : List Int := s.map fun b => (b.toNat : Int)
theorem bsI_map (s : List UInt8) : (bsI s).map (D.int .u8) = s.map fun b => D.int .u8 (b.toNat : Int) := by simp [bsI]
theorem bsI_len (s : List UInt8) : (bsI s).length = s.length := by simp [bsI]
/-- Texts, one behind the other, each with its length ahead. -/
def eachI (l : List (List UInt8)) : List Int := l.flatMap fun s => putI s.length ++ bsI s
def t84 (c : Bool) (l : List (List UInt8)) (a i : Nat) : List D := [.slc c 1 (l.map D.str), .undef, nilS, .sl 0 0 a a, .undef, .undef, .slc c 1 (l.map D.str), .int .i64 l.length, .int .i64 i, .undef, .undef, .undef, .undef, .undef, .undef, .undef, .undef, .undef, .undef, .undef, .undef, .undef]
set_option maxHeartbeats 4000000 in
theorem L84 (c : Bool) (l : List (List UInt8)) (hl : l.length ≤ 2 ^ 30) : ∀ (t pre : List (List UInt8)) (acc : List Int) (a i : Nat), l = pre ++ t → i = pre.length → a = acc.length → acc.length + (eachI t).length ≤ 2 ^ 40 →
    LpB cf0 K0 b84_0 (t84 c l 0 0) 1 ⟨t84 c l a i, [.row (if acc = [] then 0 else 1) (acc.map (.int .u8)) 0]⟩ = some (.exit 0, ⟨t84 c l (acc ++ eachI t).length l.length, [.row (if acc ++ eachI t = [] then 0 else 1) ((acc ++ eachI t).map (.int .u8)) 0]⟩)
  | [], pre, acc, a, i, h, hi, ha, hb => by
    have : l = pre := by simpa using h
    subst this
    have z1 : ltI (i : Int) l.length = false := ltI_f (by omega)
    rw [LpB_eq]
    simp only [t84]
    conv => lhs; arg 6; simp [b84_0, z1]
    simp [hi, ha, eachI]
  | s :: t, pre, acc, a, i, h, hi, ha, hb => by
    have hll : i < l.length := by rw [h, hi]; simp
    have z1 : ltI (i : Int) l.length = true := ltI_t (by omega)
    have hget : l[i]? = some s := by rw [h, hi]; simp
    have hgi : l[i]'hll = s := by rw [List.getElem?_eq_getElem hll] at hget; exact Option.some.inj hget
    have hw := w64 (i + 1) (by omega)
    have ee : eachI (s :: t) = putI s.length ++ (bsI s ++ eachI t) := by simp [eachI]
    rw [ee] at hb ⊢
    simp only [List.length_append, bsI_len] at hb
    have hwx : IntKind.u64.wrap (s.length : Int) = s.length := by rw [IntKind.wrap_u64]; omega
    have hK := N66 (s.length : Int) (by omega) (by omega)
    have hpn : ¬ putI (s.length : Int) = [] := by
      intro e
      have := putI_pos (s.length : Int)
      rw [e] at this
      cases this
    generalize putI (s.length : Int) = p at *
    have ih := L84 c l hl t (pre ++ [s]) (acc ++ (p ++ bsI s)) (acc ++ (p ++ bsI s)).length (i + 1) (by rw [h]; simp) (by simp [hi]) rfl (by simp [bsI_len]; omega)
    rw [show acc ++ (p ++ (bsI s ++ eachI t)) = acc ++ (p ++ bsI s) ++ eachI t by simp]
    have b0 : p.length ≤ 70368744177664 := by omega
    have b1 : acc.length + p.length ≤ 70368744177664 := by omega
    have b2 : acc.length + (p.length + s.length) ≤ 70368744177664 := by omega
    have b3 : p.length + s.length ≤ 70368744177664 := by omega
    rw [LpB_eq]
    simp only [t84] at ih ⊢
    by_cases hs : s = []
    · subst hs
      simp only [bsI, List.map_nil, List.append_nil, List.length_nil, Int.natCast_zero] at ih ⊢ hwx hK
      have hw0 : IntKind.u64.wrap 0 = 0 := by decide
      have hK0 : K0 71 [.int .u64 0] [] = _ := hK
      by_cases hacc : acc = []
      · subst hacc
        subst ha
        conv => lhs; arg 6; simp [b84_0, z1, hll, hgi, hw, hK0, hw0, hpn, b0, List.take_of_length_le, Nat.add_assoc]
        simp [hpn] at ih ⊢
        exact ih
      · conv => lhs; arg 6; simp [b84_0, z1, hll, hgi, hw, hK0, hw0, hpn, hacc, ha, b1, List.take_of_length_le, Nat.add_assoc]
        simp [hpn, hacc] at ih ⊢
        exact ih
    · by_cases hacc : acc = []
      · subst hacc
        subst ha
        conv => lhs; arg 6; simp [b84_0, z1, hll, hgi, hw, hK, hwx, hpn, hs, b0, b3, List.take_of_length_le, Nat.add_assoc]
        simp [hpn, bsI_map, bsI_len] at ih ⊢
        exact ih
      · conv => lhs; arg 6; simp [b84_0, z1, hll, hgi, hw, hK, hwx, hpn, hs, hacc, ha, b1, b2, List.take_of_length_le, Nat.add_assoc]
        simp [hpn, hacc, bsI_map, bsI_len, Nat.add_assoc] at ih ⊢
        exact ih
set_option maxHeartbeats 4000000 in
/-- texts.Each. -/
theorem K84 (c : Bool) (s : Nat) (l : List (List UInt8)) (hs : s = 1 ∨ l = []) (hl : l.length ≤ 2 ^ 30) (hb : (eachI l).length ≤ 2 ^ 40) : ∃ c' s', (s' = 1 ∨ l = []) ∧ K0 110 [.slc c s (l.map D.str)] [] = some (.slc c' s' ((eachI l).map (.int .u8)), []) := by
  by_cases hn : l = []
  · subst hn
    have z1 : ltI 0 0 = false := rfl
    refine ⟨true, 0, .inr rfl, K_call k84 (oraG_none (by decide) (by decide)) (by simp [c84]) ?_⟩
    simp [c84]
    rw [LpB_eq]
    simp [b84_0, z1, eachI]
  · obtain rfl := hs.resolve_right hn
    have h := L84 c l hl l [] [] 0 0 rfl rfl rfl (by simpa using hb)
    have he : ¬ eachI l = [] := by
      cases l with
      | nil => exact absurd rfl hn
      | cons x l =>
        intro e
        have h3 := putI_pos (x.length : Int)
        have ee : eachI (x :: l) = putI x.length ++ (bsI x ++ eachI l) := by simp [eachI]
        rw [ee] at e
        rw [(List.append_eq_nil_iff.1 e).1] at h3
        cases h3
    refine ⟨false, 1, .inl rfl, K_call k84 (oraG_none (by decide) (by decide)) (by simp [c84]) ?_⟩
    generalize eachI l = E at *
    simp only [t84] at h
    simp [c84]
    simp [he] at h
    rw [h]
    simp [he, List.take_of_length_le]
end Go.Ab
/- THE FUNCTIONS' EQUATIONS: texts.Dict. -/
set_option linter.all false
set_option maxRecDepth 100000
namespace Go.Ab
open Go.Proofs Go.Proofs.YtomomeabfnmncaaGreatH Go.Proofs.YtomomeabfnmncaaGreatH.Crc Go.Proofs.YtomomeabfnmncaaGreatH.Var Go.Proofs.YtomomeabfnmncaaGreatH.Fr
def b85_0 : C := (.seq (.reg none [⟨(some 15), none, (.bin .lss [] (.t 14) (.t 13))⟩]) (.seq (.cond (.t 15) .skip (.exit 0)) (.seq (.block 1 (.seq (.reg none [⟨(some 16), none, (.ia none 1 false (.t 12) (.t 14))⟩, ⟨(some 17), none, (.ld none (.t 16))⟩, ⟨(some 7), none, (.mv (.t 17))⟩]) (.seq (.reg none [⟨(some 18), none, (.mv (.t 7))⟩, ⟨(some 19), none, (.bld [(.str [])] [(0, (1, (.t 18)))])⟩, ⟨(some 8), none, (.alloc false [(.str [])])⟩, ⟨none, none, (.st 1 (.t 8) (.t 19))⟩]) (.seq (.seq (.reg none [⟨(some 21), none, (.mv (.t 3))⟩, ⟨(some 22), none, (.ld (some 1) (.t 8))⟩, ⟨(some 23), none, (.mget true [1] (.int .i64 0) (.t 21) (.t 22))⟩, ⟨(some 20), none, (.mv (.t 23))⟩, ⟨(some 24), none, (.ext (.t 20) 0)⟩, ⟨(some 25), none, (.ext (.t 20) 1)⟩, ⟨(some 9), none, (.mv (.t 24))⟩, ⟨(some 10), none, (.mv (.t 25))⟩]) (.seq (.reg none [⟨(some 26), none, (.mv (.t 10))⟩, ⟨(some 27), none, (.un .not (.t 26))⟩]) (.cond (.t 27) (.seq (.reg none [⟨(some 28), none, (.mv (.t 3))⟩, ⟨(some 29), none, (.ld (some 1) (.t 8))⟩, ⟨(some 30), none, (.mv (.t 4))⟩, ⟨(some 31), none, (.len 1 (.t 30))⟩, ⟨none, none, (.mset [1] (.t 28) (.t 29) (.t 31))⟩]) (.reg none [⟨(some 32), none, (.mv (.t 4))⟩, ⟨(some 33), none, (.mv (.t 7))⟩, ⟨(some 34), none, (.bsl false 1 1 [(.str [])] [(0, (.t 33))])⟩, ⟨(some 35), none, (.app 1 16 (.t 32) (.t 34))⟩, ⟨(some 4), none, (.mv (.t 35))⟩])) .skip))) (.reg none [⟨(some 36), none, (.mv (.t 5))⟩, ⟨(some 37), none, (.mv (.t 3))⟩, ⟨(some 38), none, (.ld (some 1) (.t 8))⟩, ⟨(some 39), none, (.mget false [1] (.int .i64 0) (.t 37) (.t 38))⟩, ⟨(some 40), none, (.cvt (.int .u64) (.t 39))⟩, ⟨(some 41), none, (.call (.f 71) [(.t 40)])⟩, ⟨(some 42), none, (.app 1 1 (.t 36) (.t 41))⟩, ⟨(some 5), none, (.mv (.t 42))⟩]))))) (.reg none [⟨(some 43), none, (.bin .add [] (.t 14) (.k (.int .i64 1)))⟩, ⟨(some 14), none, (.mv (.t 43))⟩]))))
def c85 : Fn' := ⟨53, [(.tmp 2)], (.seq (.reg none [⟨(some 2), none, .nilrow⟩]) (.seq (.reg none [⟨(some 11), none, .mkmap⟩, ⟨(some 3), none, (.mv (.t 11))⟩]) (.seq (.reg none [⟨(some 4), none, .nilrow⟩]) (.seq (.reg none [⟨(some 5), none, .nilrow⟩]) (.seq (.seq (.reg none [⟨(some 12), none, (.mv (.t 0))⟩, ⟨(some 13), none, (.len 1 (.t 12))⟩, ⟨(some 14), none, (.mv (.k (.int .i64 0)))⟩]) (.block 0 (.loop b85_0))) (.seq (.reg none [⟨(some 44), none, (.mv (.t 4))⟩, ⟨(some 45), none, (.len 1 (.t 44))⟩, ⟨(some 46), none, (.cvt (.int .u64) (.t 45))⟩, ⟨(some 47), none, (.call (.f 71) [(.t 46)])⟩, ⟨(some 48), none, (.mv (.t 4))⟩, ⟨(some 49), none, (.call (.f 110) [(.t 48)])⟩, ⟨(some 50), none, (.app 1 1 (.t 47) (.t 49))⟩, ⟨(some 51), none, (.mv (.t 5))⟩, ⟨(some 52), none, (.app 1 1 (.t 50) (.t 51))⟩, ⟨(some 2), none, (.mv (.t 52))⟩]) .ret))))))⟩
theorem k85 : compF Tryz.prog 111 = some c85 := by kernel_rfl
attribute [local simp] op_or op_an op_add op_sub op_mul oq_eql oq_neq oq_lss oq_gtr oq_leq oq_geq
attribute [-simp] intOp bin_shl
abbrev Tx := List UInt8
theorem putI_ne' (x : Int) : ¬ putI x = [] := by
  intro e
  have := putI_pos x
  rw [e] at this
  cases this
/-- The map's entries. -/
def entF (p : Tx × Nat) : D × D := (.agg [.str p.1], .int .i64 p.2)
def ent (W : List Tx) : List (D × D) := W.zipIdx.map entF
theorem find_ent (s : Tx) : ∀ (W : List Tx) (k : Nat), findD [1] (.agg [.str s]) ((W.zipIdx k).map entF) = some (if s ∈ W then some (.int .i64 ((k + W.idxOf s : Nat) : Int)) else none)
  | [], k => by simp [findD]
  | w :: W, k => by
    have ih := find_ent s W (k + 1)
    rw [List.zipIdx_cons, List.map_cons]
    by_cases h : s = w
    · subst h
      simp [findD, keyEq, eqCells, eqCell, entF]
    · have hb : (s == w) = false := by simpa using h
      have hb2 : (w == s) = false := by simpa using fun e : w = s => h e.symm
      have e1 : findD [1] (.agg [.str s]) (entF (w, k) :: List.map entF (W.zipIdx (k + 1))) = findD [1] (.agg [.str s]) (List.map entF (W.zipIdx (k + 1))) := by
        simp [findD, keyEq, eqCells, eqCell, entF, hb]
      rw [e1, ih]
      by_cases hm : s ∈ W
      · have : (w :: W).idxOf s = W.idxOf s + 1 := by rw [List.idxOf_cons, hb2]; rfl
        simp [hm, this, Nat.add_assoc, Nat.add_comm 1]
      · simp [hm, h]
theorem ent_snoc (W : List Tx) (s : Tx) : ent (W ++ [s]) = ent W ++ [(.agg [.str s], .int .i64 (W.length : Int))] := by
  simp [ent, List.zipIdx_append, entF]
/-- A text more: the words so far, and where the texts are. -/
def dictS (q : List Tx × List Int) (s : Tx) : List Tx × List Int := if s ∈ q.1 then (q.1, q.2 ++ putI (q.1.idxOf s)) else (q.1 ++ [s], q.2 ++ putI q.1.length)
def dictI (l : List Tx) : List Int := putI (l.foldl dictS ([], [])).1.length ++ (eachI (l.foldl dictS ([], [])).1 ++ (l.foldl dictS ([], [])).2)
def t85 (c : Bool) (l : List Tx) (a b i : Nat) : List D := [.slc c 1 (l.map D.str), .undef, .sl 0 0 0 0, .map 1, .sl 2 0 a a, .sl 3 0 b b, .undef, .undef, .undef, .undef, .undef, .map 1, .slc c 1 (l.map D.str), .int .i64 l.length, .int .i64 i, .undef, .undef, .undef, .undef, .undef, .undef, .undef, .undef, .undef, .undef, .undef, .undef, .undef, .undef, .undef, .undef, .undef, .undef, .undef, .undef, .undef, .undef, .undef, .undef, .undef, .undef, .undef, .undef, .undef, .undef, .undef, .undef, .undef, .undef, .undef, .undef, .undef, .undef]
def H85 (W : List Tx) (P : List Int) : List Obj := [.row 0 [] 0, .mp (ent W), .row (if W = [] then 0 else 1) (W.map D.str) 0, .row (if P = [] then 0 else 1) (P.map (.int .u8)) 0]
set_option maxHeartbeats 8000000 in
theorem L85 (c : Bool) (l : List Tx) (hl : l.length ≤ 2 ^ 30) : ∀ (t pre : List Tx) (W : List Tx) (P : List Int) (i : Nat), l = pre ++ t → i = pre.length → W.length ≤ i → P.length ≤ 10 * i →
    LpB cf0 K0 b85_0 (t85 c l 0 0 0) 4 ⟨t85 c l W.length P.length i, H85 W P⟩ = some (.exit 0, ⟨t85 c l (t.foldl dictS (W, P)).1.length (t.foldl dictS (W, P)).2.length l.length, H85 (t.foldl dictS (W, P)).1 (t.foldl dictS (W, P)).2⟩)
  | [], pre, W, P, i, h, hi, hW, hP => by
    have : l = pre := by simpa using h
    subst this
    have z1 : ltI (i : Int) l.length = false := ltI_f (by omega)
    rw [LpB_eq]
    simp only [t85, H85]
    by_cases hW0 : W = [] <;> by_cases hP0 : P = [] <;> (conv => lhs; arg 6; simp [b85_0, z1, hW0, hP0]) <;> simp [hi, hW0, hP0]
  | s :: t, pre, W, P, i, h, hi, hW, hP => by
    have hil : i < 2 ^ 30 := by have : l.length = pre.length + (t.length + 1) := by rw [h]; simp
                                omega
    have hll : i < l.length := by rw [h, hi]; simp
    have z1 : ltI (i : Int) l.length = true := ltI_t (by omega)
    have hget : l[i]? = some s := by rw [h, hi]; simp
    have hgi : l[i]'hll = s := by rw [List.getElem?_eq_getElem hll] at hget; exact Option.some.inj hget
    have hw := w64 (i + 1) (by omega)
    rw [List.foldl_cons]
    by_cases hm : s ∈ W
    · have hd : dictS (W, P) s = (W, P ++ putI (W.idxOf s)) := by unfold dictS; rw [if_pos hm]
      rw [hd]
      have hix : W.idxOf s ≤ W.length := List.idxOf_le_length
      have hf := find_ent s W 0
      rw [if_pos hm, Nat.zero_add] at hf
      change findD [1] (.agg [.str s]) (ent W) = _ at hf
      have hwn : ¬ W = [] := by intro e; rw [e] at hm; cases hm
      have hwx : IntKind.u64.wrap ((W.idxOf s : Nat) : Int) = (W.idxOf s : Nat) := by rw [IntKind.wrap_u64]; omega
      have hK := N66 ((W.idxOf s : Nat) : Int) (by omega) (by omega)
      have hpn := putI_ne' ((W.idxOf s : Nat) : Int)
      have hpl := putI_len10 ((W.idxOf s : Nat) : Int) (by omega)
      generalize W.idxOf s = k at *
      generalize putI (k : Int) = p at *
      have ih := L85 c l hl t (pre ++ [s]) W (P ++ p) (i + 1) (by rw [h]; simp) (by simp [hi]) (by omega) (by simp; omega)
      have b0 : p.length ≤ 70368744177664 := by omega
      have b1 : P.length + p.length ≤ 70368744177664 := by omega
      rw [LpB_eq]
      simp only [t85, H85] at ih ⊢
      by_cases hP0 : P = []
      · subst hP0
        conv => lhs; arg 6; simp [b85_0, z1, hll, hgi, hf, hw, hwx, hK, hpn, hwn, b0, List.take_of_length_le]
        simp [hpn, hwn] at ih ⊢
        exact ih
      · conv => lhs; arg 6; simp [b85_0, z1, hll, hgi, hf, hw, hwx, hK, hpn, hwn, hP0, b1, List.take_of_length_le]
        simp [hpn, hwn, hP0] at ih ⊢
        exact ih
    · have hd : dictS (W, P) s = (W ++ [s], P ++ putI W.length) := by unfold dictS; rw [if_neg hm]
      rw [hd]
      have hf := find_ent s W 0
      rw [if_neg hm] at hf
      change findD [1] (.agg [.str s]) (ent W) = _ at hf
      have hf2 := find_ent s (W ++ [s]) 0
      rw [if_pos (by simp), Nat.zero_add] at hf2
      change findD [1] (.agg [.str s]) (ent (W ++ [s])) = _ at hf2
      have hix : (W ++ [s]).idxOf s = W.length := by rw [List.idxOf_append, if_neg hm]; simp
      rw [hix, ent_snoc] at hf2
      have hwx : IntKind.u64.wrap (W.length : Int) = W.length := by rw [IntKind.wrap_u64]; omega
      have hK := N66 (W.length : Int) (by omega) (by omega)
      have hpn := putI_ne' (W.length : Int)
      have hpl := putI_len10 (W.length : Int) (by omega)
      generalize putI (W.length : Int) = p at *
      have ih := L85 c l hl t (pre ++ [s]) (W ++ [s]) (P ++ p) (i + 1) (by rw [h]; simp) (by simp [hi]) (by simp; omega) (by simp; omega)
      have b0 : p.length ≤ 70368744177664 := by omega
      have b1 : P.length + p.length ≤ 70368744177664 := by omega
      have b2 : (W.length + 1) * 16 ≤ 70368744177664 := by omega
      rw [LpB_eq]
      simp only [t85, H85, ent_snoc] at ih ⊢
      by_cases hW0 : W = []
      · subst hW0
        have hw0 : IntKind.u64.wrap 0 = 0 := by decide
        have hK0 : K0 71 [.int .u64 0] [] = _ := hK
        have hf20 : findD [1] (.agg [.str s]) (ent [] ++ [(.agg [.str s], .int .i64 0)]) = some (some (.int .i64 0)) := hf2
        by_cases hP0 : P = []
        · subst hP0
          conv => lhs; arg 6; simp [b85_0, z1, hll, hgi, hf, hf20, hw, hw0, hK0, hpn, b0, List.take_of_length_le]
          simp [hpn] at ih ⊢
          exact ih
        · conv => lhs; arg 6; simp [b85_0, z1, hll, hgi, hf, hf20, hw, hw0, hK0, hpn, hP0, b1, List.take_of_length_le]
          simp [hpn, hP0] at ih ⊢
          exact ih
      · by_cases hP0 : P = []
        · subst hP0
          conv => lhs; arg 6; simp [b85_0, z1, hll, hgi, hf, hf2, hw, hwx, hK, hpn, hW0, b0, b2, List.take_of_length_le]
          simp [hpn, hW0] at ih ⊢
          exact ih
        · conv => lhs; arg 6; simp [b85_0, z1, hll, hgi, hf, hf2, hw, hwx, hK, hpn, hW0, hP0, b1, b2, List.take_of_length_le]
          simp [hpn, hW0, hP0] at ih ⊢
          exact ih
theorem dictS_le (s : Tx) (q : List Tx × List Int) : (dictS q s).1.length ≤ q.1.length + 1 ∧ ¬ (dictS q s).1 = [] ∧ ¬ (dictS q s).2 = [] := by
  unfold dictS
  by_cases h : s ∈ q.1
  · rw [if_pos h]
    refine ⟨by simp, fun e => ?_, fun e => putI_ne' _ (List.append_eq_nil_iff.1 e).2⟩
    rw [show q.1 = [] from e] at h
    cases h
  · rw [if_neg h]
    exact ⟨by simp, by simp, fun e => putI_ne' _ (List.append_eq_nil_iff.1 e).2⟩
theorem dictF : ∀ (l : List Tx) (q : List Tx × List Int), (l.foldl dictS q).1.length ≤ q.1.length + l.length ∧ (¬ l = [] → ¬ (l.foldl dictS q).1 = [] ∧ ¬ (l.foldl dictS q).2 = [])
  | [], q => by simp
  | s :: l, q => by
    have h := dictF l (dictS q s)
    have h2 := dictS_le s q
    simp only [List.foldl_cons, List.length_cons]
    refine ⟨by omega, fun _ => ?_⟩
    by_cases hl : l = []
    · subst hl; exact h2.2
    · exact h.2 hl
set_option maxHeartbeats 4000000 in
/-- texts.Dict. -/
theorem K85 (c : Bool) (s : Nat) (l : List Tx) (hs : s = 1 ∨ l = []) (hl : l.length ≤ 2 ^ 30) (hb : (dictI l).length ≤ 2 ^ 40) : K0 111 [.slc c s (l.map D.str)] [] = some (.slc false 1 ((dictI l).map (.int .u8)), []) := by
  by_cases hn : l = []
  · subst hn
    have z1 : ltI 0 0 = false := rfl
    have hK : K0 71 [.int .u64 0] [] = _ := N66 0 (by omega) (by omega)
    have hE := K84 true 0 [] (.inr rfl) (by simp) (by simp [eachI])
    obtain ⟨c', s', hs', hE⟩ := hE
    simp [eachI] at hE
    have hw0 : IntKind.u64.wrap 0 = 0 := by decide
    have hpn := putI_ne' 0
    have hpl := putI_len10 0 (by omega)
    have e : dictI [] = putI 0 := by simp [dictI, eachI]
    rw [e]
    have hbx : (putI 0).length ≤ 70368744177664 := by omega
    refine K_call k85 (oraG_none (by decide) (by decide)) (by simp [c85]) ?_
    simp [c85]
    rw [LpB_eq]
    simp [b85_0, z1, hK, hE, hw0, hpn, hbx, List.take_of_length_le]
  · obtain rfl := hs.resolve_right hn
    have h := L85 c l hl l [] [] [] 0 rfl rfl (by simp) (by simp)
    have hf := dictF l ([], [])
    have hf2 := hf.2 hn
    have e : dictI l = putI (l.foldl dictS ([], [])).1.length ++ (eachI (l.foldl dictS ([], [])).1 ++ (l.foldl dictS ([], [])).2) := rfl
    rw [e] at hb ⊢
    generalize l.foldl dictS ([], []) = q at *
    obtain ⟨W, P⟩ := q
    obtain ⟨hW, hP⟩ := hf2
    have hl1 : W.length ≤ l.length := by simpa using hf.1
    simp only at hW hP hb h ⊢
    simp only [List.length_append] at hb
    have hwx : IntKind.u64.wrap (W.length : Int) = W.length := by rw [IntKind.wrap_u64]; omega
    have hK := N66 (W.length : Int) (by omega) (by omega)
    have hpn := putI_ne' (W.length : Int)
    obtain ⟨c', s', hs', hE⟩ := K84 false 1 W (.inl rfl) (by omega) (by omega)
    have hs1 := hs'.resolve_right hW
    subst hs1
    generalize putI (W.length : Int) = p at *
    have hEn : ¬ eachI W = [] := by
      cases W with
      | nil => exact absurd rfl hW
      | cons x W =>
        intro e
        have ee : eachI (x :: W) = putI x.length ++ (bsI x ++ eachI W) := by simp [eachI]
        rw [ee] at e
        exact putI_ne' _ (List.append_eq_nil_iff.1 e).1
    generalize eachI W = E at *
    have b1 : p.length + E.length ≤ 70368744177664 := by omega
    have b2 : p.length + (E.length + P.length) ≤ 70368744177664 := by omega
    refine K_call k85 (oraG_none (by decide) (by decide)) (by simp [c85]) ?_
    simp only [t85, H85] at h
    simp [ent] at h
    simp [c85]
    rw [h]
    simp [hwx, hK, hE, hW, hP, hpn, hEn, b1, b2, List.take_of_length_le, Nat.add_assoc]
end Go.Ab
/- THE FUNCTIONS' EQUATIONS: num.Zig, num.Zag, thresherref01's. -/
set_option linter.all false
set_option maxRecDepth 100000
namespace Go.Ab
open Go.Proofs Go.Proofs.YtomomeabfnmncaaGreatH Go.Proofs.YtomomeabfnmncaaGreatH.Crc Go.Proofs.YtomomeabfnmncaaGreatH.Var Go.Proofs.YtomomeabfnmncaaGreatH.Fr
def c111 : Fn' := ⟨10, [(.tmp 2)], (.seq (.reg none [⟨(some 2), none, (.mv (.k (.int .u64 0)))⟩]) (.seq (.reg none [⟨(some 3), none, (.mv (.t 0))⟩, ⟨(some 4), none, (.cvt (.int .u64) (.t 3))⟩, ⟨(some 5), none, (.bin .shl [] (.t 4) (.k (.int .u64 1)))⟩, ⟨(some 6), none, (.mv (.t 0))⟩, ⟨(some 7), none, (.bin .shr [] (.t 6) (.k (.int .u64 63)))⟩, ⟨(some 8), none, (.cvt (.int .u64) (.t 7))⟩, ⟨(some 9), none, (.bin .xor [] (.t 5) (.t 8))⟩, ⟨(some 2), none, (.mv (.t 9))⟩]) .ret))⟩
theorem k111 : compF Tryz.prog 126 = some c111 := by kernel_rfl
def c121 : Fn' := ⟨11, [(.tmp 2)], (.seq (.reg none [⟨(some 2), none, (.mv (.k (.int .i64 0)))⟩]) (.seq (.reg none [⟨(some 3), none, (.mv (.t 0))⟩, ⟨(some 4), none, (.bin .shr [] (.t 3) (.k (.int .u64 1)))⟩, ⟨(some 5), none, (.cvt (.int .i64) (.t 4))⟩, ⟨(some 6), none, (.mv (.t 0))⟩, ⟨(some 7), none, (.bin .and [] (.t 6) (.k (.int .u64 1)))⟩, ⟨(some 8), none, (.cvt (.int .i64) (.t 7))⟩, ⟨(some 9), none, (.un .neg (.t 8))⟩, ⟨(some 10), none, (.bin .xor [] (.t 5) (.t 9))⟩, ⟨(some 2), none, (.mv (.t 10))⟩]) .ret))⟩
theorem k121 : compF Tryz.prog 151 = some c121 := by kernel_rfl
theorem op_xr (k : IntKind) (a b : Int) : intOp .xor k a b = some (.int k (xorI k a b)) := rfl
theorem op_ad (k : IntKind) (a b : Int) : intOp .and k a b = some (.int k (andI k a b)) := rfl
attribute [local simp] op_ad op_or op_an op_add op_sub op_mul oq_eql oq_neq oq_lss oq_gtr oq_leq oq_geq op_xr
attribute [-simp] intOp bin_shl
/-- A number with its sign behind. -/
def zigI (n : Int) : Int := if 0 ≤ n then 2 * n else -2 * n - 1
def zagI (u : Int) : Int := if u % 2 = 0 then u / 2 else -(u / 2) - 1
def i64R (n : Int) : Prop := -9223372036854775808 ≤ n ∧ n ≤ 9223372036854775807
def u64R (n : Int) : Prop := 0 ≤ n ∧ n ≤ 18446744073709551615
theorem zig_range (n : Int) (h : i64R n) : u64R (zigI n) := by unfold zigI i64R u64R at *; omega
theorem zag_range (n : Int) (h : u64R n) : i64R (zagI n) := by unfold zagI i64R u64R at *; omega
theorem zag_zig (n : Int) : zagI (zigI n) = n := by unfold zagI zigI; omega
theorem zig_zag (u : Int) (h : 0 ≤ u) : zigI (zagI u) = u := by unfold zagI zigI; omega
theorem bv64 (a : Int) : (BitVec.ofInt 64 a).toNat = (a % 18446744073709551616).toNat := by simp [BitVec.toNat_ofInt]
theorem xor64_0 (a : Int) (h : u64R a) : xorI .u64 a 0 = a := by
  unfold u64R at h
  show IntKind.u64.wrap (BitVec.ofInt 64 a ^^^ BitVec.ofInt 64 0).toNat = a
  have e : BitVec.ofInt 64 0 = 0#64 := rfl
  rw [e, BitVec.xor_zero, bv64, IntKind.wrap_u64]
  omega
theorem xor64_1 (a : Int) (h : u64R a) : xorI .u64 a 18446744073709551615 = 18446744073709551615 - a := by
  unfold u64R at h
  show IntKind.u64.wrap (BitVec.ofInt 64 a ^^^ BitVec.ofInt 64 18446744073709551615).toNat = _
  have e : BitVec.ofInt 64 18446744073709551615 = BitVec.allOnes 64 := by decide
  rw [e, BitVec.xor_allOnes, BitVec.toNat_not, bv64, IntKind.wrap_u64]
  omega
theorem xor64s_0 (a : Int) (h : i64R a) : xorI .i64 a 0 = a := by
  unfold i64R at h
  show IntKind.i64.wrap (BitVec.ofInt 64 a ^^^ BitVec.ofInt 64 0).toNat = a
  have e : BitVec.ofInt 64 0 = 0#64 := rfl
  rw [e, BitVec.xor_zero, bv64, IntKind.wrap_i64]
  omega
theorem xor64s_1 (a : Int) (h : i64R a) : xorI .i64 a (-1) = -a - 1 := by
  unfold i64R at h
  show IntKind.i64.wrap (BitVec.ofInt 64 a ^^^ BitVec.ofInt 64 (-1)).toNat = _
  have e : BitVec.ofInt 64 (-1) = BitVec.allOnes 64 := by decide
  rw [e, BitVec.xor_allOnes, BitVec.toNat_not, bv64, IntKind.wrap_i64]
  omega
theorem and64_1 (u : Int) (h : u64R u) : andI .u64 u 1 = u % 2 := by
  unfold u64R at h
  show IntKind.u64.wrap (BitVec.ofInt 64 u &&& BitVec.ofInt 64 1).toNat = _
  have e : (BitVec.ofInt 64 u &&& BitVec.ofInt 64 1).toNat = (BitVec.ofInt 64 u).toNat % 2 := by
    rw [BitVec.toNat_and]
    exact Nat.and_one_is_mod _
  rw [e, bv64, IntKind.wrap_u64]
  omega
theorem shl1 (n : Int) (h : i64R n) : binD .shl [] (.int .u64 (IntKind.u64.wrap n)) (.int .u64 1) = some (.int .u64 (if 0 ≤ n then 2 * n else 2 * n + 18446744073709551616)) := by
  unfold i64R at h
  have e : (min (1 : Int).toNat IntKind.u64.bits) = 1 := by decide
  rw [bin_shl, if_neg (by decide), e]
  simp only [IntKind.wrap_u64]
  congr 2
  split <;> omega
theorem shr63 (n : Int) (h : i64R n) : binD .shr [] (.int .i64 n) (.int .u64 63) = some (.int .i64 (if 0 ≤ n then 0 else -1)) := by
  unfold i64R at h
  have e : (min (63 : Int).toNat IntKind.i64.bits) = 63 := by decide
  rw [bin_shr, if_neg (by decide), e]
  congr 2
  rw [Int.fdiv_eq_ediv_of_nonneg _ (Int.pow_nonneg (by decide))]
  have e : (2 : Int) ^ 63 = 9223372036854775808 := by decide
  rw [e]
  split <;> omega
attribute [-simp] bin_shr
theorem K111 (n : Int) (h : i64R n) : K0 126 [.int .i64 n] [] = some (.int .u64 (zigI n), []) := by
  have h1 := shl1 n h
  have h2 := shr63 n h
  refine K_call k111 (oraG_none (by decide) (by decide)) (by simp [c111]) ?_
  have hw : IntKind.u64.wrap (-1) = 18446744073709551615 := by decide
  have hw0 : IntKind.u64.wrap 0 = 0 := by decide
  unfold i64R at h
  by_cases hn : 0 ≤ n
  · rw [if_pos hn] at h1 h2
    have hx := xor64_0 (2 * n) ⟨by omega, by omega⟩
    simp [c111, h1, h2, hw0, hx, zigI, hn]
  · rw [if_neg hn] at h1 h2
    have hx := xor64_1 (2 * n + 18446744073709551616) ⟨by omega, by omega⟩
    have e : 18446744073709551615 - (2 * n + 18446744073709551616) = -2 * n - 1 := by omega
    rw [e] at hx
    simp [c111, h1, h2, hw, hx, zigI, hn]
theorem shr1 (u : Int) (h : u64R u) : binD .shr [] (.int .u64 u) (.int .u64 1) = some (.int .u64 (u / 2)) := by
  have e : (min (1 : Int).toNat IntKind.u64.bits) = 1 := by decide
  rw [bin_shr, if_neg (by decide), e]
  congr 2
  rw [Int.fdiv_eq_ediv_of_nonneg _ (Int.pow_nonneg (by decide))]
  rfl
theorem K121 (u : Int) (h : u64R u) : K0 151 [.int .u64 u] [] = some (.int .i64 (zagI u), []) := by
  have h1 := shr1 u h
  have h2 := and64_1 u h
  refine K_call k121 (oraG_none (by decide) (by decide)) (by simp [c121]) ?_
  unfold u64R at h
  have hw1 : IntKind.i64.wrap (u / 2) = u / 2 := IntWalk.i64_in _ (by omega)
  have hw2 : IntKind.i64.wrap (u % 2) = u % 2 := IntWalk.i64_in _ (by omega)
  by_cases hn : u % 2 = 0
  · have hx := xor64s_0 (u / 2) ⟨by omega, by omega⟩
    have hw3 : IntKind.i64.wrap 0 = 0 := rfl
    simp [c121, h1, h2, hw1, hw3, hx, zagI, hn]
  · have hx := xor64s_1 (u / 2) ⟨by omega, by omega⟩
    have e : u % 2 = 1 := by omega
    have hw3 : IntKind.i64.wrap (-1) = -1 := rfl
    have hw4 : IntKind.i64.wrap 1 = 1 := rfl
    simp [c121, h1, h2, hw1, hw3, hw4, hx, zagI, e]
end Go.Ab
/- THE FUNCTIONS' EQUATIONS: texts.Put. -/
set_option linter.all false
set_option maxRecDepth 100000
namespace Go.Ab
open Go.Proofs Go.Proofs.YtomomeabfnmncaaGreatH Go.Proofs.YtomomeabfnmncaaGreatH.Crc Go.Proofs.YtomomeabfnmncaaGreatH.Var
def c54 : Fn' := ⟨25, [(.tmp 2)], (.seq (.reg none [⟨(some 2), none, .nilrow⟩]) (.seq (.reg none [⟨(some 6), none, (.mv (.t 0))⟩, ⟨(some 7), none, (.call (.f 110) [(.t 6)])⟩, ⟨(some 3), none, (.mv (.k (.int .u8 0)))⟩, ⟨(some 4), none, (.mv (.t 7))⟩]) (.seq (.seq (.reg none [⟨(some 8), none, (.mv (.t 0))⟩, ⟨(some 9), none, (.call (.f 111) [(.t 8)])⟩, ⟨(some 5), none, (.mv (.t 9))⟩]) (.seq (.reg none [⟨(some 10), none, (.mv (.t 5))⟩, ⟨(some 11), none, (.len 1 (.t 10))⟩, ⟨(some 12), none, (.mv (.t 4))⟩, ⟨(some 13), none, (.len 1 (.t 12))⟩, ⟨(some 14), none, (.bin .lss [] (.t 11) (.t 13))⟩]) (.cond (.t 14) (.reg none [⟨(some 15), none, (.mv (.t 5))⟩, ⟨(some 3), none, (.mv (.k (.int .u8 1)))⟩, ⟨(some 4), none, (.mv (.t 15))⟩]) .skip))) (.seq (.reg none [⟨(some 16), none, (.mv (.t 0))⟩, ⟨(some 17), none, (.len 1 (.t 16))⟩, ⟨(some 18), none, (.cvt (.int .u64) (.t 17))⟩, ⟨(some 19), none, (.call (.f 71) [(.t 18)])⟩, ⟨(some 20), none, (.mv (.t 3))⟩, ⟨(some 21), none, (.bsl false 1 1 [(.int .u8 0)] [(0, (.t 20))])⟩, ⟨(some 22), none, (.app 1 1 (.t 19) (.t 21))⟩, ⟨(some 23), none, (.mv (.t 4))⟩, ⟨(some 24), none, (.app 1 1 (.t 22) (.t 23))⟩, ⟨(some 2), none, (.mv (.t 24))⟩]) .ret))))⟩
theorem k54 : compF Tryz.prog 79 = some c54 := by kernel_rfl
attribute [local simp] op_or op_an op_add op_sub op_mul oq_eql oq_neq oq_lss oq_gtr oq_leq oq_geq
attribute [-simp] intOp bin_shl bin_shr
theorem eachI_ne (l : List Tx) (h : ¬ l = []) : ¬ eachI l = [] := by
  cases l with
  | nil => exact absurd rfl h
  | cons x W =>
    intro e
    have ee : eachI (x :: W) = putI x.length ++ (bsI x ++ eachI W) := by simp [eachI]
    rw [ee] at e
    exact putI_ne' _ (List.append_eq_nil_iff.1 e).1
theorem dictI_ne (l : List Tx) : ¬ dictI l = [] := fun e => putI_ne' _ (List.append_eq_nil_iff.1 e).1
/-- Texts, as they are put. -/
def textsI (l : List Tx) : List Int :=
  if (dictI l).length < (eachI l).length then putI l.length ++ (1 :: dictI l) else putI l.length ++ (0 :: eachI l)
set_option maxHeartbeats 4000000 in
/-- texts.Put. -/
theorem K54 (c : Bool) (s : Nat) (l : List Tx) (hs : s = 1 ∨ l = []) (hl : l.length ≤ 2 ^ 30) (hb : (eachI l).length ≤ 2 ^ 40) (hb2 : (dictI l).length ≤ 2 ^ 40) : K0 79 [.slc c s (l.map D.str)] [] = some (.slc false 1 ((textsI l).map (.int .u8)), []) := by
  obtain ⟨c', s', hs', h84⟩ := K84 c s l hs hl hb
  have h85 := K85 c s l hs hl hb2
  have hEn := eachI_ne l
  have hDn := dictI_ne l
  have hE0 : l = [] → eachI l = [] := by intro e; subst e; rfl
  have hwx : IntKind.u64.wrap (l.length : Int) = l.length := by rw [IntKind.wrap_u64]; omega
  have hK := N66 (l.length : Int) (by omega) (by omega)
  have hpn := putI_ne' (l.length : Int)
  have hpl := putI_len10 (l.length : Int) (by omega)
  unfold textsI
  generalize putI (l.length : Int) = p at *
  generalize eachI l = E at *
  generalize dictI l = F at *
  have c1 : F.length + 1 = 1 + F.length := Nat.add_comm _ _
  have c2 : E.length + 1 = 1 + E.length := Nat.add_comm _ _
  have b0 : p.length ≤ 70368744177663 := by omega
  have b1 : p.length + (1 + E.length) ≤ 70368744177664 := by omega
  have b2 : p.length + (1 + F.length) ≤ 70368744177664 := by omega
  refine K_call k54 (oraG_none (by decide) (by decide)) (by simp [c54]) ?_
  by_cases hF : F.length < E.length
  · rw [if_pos hF]
    have z1 : ltI (F.length : Int) (E.length : Int) = true := ltI_t (by omega)
    simp [c54, h84, h85, z1, hwx, hK, hpn, hDn, c1, b0, b2, List.take_of_length_le, Nat.add_assoc]
  · rw [if_neg hF]
    have z1 : ltI (F.length : Int) (E.length : Int) = false := ltI_f (by omega)
    by_cases hn : l = []
    · have := hE0 hn
      subst this
      have z1' : ltI (F.length : Int) 0 = false := ltI_f (by omega)
      simp [c54, h84, h85, z1', hwx, hK, hpn, c2, b0, b1, List.take_of_length_le, Nat.add_assoc]
    · have := hs'.resolve_right hn
      subst this
      simp [c54, h84, h85, z1, hwx, hK, hpn, hEn hn, c2, b0, b1, List.take_of_length_le, Nat.add_assoc]
end Go.Ab
/- THE FUNCTIONS' EQUATIONS: ints.Delta. -/
set_option linter.all false
set_option maxRecDepth 100000
namespace Go.Ab
open Go.Proofs Go.Proofs.YtomomeabfnmncaaGreatH Go.Proofs.YtomomeabfnmncaaGreatH.Crc Go.Proofs.YtomomeabfnmncaaGreatH.Var Go.Proofs.YtomomeabfnmncaaGreatH.Fr
def b86_0 : C := (.seq (.reg none [⟨(some 10), none, (.bin .lss [] (.t 9) (.t 8))⟩]) (.seq (.cond (.t 10) .skip (.exit 0)) (.seq (.block 1 (.seq (.reg none [⟨(some 11), none, (.ia none 1 false (.t 7) (.t 9))⟩, ⟨(some 12), none, (.ld none (.t 11))⟩, ⟨(some 6), none, (.mv (.t 12))⟩]) (.seq (.reg none [⟨(some 13), none, (.mv (.t 3))⟩, ⟨(some 14), none, (.mv (.t 6))⟩, ⟨(some 15), none, (.mv (.t 4))⟩, ⟨(some 16), none, (.bin .sub [] (.t 14) (.t 15))⟩, ⟨(some 17), none, (.call (.f 126) [(.t 16)])⟩, ⟨(some 18), none, (.call (.f 71) [(.t 17)])⟩, ⟨(some 19), none, (.app 1 1 (.t 13) (.t 18))⟩, ⟨(some 3), none, (.mv (.t 19))⟩]) (.reg none [⟨(some 20), none, (.mv (.t 6))⟩, ⟨(some 4), none, (.mv (.t 20))⟩])))) (.reg none [⟨(some 21), none, (.bin .add [] (.t 9) (.k (.int .i64 1)))⟩, ⟨(some 9), none, (.mv (.t 21))⟩]))))
def c86 : Fn' := ⟨23, [(.tmp 2)], (.seq (.reg none [⟨(some 2), none, (.mv (.k nilS))⟩]) (.seq (.reg none [⟨(some 3), none, .nilrow⟩]) (.seq (.reg none [⟨(some 4), none, (.mv (.k (.int .i64 0)))⟩]) (.seq (.seq (.reg none [⟨(some 7), none, (.mv (.t 0))⟩, ⟨(some 8), none, (.len 1 (.t 7))⟩, ⟨(some 9), none, (.mv (.k (.int .i64 0)))⟩]) (.block 0 (.loop b86_0))) (.seq (.reg none [⟨(some 22), none, (.mv (.t 3))⟩, ⟨(some 2), none, (.mv (.t 22))⟩]) .ret)))))⟩
theorem k86 : compF Tryz.prog 112 = some c86 := by kernel_rfl
attribute [local simp] op_or op_an op_add op_sub op_mul oq_eql oq_neq oq_lss oq_gtr oq_leq oq_geq
attribute [-simp] intOp bin_shl
def subI (a b : Int) : Int := IntKind.i64.wrap (a - b)
theorem subI_range (a b : Int) : i64R (subI a b) := by unfold subI i64R; rw [IntKind.wrap_i64]; omega
/-- The steps from number to number. -/
def deltaI : Int → List Int → List Int
  | _, [] => []
  | w, n :: t => putI (zigI (subI n w)) ++ deltaI n t
theorem deltaI_len : ∀ (w : Int) (l : List Int), (deltaI w l).length ≤ 10 * l.length
  | w, [] => by simp [deltaI]
  | w, n :: t => by
    have h := deltaI_len n t
    have hz := zig_range _ (subI_range n w)
    have h1 := putI_len10 (zigI (subI n w)) (by unfold u64R at hz; omega)
    simp only [deltaI, List.length_append, List.length_cons]
    omega
theorem deltaI_ne (w : Int) (l : List Int) (h : ¬ l = []) : ¬ deltaI w l = [] := by
  cases l with
  | nil => exact absurd rfl h
  | cons x l => intro e; exact putI_ne' _ (List.append_eq_nil_iff.1 e).1
def i64s (l : List Int) : List D := l.map (.int .i64)
def t86 (c : Bool) (l : List Int) (a i : Nat) (w : Int) : List D := [.slc c 1 (l.map (.int .i64)), .undef, nilS, .sl 0 0 a a, .int .i64 w, .undef, .undef, .slc c 1 (l.map (.int .i64)), .int .i64 l.length, .int .i64 i, .undef, .undef, .undef, .undef, .undef, .undef, .undef, .undef, .undef, .undef, .undef, .undef, .undef]
def lastI (w : Int) (l : List Int) : Int := l.getLastD w
set_option maxHeartbeats 4000000 in
theorem L86 (c : Bool) (l : List Int) (hl : l.length ≤ 2 ^ 30) : ∀ (t pre : List Int) (w : Int) (acc : List Int) (a i : Nat), l = pre ++ t → i = pre.length → a = acc.length → acc.length ≤ 10 * i →
    ∃ w', LpB cf0 K0 b86_0 (t86 c l 0 0 0) 1 ⟨t86 c l a i w, [.row (if acc = [] then 0 else 1) (acc.map (.int .u8)) 0]⟩ = some (.exit 0, ⟨t86 c l (acc ++ deltaI w t).length l.length w', [.row (if acc ++ deltaI w t = [] then 0 else 1) ((acc ++ deltaI w t).map (.int .u8)) 0]⟩)
  | [], pre, w, acc, a, i, h, hi, ha, hb => by
    have : l = pre := by simpa using h
    subst this
    have z1 : ltI (i : Int) l.length = false := ltI_f (by omega)
    refine ⟨w, ?_⟩
    rw [LpB_eq]
    simp only [t86]
    conv => lhs; arg 6; simp [b86_0, z1]
    simp [hi, ha, deltaI]
  | n :: t, pre, w, acc, a, i, h, hi, ha, hb => by
    have hil : i < 2 ^ 30 := by have : l.length = pre.length + (t.length + 1) := by rw [h]; simp
                                omega
    have hll : i < l.length := by rw [h, hi]; simp
    have z1 : ltI (i : Int) l.length = true := ltI_t (by omega)
    have hget : l[i]? = some n := by rw [h, hi]; simp
    have hgi : l[i]'hll = n := by rw [List.getElem?_eq_getElem hll] at hget; exact Option.some.inj hget
    have hw := w64 (i + 1) (by omega)
    have ee : deltaI w (n :: t) = putI (zigI (subI n w)) ++ deltaI n t := rfl
    rw [ee]
    have hs : IntKind.i64.wrap (n - w) = subI n w := rfl
    have hsr := subI_range n w
    generalize subI n w = d at *
    have hz := zig_range _ hsr
    have hK1 := K111 d hsr
    unfold u64R at hz
    have hK := N66 (zigI d) hz.1 hz.2
    have hpn := putI_ne' (zigI d)
    have hpl := putI_len10 (zigI d) (by omega)
    generalize zigI d = z at *
    generalize putI z = p at *
    obtain ⟨w', ih⟩ := L86 c l hl t (pre ++ [n]) n (acc ++ p) (acc ++ p).length (i + 1) (by rw [h]; simp) (by simp [hi]) rfl (by simp; omega)
    refine ⟨w', ?_⟩
    rw [show acc ++ (p ++ deltaI n t) = acc ++ p ++ deltaI n t by simp]
    have b0 : p.length ≤ 70368744177664 := by omega
    have b1 : acc.length + p.length ≤ 70368744177664 := by omega
    rw [LpB_eq]
    simp only [t86] at ih ⊢
    by_cases hacc : acc = []
    · subst hacc
      subst ha
      conv => lhs; arg 6; simp [b86_0, z1, hll, hgi, hs, hK1, hK, hw, hpn, b0, List.take_of_length_le]
      simp [hpn] at ih ⊢
      exact ih
    · conv => lhs; arg 6; simp [b86_0, z1, hll, hgi, hs, hK1, hK, hw, hpn, hacc, ha, b1, List.take_of_length_le]
      simp [hpn, hacc] at ih ⊢
      exact ih
set_option maxHeartbeats 4000000 in
/-- ints.Delta. -/
theorem K86 (c : Bool) (s : Nat) (l : List Int) (hs : s = 1 ∨ l = []) (hl : l.length ≤ 2 ^ 30) : ∃ c' s', (s' = 1 ∨ l = []) ∧ K0 112 [.slc c s (l.map (.int .i64))] [] = some (.slc c' s' ((deltaI 0 l).map (.int .u8)), []) := by
  by_cases hn : l = []
  · subst hn
    have z1 : ltI 0 0 = false := rfl
    refine ⟨true, 0, .inr rfl, K_call k86 (oraG_none (by decide) (by decide)) (by simp [c86]) ?_⟩
    simp [c86]
    rw [LpB_eq]
    simp [b86_0, z1, deltaI]
  · obtain rfl := hs.resolve_right hn
    obtain ⟨w', h⟩ := L86 c l hl l [] 0 [] 0 0 rfl rfl rfl (by simp)
    have he := deltaI_ne 0 l hn
    refine ⟨false, 1, .inl rfl, K_call k86 (oraG_none (by decide) (by decide)) (by simp [c86]) ?_⟩
    generalize deltaI 0 l = E at *
    simp only [t86] at h
    simp [c86]
    simp [he] at h
    rw [h]
    simp [he, List.take_of_length_le]
end Go.Ab
/- THE FUNCTIONS' EQUATIONS: ints.Fixed. -/
set_option linter.all false
set_option maxRecDepth 100000
namespace Go.Ab
open Go.Proofs Go.Proofs.YtomomeabfnmncaaGreatH Go.Proofs.YtomomeabfnmncaaGreatH.Crc Go.Proofs.YtomomeabfnmncaaGreatH.Var
def b87_0 : C := (.seq (.reg none [⟨(some 12), none, (.bin .lss [] (.t 11) (.t 10))⟩]) (.seq (.cond (.t 12) .skip (.exit 0)) (.seq (.block 1 (.seq (.reg none [⟨(some 13), none, (.mv (.t 11))⟩, ⟨(some 4), none, (.mv (.t 13))⟩]) (.reg none [⟨(some 14), none, (.mv (.t 3))⟩, ⟨(some 15), none, (.mv (.t 4))⟩, ⟨(some 16), none, (.mv (.t 0))⟩, ⟨(some 17), none, (.mv (.t 4))⟩, ⟨(some 18), none, (.bin .quo [] (.t 17) (.k (.int .i64 8)))⟩, ⟨(some 19), none, (.ia none 1 false (.t 16) (.t 18))⟩, ⟨(some 20), none, (.ld none (.t 19))⟩, ⟨(some 21), none, (.cvt (.int .u64) (.t 20))⟩, ⟨(some 22), none, (.mv (.t 4))⟩, ⟨(some 23), none, (.bin .rem [] (.t 22) (.k (.int .i64 8)))⟩, ⟨(some 24), none, (.bin .mul [] (.k (.int .i64 8)) (.t 23))⟩, ⟨(some 25), none, (.bin .shr [] (.t 21) (.t 24))⟩, ⟨(some 26), none, (.cvt (.int .u8) (.t 25))⟩, ⟨(some 27), none, (.ia none 1 false (.t 14) (.t 15))⟩, ⟨none, none, (.st 1 (.t 27) (.t 26))⟩]))) (.reg none [⟨(some 28), none, (.bin .add [] (.t 11) (.k (.int .i64 1)))⟩, ⟨(some 11), none, (.mv (.t 28))⟩]))))
def c87 : Fn' := ⟨30, [(.tmp 2)], (.seq (.reg none [⟨(some 2), none, (.mv (.k nilS))⟩]) (.seq (.reg none [⟨(some 5), none, (.mv (.t 0))⟩, ⟨(some 6), none, (.len 1 (.t 5))⟩, ⟨(some 7), none, (.bin .mul [] (.k (.int .i64 8)) (.t 6))⟩, ⟨(some 8), none, (.ml 1 1 [(.int .u8 0)] (.t 7) (.t 7))⟩, ⟨(some 3), none, (.mv (.t 8))⟩]) (.seq (.seq (.reg none [⟨(some 9), none, (.mv (.t 3))⟩, ⟨(some 10), none, (.len 1 (.t 9))⟩, ⟨(some 11), none, (.mv (.k (.int .i64 0)))⟩]) (.block 0 (.loop b87_0))) (.seq (.reg none [⟨(some 29), none, (.mv (.t 3))⟩, ⟨(some 2), none, (.mv (.t 29))⟩]) .ret))))⟩
theorem k87 : compF Tryz.prog 113 = some c87 := by kernel_rfl
def mlM (s bytes : Nat) (zero : List D) (nk : Nat) (n c : D) : M (D × Wr) := match n, c with
  | .int _ n, .int _ c => if 0 ≤ n ∧ n = c ∧ n * bytes ≤ capBound then
      pure (.sl nk 0 n.toNat n.toNat, [(nk, .row s (List.replicate n.toNat (if s = 1 then zero.headD .undef else .agg zero)) 0)])
    else .fail
  | _, _ => .fail
section
variable {cf : Cfg} {call : CallFn} {k : List Kn} {dst : Option Nat} {T : List D} {H : List Obj}
theorem Ek_ml (s bytes : Nat) (zero : List D) (n c : X) : Ek cf call (.op ⟨dst, none, .ml s bytes zero n c⟩ :: k) ⟨T, H⟩ = wrK cf call ((mlM s bytes zero H.length (n.ev T) (c.ev T)).run (H[·]?)) dst k T H := by rw [Ek_of]; rfl
end
attribute [simp] Ek_ml mlM
theorem op_rm (k : IntKind) (a b : Int) (h : (b == 0) = false) : intOp .rem k a b = some (.int k (a.tmod b)) := by simp only [intOp]; rw [if_neg (by simpa using h)]
theorem op_qu (k : IntKind) (a b : Int) (h : (b == 0) = false) : intOp .quo k a b = some (.int k (k.wrap (a.tdiv b))) := by simp only [intOp]; rw [if_neg (by simpa using h)]
attribute [local simp] op_or op_an op_add op_sub op_mul oq_eql oq_neq oq_lss oq_gtr oq_leq oq_geq op_rm op_qu
attribute [-simp] intOp bin_shl bin_shr
/-- A byte of a number of 8. -/
def fixB (l : List Int) (j : Nat) : Int := by8 (IntKind.u64.wrap (l[j / 8]?.getD 0)) (j % 8)
def fixedI (l : List Int) : List Int := (List.range (8 * l.length)).map (fixB l)
theorem fixedI_len (l : List Int) : (fixedI l).length = 8 * l.length := by simp [fixedI]
def st87 (l : List Int) (i : Nat) : List D := ((List.range i).map (fixB l) ++ List.replicate (8 * l.length - i) 0).map (.int .u8)
theorem st87_len (l : List Int) (i : Nat) (h : i ≤ 8 * l.length) : (st87 l i).length = 8 * l.length := by simp [st87]; omega
theorem st87_get (l : List Int) (i : Nat) (h : i < 8 * l.length) : (st87 l i)[i]? = some (.int .u8 0) := by
  obtain ⟨k, hk⟩ : ∃ k, 8 * l.length - i = k + 1 := ⟨8 * l.length - i - 1, by omega⟩
  unfold st87
  rw [hk, List.map_append, List.getElem?_append_right (by simp)]
  simp [List.replicate_succ]
theorem st87_set (l : List Int) (i : Nat) (h : i < 8 * l.length) : (st87 l i).set i (.int .u8 (fixB l i)) = st87 l (i + 1) := by
  obtain ⟨k, hk⟩ : ∃ k, 8 * l.length - i = k + 1 := ⟨8 * l.length - i - 1, by omega⟩
  have hk2 : 8 * l.length - (i + 1) = k := by omega
  unfold st87
  rw [hk, hk2, List.map_append, List.map_append, List.set_append_right _ _ (by simp)]
  simp [List.replicate_succ, List.range_succ]
theorem st87_end (l : List Int) : st87 l (8 * l.length) = (fixedI l).map (.int .u8) := by simp [st87, fixedI]
theorem st87_zero (l : List Int) : List.replicate (8 * l.length) (D.int .u8 0) = st87 l 0 := by simp [st87]
def t87 (c : Bool) (l : List Int) (n i : Nat) : List D := [.slc c 1 (l.map (.int .i64)), .undef, nilS, .sl 0 0 n n, .undef, .slc c 1 (l.map (.int .i64)), .int .i64 l.length, .int .i64 n, .sl 0 0 n n, .sl 0 0 n n, .int .i64 n, .int .i64 i, .undef, .undef, .undef, .undef, .undef, .undef, .undef, .undef, .undef, .undef, .undef, .undef, .undef, .undef, .undef, .undef, .undef, .undef]
set_option maxHeartbeats 4000000 in
theorem L87 (c : Bool) (l : List Int) (hl : l.length ≤ 2 ^ 30) (n : Nat) (hn : n = 8 * l.length) : ∀ (k i : Nat), i + k = n →
    LpB cf0 K0 b87_0 (t87 c l n 0) 1 ⟨t87 c l n i, [.row 1 (st87 l i) 0]⟩ = some (.exit 0, ⟨t87 c l n n, [.row 1 (st87 l n) 0]⟩)
  | 0, i, hi => by
    have z1 : ltI (i : Int) n = false := ltI_f (by omega)
    rw [LpB_eq]
    simp only [t87]
    conv => lhs; arg 6; simp [b87_0, z1]
    simp [show i = n by omega]
  | k + 1, i, hi => by
    have z1 : ltI (i : Int) n = true := ltI_t (by omega)
    have ih := L87 c l hl n hn k (i + 1) (by omega)
    have hll : i / 8 < l.length := by omega
    obtain ⟨x, hx⟩ : ∃ x, x = l[i / 8]'hll := ⟨_, rfl⟩
    have hgi : l[i / 8]'hll = x := hx.symm
    have hw := w64 (i + 1) (by omega)
    have hq : IntKind.i64.wrap ((i : Int) / 8) = ((i / 8 : Nat) : Int) := by rw [IntKind.wrap_i64]; omega
    have hr : (i : Int).tmod 8 = ((i % 8 : Nat) : Int) := by rw [Int.tmod_eq_emod_of_nonneg (by omega)]; omega
    have hm : IntKind.i64.wrap (8 * ((i % 8 : Nat) : Int)) = 8 * ((i % 8 : Nat) : Int) := w64 _ (by omega)
    have hsh : binD .shr [] (.int .u64 (IntKind.u64.wrap x)) (.int .i64 (8 * ((i % 8 : Nat) : Int))) = some (.int .u64 ((IntKind.u64.wrap x).fdiv (2 ^ (min (8 * ((i % 8 : Nat) : Int)).toNat IntKind.u64.bits)))) := by rw [bin_shr, if_neg (by omega)]
    have hfb : IntKind.u8.wrap ((IntKind.u64.wrap x).fdiv (2 ^ (min (8 * ((i % 8 : Nat) : Int)).toNat IntKind.u64.bits))) = fixB l i := by
      unfold fixB by8
      rw [List.getElem?_eq_getElem hll, hgi]
      rfl
    have hlen := st87_len l i (by omega)
    rw [← hn] at hlen
    have hget := st87_get l i (by omega)
    have hset := st87_set l i (by omega)
    have hiS : i < (st87 l i).length := by omega
    have hge : (st87 l i)[i]'hiS = .int .u8 0 := by rw [List.getElem?_eq_getElem hiS] at hget; exact Option.some.inj hget
    generalize i / 8 = q at *
    generalize i % 8 = r at *
    generalize (IntKind.u64.wrap x).fdiv (2 ^ (min (8 * (r : Int)).toNat IntKind.u64.bits)) = y at *
    generalize st87 l i = S at *
    generalize st87 l (i + 1) = S' at *
    have hin : i < n := by omega
    rw [LpB_eq]
    simp only [t87] at ih ⊢
    conv => lhs; arg 6; simp [b87_0, z1, hq, hr, hm, hsh, hfb, hll, hgi, hlen, hge, hset, hw, hin]
    exact ih
set_option maxHeartbeats 4000000 in
/-- ints.Fixed. -/
theorem K87 (c : Bool) (s : Nat) (l : List Int) (hs : s = 1 ∨ l = []) (hl : l.length ≤ 2 ^ 30) : K0 113 [.slc c s (l.map (.int .i64))] [] = some (.slc false 1 ((fixedI l).map (.int .u8)), []) := by
  by_cases hn : l = []
  · subst hn
    have z1 : ltI 0 0 = false := rfl
    have hw0 : IntKind.i64.wrap 0 = 0 := rfl
    refine K_call k87 (oraG_none (by decide) (by decide)) (by simp [c87]) ?_
    simp [c87, hw0]
    rw [LpB_eq]
    simp [b87_0, z1, fixedI]
  · obtain rfl := hs.resolve_right hn
    obtain ⟨n, hN⟩ : ∃ n, n = 8 * l.length := ⟨_, rfl⟩
    have h := L87 c l hl n hN n 0 (by omega)
    have hz := st87_zero l
    have he := st87_end l
    have hlen := fixedI_len l
    rw [← hN] at hz he hlen
    rw [he] at h
    generalize fixedI l = E at *
    generalize st87 l 0 = S at *
    have hw : IntKind.i64.wrap (8 * (l.length : Int)) = (n : Int) := by rw [w64 _ (by omega)]; omega
    have hb : (n : Int) ≤ 70368744177664 := by omega
    have hb' : n ≤ 70368744177664 := by omega
    refine K_call k87 (oraG_none (by decide) (by decide)) (by simp [c87]) ?_
    simp only [t87] at h
    simp [c87, hw, hb, hb', hz]
    simp at h
    rw [h]
    simp [hlen, List.take_of_length_le]
end Go.Ab
/- THE FUNCTIONS' EQUATIONS: ints.Put. -/
set_option linter.all false
set_option maxRecDepth 100000
namespace Go.Ab
open Go.Proofs Go.Proofs.YtomomeabfnmncaaGreatH Go.Proofs.YtomomeabfnmncaaGreatH.Crc Go.Proofs.YtomomeabfnmncaaGreatH.Var
def c57 : Fn' := ⟨24, [(.tmp 2)], (.seq (.reg none [⟨(some 2), none, .nilrow⟩]) (.seq (.reg none [⟨(some 5), none, (.mv (.t 0))⟩, ⟨(some 6), none, (.call (.f 112) [(.t 5)])⟩, ⟨(some 3), none, (.mv (.k (.int .u8 1)))⟩, ⟨(some 4), none, (.mv (.t 6))⟩]) (.seq (.seq (.reg none [⟨(some 7), none, (.mv (.t 4))⟩, ⟨(some 8), none, (.len 1 (.t 7))⟩, ⟨(some 9), none, (.mv (.t 0))⟩, ⟨(some 10), none, (.len 1 (.t 9))⟩, ⟨(some 11), none, (.bin .mul [] (.k (.int .i64 8)) (.t 10))⟩, ⟨(some 12), none, (.bin .geq [] (.t 8) (.t 11))⟩]) (.cond (.t 12) (.reg none [⟨(some 13), none, (.mv (.t 0))⟩, ⟨(some 14), none, (.call (.f 113) [(.t 13)])⟩, ⟨(some 3), none, (.mv (.k (.int .u8 0)))⟩, ⟨(some 4), none, (.mv (.t 14))⟩]) .skip)) (.seq (.reg none [⟨(some 15), none, (.mv (.t 0))⟩, ⟨(some 16), none, (.len 1 (.t 15))⟩, ⟨(some 17), none, (.cvt (.int .u64) (.t 16))⟩, ⟨(some 18), none, (.call (.f 71) [(.t 17)])⟩, ⟨(some 19), none, (.mv (.t 3))⟩, ⟨(some 20), none, (.bsl false 1 1 [(.int .u8 0)] [(0, (.t 19))])⟩, ⟨(some 21), none, (.app 1 1 (.t 18) (.t 20))⟩, ⟨(some 22), none, (.mv (.t 4))⟩, ⟨(some 23), none, (.app 1 1 (.t 21) (.t 22))⟩, ⟨(some 2), none, (.mv (.t 23))⟩]) .ret))))⟩
theorem k57 : compF Tryz.prog 82 = some c57 := by kernel_rfl
attribute [local simp] op_or op_an op_add op_sub op_mul oq_eql oq_neq oq_lss oq_gtr oq_leq oq_geq
attribute [-simp] intOp bin_shl bin_shr
/-- Numbers, as they are put. -/
def intsI (l : List Int) : List Int :=
  if (deltaI 0 l).length < 8 * l.length then putI l.length ++ (1 :: deltaI 0 l) else putI l.length ++ (0 :: fixedI l)
set_option maxHeartbeats 4000000 in
/-- ints.Put. -/
theorem K57 (c : Bool) (s : Nat) (l : List Int) (hs : s = 1 ∨ l = []) (hl : l.length ≤ 2 ^ 30) : K0 82 [.slc c s (l.map (.int .i64))] [] = some (.slc false 1 ((intsI l).map (.int .u8)), []) := by
  obtain ⟨c', s', hs', h86⟩ := K86 c s l hs hl
  have h87 := K87 c s l hs hl
  have hdl := deltaI_len 0 l
  have hfl := fixedI_len l
  have hdn := deltaI_ne 0 l
  have hwx : IntKind.u64.wrap (l.length : Int) = l.length := by rw [IntKind.wrap_u64]; omega
  have hw8 : IntKind.i64.wrap (8 * (l.length : Int)) = 8 * (l.length : Int) := w64 _ (by omega)
  have hK := N66 (l.length : Int) (by omega) (by omega)
  have hpn := putI_ne' (l.length : Int)
  have hpl := putI_len10 (l.length : Int) (by omega)
  unfold intsI
  generalize putI (l.length : Int) = p at *
  generalize fixedI l = E at *
  generalize deltaI 0 l = F at *
  have c1 : F.length + 1 = 1 + F.length := Nat.add_comm _ _
  have c2 : E.length + 1 = 1 + E.length := Nat.add_comm _ _
  have b0 : p.length ≤ 70368744177663 := by omega
  have b1 : p.length + (1 + E.length) ≤ 70368744177664 := by omega
  have b2 : p.length + (1 + F.length) ≤ 70368744177664 := by omega
  refine K_call k57 (oraG_none (by decide) (by decide)) (by simp [c57]) ?_
  by_cases hF : F.length < 8 * l.length
  · rw [if_pos hF]
    have hn : ¬ l = [] := by intro e; subst e; simp at hF
    have z1 : leI (8 * (l.length : Int)) (F.length : Int) = false := leI_f (by omega)
    have hFn : ¬ F = [] := hdn hn
    have := hs'.resolve_right hn
    subst this
    simp [c57, h86, hw8, z1, hwx, hK, hpn, hFn, c1, b0, b2, List.take_of_length_le, Nat.add_assoc]
  · rw [if_neg hF]
    have z1 : leI (8 * (l.length : Int)) (F.length : Int) = true := leI_t (by omega)
    by_cases hEn : E = []
    · subst hEn
      simp [c57, h86, h87, hw8, z1, hwx, hK, hpn, c2, b0, b1, List.take_of_length_le, Nat.add_assoc]
    · simp [c57, h86, h87, hw8, z1, hwx, hK, hpn, hEn, c2, b0, b1, List.take_of_length_le, Nat.add_assoc]
end Go.Ab
