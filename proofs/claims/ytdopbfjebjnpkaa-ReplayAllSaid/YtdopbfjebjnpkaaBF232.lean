/- THE FUNCTIONS' EQUATIONS: a second machine, in which thresherlaw17.bytes gives its row as it is; the loop of ReplayAll. (printed by mk232.py) -/
import Derived.Test.YtdopbfjebjnpkaaBF221
import Derived.Test.YtdopbfjebjnpkaaBF81
import Derived.Test.YtdopbfjebjnpkaaBF22
set_option linter.all false
set_option maxRecDepth 100000
namespace Go.Ab
open Go.Proofs Go.Proofs.YtdopbfjebjnpkaaH Go.Proofs.YtdopbfjebjnpkaaH.Crc Go.Proofs.YtdopbfjebjnpkaaH.Var Go.Proofs.YtdopbfjebjnpkaaH.Fr Go.Proofs.YtdopbfjebjnpkaaH.Rec
def b224_0 : C := (.seq (.seq (.reg none [⟨(some 45), none, (.mv (.t 9))⟩, ⟨(some 46), none, (.mv (.t 0))⟩, ⟨(some 47), none, (.len 1 (.t 46))⟩, ⟨(some 48), none, (.bin .lss [] (.t 45) (.t 47))⟩]) (.cond (.t 48) .skip (.exit 0))) (.seq (.block 1 (.seq (.reg none [⟨(some 51), none, (.mv (.t 0))⟩, ⟨(some 52), none, (.mv (.t 9))⟩, ⟨(some 53), none, (.ia none 7 true (.t 51) (.t 52))⟩, ⟨(some 54), none, (.ld (some 7) (.t 53))⟩, ⟨(some 55), none, (.call (.f 16) [(.t 54)])⟩, ⟨(some 10), none, (.alloc false [(.int .i64 0), nilS, (.int .i64 0), (.int .i64 0), (.int .i64 0), nilS, (.int .i64 0)])⟩, ⟨none, none, (.st 7 (.t 10) (.t 55))⟩]) (.seq (.reg none [⟨(some 56), none, (.mv (.t 8))⟩, ⟨(some 57), none, (.ld (some 7) (.t 10))⟩, ⟨(some 58), none, (.bsl false 7 1 [(.int .i64 0), nilS, (.int .i64 0), (.int .i64 0), (.int .i64 0), nilS, (.int .i64 0)] [(0, (.t 57))])⟩, ⟨(some 59), none, (.app 7 88 (.t 56) (.t 58))⟩, ⟨(some 8), none, (.mv (.t 59))⟩]) (.seq (.reg none [⟨(some 61), none, (.ld (some 6) (.t 5))⟩, ⟨(some 62), none, (.ld (some 7) (.t 10))⟩, ⟨(some 63), none, (.call (.f 14) [(.t 61), (.t 62)])⟩, ⟨(some 60), none, (.mv (.t 63))⟩, ⟨(some 64), none, (.ext (.t 60) 0)⟩, ⟨(some 65), none, (.ext (.t 60) 1)⟩, ⟨(some 11), none, (.alloc false [nilS, (.int .i64 0), (.int .i64 0), (.int .i64 0), nilS, (.int .i64 0)])⟩, ⟨none, none, (.st 6 (.t 11) (.t 64))⟩, ⟨(some 12), none, (.mv (.t 65))⟩]) (.seq (.reg none [⟨(some 67), none, (.ld (some 6) (.t 5))⟩, ⟨(some 68), none, (.ld (some 7) (.t 10))⟩, ⟨(some 69), none, (.call (.f 17) [(.t 67), (.t 68)])⟩, ⟨(some 66), none, (.mv (.t 69))⟩, ⟨(some 70), none, (.ext (.t 66) 0)⟩, ⟨(some 71), none, (.ext (.t 66) 1)⟩, ⟨(some 13), none, (.alloc false [nilS, (.int .i64 0), (.int .i64 0), (.int .i64 0), nilS, (.int .i64 0)])⟩, ⟨none, none, (.st 6 (.t 13) (.t 70))⟩, ⟨(some 14), none, (.mv (.t 71))⟩]) (.seq (.reg none [⟨(some 72), none, (.ld (some 6) (.t 11))⟩, ⟨(some 73), none, (.ld (some 6) (.t 13))⟩, ⟨(some 74), none, (.call (.f 15) [(.t 72), (.t 73)])⟩, ⟨(some 15), none, (.mv (.t 74))⟩]) (.seq (.reg none [⟨(some 75), none, (.mv (.t 15))⟩, ⟨(some 76), none, (.un .not (.t 75))⟩, ⟨(some 77), none, (.mv (.t 76))⟩, ⟨(some 78), (some ((some 77), false)), (.mv (.t 12))⟩, ⟨(some 79), (some ((some 77), false)), (.mv (.t 14))⟩, ⟨(some 80), (some ((some 77), false)), (.bin .neq [3] (.t 78) (.t 79))⟩, ⟨(some 81), none, (.pick (.t 77) (.k (.bool true)) (.t 80))⟩]) (.cond (.t 81) (.seq (.reg none [⟨(some 6), none, (.mv (.k (.bool false)))⟩]) .ret) .skip)))))))) (.reg none [⟨(some 49), none, (.mv (.t 9))⟩, ⟨(some 50), none, (.bin .add [] (.t 49) (.k (.int .i64 1)))⟩, ⟨(some 9), none, (.mv (.t 50))⟩])))
def r224 : C := (.seq (.reg none [⟨(some 44), none, (.bsl true 7 0 [(.int .i64 0), nilS, (.int .i64 0), (.int .i64 0), (.int .i64 0), nilS, (.int .i64 0)] [])⟩, ⟨(some 8), none, (.mv (.t 44))⟩]) (.seq (.seq (.reg none [⟨(some 9), none, (.mv (.k (.int .i64 0)))⟩]) (.block 0 (.loop b224_0))) (.seq (.reg none [⟨(some 82), none, (.mv (.t 8))⟩, ⟨(some 83), none, (.call (.f 11) [(.t 82)])⟩, ⟨(some 84), none, (.mv (.t 1))⟩, ⟨(some 85), none, (.app 1 1 (.t 83) (.t 84))⟩, ⟨(some 16), none, (.mv (.t 85))⟩]) (.seq (.reg none [⟨(some 87), none, (.mv (.t 16))⟩, ⟨(some 88), none, (.call (.f 12) [(.t 87)])⟩, ⟨(some 86), none, (.mv (.t 88))⟩, ⟨(some 89), none, (.ext (.t 86) 0)⟩, ⟨(some 90), none, (.ext (.t 86) 1)⟩, ⟨(some 91), none, (.ext (.t 86) 2)⟩, ⟨(some 17), none, (.alloc false [nilS, (.int .i64 0), (.int .i64 0), (.int .i64 0), nilS, (.int .i64 0)])⟩, ⟨none, none, (.st 6 (.t 17) (.t 89))⟩, ⟨(some 18), none, (.mv (.t 90))⟩, ⟨(some 19), none, (.mv (.t 91))⟩]) (.seq (.reg none [⟨(some 93), none, (.mv (.t 16))⟩, ⟨(some 94), none, (.call (.f 18) [(.t 93)])⟩, ⟨(some 92), none, (.mv (.t 94))⟩, ⟨(some 95), none, (.ext (.t 92) 0)⟩, ⟨(some 96), none, (.ext (.t 92) 1)⟩, ⟨(some 97), none, (.ext (.t 92) 2)⟩, ⟨(some 20), none, (.alloc false [nilS, (.int .i64 0), (.int .i64 0), (.int .i64 0), nilS, (.int .i64 0)])⟩, ⟨none, none, (.st 6 (.t 20) (.t 95))⟩, ⟨(some 21), none, (.mv (.t 96))⟩, ⟨(some 22), none, (.mv (.t 97))⟩]) (.seq (.reg none [⟨(some 98), none, (.ld (some 6) (.t 17))⟩, ⟨(some 99), none, (.ld (some 6) (.t 20))⟩, ⟨(some 100), none, (.call (.f 15) [(.t 98), (.t 99)])⟩, ⟨(some 23), none, (.mv (.t 100))⟩]) (.seq (.reg (some [(0, 2), (1, 2)]) [⟨(some 101), none, (.ld (some 6) (.t 5))⟩, ⟨(some 102), none, (.call (.f 20) [(.t 101)])⟩, ⟨(some 103), none, (.ld (some 6) (.t 5))⟩, ⟨(some 104), none, (.call (.f 21) [(.t 103)])⟩, ⟨(some 105), none, (.call (.f 19) [(.t 102), (.t 104)])⟩, ⟨(some 24), none, (.mv (.t 105))⟩]) (.seq (.reg none [⟨(some 106), none, (.mv (.t 7))⟩, ⟨(some 107), none, (.mv (.t 106))⟩, ⟨(some 108), (some ((some 107), true)), (.mv (.t 23))⟩, ⟨(some 109), none, (.pick (.t 107) (.t 108) (.k (.bool false)))⟩, ⟨(some 110), none, (.mv (.t 109))⟩, ⟨(some 111), (some ((some 110), true)), (.mv (.t 18))⟩, ⟨(some 112), (some ((some 110), true)), (.mv (.t 21))⟩, ⟨(some 113), (some ((some 110), true)), (.bin .eql [] (.t 111) (.t 112))⟩, ⟨(some 114), none, (.pick (.t 110) (.t 113) (.k (.bool false)))⟩, ⟨(some 115), none, (.mv (.t 114))⟩, ⟨(some 116), (some ((some 115), true)), (.mv (.t 19))⟩, ⟨(some 117), (some ((some 115), true)), (.mv (.t 22))⟩, ⟨(some 118), (some ((some 115), true)), (.bin .eql [3] (.t 116) (.t 117))⟩, ⟨(some 119), none, (.pick (.t 115) (.t 118) (.k (.bool false)))⟩, ⟨(some 120), none, (.mv (.t 119))⟩, ⟨(some 121), (some ((some 120), true)), (.mv (.t 24))⟩, ⟨(some 122), none, (.pick (.t 120) (.t 121) (.k (.bool false)))⟩, ⟨(some 6), none, (.mv (.t 122))⟩]) .ret))))))))
def c224 : Fn' := ⟨123, [(.tmp 6)], (.seq (.reg none [⟨(some 5), none, (.box false (.t 2))⟩, ⟨(some 6), none, (.mv (.k (.bool false)))⟩]) (.seq (.reg none [⟨(some 25), none, (.call (.f 8) [])⟩, ⟨(some 7), none, (.mv (.t 25))⟩]) (.seq (.seq (.reg none [⟨(some 26), none, (.mv (.t 0))⟩, ⟨(some 27), none, (.len 1 (.t 26))⟩, ⟨(some 28), none, (.bin .gtr [] (.t 27) (.k (.int .i64 30)))⟩]) (.cond (.t 28) (.reg none [⟨(some 29), none, (.mv (.t 0))⟩, ⟨(some 30), none, (.sub 1 7 (.t 29) none (some (.k (.int .i64 30))) none)⟩, ⟨(some 0), none, (.mv (.t 30))⟩]) .skip)) (.seq (.seq (.reg none [⟨(some 31), none, (.mv (.t 1))⟩, ⟨(some 32), none, (.len 1 (.t 31))⟩, ⟨(some 33), none, (.bin .gtr [] (.t 32) (.k (.int .i64 200)))⟩]) (.cond (.t 33) (.reg none [⟨(some 34), none, (.mv (.t 1))⟩, ⟨(some 35), none, (.sub 1 1 (.t 34) none (some (.k (.int .i64 200))) none)⟩, ⟨(some 1), none, (.mv (.t 35))⟩]) .skip)) (.seq (.seq (.reg none [⟨(some 36), none, (.fa 4 1 false (.t 5))⟩, ⟨(some 37), none, (.ld none (.t 36))⟩, ⟨(some 38), none, (.len 1 (.t 37))⟩, ⟨(some 39), none, (.bin .gtr [] (.t 38) (.k (.int .i64 45)))⟩]) (.cond (.t 39) (.reg none [⟨(some 40), none, (.fa 4 1 false (.t 5))⟩, ⟨(some 41), none, (.ld none (.t 40))⟩, ⟨(some 42), none, (.sub 1 1 (.t 41) none (some (.k (.int .i64 45))) none)⟩, ⟨(some 43), none, (.fa 4 1 false (.t 5))⟩, ⟨none, none, (.st 1 (.t 43) (.t 42))⟩]) .skip)) r224)))))⟩
theorem k224 : compF Try.prog 6 = some c224 := by kernel_rfl
attribute [local simp] op_or op_an op_add op_sub op_mul oq_eql oq_neq oq_lss oq_gtr oq_leq oq_geq
attribute [-simp] intOp bin_shl
attribute [local simp] reset_self bin_neqb
/-- THE SECOND MACHINE: all other functions are as the first one says. -/
def cf1 : Cfg := ⟨fun _ => false, fun f => f == 70 || f == 26 || f == 11⟩
theorem keep1 (f : Nat) : cf1.keep f = (f == 70 || f == 26 || f == 11) := rfl
theorem live1 (f : Nat) : cf1.live f = false := rfl
attribute [simp] keep1 live1
noncomputable def ora1 : CallFn := fun f args H => if f = 11 ∨ f = 6 then none else K0 f args H
noncomputable abbrev K1 := K cf1 fs0 ora1
theorem K1_of {f : Nat} {a : List D} {H : List Obj} {r} (h : K0 f a H = some r) (hf : ¬ (f = 11 ∨ f = 6)) : K1 f a H = some r := K_ora (by unfold ora1; rw [if_neg hf]; exact h)
theorem ora1_none {f : Nat} {a : List D} {H : List Obj} (hf : f = 11 ∨ f = 6) : ora1 f a H = none := if_pos hf
set_option maxHeartbeats 4000000 in
theorem L216' (c : Bool) (L : List RcE) (hl : L.length ≤ 2 ^ 20) (hlt : ∀ e ∈ L, e.r.2.1.1.length ≤ 2 ^ 30 ∧ e.r.2.2.1.length ≤ 2 ^ 30) : ∀ (t pre : List RcE) (acc : List Int) (a i : Nat), L = pre ++ t → i = pre.length → a = acc.length → acc = putsR (pre.map RcE.r) →
    LpB cf1 K1 b216_0 (t216 c L 0 0) 1 ⟨t216 c L a i, [.row 1 (acc.map (.int .u8)) 0]⟩ = some (.exit 0, ⟨t216 c L (putsR (L.map RcE.r)).length L.length, [.row 1 ((putsR (L.map RcE.r)).map (.int .u8)) 0]⟩)
  | [], pre, acc, a, i, h, hi, ha, hacc => by
    have : L = pre := by simpa using h
    subst this
    have z := ltI_f (show ¬ ((L.length : Int) < L.length) by omega)
    rw [LpB_eq]
    simp only [t216]
    conv => lhs; arg 6; simp [b216_0, hi, z]
    simp [ha, hacc, hi]
  | e :: r, pre, acc, a, i, h, hi, ha, hacc => by
    have hll : i < L.length := by rw [h, hi]; simp
    have hget : L[i]? = some e := by rw [h, hi]; simp
    have hgi : L[i]'hll = e := by rw [List.getElem?_eq_getElem hll] at hget; exact Option.some.inj hget
    have hw := w64 (i + 1) (by omega)
    have z := ltI_t (show ((i : Int) < L.length) by omega)
    have hem := hlt e (by rw [h]; simp)
    have hpl := putsR_len (pre.map RcE.r)
    rw [← hacc, List.length_map] at hpl
    have hacc2 : acc ++ (if mayOf e.r = true then recOf e.r else []) = putsR ((pre ++ [e]).map RcE.r) := by
      rw [List.map_append, putsR_app, ← hacc]; simp [putsR]
    obtain ⟨⟨kd, ⟨ts, k, m, g⟩, ids, id⟩, c1, s1, c2, s2, hh1, hh2⟩ := e
    simp only at hem hacc2 hh1 hh2
    cases hm : mayOf (kd, (ts, k, m, g), ids, id) with
    | false =>
      rw [hm, if_neg (by decide), List.append_nil] at hacc2
      have hP := K1_of (K18_f kd c1 s1 ts k m g c2 s2 ids id hh1 hh2 hem.1 hem.2 hm) (by decide)
      have ih := L216' c L hl hlt r (pre ++ [⟨(kd, (ts, k, m, g), ids, id), c1, s1, c2, s2, hh1, hh2⟩]) acc a (i + 1) (by rw [h]; simp) (by simp [hi]) ha hacc2
      unfold Rcd at hP
      rw [LpB_eq]
      simp only [t216] at ih ⊢
      have bb : acc.length ≤ 70368744177664 := by omega
      conv => lhs; arg 6; simp [b216_0, hll, hgi, hw, z, RcE.d, Rcd, hP, ha, bb]
      simp [ha] at ih ⊢
      exact ih
    | true =>
      have hrl := recOf_len hm
      have hP := K1_of (K18_t kd c1 s1 ts k m g c2 s2 ids id hh1 hh2 hm) (by decide)
      have hPe : frameI (recB kd ts k m g ids id) = recOf (kd, (ts, k, m, g), ids, id) := rfl
      rw [hPe] at hP
      rw [hm, if_pos rfl] at hacc2
      generalize recOf (kd, (ts, k, m, g), ids, id) = P at *
      have hPn : ¬ P = [] := by intro e; rw [e] at hrl; simp at hrl
      have bb : acc.length + P.length ≤ 70368744177664 := by omega
      have ih := L216' c L hl hlt r (pre ++ [⟨(kd, (ts, k, m, g), ids, id), c1, s1, c2, s2, hh1, hh2⟩]) (acc ++ P) (acc ++ P).length (i + 1) (by rw [h]; simp) (by simp [hi]) rfl hacc2
      unfold Rcd at hP
      rw [LpB_eq]
      simp only [t216] at ih ⊢
      conv => lhs; arg 6; simp [b216_0, hll, hgi, hw, z, RcE.d, Rcd, hP, hPn, ha, bb]
      simp at ih ⊢
      exact ih
set_option maxHeartbeats 2000000 in
/-- thresherlaw17.bytes, of the second machine. -/
theorem K216' (c : Bool) (s : Nat) (L : List RcE) (hs : s = 7 ∨ L = []) (hl : L.length ≤ 2 ^ 20) (hlt : ∀ e ∈ L, e.r.2.1.1.length ≤ 2 ^ 30 ∧ e.r.2.2.1.length ≤ 2 ^ 30) :
    K1 11 [.slc c s (L.map RcE.d)] [] = some (.sl 0 0 (putsR (L.map RcE.r)).length (putsR (L.map RcE.r)).length, [.row 1 ((putsR (L.map RcE.r)).map (.int .u8)) 0]) := by
  refine K_call k216 (ora1_none (.inl rfl)) (by simp [c216]) ?_
  by_cases hn : L = []
  · subst hn
    have z := ltI_f (show ¬ ((0 : Int) < 0) by omega)
    simp [c216]
    rw [LpB_eq]
    simp [b216_0, z, putsR]
  · obtain rfl := hs.resolve_right hn
    have h := L216' c L hl hlt L [] [] 0 0 rfl rfl rfl rfl
    simp only [t216] at h
    simp [c216]
    simp at h
    rw [h]
    simp
theorem applyI_lens {x : StV} {r : RecV} (h1 : x.1.1.length ≤ 2 ^ 46) (h2 : x.2.1.length ≤ 45) (h3 : r.2.1.1.length ≤ 45) (h4 : r.2.2.1.length ≤ 45) : (applyI x r).1.1.1.length ≤ 2 ^ 46 ∧ (applyI x r).1.2.1.length ≤ 2 ^ 46 := by
  have same : (x, false).1.1.1.length ≤ 2 ^ 46 ∧ (x, false).1.2.1.length ≤ 2 ^ 46 := ⟨h1, by dsimp only; omega⟩
  unfold applyI
  split
  · exact same
  · split
    · split
      · exact ⟨by dsimp only; omega, by dsimp only; omega⟩
      · exact same
    · split
      · exact same
      · split
        · split
          · exact ⟨h1, by simp; omega⟩
          · exact same
        · split
          · exact ⟨h1, by simp; omega⟩
          · exact same
/-- A record as it is handed in. -/
def rd1 (r : RecV) : D := Rcd r.1 false 1 r.2.1.1 r.2.1.2.1 r.2.1.2.2.1 r.2.1.2.2.2 false 1 r.2.2.1 r.2.2.2
def t224 (v2 v26 v27 v28 v29 v30 v31 v32 v33 v34 v35 v36 v37 v38 v39 v40 v41 v42 v43 : D) (c : Bool) (L : List RecV) (cb : Bool) (b : List Int) (a i : Nat) : List D := [.slc c 7 (L.map rd1), .slc cb 1 (b.map (.int .u8)), v2, .undef, .undef, .ptr 0 0 0 0, .bool false, .bool true, .sl 1 0 a a, .int .i64 i, .undef, .undef, .undef, .undef, .undef, .undef, .undef, .undef, .undef, .undef, .undef, .undef, .undef, .undef, .undef, .bool true, v26, v27, v28, v29, v30, v31, v32, v33, v34, v35, v36, v37, v38, v39, v40, v41, v42, v43, .sl 1 0 0 0, .undef, .undef, .undef, .undef, .undef, .undef, .undef, .undef, .undef, .undef, .undef, .undef, .undef, .undef, .undef, .undef, .undef, .undef, .undef, .undef, .undef, .undef, .undef, .undef, .undef, .undef, .undef, .undef, .undef, .undef, .undef, .undef, .undef, .undef, .undef, .undef, .undef, .undef, .undef, .undef, .undef, .undef, .undef, .undef, .undef, .undef, .undef, .undef, .undef, .undef, .undef, .undef, .undef, .undef, .undef, .undef, .undef, .undef, .undef, .undef, .undef, .undef, .undef, .undef, .undef, .undef, .undef, .undef, .undef, .undef, .undef, .undef, .undef, .undef, .undef, .undef, .undef, .undef]
set_option maxHeartbeats 8000000 in
attribute [-simp] D.cells in
attribute [local simp ↓] List.forall_mem_map in
attribute [local simp high] cells_rce in
theorem L224 (v2 v26 v27 v28 v29 v30 v31 v32 v33 v34 v35 v36 v37 v38 v39 v40 v41 v42 v43 : D) (u2 : v2.keys = []) (u26 : v26.keys = []) (u27 : v27.keys = []) (u28 : v28.keys = []) (u29 : v29.keys = []) (u30 : v30.keys = []) (u31 : v31.keys = []) (u32 : v32.keys = []) (u33 : v33.keys = []) (u34 : v34.keys = []) (u35 : v35.keys = []) (u36 : ∀ g ∈ v36.keys, g < 2) (u37 : v37.keys = []) (u38 : v38.keys = []) (u39 : v39.keys = []) (u40 : ∀ g ∈ v40.keys, g < 2) (u41 : v41.keys = []) (u42 : v42.keys = []) (u43 : ∀ g ∈ v43.keys, g < 2) (c : Bool) (L : List RecV) (cb : Bool) (b : List Int) (x : StV) (d : Bool) (w : Nat) (d' : Bool) (w' : Nat) (h1 : w = 1 ∨ x.1.1 = []) (h2 : w' = 1 ∨ x.2.1 = []) (hx : x.2.1.length ≤ 45) (hxs : x.1.1.length ≤ 2 ^ 46) (hL : L.length ≤ 30) : ∀ (r pre : List RecV) (i : Nat) (acc : List RcE), L = pre ++ r → i = pre.length → acc.map RcE.r = pre.map fewR →
    ∃ acc' : List RcE, acc'.map RcE.r = L.map fewR ∧ LpB cf1 K1 b224_0 (t224 v2 v26 v27 v28 v29 v30 v31 v32 v33 v34 v35 v36 v37 v38 v39 v40 v41 v42 v43 c L cb b 0 0) 2 ⟨t224 v2 v26 v27 v28 v29 v30 v31 v32 v33 v34 v35 v36 v37 v38 v39 v40 v41 v42 v43 c L cb b acc.length i, [StB x d w d' w', .row 7 (acc.map RcE.d) 0]⟩ =
      some (.exit 0, ⟨t224 v2 v26 v27 v28 v29 v30 v31 v32 v33 v34 v35 v36 v37 v38 v39 v40 v41 v42 v43 c L cb b acc'.length L.length, [StB x d w d' w', .row 7 (acc'.map RcE.d) 0]⟩)
  | [], pre, i, acc, h, hi, ha => by
    have : L = pre := by simpa using h
    subst this
    have z := ltI_f (show ¬ ((L.length : Int) < L.length) by omega)
    refine ⟨acc, ha, ?_⟩
    rw [LpB_eq]
    simp only [t224, StB]
    conv => lhs; arg 6; simp [b224_0, hi, z, u2, u26, u27, u28, u29, u30, u31, u32, u33, u34, u35, eq_true u36, u37, u38, u39, eq_true u40, u41, u42, eq_true u43]
    simp [hi]
  | e :: r, pre, i, acc, h, hi, ha => by
    have hll : i < L.length := by rw [h, hi]; simp
    have hget : L[i]? = some e := by rw [h, hi]; simp
    have hgi : L[i]'hll = e := by rw [List.getElem?_eq_getElem hll] at hget; exact Option.some.inj hget
    have hw := w64 (i + 1) (by omega)
    have z := ltI_t (show ((i : Int) < L.length) by omega)
    have hal : acc.length = i := by have := congrArg List.length ha; simpa [hi] using this
    have bb : (acc.length + 1) * 88 ≤ 70368744177664 := by omega
    obtain ⟨kd, ⟨ts, k, m, g⟩, ids, id⟩ := e
    obtain ⟨f1, f2, hF⟩ := K218 kd false ts k m g false ids id
    have hF := K1_of hF (by decide)
    have hfe : fewR (kd, (ts, k, m, g), ids, id) = (kd, (ts.take 10, k, m, g), ids.take 45, id) := rfl
    have hl10 : (ts.take 10).length ≤ 10 ∧ (ids.take 45).length ≤ 45 := by simp; omega
    obtain ⟨e1, e2, e3, e4, y1, y2, hA⟩ := K203 x d w d' w' h1 h2 (kd, (ts.take 10, k, m, g), ids.take 45, id) f1 1 f2 1 (.inl rfl) (.inl rfl) (by omega) (by dsimp only; omega) (by dsimp only; omega)
    obtain ⟨e5, e6, e7, e8, y3, y4, hB⟩ := K211 x d w d' w' h1 h2 (kd, (ts.take 10, k, m, g), ids.take 45, id) f1 1 f2 1 (.inl rfl) (.inl rfl) (by omega) (by dsimp only; omega) (by dsimp only; omega)
    have hA := K1_of hA (by decide)
    have hB := K1_of hB (by decide)
    have hap : (applyI x (kd, (ts.take 10, k, m, g), ids.take 45, id)).1.1.1.length ≤ 2 ^ 46 ∧ (applyI x (kd, (ts.take 10, k, m, g), ids.take 45, id)).1.2.1.length ≤ 2 ^ 46 := by
      exact applyI_lens (by omega) (by omega) (by dsimp only; omega) (by dsimp only; omega)
    obtain ⟨acc', ha', ih⟩ := L224 v2 v26 v27 v28 v29 v30 v31 v32 v33 v34 v35 v36 v37 v38 v39 v40 v41 v42 v43 u2 u26 u27 u28 u29 u30 u31 u32 u33 u34 u35 u36 u37 u38 u39 u40 u41 u42 u43 c L cb b x d w d' w' h1 h2 hx hxs hL r (pre ++ [(kd, (ts, k, m, g), ids, id)]) (i + 1) (acc ++ [⟨(kd, (ts.take 10, k, m, g), ids.take 45, id), f1, 1, f2, 1, .inl rfl, .inl rfl⟩]) (by rw [h]; simp) (by simp [hi]) (by simp [ha, hfe])
    refine ⟨acc', ha', ?_⟩
    refine Eq.trans ?_ ih
    clear ih ha' hfe
    generalize ts.take 10 = tt at *
    generalize ids.take 45 = ii at *
    generalize applyI x (kd, (tt, k, m, g), ii, id) = A at *
    obtain ⟨y, ok⟩ := A
    dsimp only at *
    have hS := K1_of (K214 y y e1 e2 e3 e4 e5 e6 e7 e8 y1 y2 y3 y4 (by omega) (by omega)) (by decide)
    simp only [decide_true] at hS
    have hbn : (ok != ok) = false := by cases ok <;> rfl
    simp only [StD, Rcd] at hA hB hS hF
    rw [LpB_eq]
    simp only [t224, StB]
    conv => lhs; arg 6; simp [b224_0, hll, hgi, hw, z, rd1, Rcd, hF, hA, hB, hS, hbn, bb, evOp, evM, wants, Ins.go, X.ev, iaM, ldM, binD, setD, applyW, Ek_ops_nil, allFree, free, callM, callP, callO, appM]
    simp [u2, u26, u27, u28, u29, u30, u31, u32, u33, u34, u35, eq_true u36, u37, u38, u39, eq_true u40, u41, u42, eq_true u43, RcE.d, Rcd]
end Go.Ab
/- THE FUNCTIONS' EQUATIONS: thresherlaw17.ReplayAll, behind its loop. (printed by mk233.py) -/
set_option linter.all false
set_option maxRecDepth 100000
namespace Go.Ab
open Go.Proofs Go.Proofs.YtdopbfjebjnpkaaH Go.Proofs.YtdopbfjebjnpkaaH.Crc Go.Proofs.YtdopbfjebjnpkaaH.Var Go.Proofs.YtdopbfjebjnpkaaH.Fr Go.Proofs.YtdopbfjebjnpkaaH.Rec
attribute [local simp] op_or op_an op_add op_sub op_mul oq_eql oq_neq oq_lss oq_gtr oq_leq oq_geq
attribute [-simp] intOp bin_shl
theorem bin_eqlb (a b : Bool) : binD .eql [3] (.bool a) (.bool b) = some (.bool (a == b)) := rfl
attribute [local simp] reset_self bin_neqb bin_eqlb
theorem allN_sch : ∀ (N : Nat) (l : List Int) (x : StV) (first : Bool), x.1.1.length ≤ 64 ∧ x.2.1.length ≤ 40 → (allN N l x first).1.1.1.length ≤ 64 ∧ (allN N l x first).1.2.1.length ≤ 40
  | 0, l, x, first, h => h
  | N + 1, l, x, first, h => by
    unfold allN
    split
    · exact h
    · split
      · exact h
      · split
        · exact h
        · exact allN_sch N _ _ _ ⟨applyI_sch h.1, applyI_len h.2⟩
set_option maxHeartbeats 16000000 in
theorem R224 (v2 v26 v27 v28 v29 v30 v31 v32 v33 v34 v35 v36 v37 v38 v39 v40 v41 v42 v43 : D) (u2 : v2.keys = []) (u26 : v26.keys = []) (u27 : v27.keys = []) (u28 : v28.keys = []) (u29 : v29.keys = []) (u30 : v30.keys = []) (u31 : v31.keys = []) (u32 : v32.keys = []) (u33 : v33.keys = []) (u34 : v34.keys = []) (u35 : v35.keys = []) (u36 : ∀ g ∈ v36.keys, g < 2) (u37 : v37.keys = []) (u38 : v38.keys = []) (u39 : v39.keys = []) (u40 : ∀ g ∈ v40.keys, g < 2) (u41 : v41.keys = []) (u42 : v42.keys = []) (u43 : ∀ g ∈ v43.keys, g < 2) (c : Bool) (L : List RecV) (cb : Bool) (b : List Int) (x : StV) (d : Bool) (w : Nat) (d' : Bool) (w' : Nat) (h1 : w = 1 ∨ x.1.1 = []) (h2 : w' = 1 ∨ x.2.1 = []) (hx : x.2.1.length ≤ 45) (hxs : x.1.1.length ≤ 2 ^ 46) (hL : L.length ≤ 30) (hb : b.length ≤ 200) (hB : isB b) :
    finK false 0 [.tmp 6] (Ek cf1 K1 [.c r224] ⟨[.slc c 7 (L.map rd1), .slc cb 1 (b.map (.int .u8)), v2, .undef, .undef, .ptr 0 0 0 0, .bool false, .bool true, .undef, .undef, .undef, .undef, .undef, .undef, .undef, .undef, .undef, .undef, .undef, .undef, .undef, .undef, .undef, .undef, .undef, .bool true, v26, v27, v28, v29, v30, v31, v32, v33, v34, v35, v36, v37, v38, v39, v40, v41, v42, v43, .undef, .undef, .undef, .undef, .undef, .undef, .undef, .undef, .undef, .undef, .undef, .undef, .undef, .undef, .undef, .undef, .undef, .undef, .undef, .undef, .undef, .undef, .undef, .undef, .undef, .undef, .undef, .undef, .undef, .undef, .undef, .undef, .undef, .undef, .undef, .undef, .undef, .undef, .undef, .undef, .undef, .undef, .undef, .undef, .undef, .undef, .undef, .undef, .undef, .undef, .undef, .undef, .undef, .undef, .undef, .undef, .undef, .undef, .undef, .undef, .undef, .undef, .undef, .undef, .undef, .undef, .undef, .undef, .undef, .undef, .undef, .undef, .undef, .undef, .undef, .undef, .undef, .undef, .undef], [StB x d w d' w']⟩) = some (.bool true, []) := by
  obtain ⟨acc, hacc, hLoop⟩ := L224 v2 v26 v27 v28 v29 v30 v31 v32 v33 v34 v35 v36 v37 v38 v39 v40 v41 v42 v43 u2 u26 u27 u28 u29 u30 u31 u32 u33 u34 u35 u36 u37 u38 u39 u40 u41 u42 u43 c L cb b x d w d' w' h1 h2 hx hxs hL L [] 0 [] rfl rfl rfl
  have hal : acc.length = L.length := by have := congrArg List.length hacc; simpa using this
  have hsm : ∀ e ∈ acc, e.r.2.1.1.length ≤ 2 ^ 30 ∧ e.r.2.2.1.length ≤ 2 ^ 30 := fun e he => by
    have : e.r ∈ L.map fewR := by rw [← hacc]; exact List.mem_map_of_mem he
    obtain ⟨q, _, hq⟩ := List.mem_map.1 this
    rw [← hq]
    simp [fewR]
    omega
  have hA := fun cc => K216' cc 7 acc (.inl rfl) (by omega) hsm
  have hpl := putsR_len (acc.map RcE.r)
  rw [List.length_map] at hpl
  have hpB := isB_putsR (acc.map RcE.r)
  generalize putsR (acc.map RcE.r) = P at *
  obtain ⟨all, hall⟩ : ∃ all, P ++ b = all := ⟨_, rfl⟩
  have halll : all.length = P.length + b.length := by rw [← hall]; simp
  have haB : isB all := by rw [← hall]; exact isB_append hpB hB
  obtain ⟨r1, r2, r3, r4, z1, z2, hF⟩ := K200 false 1 all (.inl rfl) (by omega) haB
  obtain ⟨q1, q2, q3, q4, z3, z4, hG⟩ := K212 false 1 all (.inl rfl) (by omega) haB
  have hsch : (allI all).1.1.1.length ≤ 64 ∧ (allI all).1.2.1.length ≤ 40 := allN_sch _ _ _ _ (by simp [noSt, noSc])
  generalize allI all = Y at *
  obtain ⟨y, rest⟩ := Y
  dsimp only at *
  have hF := K1_of hF (by decide)
  have hG := K1_of hG (by decide)
  have hS := K1_of (K214 y y r1 r2 r3 r4 q1 q2 q3 q4 z1 z2 z3 z4 (by omega) (by omega)) (by decide)
  simp only [decide_true] at hS
  generalize all.length - rest.length = n at *
  obtain ⟨o, ho⟩ : ∃ o, ltI 0 (n : Int) = o := ⟨_, rfl⟩
  rw [ho] at hF hG
  have ee : eqI (n : Int) n = true := eqI_t rfl
  have eo : (o == o) = true := by simp
  obtain ⟨k1, hH⟩ := K204 x d w d' w' h2 (by omega)
  obtain ⟨k2, hI⟩ := K213 x d w d' w' h2 (by omega)
  have hH := K1_of hH (by decide)
  have hI := K1_of hI (by decide)
  have hJ := K1_of (K21 1 d w x.1.1 x.1.2.1 x.1.2.2.1 x.1.2.2.2 k1 1 x.2.1 x.2.2 1 d w x.1.1 x.1.2.1 x.1.2.2.1 x.1.2.2.2 k2 1 x.2.1 x.2.2 h1 (.inl rfl) h1 (.inl rfl) (by omega) (by omega)) (by decide)
  have e11 : eqI 1 1 = true := rfl
  have exx : eqI x.2.2 x.2.2 = true := eqI_t rfl
  simp only [e11, exx, true_and, and_true, decide_true, beq_self_eq_true, Bool.and_true, and_self] at hJ
  have bb : P.length + b.length ≤ 70368744177664 := by omega
  have bb1 : P.length ≤ 70368744177664 := by omega
  have hmap : P.map (D.int .u8) ++ b.map (D.int .u8) = all.map (D.int .u8) := by rw [← hall]; simp
  simp only [StD, Rcd] at hF hG hS hH hI hJ
  simp only [t224, StB] at hLoop ⊢
  simp [r224]
  simp at hLoop
  rw [hLoop]
  by_cases hbn : b = []
  · subst hbn
    rw [List.append_nil] at hall
    subst hall
    by_cases hPn : P = []
    · subst hPn
      simp only [List.map_nil] at hF hG
      simp [hA, bb1, hF, hG, hS, hH, hI, hJ, ee, eo, evOp, evM, wants, Ins.go, X.ev, iaM, ldM, binD, setD, applyW, Ek_ops_nil, allFree, free, callM, callP, callO, appM]
    · simp [hA, bb1, hPn, hF, hG, hS, hH, hI, hJ, ee, eo, evOp, evM, wants, Ins.go, X.ev, iaM, ldM, binD, setD, applyW, Ek_ops_nil, allFree, free, callM, callP, callO, appM]
  · by_cases hPn : P = []
    · subst hPn
      rw [List.nil_append] at hall
      subst hall
      simp at bb
      simp [hA, bb, hbn, hF, hG, hS, hH, hI, hJ, ee, eo, evOp, evM, wants, Ins.go, X.ev, iaM, ldM, binD, setD, applyW, Ek_ops_nil, allFree, free, callM, callP, callO, appM]
    · have bb2 : all.length ≤ 70368744177664 := by omega
      simp [hA, bb2, hbn, hPn, hmap, ← halll, List.take_of_length_le, hF, hG, hS, hH, hI, hJ, ee, eo, evOp, evM, wants, Ins.go, X.ev, iaM, ldM, binD, setD, applyW, Ek_ops_nil, allFree, free, callM, callP, callO, appM]
end Go.Ab
