/- THE FUNCTIONS' EQUATIONS: part.Write (of the second machine). -/
import Derived.Test.YtomomeabfnmncaaGreatBF259
import Derived.Test.YtomomeabfnmncaaGreatBF60K
set_option linter.all false
set_option maxRecDepth 100000
namespace Go.Ab
open Go.Proofs Go.Proofs.YtomomeabfnmncaaGreatH Go.Proofs.YtomomeabfnmncaaGreatH.Crc Go.Proofs.YtomomeabfnmncaaGreatH.Var Go.Proofs.YtomomeabfnmncaaGreatH.Fr Go.Proofs.YtomomeabfnmncaaGreatH.Rec
def b247_0 : C := (.seq (.reg none [⟨(some 45), none, (.bin .lss [] (.t 44) (.t 43))⟩]) (.seq (.cond (.t 45) .skip (.exit 1)) (.seq (.block 2 (.seq (.reg none [⟨(some 46), none, (.ia none 1 false (.t 42) (.t 44))⟩, ⟨(some 47), none, (.ld none (.t 46))⟩, ⟨(some 10), none, (.mv (.t 47))⟩]) (.seq (.reg none [⟨(some 48), none, (.mv (.t 8))⟩, ⟨(some 49), none, (.mv (.t 7))⟩, ⟨(some 50), none, (.len 1 (.t 49))⟩, ⟨(some 51), none, (.bld [(.int .i64 0), (.str [])] [(0, (1, (.t 50)))])⟩, ⟨(some 52), none, (.bsl false 2 1 [(.int .i64 0), (.str [])] [(0, (.t 51))])⟩, ⟨(some 53), none, (.app 2 24 (.t 48) (.t 52))⟩, ⟨(some 8), none, (.mv (.t 53))⟩]) (.reg none [⟨(some 54), none, (.mv (.t 7))⟩, ⟨(some 55), none, (.fa 0 1 false (.t 2))⟩, ⟨(some 56), none, (.ld none (.t 55))⟩, ⟨(some 57), none, (.mv (.t 10))⟩, ⟨(some 58), none, (.call (.f 35) [(.t 56), (.t 57)])⟩, ⟨(some 59), none, (.app 1 1 (.t 54) (.t 58))⟩, ⟨(some 7), none, (.mv (.t 59))⟩])))) (.reg none [⟨(some 60), none, (.bin .add [] (.t 44) (.k (.int .i64 1)))⟩, ⟨(some 44), none, (.mv (.t 60))⟩]))))
def r247_6 : C := (.seq (.reg none [⟨(some 61), none, (.mv (.t 7))⟩, ⟨(some 62), none, (.len 1 (.t 61))⟩, ⟨(some 63), none, (.cvt (.int .u64) (.t 62))⟩, ⟨(some 11), none, (.mv (.t 63))⟩]) (.seq (.reg none [⟨(some 65), none, (.mv (.t 8))⟩, ⟨(some 66), none, (.call (.f 36) [(.k (.int .i64 2)), (.t 65)])⟩, ⟨(some 64), none, (.mv (.t 66))⟩, ⟨(some 67), none, (.ext (.t 64) 0)⟩, ⟨(some 68), none, (.ext (.t 64) 1)⟩, ⟨(some 12), none, (.mv (.t 67))⟩, ⟨(some 13), none, (.mv (.t 68))⟩]) (.seq (.reg (some [(2, 4), (2, 6), (4, 6), (5, 6), (2, 8), (4, 8), (5, 8)]) [⟨(some 69), none, (.mv (.t 7))⟩, ⟨(some 70), none, (.fa 0 1 false (.t 2))⟩, ⟨(some 71), none, (.ld none (.t 70))⟩, ⟨(some 72), none, (.fa 1 1 false (.t 2))⟩, ⟨(some 73), none, (.ld none (.t 72))⟩, ⟨(some 74), none, (.sub 1 1 (.t 71) none (some (.t 73)) none)⟩, ⟨(some 75), none, (.ld (some 4) (.t 2))⟩, ⟨(some 76), none, (.mv (.t 1))⟩, ⟨(some 77), none, (.call (.f 38) [(.t 75), (.t 76)])⟩, ⟨(some 78), none, (.call (.f 35) [(.t 74), (.t 77)])⟩, ⟨(some 79), none, (.mv (.t 12))⟩, ⟨(some 80), none, (.mv (.t 11))⟩, ⟨(some 81), none, (.call (.f 39) [(.t 80)])⟩, ⟨(some 82), none, (.bsl false 1 4 [nilS] [(0, (.t 69)), (1, (.t 78)), (2, (.t 79)), (3, (.t 81))])⟩, ⟨(some 83), none, (.call (.f 37) [(.t 82)])⟩, ⟨(some 4), none, (.mv (.t 83))⟩, ⟨(some 5), none, (.mv (.k (.int .i64 0)))⟩]) .ret)))
def r247_3 : C := (.seq (.reg none [⟨(some 37), none, (.ld (some 4) (.t 2))⟩, ⟨(some 38), none, (.call (.f 33) [(.t 37)])⟩, ⟨(some 39), none, (.call (.f 32) [(.t 38)])⟩, ⟨(some 7), none, (.mv (.t 39))⟩]) (.seq (.reg none [⟨(some 8), none, .nilrow⟩]) (.seq (.seq (.reg none [⟨(some 40), none, (.ld (some 4) (.t 2))⟩, ⟨(some 41), none, (.mv (.t 1))⟩, ⟨(some 42), none, (.call (.f 34) [(.t 40), (.t 41)])⟩, ⟨(some 43), none, (.len 1 (.t 42))⟩, ⟨(some 44), none, (.mv (.k (.int .i64 0)))⟩]) (.block 1 (.loop b247_0))) r247_6)))
def c247 : Fn' := ⟨84, [(.tmp 4), (.tmp 5)], (.seq (.reg none [⟨(some 2), none, (.box false (.t 0))⟩, ⟨(some 4), none, (.mv (.k nilS))⟩, ⟨(some 5), none, (.mv (.k (.int .i64 0)))⟩]) (.seq (.reg none [⟨(some 14), none, (.fn 27 [] [(.t 2)])⟩, ⟨(some 6), none, (.mv (.t 14))⟩]) (.seq (.block 0 (.seq (.reg none [⟨(some 16), none, (.ld (some 4) (.t 2))⟩, ⟨(some 17), none, (.call (.f 29) [(.t 16)])⟩, ⟨(some 18), none, (.bin .neq [] (.t 17) (.k (.int .i64 0)))⟩, ⟨(some 15), none, (.mv (.t 18))⟩]) (.cond (.t 15) (.seq (.reg none [⟨(some 4), none, (.mv (.k nilS))⟩, ⟨(some 5), none, (.mv (.k (.int .i64 20)))⟩]) .ret) (.seq (.reg none [⟨(some 20), none, (.mv (.t 1))⟩, ⟨(some 21), none, (.len 1 (.t 20))⟩, ⟨(some 22), none, (.bin .eql [] (.t 21) (.k (.int .i64 0)))⟩, ⟨(some 23), none, (.mv (.t 22))⟩, ⟨(some 24), (some ((some 23), false)), (.mv (.t 1))⟩, ⟨(some 25), (some ((some 23), false)), (.len 1 (.t 24))⟩, ⟨(some 26), (some ((some 23), false)), (.bin .gtr [] (.t 25) (.k (.int .i64 2000)))⟩, ⟨(some 27), none, (.pick (.t 23) (.k (.bool true)) (.t 26))⟩, ⟨(some 19), none, (.mv (.t 27))⟩]) (.cond (.t 19) (.seq (.reg none [⟨(some 4), none, (.mv (.k nilS))⟩, ⟨(some 5), none, (.mv (.k (.int .i64 1)))⟩]) .ret) (.seq (.reg none [⟨(some 29), none, (.mv (.t 1))⟩, ⟨(some 30), none, (.mv (.t 6))⟩, ⟨(some 31), none, (.call (.f 30) [(.t 29), (.t 30)])⟩, ⟨(some 28), none, (.mv (.t 31))⟩]) (.cond (.t 28) (.seq (.reg none [⟨(some 4), none, (.mv (.k nilS))⟩, ⟨(some 5), none, (.mv (.k (.int .i64 21)))⟩]) .ret) (.seq (.reg none [⟨(some 33), none, (.ld (some 4) (.t 2))⟩, ⟨(some 34), none, (.mv (.t 1))⟩, ⟨(some 35), none, (.call (.f 31) [(.t 33), (.t 34)])⟩, ⟨(some 36), none, (.un .not (.t 35))⟩, ⟨(some 32), none, (.mv (.t 36))⟩]) (.cond (.t 32) (.seq (.reg none [⟨(some 4), none, (.mv (.k nilS))⟩, ⟨(some 5), none, (.mv (.k (.int .i64 1)))⟩]) .ret) .skip))))))))) r247_3)))⟩
theorem k247 : compF Tryz.prog 11 = some c247 := by kernel_rfl
attribute [local simp] op_or op_an op_add op_sub op_mul oq_eql oq_neq oq_lss oq_gtr oq_leq oq_geq
attribute [-simp] intOp bin_shl bin_shr D.cells minD maxD minF maxF
/-- Granules as blocks, and where each begins. -/
def gransI (ts : List Int) (G : List (List Rw)) : List Int := G.flatMap fun x => colsI x 0 ts
def placesI (ts : List Int) : Nat → List (List Rw) → List Va
  | _, [] => []
  | o, x :: G => ((o : Int), []) :: placesI ts (o + (colsI x 0 ts).length) G
theorem reset_self (v : D) : reset.match_1 (fun _ => D) v (fun _ => .undef) (fun _ => v) = v := by cases v <;> rfl
attribute [local simp] reset_self
theorem colsI_len (L : List Rw) : ∀ (ts : List Int) (k : Nat), (colsI L k ts).length ≤ 200020 * ts.length
  | [], _ => by simp [colsI]
  | t :: ts, k => by
    have h1 := colsI_len L ts (k + 1)
    have h2 := blkO_len t (colR k L)
    simp only [colsI, List.length_append, List.length_cons]
    omega
theorem grans_len (ts : List Int) : ∀ (G : List (List Rw)), (gransI ts G).length ≤ 200020 * ts.length * G.length
  | [] => by simp [gransI]
  | x :: G => by
    have h1 := grans_len ts G
    have h2 := colsI_len x ts 0
    have e : gransI ts (x :: G) = colsI x 0 ts ++ gransI ts G := by simp [gransI]
    rw [e, List.length_append, List.length_cons, Nat.mul_succ]
    omega
theorem places_len (ts : List Int) : ∀ (G : List (List Rw)) (o : Nat), (placesI ts o G).length = G.length
  | [], _ => rfl
  | x :: G, o => by simp [placesI, places_len ts G]
/-- A part's bytes. -/
def headB (ts : List Int) (k m g : Int) (G : List (List Rw)) : List Int := frameI (putS ts k m g) ++ gransI ts G
def writeG (ts : List Int) (k m g : Int) (G : List (List Rw)) : List Int :=
  headB ts k m g G ++ (colsI (G.map (markR k.toNat)) 0 (ts.take k.toNat) ++ (blkO 2 (placesI ts (frameI (putS ts k m g)).length G) ++ Fr.le8 ((headB ts k m g G).length : Nat)))
def writeB (ts : List Int) (k m g : Int) (L : List Rw) : List Int := writeG ts k m g (splitI g.toNat L)
/-- What is wrong of what is to be written. -/
def wErr (ts : List Int) (k m g : Int) (L : List Rw) : Int :=
  if checkI ts k m g ≠ 0 then 20
  else if L = [] ∨ 2000 < L.length then 1
  else if (L.any fun x => !mayR ts x.r) = true then 21
  else if srt ts k L (L.length - 1) = false then 1
  else 0
def t247 (v39 : D) (cc : Bool) (s : Nat) (ts : List Int) (k m g : Int) (c : Bool) (L : List Rw) (G : List (List Rw)) (v38 : D) (o a i : Nat) : List D :=
  [.agg [.slc cc s (ts.map (.int .i64)), .int .i64 k, .int .i64 m, .int .i64 g], .slc c 1 (L.map Rw.d), .ptr 0 0 0 0, .undef, nilS, .int .i64 0, .func 27 [] [.ptr 0 0 0 0], .sl 1 0 o o, .sl 2 0 a a, .undef, .undef, .undef, .undef, .undef, .func 27 [] [.ptr 0 0 0 0], .bool false, .agg [.slc cc s (ts.map (.int .i64)), .int .i64 k, .int .i64 m, .int .i64 g], .int .i64 0, .bool false, .bool false, .slc c 1 (L.map Rw.d), .int .i64 L.length, .bool false, .bool false, .slc c 1 (L.map Rw.d), .int .i64 L.length, .bool false, .bool false, .bool false, .slc c 1 (L.map Rw.d), .func 27 [] [.ptr 0 0 0 0], .bool false, .bool false, .agg [.slc cc s (ts.map (.int .i64)), .int .i64 k, .int .i64 m, .int .i64 g], .slc c 1 (L.map Rw.d), .bool true, .bool false, .agg [.slc cc s (ts.map (.int .i64)), .int .i64 k, .int .i64 m, .int .i64 g], v38, v39, .agg [.slc cc s (ts.map (.int .i64)), .int .i64 k, .int .i64 m, .int .i64 g], .slc c 1 (L.map Rw.d), .slc false 1 (G.map Gr), .int .i64 G.length, .int .i64 i, .undef, .undef, .undef, .undef, .undef, .undef, .undef, .undef, .undef, .undef, .undef, .undef, .undef, .undef, .undef, .undef, .undef, .undef, .undef, .undef, .undef, .undef, .undef, .undef, .undef, .undef, .undef, .undef, .undef, .undef, .undef, .undef, .undef, .undef, .undef, .undef, .undef, .undef, .undef]
set_option maxHeartbeats 8000000 in
attribute [local simp high] cells_va in
theorem L247 (n39 : Nat) (cc : Bool) (ts : List Int) (k m g : Int) (hts : ∀ t ∈ ts, i64R t) (htl : ts.length ≤ 64) (c : Bool) (L : List Rw) (G : List (List Rw)) (hG : ∀ x ∈ G, x ≠ [] ∧ x.length ≤ 2 ^ 30 ∧ ∀ y ∈ x, y.r.length = ts.length) (hl : G.length ≤ 2000) (v38 : D) (u38 : v38.keys = []) :
    ∀ (t pre : List (List Rw)) (out : List Int) (pls : List Va) (a o i : Nat), G = pre ++ t → i = pre.length → o = out.length → a = pls.length → pls.length = i → out.length ≤ 700 + 200020 * 64 * i → out ≠ [] →
    LpB cf1 K1 b247_0 (t247 (.sl 1 0 n39 n39) cc 1 ts k m g c L G v38 n39 0 0) 3 ⟨t247 (.sl 1 0 n39 n39) cc 1 ts k m g c L G v38 o a i, [ScB cc 1 ts k m g, .row 1 (out.map (.int .u8)) 0, rowVa pls]⟩ =
      some (.exit 1, ⟨t247 (.sl 1 0 n39 n39) cc 1 ts k m g c L G v38 (out ++ gransI ts t).length (pls ++ placesI ts out.length t).length G.length, [ScB cc 1 ts k m g, .row 1 ((out ++ gransI ts t).map (.int .u8)) 0, rowVa (pls ++ placesI ts out.length t)]⟩)
  | [], pre, out, pls, a, o, i, h, hi, ho, ha, hb, hc, hd => by
    have : G = pre := by simpa using h
    subst this
    have z1 : ltI (i : Int) G.length = false := ltI_f (by omega)
    rw [LpB_eq]
    simp only [t247, rowVa, ScB, gransI, placesI, List.flatMap_nil, List.append_nil]
    conv => lhs; arg 6; simp [b247_0, z1, u38]
    simp [hi, ha, ho]
  | x :: t, pre, out, pls, a, o, i, h, hi, ho, ha, hb, hc, hd => by
    have hll : i < G.length := by rw [h, hi]; simp
    have z1 : ltI (i : Int) G.length = true := ltI_t (by omega)
    have hget : G[i]? = some x := by rw [h, hi]; simp
    have hgi : G[i]'hll = x := by rw [List.getElem?_eq_getElem hll] at hget; exact Option.some.inj hget
    have hw := w64 (i + 1) (by omega)
    obtain ⟨hx1, hx2, hx3⟩ := hG x (by rw [h]; simp)
    obtain ⟨c1, s1, hs1, hK⟩ := K259 cc 1 ts (.inl rfl) (by omega) hts true 1 x (.inl rfl) hx1 (fun y hy => by rw [hx3 y hy]; exact Nat.le_refl _) hx2
    have hK := K1_of hK (by decide)
    have hcl := colsI_len x ts 0
    have hcl2 : (colsI x 0 ts).length ≤ 200020 * 64 := Nat.le_trans hcl (Nat.mul_le_mul_left _ htl)
    have e1 : out ++ gransI ts (x :: t) = out ++ colsI x 0 ts ++ gransI ts t := by simp [gransI]
    have e2 : pls ++ placesI ts out.length (x :: t) = pls ++ [((out.length : Int), [])] ++ placesI ts (out ++ colsI x 0 ts).length t := by simp [placesI]
    rw [e1, e2]
    have ih := L247 n39 cc ts k m g hts htl c L G hG hl v38 u38 t (pre ++ [x]) (out ++ colsI x 0 ts) (pls ++ [((out.length : Int), [])]) (pls ++ [((out.length : Int), [])]).length (out ++ colsI x 0 ts).length (i + 1) (by rw [h]; simp) (by simp [hi]) rfl rfl (by simp [hb]) (by rw [List.length_append]; omega) (by simp [hd])
    clear e1 e2
    generalize colsI x 0 ts = C at *
    generalize gransI ts t = GG at *
    generalize placesI ts (out ++ C).length t = PP at *
    have bi : i ≤ 2000 := by omega
    have hb1 : (pls.length + 1) * 24 ≤ 70368744177664 := by omega
    have hb2 : out.length + C.length ≤ 70368744177664 := by omega
    have hb3 : out.length ≤ 70368744177664 := by omega
    rw [LpB_eq]
    simp only [t247, rowVa, ScB] at ih ⊢
    by_cases hC : C = []
    · subst hC
      by_cases hp : pls = []
      · subst hp
        subst ha
        conv => lhs; arg 6; simp [b247_0, z1, hll, hgi, hw, hK, Gr, ho, hb3, u38]
        simp [Va.d] at ih ⊢
        exact ih
      · conv => lhs; arg 6; simp [b247_0, z1, hll, hgi, hw, hK, Gr, ho, ha, hp, hb1, hb3, u38]
        simp [hp, Va.d] at ih ⊢
        exact ih
    · obtain rfl := hs1.resolve_right hC
      by_cases hp : pls = []
      · subst hp
        subst ha
        conv => lhs; arg 6; simp [b247_0, z1, hll, hgi, hw, hK, Gr, ho, hC, hb2, u38]
        simp [Va.d] at ih ⊢
        exact ih
      · conv => lhs; arg 6; simp [b247_0, z1, hll, hgi, hw, hK, Gr, ho, ha, hp, hb1, hC, hb2, u38]
        simp [hp, Va.d] at ih ⊢
        exact ih
theorem splitI_mem_len {α : Type} (g : Nat) (hg : 1 ≤ g) : ∀ (n : Nat) (L : List α), L.length ≤ n → ∀ x ∈ splitI g L, x.length ≤ L.length
  | _, [], _, x, hx => by simp [splitI_nil] at hx
  | 0, a :: l, h, x, hx => by simp at h
  | n + 1, a :: l, h, x, hx => by
    rw [splitI_cons g hg (a :: l) (by simp)] at hx
    rcases List.mem_cons.1 hx with rfl | hx
    · simp; omega
    · have := splitI_mem_len g hg n ((a :: l).drop g) (by simp at h ⊢; omega) x hx
      simp at this ⊢; omega
theorem blk2_flags (t : Int) (l : List Va) : (if blockOk t l = true then [D.slc false 1 (List.map (D.int IntKind.u8) (blockI t l)), .bool true] else [nilS, .bool false]) = [.slc (!blockOk t l) (if blockOk t l then 1 else 0) ((blkO t l).map (.int .u8)), .bool (blockOk t l)] ∧ (blockOk t l = true ∨ blkO t l = []) := by
  unfold blkO
  cases blockOk t l <;> exact ⟨rfl, by simp⟩
set_option maxHeartbeats 8000000 in
attribute [local simp high] cells_va in
theorem R247 {v0 v3 v4 v5 v6 v9 v10 v11 v12 v13 v14 v15 v16 v17 v18 v19 v20 v21 v22 v23 v24 v25 v26 v27 v28 v29 v30 v31 v32 v33 v34 v35 v36 v37 v38 v39 v40 v41 v42 v43 v44 v45 v46 : D} (cc : Bool) (ts : List Int) (k : Nat) (m : Int) (g : Nat) (hok : schemaOk ts k m g = true) (c : Bool) (L : List Rw) (hn : L ≠ []) (hl : L.length ≤ 2000) (hr : ∀ x ∈ L, x.r.length = ts.length) (out : List Int) (pls : List Va) (hpn : pls ≠ []) (hpl : pls.length ≤ 2000) (hol : out.length ≤ 2 ^ 40) :
    finK false 0 [.tmp 4, .tmp 5] (Ek cf1 K1 [.c r247_6] ⟨[v0, .slc c 1 (L.map Rw.d), .ptr 0 0 0 0, v3, v4, v5, v6, .sl 1 0 out.length out.length, .sl 2 0 pls.length pls.length, v9, v10, v11, v12, v13, v14, v15, v16, v17, v18, v19, v20, v21, v22, v23, v24, v25, v26, v27, v28, v29, v30, v31, v32, v33, v34, v35, v36, v37, v38, v39, v40, v41, v42, v43, v44, v45, v46, .undef, .undef, .undef, .undef, .undef, .undef, .undef, .undef, .undef, .undef, .undef, .undef, .undef, .undef, .undef, .undef, .undef, .undef, .undef, .undef, .undef, .undef, .undef, .undef, .undef, .undef, .undef, .undef, .undef, .undef, .undef, .undef, .undef, .undef, .undef, .undef, .undef], [ScB cc 1 ts k m g, .row 1 (out.map (.int .u8)) 0, .row 2 (pls.map Va.d) 0]⟩) =
      some (.tuple [.slc false 1 ((out ++ (colsI (((splitI g L).map (markR k))) 0 (ts.take k) ++ (blkO 2 pls ++ Fr.le8 (out.length : Nat)))).map (.int .u8)), .int .i64 0], []) := by
  have h0 := schemaOk_iff.1 hok
  obtain ⟨hl1, ht1, hk1, hm1, hg1⟩ := h0
  have hM := K1_of (K260 cc 1 ts k m g (by omega) c 1 L (.inl rfl) (by omega) hn (by omega) (fun y hy => by rw [hr y hy]; omega)) (by decide)
  have hsl := splitI_len g (by omega) L.length L (Nat.le_refl _)
  have hMn : (splitI g L).map (markR k) ≠ [] := by rw [splitI_cons g (by omega) L hn]; simp
  have hMr : ∀ x ∈ (splitI g L).map (markR k), (ts.take k).length ≤ x.r.length := by
    intro x hx
    obtain ⟨y, hy, rfl⟩ := List.mem_map.1 hx
    obtain ⟨⟨z, zs, rfl⟩, h2⟩ := split_mem L g (by omega) L.length L (Nat.le_refl _) y hy
    have := hr z (h2 z List.mem_cons_self)
    simp [markR]; omega
  have hMl : ((splitI g L).map (markR k)).length ≤ 2000 := by simp; omega
  generalize (splitI g L).map (markR k) = M at *
  have hUR : ∀ t ∈ ts.take k, i64R t := fun t ht => by
    have := ht1 t (List.mem_of_mem_take ht)
    unfold i64R; omega
  have hUl : (ts.take k).length = k := by rw [List.length_take]; omega
  obtain ⟨U, hU⟩ : ∃ U, ts.take k = U := ⟨_, rfl⟩
  rw [hU] at hMr hUR hUl ⊢
  have m1 : List.take k (ts.map (D.int .i64)) = U.map (D.int .i64) := by rw [← hU, List.map_take]
  have hC := fun cu => K259 cu 1 U (.inl rfl) (by omega) hUR false 1 M (.inl rfl) hMn hMr (by omega)
  obtain ⟨c1, s1, hs1, hC⟩ := hC (cc && k == ts.length)
  have hC := K1_of hC (by decide)
  have hcl := colsI_len M U 0
  have hcl2 : (colsI M 0 U).length ≤ 200020 * 64 := Nat.le_trans hcl (Nat.mul_le_mul_left _ (by omega))
  have hP := K1_of (K26 false 2 2 (by unfold i64R; omega) pls (.inl rfl) (by omega)) (by decide)
  have hbl := blkO_len 2 pls
  obtain ⟨f1, f2⟩ := blk2_flags 2 pls
  rw [f1] at hP
  have hw : IntKind.u64.wrap (out.length : Int) = out.length := by rw [IntKind.wrap_u64]; omega
  have hE := K1_of (K103 (out.length : Nat)) (by decide)
  rw [Ab.le8_eq _ (by omega)] at hE
  have hel := Fr.le8_len (out.length : Nat)
  have b1 : k ≤ ts.length := by omega
  have b1' : (k : Int) ≤ ts.length := by omega
  have b2 : 0 ≤ (k : Int) := by omega
  clear f1 hcl
  generalize blockOk 2 pls = ok at *
  generalize blkO 2 pls = B at *
  generalize colsI M 0 U = C at *
  generalize Fr.le8 (out.length : Nat) = E at *
  have hZ := K60' true [(false, 1, out), (c1, s1, C), (!ok, if ok then 1 else 0, B), (false, 1, E)] (by simp [tot]; omega) (by simp)
  have hcat : cat [(false, 1, out), (c1, s1, C), (!ok, if ok then 1 else 0, B), (false, 1, E)] = out ++ (C ++ (B ++ E)) := by simp [cat]
  rw [hcat] at hZ
  have hne : out ++ (C ++ (B ++ E)) ≠ [] := by
    intro e
    simp only [List.append_eq_nil_iff] at e
    rw [e.2.2.2] at hel
    simp at hel
  generalize out ++ (C ++ (B ++ E)) = Z at *
  simp only [List.map_cons, List.map_nil, Ro.d] at hZ
  unfold Sd at hM
  simp [evOp, evM, wants, Ins.go, X.ev, iaM, ldM, binD, setD, applyW, Ek_ops_nil, allFree, free, callM, callP, callO, appM, r247_6, hM, hC, hP, hw, hE, hZ, m1, b1, b1', b2, hUl, hpn]
set_option maxHeartbeats 8000000 in
/-- part.Write. -/
theorem K247 (cc : Bool) (s : Nat) (ts : List Int) (hs : s = 1 ∨ ts = []) (k m g : Int) (htl : ts.length ≤ 2 ^ 40) (c : Bool) (s' : Nat) (L : List Rw) (hs' : s' = 1 ∨ L = []) (hl : L.length ≤ 2 ^ 40) :
    K1 11 [Sd cc s ts k m g, .slc c s' (L.map Rw.d)] [] = some (.tuple [if wErr ts k m g L = 0 then .slc false 1 ((writeB ts k m g L).map (.int .u8)) else nilS, .int .i64 (wErr ts k m g L)], []) := by
  refine K_call k247 (ora1_none (by decide)) (by simp [c247, Sd]) ?_
  have hC := K1_of (K71 cc s ts hs k m g (by omega)) (by decide)
  have hO := K1_of (K256 c s' L hs' 27 cc s ts k m g (fun x => !mayR ts x.r) (fun x => K254 cc s ts hs k m g x (by omega)) (by omega)) (by decide)
  have hS := K1_of (K257 c s' L hs' cc s ts hs k m g (by omega) (by omega)) (by decide)
  unfold Sd at hC hS ⊢
  have z0 : neI 0 0 = false := rfl
  have z20 : neI 20 0 = true := rfl
  cases hok : schemaOk ts k m g with
  | false =>
    have hc : checkI ts k m g = 20 := by unfold checkI; rw [hok]; rfl
    have hw : wErr ts k m g L = 20 := by unfold wErr; rw [hc]; rfl
    rw [hw]
    rw [hc] at hC
    simp [c247, hC, z20]
  | true =>
    have hc : checkI ts k m g = 0 := by unfold checkI; rw [hok]; rfl
    rw [hc] at hC
    have e0 : wErr ts k m g L = if L = [] ∨ 2000 < L.length then 1 else if (L.any fun x => !mayR ts x.r) = true then 21 else if srt ts k L (L.length - 1) = false then 1 else 0 := by
      unfold wErr; rw [hc]; rfl
    by_cases hn : L = []
    · have hw : wErr ts k m g L = 1 := by rw [e0, if_pos (.inl hn)]
      rw [hw]
      subst hn
      have z1 : eqI 0 0 = true := rfl
      simp [c247, hC, z0, z1]
    have z1 : eqI (L.length : Int) 0 = false := eqI_f (by intro e; exact hn (List.eq_nil_of_length_eq_zero (by omega)))
    by_cases hm : 2000 < L.length
    · have hw : wErr ts k m g L = 1 := by rw [e0, if_pos (.inr hm)]
      rw [hw]
      have z2 : ltI 2000 (L.length : Int) = true := ltI_t (by omega)
      simp [c247, hC, z0, z1, z2]
    have z2 : ltI 2000 (L.length : Int) = false := ltI_f (by omega)
    obtain rfl := hs'.resolve_right hn
    rw [if_neg (by simp [hn]; omega)] at e0
    cases ho : L.any fun x => !mayR ts x.r with
    | true =>
      rw [ho] at hO e0
      rw [if_pos rfl] at e0
      rw [e0]
      simp [c247, hC, z0, z1, z2, hO, backK]
    | false =>
      rw [ho] at hO e0
      rw [if_neg (by decide)] at e0
      cases hsr : srt ts k L (L.length - 1) with
      | false =>
        rw [hsr] at hS e0
        rw [if_pos rfl] at e0
        rw [e0]
        simp [c247, hC, z0, z1, z2, hO, hS, backK]
      | true =>
        rw [hsr] at hS e0
        rw [if_neg (by decide)] at e0
        rw [e0]
        have h0 := schemaOk_iff.1 hok
        obtain ⟨hl1, ht1, hk1, hm1, hg1⟩ := h0
        obtain rfl := hs.resolve_right (by intro e; subst e; simp at hl1)
        obtain ⟨K, rfl⟩ : ∃ K : Nat, k = K := ⟨k.toNat, by omega⟩
        obtain ⟨G, rfl⟩ : ∃ G : Nat, g = G := ⟨g.toNat, by omega⟩
        have hr : ∀ x ∈ L, x.r.length = ts.length := fun x hx => by
          rw [List.any_eq_false] at ho
          have := ho x hx
          simp at this
          exact mayR_len ts x.r this
        have hpos : ∀ x ∈ ts ++ [(K : Int), m, (G : Int)], 0 ≤ x ∧ x ≤ 9223372036854775807 := by
          intro x hx
          rcases List.mem_append.1 hx with hx | hx
          · have := ht1 x hx; omega
          · simp at hx; omega
        have hP := K1_of (K34 cc 1 ts K m G (by omega) hpos) (by decide)
        have hF := K32' (putS ts K m G) false (isB_putAll _) (by have := putS_len ts K m G hok; omega)
        have hsl := splitI_len G (by omega) L.length L (Nat.le_refl _)
        have hSp := K1_of (K258 cc 1 ts K m G (by omega) c 1 L (.inl rfl) (by omega) hn) (by decide)
        have hpsl := putS_len ts K m G hok
        have hfl := frameI_len (putS ts K m G)
        have hpl := putI_len10 ((putS ts K m G).length : Int) (by omega)
        have hFn : frameI (putS ts K m G) ≠ [] := by intro e; rw [e] at hfl; simp only [List.length_nil] at hfl; omega
        have hGn : splitI G L ≠ [] := by rw [splitI_cons G (by omega) L hn]; simp
        have hgl := grans_len ts (splitI G L)
        have hgl2 : (gransI ts (splitI G L)).length ≤ 200020 * 64 * 2000 := Nat.le_trans hgl (Nat.mul_le_mul (Nat.mul_le_mul_left _ hl1.2) (by omega))
        have hpc := places_len ts (splitI G L) (frameI (putS ts K m G)).length
        have hL := L247 (frameI (putS ts K m G)).length cc ts K m G (fun t ht => by have := ht1 t ht; unfold i64R; omega) hl1.2 c L (splitI G L) (fun x hx => by
          obtain ⟨⟨y, ys, rfl⟩, h2⟩ := split_mem L G (by omega) L.length L (Nat.le_refl _) x hx
          refine ⟨by simp, ?_, fun z hz => hr z (h2 z hz)⟩
          have := splitI_mem_len G (by omega) L.length L (Nat.le_refl _) _ hx
          omega) (by omega) (.slc false 1 ((putS ts K m G).map (.int .u8))) (by rfl) (splitI G L) [] (frameI (putS ts K m G)) [] 0 (frameI (putS ts K m G)).length 0 rfl rfl rfl rfl rfl (by omega) hFn
        have hR := fun {v0 v3 v4 v5 v6 v9 v10 v11 v12 v13 v14 v15 v16 v17 v18 v19 v20 v21 v22 v23 v24 v25 v26 v27 v28 v29 v30 v31 v32 v33 v34 v35 v36 v37 v38 v39 v40 v41 v42 v43 v44 v45 v46 : D} => @R247 v0 v3 v4 v5 v6 v9 v10 v11 v12 v13 v14 v15 v16 v17 v18 v19 v20 v21 v22 v23 v24 v25 v26 v27 v28 v29 v30 v31 v32 v33 v34 v35 v36 v37 v38 v39 v40 v41 v42 v43 v44 v45 v46 cc ts K m G hok c L hn (by omega) hr (headB ts K m G (splitI G L)) (placesI ts (frameI (putS ts K m G)).length (splitI G L)) (by intro e; rw [e] at hpc; simp at hpc; exact hGn (List.eq_nil_of_length_eq_zero hpc.symm)) (by omega) (by unfold headB; rw [List.length_append]; omega)
        have hW : writeB ts K m G L = headB ts K m G (splitI G L) ++ (colsI ((splitI G L).map (markR K)) 0 (ts.take K) ++ (blkO 2 (placesI ts (frameI (putS ts K m G)).length (splitI G L)) ++ Fr.le8 ((headB ts K m G (splitI G L)).length : Nat))) := rfl
        have hHB : frameI (putS ts K m G) ++ gransI ts (splitI G L) = headB ts K m G (splitI G L) := rfl
        rw [← hW] at hR
        rw [List.nil_append, hHB] at hL
        have hPn : ¬ placesI ts (frameI (putS ts K m G)).length (splitI G L) = [] := by intro e; rw [e] at hpc; simp at hpc; exact hGn (List.eq_nil_of_length_eq_zero hpc.symm)
        clear hW hHB hgl hgl2 hfl hpc hpl hpsl
        generalize writeB ts K m G L = W at *
        generalize headB ts K m G (splitI G L) = HB at *
        generalize placesI ts (frameI (putS ts K m G)).length (splitI G L) = PL at *
        generalize splitI G L = GG at *
        generalize frameI (putS ts K m G) = FF at *
        generalize putS ts K m G = PS at *
        unfold Sd at hP hSp
        simp only [t247, rowVa, ScB] at hL
        simp [c247, hC, z0, z1, z2, hO, hS, backK, hP, hF, hSp]
        simp [hPn] at hL
        simp [r247_3, hP, hF, hSp]
        rw [hL]
        simp
        exact hR
end Go.Ab
