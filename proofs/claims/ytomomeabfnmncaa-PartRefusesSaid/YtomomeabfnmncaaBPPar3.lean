/- THE FUNCTIONS' EQUATIONS: thresherlaw11.shown (of the second machine). -/
import Derived.Test.YtomomeabfnmncaaBF110
import Derived.Test.YtomomeabfnmncaaBPPart
import Derived.Test.YtomomeabfnmncaaBF253
import Derived.Test.YtomomeabfnmncaaBF22
set_option linter.all false
set_option maxRecDepth 100000
namespace Go.Ab
open Go.Proofs Go.Proofs.YtomomeabfnmncaaH Go.Proofs.YtomomeabfnmncaaH.Crc Go.Proofs.YtomomeabfnmncaaH.Var Go.Proofs.YtomomeabfnmncaaH.Fr Go.Proofs.YtomomeabfnmncaaH.Rec
def c242 : Fn' := ⟨58, [(.tmp 0)], (.seq (.reg none [⟨(some 0), none, (.mv (.k (.bool false)))⟩]) (.seq (.reg none [⟨(some 8), none, (.bsl false 1 1 [(.int .i64 0)] [(0, (.k (.int .i64 1)))])⟩, ⟨(some 9), none, (.bld [nilS, (.int .i64 0), (.int .i64 0), (.int .i64 0)] [(0, (1, (.t 8))), (1, (1, (.k (.int .i64 1)))), (2, (1, (.k (.int .i64 1)))), (3, (1, (.k (.int .i64 1))))])⟩, ⟨(some 1), none, (.alloc false [nilS, (.int .i64 0), (.int .i64 0), (.int .i64 0)])⟩, ⟨none, none, (.st 4 (.t 1) (.t 9))⟩]) (.seq (.reg none [⟨(some 11), none, (.ld (some 4) (.t 1))⟩, ⟨(some 12), none, (.bld [(.int .i64 0), (.str [])] [(0, (1, (.k (.int .i64 4))))])⟩, ⟨(some 13), none, (.bsl false 2 1 [(.int .i64 0), (.str [])] [(0, (.t 12))])⟩, ⟨(some 14), none, (.bld [(.int .i64 0), (.str [])] [(0, (1, (.k (.int .i64 9))))])⟩, ⟨(some 15), none, (.bsl false 2 1 [(.int .i64 0), (.str [])] [(0, (.t 14))])⟩, ⟨(some 16), none, (.bsl false 1 2 [nilS] [(0, (.t 13)), (1, (.t 15))])⟩, ⟨(some 17), none, (.call (.f 10) [(.t 11), (.t 16)])⟩, ⟨(some 10), none, (.mv (.t 17))⟩, ⟨(some 18), none, (.ext (.t 10) 0)⟩, ⟨(some 19), none, (.ext (.t 10) 1)⟩, ⟨(some 2), none, (.mv (.t 18))⟩, ⟨(some 3), none, (.mv (.t 19))⟩]) (.seq (.reg none [⟨(some 21), none, (.mv (.t 2))⟩, ⟨(some 22), none, (.call (.f 11) [(.t 21)])⟩, ⟨(some 20), none, (.mv (.t 22))⟩, ⟨(some 23), none, (.ext (.t 20) 0)⟩, ⟨(some 24), none, (.ext (.t 20) 1)⟩, ⟨(some 4), none, (.mv (.t 23))⟩, ⟨(some 5), none, (.mv (.t 24))⟩]) (.seq (.seq (.reg none [⟨(some 25), none, (.mv (.t 4))⟩, ⟨(some 26), none, (.bin .eql [5] (.t 25) (.k .nilptr))⟩, ⟨(some 27), none, (.mv (.t 26))⟩, ⟨(some 28), (some ((some 27), false)), (.mv (.t 3))⟩, ⟨(some 29), (some ((some 27), false)), (.bin .neq [] (.t 28) (.k (.int .i64 0)))⟩, ⟨(some 30), none, (.pick (.t 27) (.k (.bool true)) (.t 29))⟩, ⟨(some 31), none, (.mv (.t 30))⟩, ⟨(some 32), (some ((some 31), false)), (.mv (.t 5))⟩, ⟨(some 33), (some ((some 31), false)), (.bin .neq [] (.t 32) (.k (.int .i64 0)))⟩, ⟨(some 34), none, (.pick (.t 31) (.k (.bool true)) (.t 33))⟩]) (.cond (.t 34) (.seq (.reg none [⟨(some 0), none, (.mv (.k (.bool false)))⟩]) .ret) .skip)) (.seq (.reg none [⟨(some 36), none, (.mv (.t 4))⟩, ⟨(some 37), none, (.call (.f 13) [(.t 36), (.k (.int .i64 1))])⟩, ⟨(some 35), none, (.mv (.t 37))⟩, ⟨(some 38), none, (.ext (.t 35) 0)⟩, ⟨(some 39), none, (.ext (.t 35) 1)⟩, ⟨(some 6), none, (.mv (.t 38))⟩, ⟨(some 7), none, (.mv (.t 39))⟩]) (.seq (.reg none [⟨(some 40), none, (.mv (.t 4))⟩, ⟨(some 41), none, (.call (.f 14) [(.t 40)])⟩, ⟨(some 42), none, (.bin .eql [] (.t 41) (.k (.int .i64 2)))⟩, ⟨(some 43), none, (.mv (.t 42))⟩, ⟨(some 44), (some ((some 43), true)), (.mv (.t 7))⟩, ⟨(some 45), none, (.pick (.t 43) (.t 44) (.k (.bool false)))⟩, ⟨(some 46), none, (.mv (.t 45))⟩, ⟨(some 47), (some ((some 46), true)), (.mv (.t 6))⟩, ⟨(some 48), (some ((some 46), true)), (.len 1 (.t 47))⟩, ⟨(some 49), (some ((some 46), true)), (.bin .eql [] (.t 48) (.k (.int .i64 1)))⟩, ⟨(some 50), none, (.pick (.t 46) (.t 49) (.k (.bool false)))⟩, ⟨(some 51), none, (.mv (.t 50))⟩, ⟨(some 52), (some ((some 51), true)), (.mv (.t 6))⟩, ⟨(some 53), (some ((some 51), true)), (.ia none 2 true (.t 52) (.k (.int .i64 0)))⟩, ⟨(some 54), (some ((some 51), true)), (.fa 0 1 false (.t 53))⟩, ⟨(some 55), (some ((some 51), true)), (.ld none (.t 54))⟩, ⟨(some 56), (some ((some 51), true)), (.bin .eql [] (.t 55) (.k (.int .i64 9)))⟩, ⟨(some 57), none, (.pick (.t 51) (.t 56) (.k (.bool false)))⟩, ⟨(some 0), none, (.mv (.t 57))⟩]) .ret)))))))⟩
theorem k242 : compF Try.prog 5 = some c242 := by kernel_rfl
attribute [local simp] op_or op_an op_add op_sub op_mul oq_eql oq_neq oq_lss oq_gtr oq_leq oq_geq
attribute [-simp] intOp bin_shl bin_shr D.cells
attribute [local simp] bin_ptrnil bin_nilnil
theorem writeV_len {s : Sc} {R : List Rv} (h : OkR s R) : (writeV s R).length ≤ 2 ^ 38 := by
  have h0 := schemaOk_iff.1 h.ok
  have hsl := splitI_len s.2.2.2.toNat (by omega) R.length R (Nat.le_refl _)
  have hl := h.len
  have hH := headV_len h.ok (G := splitI s.2.2.2.toNat R) (by omega)
  unfold writeV tailV
  have h1 := colsV_len (marksV s.2.1.toNat (splitI s.2.2.2.toNat R)) (s.1.take s.2.1.toNat) 0
  have h2 : (colsV (marksV s.2.1.toNat (splitI s.2.2.2.toNat R)) 0 (s.1.take s.2.1.toNat)).length ≤ 200020 * 64 := Nat.le_trans h1 (Nat.mul_le_mul_left _ (by simp; omega))
  have h3 := blkO_len 2 (placesV s.1 (frameI (putS s.1 s.2.1 s.2.2.1 s.2.2.2)).length (splitI s.2.2.2.toNat R))
  have h4 := Fr.le8_len ((headV s (splitI s.2.2.2.toNat R)).length : Nat)
  simp only [List.length_append]
  omega
def shL : List Rw := [⟨true, 2, [(4, [])], .inl rfl⟩, ⟨true, 2, [(9, [])], .inl rfl⟩]
theorem sh_ok : OkR ([1], 1, 1, 1) (rowsOfW shL) := wErr_iff.1 (by decide +kernel)
set_option maxHeartbeats 4000000 in
theorem K242 : K1 5 [] [] = some (.bool true, []) := by
  refine K_call k242 (ora1_none (by decide)) (by simp [c242]) ?_
  have h64 : in64 (rowsOfW shL) := by
    intro x hx p hp
    simp [rowsOfW, shL] at hx
    rcases hx with rfl | rfl <;> simp at hp <;> subst hp <;> unfold i64R <;> simp
  have hW := K247 true 1 [1] (.inl rfl) 1 1 1 (by simp) true 1 shL (.inl rfl) (by simp [shL])
  rw [wErr_V, wErr_iff.2 sh_ok] at hW
  simp only [if_true] at hW
  have hw := write_V [1] 1 1 1 (by omega) shL
  have hB := isB_write [1] 1 1 1 shL
  have hO := open_write sh_ok h64
  rw [← hw] at hO
  have hlen : (writeB [1] 1 1 1 shL).length ≤ 2 ^ 38 := by
    rw [hw]
    exact writeV_len sh_ok
  obtain ⟨c', hK⟩ := K248 false (writeB [1] 1 1 1 shL) hlen hB
  rw [hO] at hK
  simp only at hK
  have hrr : (rowsOfW shL).map rwF = [⟨false, 2, [(4, [])], .inl rfl⟩, ⟨false, 2, [(9, [])], .inl rfl⟩] := rfl
  rw [hrr] at hK
  have hM := K1_of (K250 c' [1] 1 1 1 [⟨false, 2, [(4, [])], .inl rfl⟩, ⟨false, 2, [(9, [])], .inl rfl⟩] (by intro y hy; simp at hy; rcases hy with rfl | rfl <;> simp) (by omega) 1) (by decide)
  have hG := K1_of (K251 c' [1] 1 1 1 [⟨false, 2, [(4, [])], .inl rfl⟩, ⟨false, 2, [(9, [])], .inl rfl⟩]) (by decide)
  have z1 : thereI 1 (splitI (Int.toNat 1) [(⟨false, 2, [(4, [])], .inl rfl⟩ : Rw), ⟨false, 2, [(9, [])], .inl rfl⟩]).length = true := rfl
  have z2 : (splitI (Int.toNat 1) [(⟨false, 2, [(4, [])], .inl rfl⟩ : Rw), ⟨false, 2, [(9, [])], .inl rfl⟩]).length = 2 := rfl
  have z3 : ((((splitI (Int.toNat 1) [(⟨false, 2, [(4, [])], .inl rfl⟩ : Rw), ⟨false, 2, [(9, [])], .inl rfl⟩])[Int.toNat 1]?).map (markR (Int.toNat 1))).map Rw.r).getD [] = [(9, [])] := rfl
  rw [z1, if_pos rfl, z3] at hM
  rw [z2] at hG
  unfold PtB at hK hM hG
  generalize (splitI (Int.toNat 1) [(⟨false, 2, [(4, [])], .inl rfl⟩ : Rw), ⟨false, 2, [(9, [])], .inl rfl⟩]).map Gr = GG at *
  generalize ((splitI (Int.toNat 1) [(⟨false, 2, [(4, [])], .inl rfl⟩ : Rw), ⟨false, 2, [(9, [])], .inl rfl⟩]).map (markR (Int.toNat 1))).map Rw.d = MM at *
  generalize [(⟨false, 2, [(4, [])], .inl rfl⟩ : Rw), ⟨false, 2, [(9, [])], .inl rfl⟩].map Rw.d = LL at *
  generalize writeB [1] 1 1 1 shL = W at *
  have y0 : neI 0 0 = false := rfl
  have y1 : eqI 2 2 = true := rfl
  have y2 : eqI 1 1 = true := rfl
  have y3 : eqI 9 9 = true := rfl
  simp [Sd, shL, Rw.d, Va.d] at hW
  simp [Va.d] at hK hM hG
  simp [c242, hW, hK, hM, hG, y0, y1, y2, y3, backK]
end Go.Ab
/- PLAIN WORDS: the order of rows; rows that are made to fit and sorted may be written. -/
set_option linter.all false
set_option maxRecDepth 100000
namespace Go.Ab
open Go.Proofs Go.Proofs.YtomomeabfnmncaaH Go.Proofs.YtomomeabfnmncaaH.Crc Go.Proofs.YtomomeabfnmncaaH.Var Go.Proofs.YtomomeabfnmncaaH.Fr Go.Proofs.YtomomeabfnmncaaH.Rec
theorem cmpZ_anti (a b : Int) : cmpZ b a = - cmpZ a b := by
  unfold cmpZ
  by_cases h1 : a < b
  · rw [ltI_t h1, ltI_f (show ¬ b < a by omega)]; rfl
  · by_cases h2 : b < a
    · rw [ltI_f h1, ltI_t h2]; rfl
    · rw [ltI_f h1, ltI_f h2]; rfl
theorem cmpB_anti : ∀ a b : List UInt8, Lib.compareBytes b a = - Lib.compareBytes a b
  | [], [] => rfl
  | [], _ :: _ => rfl
  | _ :: _, [] => rfl
  | x :: a, y :: b => by
    have ih := cmpB_anti a b
    by_cases h1 : x < y
    · have h2 : ¬ y < x := fun h => absurd (UInt8.lt_trans h1 h) (UInt8.lt_irrefl _)
      simp [Lib.compareBytes, h1, h2]
    · by_cases h2 : y < x
      · simp [Lib.compareBytes, h1, h2]
      · simp [Lib.compareBytes, h1, h2, ih]
theorem vcmp_anti (t : Int) (p q : Va) : vcmp t q p = - vcmp t p q := by
  unfold vcmp
  rw [Bool.or_comm (!fitsI t q)]
  split
  · rfl
  · split
    · exact cmpB_anti _ _
    · split
      · exact cmpZ_anti _ _
      · exact cmpZ_anti _ _
theorem cmpL_anti : ∀ (ts : List Int) (a b : Rv), cmpL ts b a = - cmpL ts a b
  | [], a, b => by rw [cmpL_nil, cmpL_nil]; rfl
  | t :: ts, [], [] => rfl
  | t :: ts, [], _ :: _ => rfl
  | t :: ts, _ :: _, [] => rfl
  | t :: ts, p :: a, q :: b => by
    simp only [cmpL]
    rw [vcmp_anti t p q, cmpL_anti ts a b]
    by_cases h : vcmp t p q = 0
    · rw [if_pos h, if_pos (by omega)]
    · rw [if_neg h, if_neg (by omega)]
theorem cmpK_anti (ts : List Int) (k : Int) (a b : Rv) : cmpK ts k b a = - cmpK ts k a b := cmpL_anti _ _ _
theorem lt_anti (ts : List Int) (k : Int) (a b : Rv) : ltI (cmpK ts k b a) 0 = ltI 0 (cmpK ts k a b) := by
  rw [cmpK_anti]
  by_cases h : 0 < cmpK ts k a b
  · rw [ltI_t (by omega), ltI_t h]
  · rw [ltI_f (by omega), ltI_f h]
theorem srt'_V (ts : List Int) (k : Int) (L : List Rw) : srt' ts k L 0 (L.length - 1) = srtV ts k (rowsOfW L) := by
  unfold srt' srtV
  rw [show (rowsOfW L).length = L.length by simp, ← List.range_eq_range']
  congr 1
  funext j
  unfold okAt' okAtV
  rw [lt_anti]
  simp [List.getD_eq_getElem?_getD]
/-- In order, one by one. -/
def adjV (ts : List Int) (k : Int) : List Rv → Bool
  | a :: b :: l => !ltI (cmpK ts k b a) 0 && adjV ts k (b :: l)
  | _ => true
theorem srtV_adj (ts : List Int) (k : Int) : ∀ R : List Rv, srtV ts k R = adjV ts k R
  | [] => rfl
  | [a] => rfl
  | a :: b :: l => by
    have ih := srtV_adj ts k (b :: l)
    unfold srtV at ih ⊢
    simp only [List.length_cons, Nat.add_sub_cancel] at ih ⊢
    rw [List.range_succ_eq_map, List.all_cons, List.all_map]
    unfold adjV
    rw [← ih]
    rfl
theorem adj_ins (ts : List Int) (k : Int) (x : Rw) : ∀ l : List Rw, adjV ts k (rowsOfW l) = true → adjV ts k (rowsOfW (insW ts k x l)) = true ∧ ∀ y : Rv, ltI 0 (cmpK ts k y x.r) = false → adjV ts k (y :: rowsOfW l) = true → adjV ts k (y :: rowsOfW (insW ts k x l)) = true
  | [], _ => by
    refine ⟨rfl, fun y hy _ => ?_⟩
    show (!ltI (cmpK ts k x.r y) 0 && true) = true
    rw [lt_anti, hy]; rfl
  | z :: l, h => by
    have hl : adjV ts k (rowsOfW l) = true := by
      cases l with
      | nil => rfl
      | cons w l => exact (Bool.and_eq_true_iff.1 h).2
    obtain ⟨i1, i2⟩ := adj_ins ts k x l hl
    unfold insW
    cases hc : ltI 0 (cmpK ts k z.r x.r) with
    | true =>
      simp only [if_true]
      have hxz : (!ltI (cmpK ts k z.r x.r) 0) = true := by
        rw [ltI_f]; rfl
        have : 0 < cmpK ts k z.r x.r := by simpa [ltI] using hc
        omega
      refine ⟨?_, fun y hy hyz => ?_⟩
      · show (!ltI (cmpK ts k z.r x.r) 0 && adjV ts k (rowsOfW (z :: l))) = true
        rw [hxz, h]; rfl
      · show (!ltI (cmpK ts k x.r y) 0 && (!ltI (cmpK ts k z.r x.r) 0 && adjV ts k (rowsOfW (z :: l)))) = true
        rw [lt_anti, hy, hxz, h]; rfl
    | false =>
      simp only [Bool.false_eq_true, if_false]
      have hz := i2 z.r hc h
      refine ⟨hz, fun y hy hyz => ?_⟩
      have : (!ltI (cmpK ts k z.r y) 0) = true := (Bool.and_eq_true_iff.1 hyz).1
      show (!ltI (cmpK ts k z.r y) 0 && adjV ts k (z.r :: rowsOfW (insW ts k x l))) = true
      rw [this, hz]; rfl
theorem adj_fold (ts : List Int) (k : Int) : ∀ (u out : List Rw), adjV ts k (rowsOfW out) = true → adjV ts k (rowsOfW (u.foldl (fun out x => insW ts k x out) out)) = true
  | [], out, h => h
  | x :: u, out, h => by rw [List.foldl_cons]; exact adj_fold ts k u _ (adj_ins ts k x out h).1
theorem sortW_srt (ts : List Int) (k : Int) (L : List Rw) : srtV ts k (rowsOfW (sortW ts k L)) = true := by
  rw [srtV_adj]; exact adj_fold ts k L [] rfl
theorem sortW_len (ts : List Int) (k : Int) (L : List Rw) : (sortW ts k L).length = L.length := by
  unfold sortW; rw [foldl_len]; simp
theorem sortW_mem (ts : List Int) (k : Int) (L : List Rw) : ∀ y ∈ sortW ts k L, y ∈ L := fun y hy => by
  rcases foldl_mem ts k L [] y hy with h | h
  · cases h
  · exact h
/-! ### rows that are made to fit -/
theorem fitV_fits (t : Int) (v : Va) (ht : 1 ≤ t ∧ t ≤ 3) : fitsI t (fitV t v) = true := by
  unfold fitV
  by_cases h : t = 3
  · subst h
    show fitsI 3 (if eqI 3 3 then (0, v.2.take 60) else (v.1, [])) = true
    rw [show eqI 3 3 = true from rfl, if_pos rfl]
    exact fits_s _ (by simp; omega)
  · rw [show eqI t 3 = false from eqI_f h]
    exact fits_n h ((kind_eq t).2 ht) v.1
theorem fitR_may : ∀ (ts : List Int) (r : Rv), (∀ t ∈ ts, 1 ≤ t ∧ t ≤ 3) → mayR ts (fitR ts r) = true
  | [], _, _ => rfl
  | t :: ts, r, h => by
    simp only [fitR, mayR, Bool.and_eq_true]
    exact ⟨fitV_fits t _ (h t List.mem_cons_self), fitR_may ts r.tail fun t' h' => h t' (List.mem_cons_of_mem _ h')⟩
theorem fitR_in : ∀ (ts : List Int) (r : Rv), (∀ p ∈ r, i64R p.1) → ∀ p ∈ fitR ts r, i64R p.1 ∧ p.2.length ≤ 60
  | [], _, _, p, hp => by cases hp
  | t :: ts, r, h, p, hp => by
    rcases List.mem_cons.1 hp with rfl | hp
    · have h0 : i64R (r.headD (0, [])).1 := by
        cases r with
        | nil => show i64R 0; unfold i64R; omega
        | cons a r => exact h a List.mem_cons_self
      unfold fitV
      split
      · exact ⟨by show i64R 0; unfold i64R; omega, by simp; omega⟩
      · exact ⟨h0, by simp⟩
    · exact fitR_in ts r.tail (fun q hq => h q (List.mem_of_mem_tail hq)) p hp
/-- The schema of a shape may be. -/
theorem made_ok (ts : List Int) (n k m g : Int) (ht : ts.length = 8) (hts : ∀ x ∈ ts, 0 ≤ x ∧ x < 256) (hn : 0 ≤ n ∧ n < 256) (hk : 0 ≤ k ∧ k < 256) (hm : 0 ≤ m ∧ m < 256) (hg : 0 ≤ g ∧ g < 256) :
    okS (madeS ts n k m g) ∧ (madeS ts n k m g).1.length ≤ 8 ∧ (madeS ts n k m g).2.2.2 ≤ 8 := by
  have hl : (madeS ts n k m g).1.length = (1 + n % 8).toNat := by
    unfold madeS
    simp only [List.length_map, List.length_take]
    omega
  refine ⟨?_, by omega, ?_⟩
  · show schemaOk _ _ _ _ = true
    rw [schemaOk_iff]
    rw [hl]
    refine ⟨by omega, ?_, ?_, ?_, ?_⟩
    · intro t h
      unfold madeS at h
      simp only [List.mem_map] at h
      obtain ⟨x, hx, rfl⟩ := h
      have := hts x (List.mem_of_mem_take hx)
      omega
    · unfold madeS
      simp only
      have h1 := Int.emod_nonneg k (show (1 + n % 8) ≠ 0 by omega)
      have h2 := Int.emod_lt_of_pos k (show (0 : Int) < 1 + n % 8 by omega)
      omega
    · unfold madeS; simp only; omega
    · unfold madeS; simp only; omega
  · unfold madeS; simp only; omega
/-- Rows made to fit, and put in order, may be written. -/
theorem sorted_ok {s : Sc} (hs : okS s) {L : List Rw} (hn : L ≠ []) (hl : L.length ≤ 2000) : OkR s (rowsOfW (sortW s.1 s.2.1 (L.map (fitW s.1)))) := by
  refine ⟨hs, ?_, ?_, ?_, sortW_srt _ _ _⟩
  · intro e
    have := congrArg List.length e
    simp [sortW_len] at this
    exact hn this
  · simp [sortW_len]; exact hl
  · intro x hx
    obtain ⟨y, hy, rfl⟩ := List.mem_map.1 hx
    obtain ⟨z, hz, rfl⟩ := List.mem_map.1 (sortW_mem _ _ _ y hy)
    exact fitR_may _ _ (schemaOk_iff.1 hs).2.1
theorem sorted_in (ts : List Int) (k : Int) {L : List Rw} (h : ∀ x ∈ L, ∀ p ∈ x.r, i64R p.1) : ∀ x ∈ sortW ts k (L.map (fitW ts)), ∀ p ∈ x.r, i64R p.1 ∧ p.2.length ≤ 60 := by
  intro x hx
  obtain ⟨z, hz, rfl⟩ := List.mem_map.1 (sortW_mem _ _ _ x hx)
  exact fitR_in ts z.r (h z hz)
end Go.Ab
/- THE FUNCTIONS' EQUATIONS: thresherlaw11.PartTurns (of the second machine). -/
set_option linter.all false
set_option maxRecDepth 100000
namespace Go.Ab
open Go.Proofs Go.Proofs.YtomomeabfnmncaaH Go.Proofs.YtomomeabfnmncaaH.Crc Go.Proofs.YtomomeabfnmncaaH.Var Go.Proofs.YtomomeabfnmncaaH.Fr Go.Proofs.YtomomeabfnmncaaH.Rec
def c240 : Fn' := ⟨77, [(.tmp 6)], (.seq (.reg none [⟨(some 3), none, (.box false (.t 0))⟩, ⟨(some 5), none, (.boxA 2 1 (.t 2))⟩, ⟨(some 6), none, (.mv (.k (.bool false)))⟩]) (.seq (.reg none [⟨(some 16), none, (.call (.f 5) [])⟩, ⟨(some 7), none, (.mv (.t 16))⟩]) (.seq (.reg none [⟨(some 17), none, (.ld (some 12) (.t 3))⟩, ⟨(some 18), none, (.call (.f 6) [(.t 17)])⟩, ⟨(some 8), none, (.alloc false [nilS, (.int .i64 0), (.int .i64 0), (.int .i64 0)])⟩, ⟨none, none, (.st 4 (.t 8) (.t 18))⟩]) (.seq (.reg (some [(0, 1), (0, 2), (1, 2), (0, 3), (1, 3), (0, 5), (1, 5), (2, 5), (3, 5), (0, 6), (1, 6), (0, 7)]) [⟨(some 19), none, (.ld (some 4) (.t 8))⟩, ⟨(some 20), none, (.ld (some 4) (.t 8))⟩, ⟨(some 21), none, (.bsl false 2 0 [(.int .i64 0), (.str [])] [])⟩, ⟨(some 22), none, (.bsl false 1 1 [nilS] [(0, (.t 21))])⟩, ⟨(some 23), none, (.mv (.t 1))⟩, ⟨(some 24), none, (.call (.f 9) [(.t 23)])⟩, ⟨(some 25), none, (.app 1 24 (.t 22) (.t 24))⟩, ⟨(some 26), none, (.call (.f 8) [(.t 20), (.t 25), (.k (.int .i64 40))])⟩, ⟨(some 27), none, (.call (.f 7) [(.t 19), (.t 26)])⟩, ⟨(some 9), none, (.mv (.t 27))⟩]) (.seq (.reg none [⟨(some 29), none, (.ld (some 4) (.t 8))⟩, ⟨(some 30), none, (.mv (.t 9))⟩, ⟨(some 31), none, (.call (.f 10) [(.t 29), (.t 30)])⟩, ⟨(some 28), none, (.mv (.t 31))⟩, ⟨(some 32), none, (.ext (.t 28) 0)⟩, ⟨(some 33), none, (.ext (.t 28) 1)⟩, ⟨(some 10), none, (.mv (.t 32))⟩, ⟨(some 11), none, (.mv (.t 33))⟩]) (.seq (.seq (.reg none [⟨(some 34), none, (.mv (.t 11))⟩, ⟨(some 35), none, (.bin .neq [] (.t 34) (.k (.int .i64 0)))⟩, ⟨(some 36), none, (.mv (.t 35))⟩, ⟨(some 37), (some ((some 36), false)), (.mv (.t 10))⟩, ⟨(some 38), (some ((some 36), false)), (.len 1 (.t 37))⟩, ⟨(some 39), (some ((some 36), false)), (.bin .lss [] (.t 38) (.k (.int .i64 20)))⟩, ⟨(some 40), none, (.pick (.t 36) (.k (.bool true)) (.t 39))⟩]) (.cond (.t 40) (.seq (.reg none [⟨(some 6), none, (.mv (.k (.bool false)))⟩]) .ret) .skip)) (.seq (.reg none [⟨(some 41), none, (.bsl false 1 0 [(.int .u8 0)] [])⟩, ⟨(some 42), none, (.mv (.t 10))⟩, ⟨(some 43), none, (.app 1 1 (.t 41) (.t 42))⟩, ⟨(some 12), none, (.mv (.t 43))⟩]) (.seq (.reg none [⟨(some 44), none, (.ia (some 2) 1 false (.t 5) (.k (.int .i64 0)))⟩, ⟨(some 45), none, (.ld none (.t 44))⟩, ⟨(some 46), none, (.cvt (.int .i64) (.t 45))⟩, ⟨(some 47), none, (.mv (.t 10))⟩, ⟨(some 48), none, (.len 1 (.t 47))⟩, ⟨(some 49), none, (.bin .rem [] (.t 46) (.t 48))⟩, ⟨(some 13), none, (.mv (.t 49))⟩]) (.seq (.reg (some [(4, 6), (5, 6), (4, 7), (5, 7)]) [⟨(some 50), none, (.mv (.t 12))⟩, ⟨(some 51), none, (.mv (.t 13))⟩, ⟨(some 52), none, (.mv (.t 12))⟩, ⟨(some 53), none, (.mv (.t 13))⟩, ⟨(some 54), none, (.ia none 1 false (.t 52) (.t 53))⟩, ⟨(some 55), none, (.ld none (.t 54))⟩, ⟨(some 56), none, (.ia (some 2) 1 false (.t 5) (.k (.int .i64 1)))⟩, ⟨(some 57), none, (.ld none (.t 56))⟩, ⟨(some 58), none, (.bin .rem [] (.t 57) (.k (.int .u16 255)))⟩, ⟨(some 59), none, (.bin .add [] (.k (.int .u16 1)) (.t 58))⟩, ⟨(some 60), none, (.cvt (.int .u8) (.t 59))⟩, ⟨(some 61), none, (.bin .xor [] (.t 55) (.t 60))⟩, ⟨(some 62), none, (.ia none 1 false (.t 50) (.t 51))⟩, ⟨none, none, (.st 1 (.t 62) (.t 61))⟩]) (.seq (.reg none [⟨(some 64), none, (.mv (.t 12))⟩, ⟨(some 65), none, (.call (.f 11) [(.t 64)])⟩, ⟨(some 63), none, (.mv (.t 65))⟩, ⟨(some 66), none, (.ext (.t 63) 0)⟩, ⟨(some 67), none, (.ext (.t 63) 1)⟩, ⟨(some 14), none, (.mv (.t 66))⟩, ⟨(some 15), none, (.mv (.t 67))⟩]) (.seq (.reg none [⟨(some 68), none, (.mv (.t 7))⟩, ⟨(some 69), none, (.mv (.t 68))⟩, ⟨(some 70), (some ((some 69), true)), (.mv (.t 14))⟩, ⟨(some 71), (some ((some 69), true)), (.bin .eql [5] (.t 70) (.k .nilptr))⟩, ⟨(some 72), none, (.pick (.t 69) (.t 71) (.k (.bool false)))⟩, ⟨(some 73), none, (.mv (.t 72))⟩, ⟨(some 74), (some ((some 73), true)), (.mv (.t 15))⟩, ⟨(some 75), (some ((some 73), true)), (.bin .eql [] (.t 74) (.k (.int .i64 43)))⟩, ⟨(some 76), none, (.pick (.t 73) (.t 75) (.k (.bool false)))⟩, ⟨(some 6), none, (.mv (.t 76))⟩]) .ret)))))))))))⟩
theorem k240 : compF Try.prog 3 = some c240 := by kernel_rfl
attribute [local simp] op_or op_an op_add op_sub op_mul oq_eql oq_neq oq_lss oq_gtr oq_leq oq_geq op_xor
attribute [-simp] intOp bin_shl bin_shr D.cells
attribute [local simp] bin_ptrnil bin_nilnil
/-- The rows that are made: to fit, and in order. -/
def preW (L : List Rw) : List Rw := ⟨true, 2, [], .inl rfl⟩ :: fewL L
def fitsW (s : Sc) (L : List Rw) : List Rw := ((preW L).take 40).map (fitW s.1)
def rowsW (s : Sc) (L : List Rw) : List Rw := sortW s.1 s.2.1 (fitsW s L)
def in64W (L : List Rw) : Prop := ∀ x ∈ L, ∀ p ∈ x.r, i64R p.1
theorem few64 {L : List Rw} (h : in64W L) : in64W (preW L) := by
  intro x hx p hp
  rcases List.mem_cons.1 hx with rfl | hx
  · cases hp
  · obtain ⟨y, hy, rfl⟩ := List.mem_map.1 hx
    obtain ⟨q, hq, rfl⟩ := List.mem_map.1 hp
    exact h y (List.mem_of_mem_take hy) q (List.mem_of_mem_take hq)
theorem fits_in {s : Sc} {L : List Rw} (h : in64W L) : ∀ x ∈ fitsW s L, ∀ p ∈ x.r, i64R p.1 ∧ p.2.length ≤ 60 := by
  intro x hx
  obtain ⟨y, hy, rfl⟩ := List.mem_map.1 hx
  exact fitR_in s.1 y.r (few64 h y (List.mem_of_mem_take hy))
theorem fits_inR {s : Sc} {L : List Rw} (h : in64W L) : ∀ x ∈ fitsW s L, inR x.r := fun x hx p hp => by
  have := fits_in h x hx p hp
  exact ⟨this.1, by omega⟩
theorem fits_len (s : Sc) (L : List Rw) : 1 ≤ (fitsW s L).length ∧ (fitsW s L).length ≤ 40 := by
  unfold fitsW preW
  simp only [List.length_map, List.length_take, List.length_cons]
  omega
theorem rows_len (s : Sc) (L : List Rw) : 1 ≤ (rowsW s L).length ∧ (rowsW s L).length ≤ 40 := by
  unfold rowsW
  rw [sortW_len]
  exact fits_len s L
theorem rows_ok {s : Sc} (hs : okS s) (L : List Rw) : OkR s (rowsOfW (rowsW s L)) := by
  have h := sorted_ok hs (L := (preW L).take 40) (by unfold preW; simp) (by simp; omega)
  exact h
theorem rows_in {s : Sc} {L : List Rw} (h : in64W L) : in64 (rowsOfW (rowsW s L)) := by
  intro x hx p hp
  obtain ⟨y, hy, rfl⟩ := List.mem_map.1 hx
  exact (fits_in h y (sortW_mem _ _ _ y hy) p hp).1
theorem xor_ne {x m : Nat} (hx : x < 256) (hm : m < 255) : ¬ xorI .u8 (x : Int) (IntKind.u8.wrap (1 + (m : Int))) = (x : Int) ∧ 0 ≤ xorI .u8 (x : Int) (IntKind.u8.wrap (1 + (m : Int))) ∧ xorI .u8 (x : Int) (IntKind.u8.wrap (1 + (m : Int))) < 256 := by
  have hw : IntKind.u8.wrap (1 + (m : Int)) = ((1 + m : Nat) : Int) := by rw [IntKind.wrap_u8]; omega
  rw [hw]
  have h : xorI .u8 (x : Int) ((1 + m : Nat) : Int) = ((x ^^^ (1 + m) : Nat) : Int) := u8_xor_nat x (1 + m) hx (by omega)
  rw [h]
  have hl : x ^^^ (1 + m) < 2 ^ 8 := Nat.xor_lt_two_pow (by omega) (by omega)
  refine ⟨fun e => ?_, by omega, by omega⟩
  have e1 : x ^^^ (1 + m) = x := by omega
  have e2 : x ^^^ (x ^^^ (1 + m)) = x ^^^ x := by rw [e1]
  rw [← Nat.xor_assoc, Nat.xor_self, Nat.zero_xor] at e2
  omega
theorem frs_mem {c : List Int} : ∀ {l : List (List Int)}, c ∈ l → (frameI c).length ≤ (frs l).length
  | [], h => by cases h
  | d :: l, h => by
    rw [frs_cons, List.length_append]
    rcases List.mem_cons.1 h with rfl | h
    · omega
    · have := frs_mem h; omega
theorem part_long {s : Sc} {R : List Rv} (h : OkR s R) (h64 : in64 R) : 20 ≤ (writeV s R).length := by
  have hp := parted h h64
  have h1 := frameI_len (putS s.1 s.2.1 s.2.2.1 s.2.2.2)
  have h2 := putI_pos ((putS s.1 s.2.1 s.2.2.1 s.2.2.2).length : Int)
  have h3 := (putS_ok h.ok).2
  have h0 := (schemaOk_iff.1 h.ok).1
  have ht := hp.tl
  obtain ⟨c, hc⟩ : ∃ c, c ∈ paysT s (splitI s.2.2.2.toNat R) := by
    cases hq : paysT s (splitI s.2.2.2.toNat R) with
    | nil => rw [hq] at ht; simp at ht
    | cons c l => exact ⟨c, List.mem_cons_self⟩
  have h8 := fr8 (pays_ok h h64 c (by unfold pays; simp [hc]))
  have hm := frs_mem (l := payG s.1 (splitI s.2.2.2.toNat R) ++ paysT s (splitI s.2.2.2.toNat R)) (c := c) (by simp [hc])
  rw [hp.eq, List.length_append, Fr.le8_len]
  unfold pays
  rw [frs_cons, List.length_append]
  omega
set_option maxHeartbeats 16000000 in
theorem K240 (ts8 : List Int) (n0 k0 m0 g0 : Int) (ht : ts8.length = 8) (hts : ∀ x ∈ ts8, 0 ≤ x ∧ x < 256) (hn0 : 0 ≤ n0 ∧ n0 < 256) (hk0 : 0 ≤ k0 ∧ k0 < 256) (hm0 : 0 ≤ m0 ∧ m0 < 256) (hg0 : 0 ≤ g0 ∧ g0 < 256)
    (c : Bool) (s' : Nat) (L : List Rw) (hs' : s' = 1 ∨ L = []) (hL : L.length ≤ 2 ^ 47) (hLr : ∀ x ∈ L, x.r.length ≤ 2 ^ 47) (hL64 : in64W L) (a0 a1 : Int) (ha0 : 0 ≤ a0 ∧ a0 < 65536) (ha1 : 0 ≤ a1 ∧ a1 < 65536) :
    K1 3 [.agg (ts8.map (.int .u8) ++ [.int .u8 n0, .int .u8 k0, .int .u8 m0, .int .u8 g0]), .slc c s' (L.map Rw.d), .agg [.int .u16 a0, .int .u16 a1]] [] = some (.bool true, []) := by
  obtain ⟨hok, hS8, hg8⟩ := made_ok ts8 n0 k0 m0 g0 ht hts hn0 hk0 hm0 hg0
  have hM := K1_of (K243 ts8 n0 k0 m0 g0 hts hn0 hk0 hm0 hg0 ht) (by decide)
  have hR64 := rows_in (s := madeS ts8 n0 k0 m0 g0) hL64
  have hRok := rows_ok hok L
  have hRl := rows_len (madeS ts8 n0 k0 m0 g0) L
  have hfl := fits_len (madeS ts8 n0 k0 m0 g0) L
  have hfi := fits_inR (s := madeS ts8 n0 k0 m0 g0) hL64
  have hW0 := wErr_V (madeS ts8 n0 k0 m0 g0).1 (madeS ts8 n0 k0 m0 g0).2.1 (madeS ts8 n0 k0 m0 g0).2.2.1 (madeS ts8 n0 k0 m0 g0).2.2.2 (rowsW (madeS ts8 n0 k0 m0 g0) L)
  have hg1 := (schemaOk_iff.1 hok).2.2.2.2.1
  have hw := write_V (madeS ts8 n0 k0 m0 g0).1 (madeS ts8 n0 k0 m0 g0).2.1 (madeS ts8 n0 k0 m0 g0).2.2.1 (madeS ts8 n0 k0 m0 g0).2.2.2 hg1 (rowsW (madeS ts8 n0 k0 m0 g0) L)
  have hF := K1_of (K246 c s' L hs' (by omega) (fun x hx => by have := hLr x hx; omega)) (by decide)
  have hpr : ∀ x ∈ preW L, x.r.length ≤ 2 ^ 60 := by
    intro x hx
    rcases List.mem_cons.1 hx with rfl | hx
    · simp
    · obtain ⟨y, hy, rfl⟩ := List.mem_map.1 hx
      show (fewRow y.r).length ≤ _
      unfold fewRow
      simp; omega
  have hpl : (preW L).length ≤ 2 ^ 60 := by unfold preW fewL; simp; omega
  generalize madeS ts8 n0 k0 m0 g0 = s at *
  obtain ⟨ts, k, m, g⟩ := s
  simp only at hS8 hg8 hW0 hw hM
  have hE : wErr ts k m g (rowsW (ts, k, m, g) L) = 0 := by rw [hW0]; exact wErr_iff.2 hRok
  have htn : ts ≠ [] := by intro e; have := (schemaOk_iff.1 hok).1; rw [e] at this; simp at this
  have hFi := fun cf => K1_of (K245 false 1 ts (.inl rfl) k m g (by omega) cf 1 (preW L) (.inl rfl) hpl hpr 40 (by omega)) (by decide)
  have hfd : ((preW L).take 40).map (fitW ts) = fitsW (ts, k, m, g) L := rfl
  rw [hfd] at hFi
  have hSo := K1_of (K244 false 1 ts (.inl rfl) k m g (by omega) false 1 (fitsW (ts, k, m, g) L) (.inl rfl) (by omega) hfi (by intro e; rw [e] at hfl; simp at hfl)) (by decide)
  have hsd : sortW ts k (fitsW (ts, k, m, g) L) = rowsW (ts, k, m, g) L := rfl
  rw [hsd] at hSo
  have hWr := K247 false 1 ts (.inl rfl) k m g (by omega) false 1 (rowsW (ts, k, m, g) L) (.inl rfl) (by omega)
  rw [hE] at hWr
  simp only [if_true] at hWr
  have hlong := part_long hRok hR64
  have hwl := writeV_len hRok
  have hBw := isB_write ts k m g (rowsW (ts, k, m, g) L)
  have htu := fun q hq x hx hne => part_turn hRok hR64 (by simp; omega) (by show g ≤ 100; omega) q hq x hx hne
  rw [← hw] at hlong hwl htu
  clear hw hW0 hRok hR64 hok hfi hpr hpl hL64 hLr hsd hfd hE
  have hP : preW L = ⟨true, 2, [], .inl rfl⟩ :: fewL L := rfl
  rw [hP] at hFi
  generalize writeB ts k m g (rowsW (ts, k, m, g) L) = W at *
  generalize rowsW (ts, k, m, g) L = RW at *
  generalize fitsW (ts, k, m, g) L = FW at *
  obtain ⟨FE, hFE⟩ : ∃ FE, fewL L = FE := ⟨_, rfl⟩
  have hFEl : FE.length ≤ 40 := by rw [← hFE]; unfold fewL; simp; omega
  rw [hFE] at hF hFi
  clear hFE hP
  -- which byte, and how it is turned
  obtain ⟨A, rfl⟩ : ∃ A : Nat, a0 = A := ⟨a0.toNat, by omega⟩
  obtain ⟨N, hN⟩ : ∃ N, W.length = N := ⟨_, rfl⟩
  obtain ⟨Q, hQ⟩ : ∃ Q, Q = A % N := ⟨_, rfl⟩
  have hQl : Q < N := by rw [hQ]; exact Nat.mod_lt _ (by omega)
  have hQW : Q < W.length := by omega
  obtain ⟨b, hb⟩ : ∃ b, W[Q]'hQW = b := ⟨_, rfl⟩
  have hbr := hBw b (by rw [← hb]; exact List.getElem_mem hQW)
  obtain ⟨bn, rfl⟩ : ∃ bn : Nat, b = bn := ⟨b.toNat, by omega⟩
  obtain ⟨mm, hMM⟩ : ∃ mm : Nat, a1 % 255 = mm := ⟨(a1 % 255).toNat, by omega⟩
  have hMl : mm < 255 := by omega
  obtain ⟨x1, x2, x3⟩ := xor_ne (x := bn) (m := mm) (by omega) hMl
  obtain ⟨nx, hX⟩ : ∃ nx, xorI .u8 (bn : Int) (IntKind.u8.wrap (1 + (mm : Int))) = nx := ⟨_, rfl⟩
  rw [hX] at x1 x2 x3
  have hOp := htu Q (by omega) nx ⟨x2, x3⟩ (by rw [List.getElem?_eq_getElem hQW, hb]; simp; exact fun h => x1 h.symm)
  have hBs : isB (W.set Q nx) := fun y hy => by
    rcases List.mem_or_eq_of_mem_set hy with h | h
    · exact hBw y h
    · rw [h]; exact ⟨x2, x3⟩
  obtain ⟨c', hO⟩ := K248 false (W.set Q nx) (by simp; omega) hBs
  rw [hOp] at hO
  simp only at hO
  obtain ⟨W2, hW2⟩ : ∃ W2, W.set Q nx = W2 := ⟨_, rfl⟩
  rw [hW2] at hO
  have m1 : (W.map (D.int .u8)).set Q (.int .u8 nx) = W2.map (D.int .u8) := by rw [← hW2, List.map_set]
  have hW2l : W2.length = N := by rw [← hW2, List.length_set, hN]
  have m2 : List.take N (W2.map (D.int .u8)) = W2.map (D.int .u8) := List.take_of_length_le (by simp; omega)
  have q1 : IntKind.i64.wrap (A : Int) = A := w64 _ (by omega)
  have q2 : intOp .rem .i64 (A : Int) (N : Int) = some (.int .i64 (Q : Nat)) := by
    rw [rem_pos (by omega) (by omega), hQ]
    congr 2
  have q3 : intOp .rem .u16 a1 255 = some (.int .u16 (mm : Nat)) := by rw [rem_pos ha1.1 (by decide), hMM]
  have q4 : IntKind.u16.wrap (1 + (mm : Int)) = 1 + mm := by rw [IntKind.wrap_u16]; omega
  have z0 : neI 0 0 = false := rfl
  have z1 : ltI (N : Int) 20 = false := ltI_f (by omega)
  have z2 : eqI 43 43 = true := rfl
  have bQ : (Q : Int) < N := by omega
  have bN : N ≤ 70368744177664 := by omega
  have bF : (1 + FE.length) * 24 ≤ 70368744177664 := by omega
  have hRne : RW ≠ [] := by intro e; rw [e] at hRl; simp at hRl
  have hWne : W ≠ [] := by intro e; rw [e] at hN; simp at hN; omega
  have hb' : W[Q]? = some (bn : Int) := by rw [List.getElem?_eq_getElem hQW, hb]
  clear hOp htu hBw hBs hMM hQ
  have hnat : ((40 : Nat) : Int) = 40 := rfl
  rw [hnat] at hFi
  match ts8, ht with
  | [e0, e1, e2, e3, e4, e5, e6, e7], _ =>
    refine K_call k240 (ora1_none (by decide)) (by simp [c240]) ?_
    unfold Sd at hFi hSo hWr
    simp only [List.map_cons, List.map_nil, List.cons_append, List.nil_append, Rw.d] at hM hFi
    by_cases hFE : FE = []
    · subst hFE
      simp only [List.map_nil] at hF hFi
      simp [evOp, evM, wants, Ins.go, X.ev, iaM, ldM, binD, setD, applyW, Ek_ops_nil, allFree, free, callM, callP, callO, appM, D.isNilptr, c240, K242, hM, hF, hFi, hSo, hWr, hO, z0, z1, z2, hN, q1, q2, q3, q4, bQ, bN, hRne, hWne, hQW, hb', m1, hX, m2, hW2l]
    · have hFE2 : ¬ List.map Rw.d FE = [] := by simpa using hFE
      have hcl : ∀ a : Rw, a ∈ FE → a.d.cells.length = 1 := fun a _ => rfl
      have hcl := eq_true hcl
      have bF' : (FE.length + 1) * 24 ≤ 70368744177664 := by omega
      have tk : List.take (FE.length + 1) (D.slc true 2 [] :: List.map Rw.d FE) = D.slc true 2 [] :: List.map Rw.d FE := List.take_of_length_le (by simp)
      simp [evOp, evM, wants, Ins.go, X.ev, iaM, ldM, binD, setD, applyW, Ek_ops_nil, allFree, free, callM, callP, callO, appM, D.isNilptr, c240, K242, hM, hF, hFi, hSo, hWr, hO, z0, z1, z2, hN, q1, q2, q3, q4, bQ, bN, hRne, hWne, hQW, hb', m1, hX, m2, hW2l, hFE, bF', hcl, tk, Nat.add_comm 1]
end Go.Ab
/- THE FUNCTIONS' EQUATIONS: thresherlaw11.PartRefuses (of the second machine). -/
set_option linter.all false
set_option maxRecDepth 100000
namespace Go.Ab
open Go.Proofs Go.Proofs.YtomomeabfnmncaaH Go.Proofs.YtomomeabfnmncaaH.Crc Go.Proofs.YtomomeabfnmncaaH.Var Go.Proofs.YtomomeabfnmncaaH.Fr Go.Proofs.YtomomeabfnmncaaH.Rec
def b241_0 : C := (.seq (.seq (.reg none [⟨(some 75), none, (.mv (.t 19))⟩, ⟨(some 76), none, (.bin .leq [] (.t 75) (.k (.int .i64 2000)))⟩]) (.cond (.t 76) .skip (.exit 0))) (.seq (.block 1 (.reg none [⟨(some 79), none, (.mv (.t 18))⟩, ⟨(some 80), none, (.mv (.t 9))⟩, ⟨(some 81), none, (.ia none 1 false (.t 80) (.k (.int .i64 0)))⟩, ⟨(some 82), none, (.ld none (.t 81))⟩, ⟨(some 83), none, (.bsl false 1 1 [nilS] [(0, (.t 82))])⟩, ⟨(some 84), none, (.app 1 24 (.t 79) (.t 83))⟩, ⟨(some 18), none, (.mv (.t 84))⟩])) (.reg none [⟨(some 77), none, (.mv (.t 19))⟩, ⟨(some 78), none, (.bin .add [] (.t 77) (.k (.int .i64 1)))⟩, ⟨(some 19), none, (.mv (.t 78))⟩])))
def r241_12 : C := (.seq (.reg none [⟨(some 86), none, (.ld (some 4) (.t 8))⟩, ⟨(some 87), none, (.mv (.t 18))⟩, ⟨(some 88), none, (.call (.f 10) [(.t 86), (.t 87)])⟩, ⟨(some 85), none, (.mv (.t 88))⟩, ⟨(some 89), none, (.ext (.t 85) 0)⟩, ⟨(some 90), none, (.ext (.t 85) 1)⟩, ⟨(some 20), none, (.mv (.t 89))⟩, ⟨(some 21), none, (.mv (.t 90))⟩]) (.seq (.reg none [⟨(some 91), none, (.ld (some 4) (.t 8))⟩, ⟨(some 22), none, (.alloc false [nilS, (.int .i64 0), (.int .i64 0), (.int .i64 0)])⟩, ⟨none, none, (.st 4 (.t 22) (.t 91))⟩]) (.seq (.reg none [⟨(some 92), none, (.fa 2 1 false (.t 22))⟩, ⟨none, none, (.st 1 (.t 92) (.k (.int .i64 0)))⟩]) (.seq (.reg none [⟨(some 94), none, (.ld (some 4) (.t 22))⟩, ⟨(some 95), none, (.mv (.t 9))⟩, ⟨(some 96), none, (.call (.f 10) [(.t 94), (.t 95)])⟩, ⟨(some 93), none, (.mv (.t 96))⟩, ⟨(some 97), none, (.ext (.t 93) 0)⟩, ⟨(some 98), none, (.ext (.t 93) 1)⟩, ⟨(some 23), none, (.mv (.t 97))⟩, ⟨(some 24), none, (.mv (.t 98))⟩]) (.seq (.reg none [⟨(some 99), none, (.mv (.t 7))⟩, ⟨(some 100), none, (.mv (.t 99))⟩, ⟨(some 101), (some ((some 100), true)), (.mv (.t 12))⟩, ⟨(some 102), (some ((some 100), true)), (.bin .eql [] (.t 101) (.k (.int .i64 0)))⟩, ⟨(some 103), (some ((some 100), true)), (.mv (.t 10))⟩, ⟨(some 104), (some ((some 100), true)), (.bin .eql [3] (.t 102) (.t 103))⟩, ⟨(some 105), none, (.pick (.t 100) (.t 104) (.k (.bool false)))⟩, ⟨(some 106), none, (.mv (.t 105))⟩, ⟨(some 107), (some ((some 106), true)), (.mv (.t 10))⟩, ⟨(some 108), (some ((some 106), true)), (.mv (.t 107))⟩, ⟨(some 109), (some ((some 108), false)), (.mv (.t 12))⟩, ⟨(some 110), (some ((some 108), false)), (.bin .eql [] (.t 109) (.k (.int .i64 1)))⟩, ⟨(some 111), (some ((some 106), true)), (.pick (.t 108) (.k (.bool true)) (.t 110))⟩, ⟨(some 112), none, (.pick (.t 106) (.t 111) (.k (.bool false)))⟩, ⟨(some 113), none, (.mv (.t 112))⟩, ⟨(some 114), (some ((some 113), true)), (.mv (.t 15))⟩, ⟨(some 115), (some ((some 113), true)), (.bin .eql [] (.t 114) (.k (.int .i64 21)))⟩, ⟨(some 116), none, (.pick (.t 113) (.t 115) (.k (.bool false)))⟩, ⟨(some 117), none, (.mv (.t 116))⟩, ⟨(some 118), (some ((some 117), true)), (.mv (.t 17))⟩, ⟨(some 119), (some ((some 117), true)), (.bin .eql [] (.t 118) (.k (.int .i64 1)))⟩, ⟨(some 120), none, (.pick (.t 117) (.t 119) (.k (.bool false)))⟩, ⟨(some 121), none, (.mv (.t 120))⟩, ⟨(some 122), (some ((some 121), true)), (.mv (.t 21))⟩, ⟨(some 123), (some ((some 121), true)), (.bin .eql [] (.t 122) (.k (.int .i64 1)))⟩, ⟨(some 124), none, (.pick (.t 121) (.t 123) (.k (.bool false)))⟩, ⟨(some 125), none, (.mv (.t 124))⟩, ⟨(some 126), (some ((some 125), true)), (.mv (.t 24))⟩, ⟨(some 127), (some ((some 125), true)), (.bin .eql [] (.t 126) (.k (.int .i64 20)))⟩, ⟨(some 128), none, (.pick (.t 125) (.t 127) (.k (.bool false)))⟩, ⟨(some 6), none, (.mv (.t 128))⟩]) .ret)))))
def r241_10 : C := (.seq (.reg none [⟨(some 74), none, (.bsl true 1 0 [nilS] [])⟩, ⟨(some 18), none, (.mv (.t 74))⟩]) (.seq (.seq (.reg none [⟨(some 19), none, (.mv (.k (.int .i64 0)))⟩]) (.block 0 (.loop b241_0))) r241_12))
def c241 : Fn' := ⟨129, [(.tmp 6)], (.seq (.reg none [⟨(some 3), none, (.box false (.t 0))⟩, ⟨(some 6), none, (.mv (.k (.bool false)))⟩]) (.seq (.reg none [⟨(some 25), none, (.call (.f 5) [])⟩, ⟨(some 7), none, (.mv (.t 25))⟩]) (.seq (.reg none [⟨(some 26), none, (.ld (some 12) (.t 3))⟩, ⟨(some 27), none, (.call (.f 6) [(.t 26)])⟩, ⟨(some 8), none, (.alloc false [nilS, (.int .i64 0), (.int .i64 0), (.int .i64 0)])⟩, ⟨none, none, (.st 4 (.t 8) (.t 27))⟩]) (.seq (.reg (some [(0, 1), (0, 2), (0, 4), (1, 4), (2, 4), (0, 5)]) [⟨(some 28), none, (.ld (some 4) (.t 8))⟩, ⟨(some 29), none, (.bsl false 2 0 [(.int .i64 0), (.str [])] [])⟩, ⟨(some 30), none, (.bsl false 1 1 [nilS] [(0, (.t 29))])⟩, ⟨(some 31), none, (.mv (.t 1))⟩, ⟨(some 32), none, (.call (.f 9) [(.t 31)])⟩, ⟨(some 33), none, (.app 1 24 (.t 30) (.t 32))⟩, ⟨(some 34), none, (.call (.f 8) [(.t 28), (.t 33), (.k (.int .i64 40))])⟩, ⟨(some 9), none, (.mv (.t 34))⟩]) (.seq (.reg none [⟨(some 35), none, (.ld (some 4) (.t 8))⟩, ⟨(some 36), none, (.mv (.t 9))⟩, ⟨(some 37), none, (.call (.f 12) [(.t 35), (.t 36)])⟩, ⟨(some 10), none, (.mv (.t 37))⟩]) (.seq (.reg none [⟨(some 39), none, (.ld (some 4) (.t 8))⟩, ⟨(some 40), none, (.mv (.t 9))⟩, ⟨(some 41), none, (.call (.f 10) [(.t 39), (.t 40)])⟩, ⟨(some 38), none, (.mv (.t 41))⟩, ⟨(some 42), none, (.ext (.t 38) 0)⟩, ⟨(some 43), none, (.ext (.t 38) 1)⟩, ⟨(some 11), none, (.mv (.t 42))⟩, ⟨(some 12), none, (.mv (.t 43))⟩]) (.seq (.reg none [⟨(some 44), none, (.bsl false 1 0 [nilS] [])⟩, ⟨(some 45), none, (.mv (.t 9))⟩, ⟨(some 46), none, (.app 1 24 (.t 44) (.t 45))⟩, ⟨(some 13), none, (.mv (.t 46))⟩]) (.seq (.reg (some []) [⟨(some 47), none, (.mv (.t 13))⟩, ⟨(some 48), none, (.mv (.t 2))⟩, ⟨(some 49), none, (.cvt (.int .i64) (.t 48))⟩, ⟨(some 50), none, (.mv (.t 13))⟩, ⟨(some 51), none, (.len 1 (.t 50))⟩, ⟨(some 52), none, (.bin .rem [] (.t 49) (.t 51))⟩, ⟨(some 53), none, (.mv (.t 13))⟩, ⟨(some 54), none, (.mv (.t 2))⟩, ⟨(some 55), none, (.cvt (.int .i64) (.t 54))⟩, ⟨(some 56), none, (.mv (.t 13))⟩, ⟨(some 57), none, (.len 1 (.t 56))⟩, ⟨(some 58), none, (.bin .rem [] (.t 55) (.t 57))⟩, ⟨(some 59), none, (.ia none 1 false (.t 53) (.t 58))⟩, ⟨(some 60), none, (.ld none (.t 59))⟩, ⟨(some 61), none, (.sub 1 2 (.t 60) (some (.k (.int .i64 1))) none none)⟩, ⟨(some 62), none, (.ia none 1 false (.t 47) (.t 52))⟩, ⟨none, none, (.st 1 (.t 62) (.t 61))⟩]) (.seq (.reg none [⟨(some 64), none, (.ld (some 4) (.t 8))⟩, ⟨(some 65), none, (.mv (.t 13))⟩, ⟨(some 66), none, (.call (.f 10) [(.t 64), (.t 65)])⟩, ⟨(some 63), none, (.mv (.t 66))⟩, ⟨(some 67), none, (.ext (.t 63) 0)⟩, ⟨(some 68), none, (.ext (.t 63) 1)⟩, ⟨(some 14), none, (.mv (.t 67))⟩, ⟨(some 15), none, (.mv (.t 68))⟩]) (.seq (.reg none [⟨(some 70), none, (.ld (some 4) (.t 8))⟩, ⟨(some 71), none, (.call (.f 10) [(.t 70), (.k nilS)])⟩, ⟨(some 69), none, (.mv (.t 71))⟩, ⟨(some 72), none, (.ext (.t 69) 0)⟩, ⟨(some 73), none, (.ext (.t 69) 1)⟩, ⟨(some 16), none, (.mv (.t 72))⟩, ⟨(some 17), none, (.mv (.t 73))⟩]) r241_10))))))))))⟩
theorem k241 : compF Try.prog 4 = some c241 := by kernel_rfl
attribute [local simp] op_or op_an op_add op_sub op_mul oq_eql oq_neq oq_lss oq_gtr oq_leq oq_geq op_xor
attribute [-simp] intOp bin_shl bin_shr D.cells
attribute [local simp] bin_ptrnil bin_nilnil
theorem tA {α : Type} (A : List α) (x : α) : (A ++ [x]).take (A.length + 1) = A ++ [x] := List.take_of_length_le (by simp)
def rsf (p : D × D) : D := match p.2 with | .undef => .undef | _ => p.1
theorem rsf_self (v : D) : rsf (v, v) = v := by cases v <;> rfl
theorem rsf_undef (d : D) : rsf (d, .undef) = .undef := rfl
theorem rsf_int (d : D) (k : IntKind) (n : Int) : rsf (d, .int k n) = d := rfl
theorem rsf_sl (d : D) (a b c e : Nat) : rsf (d, .sl a b c e) = d := rfl
theorem rsf_slc (d : D) (a : Bool) (b : Nat) (c : List D) : rsf (d, .slc a b c) = d := rfl
theorem reset_full {T0 T : List D} {n0 : Nat} {H : List Obj} (h : H.length = n0) : reset T0 n0 ⟨T, H⟩ = some ⟨(T.zip T0).map rsf, H⟩ := by
  have e : ∀ (T : List (D × D)), (T.map fun (d, d0) => match d0 with | .undef => .undef | _ => d) = T.map rsf := fun T => List.map_congr_left fun p _ => by
    obtain ⟨d, d0⟩ := p
    rfl
  unfold reset
  subst h
  simp only [List.take_length]
  split
  · exact congrArg some (congrArg (fun t => St.mk t H) (e _))
  · exact congrArg some (congrArg (fun t => St.mk t H) (e _))
attribute [local simp] rsf_self rsf_undef rsf_int rsf_sl rsf_slc
def rep (x : Rw) (n : Nat) : List Rw := List.replicate n x
theorem rep_succ (x : Rw) (n : Nat) : rep x (n + 1) = rep x n ++ [x] := List.replicate_succ'
def t241 (v0 v1 v2 v3 v4 v5 v6 v7 v8 v10 v11 v12 v13 v14 v15 v16 v17 v25 v26 v27 v28 v29 v30 v31 v32 v33 v34 v35 v36 v37 v38 v39 v40 v41 v42 v43 v44 v45 v46 v47 v48 v49 v50 v51 v52 v53 v54 v55 v56 v57 v58 v59 v60 v61 v62 v63 v64 v65 v66 v67 v68 v69 v70 v71 v72 v73 : D) (d9 : D) (A a i : Nat) : List D := [v0, v1, v2, v3, v4, v5, v6, v7, v8, d9, v10, v11, v12, v13, v14, v15, v16, v17, .sl (A + 2) 0 a a, .int .i64 i, .undef, .undef, .undef, .undef, .undef, v25, v26, v27, v28, v29, v30, v31, v32, v33, v34, v35, v36, v37, v38, v39, v40, v41, v42, v43, v44, v45, v46, v47, v48, v49, v50, v51, v52, v53, v54, v55, v56, v57, v58, v59, v60, v61, v62, v63, v64, v65, v66, v67, v68, v69, v70, v71, v72, v73, .sl (A + 2) 0 0 0, .undef, .undef, .undef, .undef, .undef, .undef, .undef, .undef, .undef, .undef, .undef, .undef, .undef, .undef, .undef, .undef, .undef, .undef, .undef, .undef, .undef, .undef, .undef, .undef, .undef, .undef, .undef, .undef, .undef, .undef, .undef, .undef, .undef, .undef, .undef, .undef, .undef, .undef, .undef, .undef, .undef, .undef, .undef, .undef, .undef, .undef, .undef, .undef, .undef, .undef, .undef, .undef, .undef, .undef]
set_option maxHeartbeats 16000000 in
attribute [local simp high] cells_rws ga0 sa0 tA reset_full in
theorem L241 (v0 v1 v2 v3 v4 v5 v6 v7 v8 v10 v11 v12 v13 v14 v15 v16 v17 v25 v26 v27 v28 v29 v30 v31 v32 v33 v34 v35 v36 v37 v38 v39 v40 v41 v42 v43 v44 v45 v46 v47 v48 v49 v50 v51 v52 v53 v54 v55 v56 v57 v58 v59 v60 v61 v62 v63 v64 v65 v66 v67 v68 v69 v70 v71 v72 v73 : D) (O0 O1 : List D) (A : List Obj) (FW : List Rw) (x : Rw) (FR : List Rw) (hFW : FW = x :: FR) : ∀ (n i a : Nat), n + i = 2001 → a = i →
    LpB cf1 K1 b241_0 (t241 v0 v1 v2 v3 v4 v5 v6 v7 v8 v10 v11 v12 v13 v14 v15 v16 v17 v25 v26 v27 v28 v29 v30 v31 v32 v33 v34 v35 v36 v37 v38 v39 v40 v41 v42 v43 v44 v45 v46 v47 v48 v49 v50 v51 v52 v53 v54 v55 v56 v57 v58 v59 v60 v61 v62 v63 v64 v65 v66 v67 v68 v69 v70 v71 v72 v73 (.slc false 1 (FW.map Rw.d)) A.length 0 0) (A.length + 3) ⟨t241 v0 v1 v2 v3 v4 v5 v6 v7 v8 v10 v11 v12 v13 v14 v15 v16 v17 v25 v26 v27 v28 v29 v30 v31 v32 v33 v34 v35 v36 v37 v38 v39 v40 v41 v42 v43 v44 v45 v46 v47 v48 v49 v50 v51 v52 v53 v54 v55 v56 v57 v58 v59 v60 v61 v62 v63 v64 v65 v66 v67 v68 v69 v70 v71 v72 v73 (.slc false 1 (FW.map Rw.d)) A.length a i, .box O0 :: .box O1 :: (A ++ [rowR1 (rep x i)])⟩ =
      some (.exit 0, ⟨t241 v0 v1 v2 v3 v4 v5 v6 v7 v8 v10 v11 v12 v13 v14 v15 v16 v17 v25 v26 v27 v28 v29 v30 v31 v32 v33 v34 v35 v36 v37 v38 v39 v40 v41 v42 v43 v44 v45 v46 v47 v48 v49 v50 v51 v52 v53 v54 v55 v56 v57 v58 v59 v60 v61 v62 v63 v64 v65 v66 v67 v68 v69 v70 v71 v72 v73 (.slc false 1 (FW.map Rw.d)) A.length 2001 2001, .box O0 :: .box O1 :: (A ++ [rowR1 (rep x 2001)])⟩)
  | 0, i, a, hn, ha => by
    obtain rfl : i = 2001 := by omega
    subst ha
    have z1 : leI 2001 2000 = false := leI_f (by omega)
    rw [LpB_eq]
    simp only [t241]
    conv => lhs; arg 6; simp [b241_0, z1, rowR1]
    rw [roundK_exit, reset_full (by simp)]
    simp [rowR1]
  | n + 1, i, a, hn, ha => by
    have z1 : leI (i : Int) 2000 = true := leI_t (by omega)
    have hl : (rep x i).length = i := by simp [rep]
    have hb1 : ((rep x i).length + 1) * 24 ≤ 70368744177664 := by omega
    have ih := L241 v0 v1 v2 v3 v4 v5 v6 v7 v8 v10 v11 v12 v13 v14 v15 v16 v17 v25 v26 v27 v28 v29 v30 v31 v32 v33 v34 v35 v36 v37 v38 v39 v40 v41 v42 v43 v44 v45 v46 v47 v48 v49 v50 v51 v52 v53 v54 v55 v56 v57 v58 v59 v60 v61 v62 v63 v64 v65 v66 v67 v68 v69 v70 v71 v72 v73 O0 O1 A FW x FR hFW n (i + 1) (i + 1) (by omega) rfl
    have hw := w64 (i + 1) (by omega)
    subst ha
    subst hFW
    refine Eq.trans ?_ ih
    clear ih
    rw [rep_succ]
    rw [LpB_eq]
    generalize hR : rep x a = R at *
    rw [hl] at hb1
    simp only [t241, rowR1, Rw.d, List.map_cons]
    conv => lhs; arg 6; simp [evOp, evM, wants, Ins.go, X.ev, iaM, ldM, binD, setD, applyW, Ek_ops_nil, allFree, free, callM, callP, callO, appM, b241_0, z1, hl, hb1, hw]
    rw [roundK_nrm, reset_full (by simp)]
    simp [Rw.d, hl]
def t241b (v0 v1 v2 v3 v4 v5 v6 v11 v13 v14 v16 v25 v26 v27 v28 v29 v30 v31 v32 v33 v34 v35 v36 v37 v38 v39 v40 v41 v42 v43 v44 v45 v46 v47 v48 v49 v50 v51 v52 v53 v54 v55 v56 v57 v58 v59 v60 v61 v62 v63 v64 v65 v66 v67 v68 v69 v70 v71 v72 v73 : D) (ts : List Int) (FW : List Rw) (q : Bool) (e : Int) : List D := [v0, v1, v2, v3, v4, v5, v6, .bool true, .ptr 1 0 0 0, .slc false 1 (FW.map Rw.d), .bool q, v11, .int .i64 e, v13, v14, .int .i64 21, v16, .int .i64 1, .undef, .undef, .undef, .undef, .undef, .undef, .undef, v25, v26, v27, v28, v29, v30, v31, v32, v33, v34, v35, v36, v37, v38, v39, v40, v41, v42, v43, v44, v45, v46, v47, v48, v49, v50, v51, v52, v53, v54, v55, v56, v57, v58, v59, v60, v61, v62, v63, v64, v65, v66, v67, v68, v69, v70, v71, v72, v73, .undef, .undef, .undef, .undef, .undef, .undef, .undef, .undef, .undef, .undef, .undef, .undef, .undef, .undef, .undef, .undef, .undef, .undef, .undef, .undef, .undef, .undef, .undef, .undef, .undef, .undef, .undef, .undef, .undef, .undef, .undef, .undef, .undef, .undef, .undef, .undef, .undef, .undef, .undef, .undef, .undef, .undef, .undef, .undef, .undef, .undef, .undef, .undef, .undef, .undef, .undef, .undef, .undef, .undef, .undef]
theorem app1 {α : Type} (A : List α) (x y : α) : A ++ [x] ++ [y] = A ++ [x, y] := by simp
theorem ga2 {α : Type} (A : List α) (x y : α) : (A ++ [x, y])[A.length + 1]? = some y := by
  rw [List.getElem?_append_right (by omega)]; simp
set_option maxHeartbeats 16000000 in
attribute [local simp high] cells_rws ga0 ga1 ga2 sa0 sa1 tA in
theorem R241 (v0 v1 v2 v3 v4 v5 v6 v11 v13 v14 v16 v25 v26 v27 v28 v29 v30 v31 v32 v33 v34 v35 v36 v37 v38 v39 v40 v41 v42 v43 v44 v45 v46 v47 v48 v49 v50 v51 v52 v53 v54 v55 v56 v57 v58 v59 v60 v61 v62 v63 v64 v65 v66 v67 v68 v69 v70 v71 v72 v73 : D) (O0 : List D) (A : List Obj) (cc : Bool) (ts : List Int) (hts : ts ≠ []) (htl : ts.length ≤ 64) (k m g : Int) (hok : schemaOk ts k m g = true) (FW : List Rw) (hFl : 1 ≤ FW.length ∧ FW.length ≤ 40) (q : Bool) (e : Int) (he : (q = true ∧ e = 0) ∨ (q = false ∧ e = 1)) :
    finK false 0 [.tmp 6] (Ek cf1 K1 [.c r241_10] ⟨t241b v0 v1 v2 v3 v4 v5 v6 v11 v13 v14 v16 v25 v26 v27 v28 v29 v30 v31 v32 v33 v34 v35 v36 v37 v38 v39 v40 v41 v42 v43 v44 v45 v46 v47 v48 v49 v50 v51 v52 v53 v54 v55 v56 v57 v58 v59 v60 v61 v62 v63 v64 v65 v66 v67 v68 v69 v70 v71 v72 v73 ts FW q e, .box O0 :: ScB cc 1 ts k m g :: A⟩) = some (.bool true, []) := by
  obtain ⟨x, FR, hx⟩ : ∃ x FR, FW = x :: FR := by cases FW with
    | nil => simp at hFl
    | cons x FR => exact ⟨x, FR, rfl⟩
  have hL := fun v0 v1 v2 v3 v4 v5 v6 v7 v8 v10 v11 v12 v13 v14 v15 v16 v17 v25 v26 v27 v28 v29 v30 v31 v32 v33 v34 v35 v36 v37 v38 v39 v40 v41 v42 v43 v44 v45 v46 v47 v48 v49 v50 v51 v52 v53 v54 v55 v56 v57 v58 v59 v60 v61 v62 v63 v64 v65 v66 v67 v68 v69 v70 v71 v72 v73 => L241 v0 v1 v2 v3 v4 v5 v6 v7 v8 v10 v11 v12 v13 v14 v15 v16 v17 v25 v26 v27 v28 v29 v30 v31 v32 v33 v34 v35 v36 v37 v38 v39 v40 v41 v42 v43 v44 v45 v46 v47 v48 v49 v50 v51 v52 v53 v54 v55 v56 v57 v58 v59 v60 v61 v62 v63 v64 v65 v66 v67 v68 v69 v70 v71 v72 v73 O0 [.slc cc 1 (ts.map (.int .i64)), .int .i64 k, .int .i64 m, .int .i64 g] A FW x FR hx 2001 0 0 rfl rfl
  have hW1 := K247 cc 1 ts (.inl rfl) k m g (by omega) false 1 (rep x 2001) (.inl rfl) (by simp [rep])
  have e1 : wErr ts k m g (rep x 2001) = 1 := by
    unfold wErr
    rw [if_neg (by simp [checkI, hok]), if_pos (.inr (by simp [rep]))]
  rw [e1] at hW1
  have hW2 := K247 cc 1 ts (.inl rfl) k 0 g (by omega) false 1 FW (.inl rfl) (by omega)
  have hno : schemaOk ts k 0 g = false := by
    cases h : schemaOk ts k 0 g with
    | false => rfl
    | true => have := (schemaOk_iff.1 h).2.2.2.1; omega
  have e2 : wErr ts k 0 g FW = 20 := by
    unfold wErr
    rw [if_pos (by simp [checkI, hno])]
  rw [e2] at hW2
  have hrl : (rep x 2001).length = 2001 := by simp [rep]
  have hFn : FW ≠ [] := by rw [hx]; simp
  unfold Sd at hW1 hW2
  generalize rep x 2001 = RR at *
  have h0 : rep x 0 = [] := rfl
  rw [h0] at hL
  have z1 : eqI 0 0 = true := rfl
  have z2 : eqI 1 1 = true := rfl
  have z3 : eqI 20 20 = true := rfl
  have z4 : eqI 21 21 = true := rfl
  have z5 : eqI 1 0 = false := rfl
  have tk : List.take 2001 (List.map Rw.d RR) = List.map Rw.d RR := List.take_of_length_le (by simp; omega)
  simp only [t241, rowR1, ScB, List.map_nil] at hL
  simp only [t241b, ScB]
  simp at hL hW1 hW2
  simp [r241_10]
  rw [hL]
  rcases he with ⟨rfl, rfl⟩ | ⟨rfl, rfl⟩
  · simp [r241_12, hW1, hW2, z1, z2, z3, z4, z5, tk, hrl, hFn]
  · simp [r241_12, hW1, hW2, z1, z2, z3, z4, z5, tk, hrl, hFn]
theorem mayR_short {ts : List Int} {r : Rv} (h : r.length < ts.length) : mayR ts r = false := by
  cases hm : mayR ts r with
  | false => rfl
  | true => have := mayR_len ts r hm; omega
set_option maxHeartbeats 16000000 in
/-- thresherlaw11.PartRefuses. -/
theorem K241 (ts8 : List Int) (n0 k0 m0 g0 : Int) (ht : ts8.length = 8) (hts : ∀ x ∈ ts8, 0 ≤ x ∧ x < 256) (hn0 : 0 ≤ n0 ∧ n0 < 256) (hk0 : 0 ≤ k0 ∧ k0 < 256) (hm0 : 0 ≤ m0 ∧ m0 < 256) (hg0 : 0 ≤ g0 ∧ g0 < 256)
    (c : Bool) (s' : Nat) (L : List Rw) (hs' : s' = 1 ∨ L = []) (hL : L.length ≤ 2 ^ 47) (hLr : ∀ x ∈ L, x.r.length ≤ 2 ^ 47) (hL64 : in64W L) (a0 : Int) (ha0 : 0 ≤ a0 ∧ a0 < 256) :
    K1 4 [.agg (ts8.map (.int .u8) ++ [.int .u8 n0, .int .u8 k0, .int .u8 m0, .int .u8 g0]), .slc c s' (L.map Rw.d), .int .u8 a0] [] = some (.bool true, []) := by
  obtain ⟨hok, hS8, hg8⟩ := made_ok ts8 n0 k0 m0 g0 ht hts hn0 hk0 hm0 hg0
  have hM := K1_of (K243 ts8 n0 k0 m0 g0 hts hn0 hk0 hm0 hg0 ht) (by decide)
  have hfl := fits_len (madeS ts8 n0 k0 m0 g0) L
  have hfi := fits_inR (s := madeS ts8 n0 k0 m0 g0) hL64
  have hF := K1_of (K246 c s' L hs' (by omega) (fun x hx => by have := hLr x hx; omega)) (by decide)
  have hpr : ∀ x ∈ preW L, x.r.length ≤ 2 ^ 60 := by
    intro x hx
    rcases List.mem_cons.1 hx with rfl | hx
    · simp
    · obtain ⟨y, hy, rfl⟩ := List.mem_map.1 hx
      show (fewRow y.r).length ≤ _
      unfold fewRow
      simp; omega
  have hpl : (preW L).length ≤ 2 ^ 60 := by unfold preW fewL; simp; omega
  generalize madeS ts8 n0 k0 m0 g0 = s at *
  obtain ⟨ts, k, m, g⟩ := s
  simp only at hS8 hg8 hM
  have h0 := schemaOk_iff.1 hok
  simp only at h0
  have htn : ts ≠ [] := by intro e; have := h0.1; rw [e] at this; simp at this
  have hFi := fun cf => K1_of (K245 false 1 ts (.inl rfl) k m g (by omega) cf 1 (preW L) (.inl rfl) hpl hpr 40 (by omega)) (by decide)
  have hfd : ((preW L).take 40).map (fitW ts) = fitsW (ts, k, m, g) L := rfl
  rw [hfd] at hFi
  have hmay : ∀ x ∈ fitsW (ts, k, m, g) L, mayR ts x.r = true ∧ x.c = false ∧ x.s = 2 := by
    intro x hx
    obtain ⟨y, hy, rfl⟩ := List.mem_map.1 hx
    exact ⟨fitR_may _ _ h0.2.1, rfl, rfl⟩
  have hSo := K1_of (K249 false 1 (fitsW (ts, k, m, g) L) (.inl rfl) hfi false 1 ts (.inl rfl) k m g (by omega) (by omega)) (by decide)
  rw [srt'_V] at hSo
  have hP : preW L = ⟨true, 2, [], .inl rfl⟩ :: fewL L := rfl
  rw [hP] at hFi
  clear hfd hpr hpl hfi hL64 hLr hP
  generalize fitsW (ts, k, m, g) L = FW at *
  -- the rows as they are
  have hWr := K247 false 1 ts (.inl rfl) k m g (by omega) false 1 FW (.inl rfl) (by omega)
  have hcheck : checkI ts k m g = 0 := by unfold checkI; rw [if_pos hok]
  have hFn : FW ≠ [] := by intro e; rw [e] at hfl; simp at hfl
  have hany : (FW.any fun x => !mayR ts x.r) = false := by
    rw [List.any_eq_false]
    intro x hx
    simp [(hmay x hx).1]
  have hE : wErr ts k m g FW = if srtV ts k (rowsOfW FW) = false then 1 else 0 := by
    unfold wErr
    rw [if_neg (by simp [hcheck]), if_neg (by simp [hFn]; omega), if_neg (by simp [hany]), srt_V]
  -- the odd ones
  obtain ⟨N, hN⟩ : ∃ N, FW.length = N := ⟨_, rfl⟩
  obtain ⟨A, rfl⟩ : ∃ A : Nat, a0 = A := ⟨a0.toNat, by omega⟩
  obtain ⟨Q, hQ⟩ : ∃ Q, Q = A % N := ⟨_, rfl⟩
  have hQl : Q < N := by rw [hQ]; exact Nat.mod_lt _ (by omega)
  have hQW : Q < FW.length := by omega
  obtain ⟨x, hx⟩ : ∃ x, FW[Q]'hQW = x := ⟨_, rfl⟩
  obtain ⟨hx1, hx2, hx3⟩ := hmay x (by rw [← hx]; exact List.getElem_mem hQW)
  have hxl := mayR_len ts x.r hx1
  have htl1 : 1 ≤ ts.length := h0.1.1
  obtain ⟨OW, hOW⟩ : ∃ OW, FW.set Q ⟨false, 2, x.r.drop 1, .inl rfl⟩ = OW := ⟨_, rfl⟩
  have hOl : OW.length = N := by rw [← hOW, List.length_set, hN]
  have hOn : OW ≠ [] := by intro e; rw [e] at hOl; simp at hOl; omega
  have hOa : (OW.any fun x => !mayR ts x.r) = true := by
    rw [List.any_eq_true]
    refine ⟨⟨false, 2, x.r.drop 1, .inl rfl⟩, by rw [← hOW]; exact List.mem_set hQW _, ?_⟩
    have := mayR_short (ts := ts) (r := x.r.drop 1) (by rw [List.length_drop]; omega)
    show (!mayR ts (x.r.drop 1)) = true
    rw [this]; rfl
  have hWo := K247 false 1 ts (.inl rfl) k m g (by omega) false 1 OW (.inl rfl) (by omega)
  have hEo : wErr ts k m g OW = 21 := by
    unfold wErr
    rw [if_neg (by simp [hcheck]), if_neg (by simp [hOn]; omega), if_pos hOa]
  rw [hEo] at hWo
  rw [if_neg (by decide)] at hWo
  -- none
  have hWn := K247 false 1 ts (.inl rfl) k m g (by omega) true 0 [] (.inr rfl) (by simp)
  have hEn : wErr ts k m g [] = 1 := by
    unfold wErr
    rw [if_neg (by simp [hcheck]), if_pos (.inl rfl)]
  rw [hEn] at hWn
  rw [if_neg (by decide), List.map_nil] at hWn
  have m1 : (FW.map Rw.d).set Q (.slc false 2 (List.drop 1 (x.r.map Va.d))) = OW.map Rw.d := by
    rw [← hOW, List.map_set]
    simp [Rw.d, List.map_drop]
  obtain ⟨xc, xs, xr, xh⟩ := x
  simp only at hx1 hx2 hx3 hxl m1
  rw [List.drop_one] at m1
  subst hx2 hx3
  have hx' : FW[Q]? = some ⟨false, 2, xr, xh⟩ := by rw [List.getElem?_eq_getElem hQW, hx]
  have q1 : IntKind.i64.wrap (A : Int) = A := w64 _ (by omega)
  have q2 : intOp .rem .i64 (A : Int) (N : Int) = some (.int .i64 (Q : Nat)) := by
    rw [rem_pos (by omega) (by omega), hQ]
    congr 2
  have m2 : List.take N (OW.map Rw.d) = OW.map Rw.d := List.take_of_length_le (by simp; omega)
  have bQ : (Q : Int) < N := by omega
  have bx : 1 ≤ xr.length := by omega
  have bx' : 1 ≤ (xr.length : Int) := by omega
  have bN : N * 24 ≤ 70368744177664 := by omega
  obtain ⟨FE, hFE⟩ : ∃ FE, fewL L = FE := ⟨_, rfl⟩
  have hFEl : FE.length ≤ 40 := by rw [← hFE]; unfold fewL; simp; omega
  rw [hFE] at hF hFi
  have hcl := eq_true (show ∀ a : Rw, a ∈ FW → a.d.cells.length = 1 from fun a _ => rfl)
  have hcl2 := eq_true (show ∀ a : Rw, a ∈ FE → a.d.cells.length = 1 from fun a _ => rfl)
  have hnat : ((40 : Nat) : Int) = 40 := rfl
  rw [hnat] at hFi
  have hR := fun v0 v1 v2 v3 v4 v5 v6 v11 v13 v14 v16 v25 v26 v27 v28 v29 v30 v31 v32 v33 v34 v35 v36 v37 v38 v39 v40 v41 v42 v43 v44 v45 v46 v47 v48 v49 v50 v51 v52 v53 v54 v55 v56 v57 v58 v59 v60 v61 v62 v63 v64 v65 v66 v67 v68 v69 v70 v71 v72 v73 O0 A q e he => R241 v0 v1 v2 v3 v4 v5 v6 v11 v13 v14 v16 v25 v26 v27 v28 v29 v30 v31 v32 v33 v34 v35 v36 v37 v38 v39 v40 v41 v42 v43 v44 v45 v46 v47 v48 v49 v50 v51 v52 v53 v54 v55 v56 v57 v58 v59 v60 v61 v62 v63 v64 v65 v66 v67 v68 v69 v70 v71 v72 v73 O0 A false ts htn (by omega) k m g hok FW hfl q e he
  obtain ⟨q, hq⟩ : ∃ q, srtV ts k (rowsOfW FW) = q := ⟨_, rfl⟩
  rw [hq] at hSo hE
  obtain ⟨e, he⟩ : ∃ e, wErr ts k m g FW = e := ⟨_, rfl⟩
  have hqe : (q = true ∧ e = 0) ∨ (q = false ∧ e = 1) := by
    cases q with
    | true => exact .inl ⟨rfl, by rw [← he, hE]; rfl⟩
    | false => exact .inr ⟨rfl, by rw [← he, hE]; rfl⟩
  rw [he] at hWr
  obtain ⟨wd, hwd⟩ : ∃ d : D, (if e = 0 then D.slc false 1 ((writeB ts k m g FW).map (.int .u8)) else nilS) = d := ⟨_, rfl⟩
  have hwk : wd.keys = [] := by rw [← hwd]; split <;> simp [D.keys]
  rw [hwd] at hWr
  clear hwd he hE hq hOW hQ hany hOa hEo hEn hmay hok hcheck h0
  match ts8, ht with
  | [e0, e1, e2, e3, e4, e5, e6, e7], _ =>
    refine K_call k241 (ora1_none (by decide)) (by simp [c241]) ?_
    unfold Sd at hFi hSo hWr hWo hWn
    simp only [List.map_cons, List.map_nil, List.cons_append, List.nil_append, Rw.d] at hM hFi
    by_cases hFEn : FE = []
    · subst hFEn
      simp only [List.map_nil] at hF hFi
      simp [evOp, evM, wants, Ins.go, X.ev, iaM, ldM, binD, setD, applyW, Ek_ops_nil, allFree, free, callM, callP, callO, appM, c241, K242, hM, hF, hFi, hSo, hWr, hWo, hWn, hN, q1, q2, bQ, bN, hFn, hQW, hx', m1, m2, hOl, hcl, bx, bx', hwk, Rw.d]
      exact hR _ _ _ _ _ _ _ _ _ _ _ _ _ _ _ _ _ _ _ _ _ _ _ _ _ _ _ _ _ _ _ _ _ _ _ _ _ _ _ _ _ _ _ _ _ _ _ _ _ _ _ _ _ _ _ _ _ _ _ _ _ _ _ _ hqe
    · have hFE2 : ¬ List.map Rw.d FE = [] := by simpa using hFEn
      have tk : List.take (FE.length + 1) (D.slc true 2 [] :: List.map Rw.d FE) = D.slc true 2 [] :: List.map Rw.d FE := List.take_of_length_le (by simp)
      have bF' : (FE.length + 1) * 24 ≤ 70368744177664 := by omega
      simp [evOp, evM, wants, Ins.go, X.ev, iaM, ldM, binD, setD, applyW, Ek_ops_nil, allFree, free, callM, callP, callO, appM, c241, K242, hM, hF, hFi, hSo, hWr, hWo, hWn, hN, q1, q2, bQ, bN, hFn, hQW, hx', m1, m2, hOl, hcl, hcl2, bx, bx', hwk, hFEn, bF', tk, Nat.add_comm 1, Rw.d]
      exact hR _ _ _ _ _ _ _ _ _ _ _ _ _ _ _ _ _ _ _ _ _ _ _ _ _ _ _ _ _ _ _ _ _ _ _ _ _ _ _ _ _ _ _ _ _ _ _ _ _ _ _ _ _ _ _ _ _ _ _ _ _ _ _ _ hqe
end Go.Ab
