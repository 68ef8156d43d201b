/- PLAIN WORDS: the order of rows; rows that are made to fit and sorted may be written. -/
import Derived.Test.YtomomeabfnmncaaGreatBPPart
import Derived.Test.YtomomeabfnmncaaGreatBF253
import Derived.Test.YtomomeabfnmncaaGreatBF22
import Derived.Test.YtomomeabfnmncaaGreatBEq
set_option linter.all false
set_option maxRecDepth 100000
namespace Go.Ab
open Go.Proofs Go.Proofs.YtomomeabfnmncaaGreatH Go.Proofs.YtomomeabfnmncaaGreatH.Crc Go.Proofs.YtomomeabfnmncaaGreatH.Var Go.Proofs.YtomomeabfnmncaaGreatH.Fr Go.Proofs.YtomomeabfnmncaaGreatH.Rec
theorem cmpZ_anti (a b : Int) : cmpZ b a = - cmpZ a b := by
  unfold cmpZ
  by_cases h1 : a < b
  · rw [ltI_t h1, ltI_f (show ¬ b < a by omega)]; rfl
  · by_cases h2 : b < a
    · rw [ltI_f h1, ltI_t h2]; rfl
    · rw [ltI_f h1, ltI_f h2]; rfl
theorem cmpB_anti : ∀ a b : List UInt8, Lib.compareBytes b a = - Lib.compareBytes a b
  | [], [] => rfl
  | [], _ :: _ => rfl
  | _ :: _, [] => rfl
  | x :: a, y :: b => by
    have ih := cmpB_anti a b
    by_cases h1 : x < y
    · have h2 : ¬ y < x := fun h => absurd (UInt8.lt_trans h1 h) (UInt8.lt_irrefl _)
      simp [Lib.compareBytes, h1, h2]
    · by_cases h2 : y < x
      · simp [Lib.compareBytes, h1, h2]
      · simp [Lib.compareBytes, h1, h2, ih]
theorem vcmp_anti (t : Int) (p q : Va) : vcmp t q p = - vcmp t p q := by
  unfold vcmp
  rw [Bool.or_comm (!fitsI t q)]
  split
  · rfl
  · split
    · exact cmpB_anti _ _
    · split
      · exact cmpZ_anti _ _
      · exact cmpZ_anti _ _
theorem cmpL_anti : ∀ (ts : List Int) (a b : Rv), cmpL ts b a = - cmpL ts a b
  | [], a, b => by rw [cmpL_nil, cmpL_nil]; rfl
  | t :: ts, [], [] => rfl
  | t :: ts, [], _ :: _ => rfl
  | t :: ts, _ :: _, [] => rfl
  | t :: ts, p :: a, q :: b => by
    simp only [cmpL]
    rw [vcmp_anti t p q, cmpL_anti ts a b]
    by_cases h : vcmp t p q = 0
    · rw [if_pos h, if_pos (by omega)]
    · rw [if_neg h, if_neg (by omega)]
theorem cmpK_anti (ts : List Int) (k : Int) (a b : Rv) : cmpK ts k b a = - cmpK ts k a b := cmpL_anti _ _ _
theorem lt_anti (ts : List Int) (k : Int) (a b : Rv) : ltI (cmpK ts k b a) 0 = ltI 0 (cmpK ts k a b) := by
  rw [cmpK_anti]
  by_cases h : 0 < cmpK ts k a b
  · rw [ltI_t (by omega), ltI_t h]
  · rw [ltI_f (by omega), ltI_f h]
theorem srt'_V (ts : List Int) (k : Int) (L : List Rw) : srt' ts k L 0 (L.length - 1) = srtV ts k (rowsOfW L) := by
  unfold srt' srtV
  rw [show (rowsOfW L).length = L.length by simp, ← List.range_eq_range']
  congr 1
  funext j
  unfold okAt' okAtV
  rw [lt_anti]
  simp [List.getD_eq_getElem?_getD]
/-- In order, one by one. -/
def adjV (ts : List Int) (k : Int) : List Rv → Bool
  | a :: b :: l => !ltI (cmpK ts k b a) 0 && adjV ts k (b :: l)
  | _ => true
theorem srtV_adj (ts : List Int) (k : Int) : ∀ R : List Rv, srtV ts k R = adjV ts k R
  | [] => rfl
  | [a] => rfl
  | a :: b :: l => by
    have ih := srtV_adj ts k (b :: l)
    unfold srtV at ih ⊢
    simp only [List.length_cons, Nat.add_sub_cancel] at ih ⊢
    rw [List.range_succ_eq_map, List.all_cons, List.all_map]
    unfold adjV
    rw [← ih]
    rfl
theorem adj_ins (ts : List Int) (k : Int) (x : Rw) : ∀ l : List Rw, adjV ts k (rowsOfW l) = true → adjV ts k (rowsOfW (insW ts k x l)) = true ∧ ∀ y : Rv, ltI 0 (cmpK ts k y x.r) = false → adjV ts k (y :: rowsOfW l) = true → adjV ts k (y :: rowsOfW (insW ts k x l)) = true
  | [], _ => by
    refine ⟨rfl, fun y hy _ => ?_⟩
    show (!ltI (cmpK ts k x.r y) 0 && true) = true
    rw [lt_anti, hy]; rfl
  | z :: l, h => by
    have hl : adjV ts k (rowsOfW l) = true := by
      cases l with
      | nil => rfl
      | cons w l => exact (Bool.and_eq_true_iff.1 h).2
    obtain ⟨i1, i2⟩ := adj_ins ts k x l hl
    unfold insW
    cases hc : ltI 0 (cmpK ts k z.r x.r) with
    | true =>
      simp only [if_true]
      have hxz : (!ltI (cmpK ts k z.r x.r) 0) = true := by
        rw [ltI_f]; rfl
        have : 0 < cmpK ts k z.r x.r := by simpa [ltI] using hc
        omega
      refine ⟨?_, fun y hy hyz => ?_⟩
      · show (!ltI (cmpK ts k z.r x.r) 0 && adjV ts k (rowsOfW (z :: l))) = true
        rw [hxz, h]; rfl
      · show (!ltI (cmpK ts k x.r y) 0 && (!ltI (cmpK ts k z.r x.r) 0 && adjV ts k (rowsOfW (z :: l)))) = true
        rw [lt_anti, hy, hxz, h]; rfl
    | false =>
      simp only [Bool.false_eq_true, if_false]
      have hz := i2 z.r hc h
      refine ⟨hz, fun y hy hyz => ?_⟩
      have : (!ltI (cmpK ts k z.r y) 0) = true := (Bool.and_eq_true_iff.1 hyz).1
      show (!ltI (cmpK ts k z.r y) 0 && adjV ts k (z.r :: rowsOfW (insW ts k x l))) = true
      rw [this, hz]; rfl
theorem adj_fold (ts : List Int) (k : Int) : ∀ (u out : List Rw), adjV ts k (rowsOfW out) = true → adjV ts k (rowsOfW (u.foldl (fun out x => insW ts k x out) out)) = true
  | [], out, h => h
  | x :: u, out, h => by rw [List.foldl_cons]; exact adj_fold ts k u _ (adj_ins ts k x out h).1
theorem sortW_srt (ts : List Int) (k : Int) (L : List Rw) : srtV ts k (rowsOfW (sortW ts k L)) = true := by
  rw [srtV_adj]; exact adj_fold ts k L [] rfl
theorem sortW_len (ts : List Int) (k : Int) (L : List Rw) : (sortW ts k L).length = L.length := by
  unfold sortW; rw [foldl_len]; simp
theorem sortW_mem (ts : List Int) (k : Int) (L : List Rw) : ∀ y ∈ sortW ts k L, y ∈ L := fun y hy => by
  rcases foldl_mem ts k L [] y hy with h | h
  · cases h
  · exact h
/-! ### rows that are made to fit -/
theorem fitV_fits (t : Int) (v : Va) (ht : 1 ≤ t ∧ t ≤ 3) : fitsI t (fitV t v) = true := by
  unfold fitV
  by_cases h : t = 3
  · subst h
    show fitsI 3 (if eqI 3 3 then (0, v.2.take 60) else (v.1, [])) = true
    rw [show eqI 3 3 = true from rfl, if_pos rfl]
    exact fits_s _ (by simp; omega)
  · rw [show eqI t 3 = false from eqI_f h]
    exact fits_n h ((kind_eq t).2 ht) v.1
theorem fitR_may : ∀ (ts : List Int) (r : Rv), (∀ t ∈ ts, 1 ≤ t ∧ t ≤ 3) → mayR ts (fitR ts r) = true
  | [], _, _ => rfl
  | t :: ts, r, h => by
    simp only [fitR, mayR, Bool.and_eq_true]
    exact ⟨fitV_fits t _ (h t List.mem_cons_self), fitR_may ts r.tail fun t' h' => h t' (List.mem_cons_of_mem _ h')⟩
theorem fitR_in : ∀ (ts : List Int) (r : Rv), (∀ p ∈ r, i64R p.1) → ∀ p ∈ fitR ts r, i64R p.1 ∧ p.2.length ≤ 60
  | [], _, _, p, hp => by cases hp
  | t :: ts, r, h, p, hp => by
    rcases List.mem_cons.1 hp with rfl | hp
    · have h0 : i64R (r.headD (0, [])).1 := by
        cases r with
        | nil => show i64R 0; unfold i64R; omega
        | cons a r => exact h a List.mem_cons_self
      unfold fitV
      split
      · exact ⟨by show i64R 0; unfold i64R; omega, by simp; omega⟩
      · exact ⟨h0, by simp⟩
    · exact fitR_in ts r.tail (fun q hq => h q (List.mem_of_mem_tail hq)) p hp
/-- The schema of a shape may be. -/
theorem made_ok (ts : List Int) (n k m g : Int) (ht : ts.length = 8) (hts : ∀ x ∈ ts, 0 ≤ x ∧ x < 256) (hn : 0 ≤ n ∧ n < 256) (hk : 0 ≤ k ∧ k < 256) (hm : 0 ≤ m ∧ m < 256) (hg : 0 ≤ g ∧ g < 256) :
    okS (madeS ts n k m g) ∧ (madeS ts n k m g).1.length ≤ 8 ∧ (madeS ts n k m g).2.2.2 ≤ 8 := by
  have hl : (madeS ts n k m g).1.length = (1 + n % 8).toNat := by
    unfold madeS
    simp only [List.length_map, List.length_take]
    omega
  refine ⟨?_, by omega, ?_⟩
  · show schemaOk _ _ _ _ = true
    rw [schemaOk_iff]
    rw [hl]
    refine ⟨by omega, ?_, ?_, ?_, ?_⟩
    · intro t h
      unfold madeS at h
      simp only [List.mem_map] at h
      obtain ⟨x, hx, rfl⟩ := h
      have := hts x (List.mem_of_mem_take hx)
      omega
    · unfold madeS
      simp only
      have h1 := Int.emod_nonneg k (show (1 + n % 8) ≠ 0 by omega)
      have h2 := Int.emod_lt_of_pos k (show (0 : Int) < 1 + n % 8 by omega)
      omega
    · unfold madeS; simp only; omega
    · unfold madeS; simp only; omega
  · unfold madeS; simp only; omega
/-- Rows made to fit, and put in order, may be written. -/
theorem sorted_ok {s : Sc} (hs : okS s) {L : List Rw} (hn : L ≠ []) (hl : L.length ≤ 2000) : OkR s (rowsOfW (sortW s.1 s.2.1 (L.map (fitW s.1)))) := by
  refine ⟨hs, ?_, ?_, ?_, sortW_srt _ _ _⟩
  · intro e
    have := congrArg List.length e
    simp [sortW_len] at this
    exact hn this
  · simp [sortW_len]; exact hl
  · intro x hx
    obtain ⟨y, hy, rfl⟩ := List.mem_map.1 hx
    obtain ⟨z, hz, rfl⟩ := List.mem_map.1 (sortW_mem _ _ _ y hy)
    exact fitR_may _ _ (schemaOk_iff.1 hs).2.1
theorem sorted_in (ts : List Int) (k : Int) {L : List Rw} (h : ∀ x ∈ L, ∀ p ∈ x.r, i64R p.1) : ∀ x ∈ sortW ts k (L.map (fitW ts)), ∀ p ∈ x.r, i64R p.1 ∧ p.2.length ≤ 60 := by
  intro x hx
  obtain ⟨z, hz, rfl⟩ := List.mem_map.1 (sortW_mem _ _ _ x hx)
  exact fitR_in ts z.r (h z hz)
end Go.Ab
/- PLAIN WORDS: the rows that the laws make. -/
set_option linter.all false
set_option maxRecDepth 100000
namespace Go.Ab
open Go.Proofs Go.Proofs.YtomomeabfnmncaaGreatH Go.Proofs.YtomomeabfnmncaaGreatH.Crc Go.Proofs.YtomomeabfnmncaaGreatH.Var Go.Proofs.YtomomeabfnmncaaGreatH.Fr Go.Proofs.YtomomeabfnmncaaGreatH.Rec
/-- The rows that are made: to fit, and in order. -/
def preW (L : List Rw) : List Rw := ⟨true, 2, [], .inl rfl⟩ :: fewL L
def fitsW (s : Sc) (L : List Rw) : List Rw := ((preW L).take 40).map (fitW s.1)
def rowsW (s : Sc) (L : List Rw) : List Rw := sortW s.1 s.2.1 (fitsW s L)
def in64W (L : List Rw) : Prop := ∀ x ∈ L, ∀ p ∈ x.r, i64R p.1
theorem few64 {L : List Rw} (h : in64W L) : in64W (preW L) := by
  intro x hx p hp
  rcases List.mem_cons.1 hx with rfl | hx
  · cases hp
  · obtain ⟨y, hy, rfl⟩ := List.mem_map.1 hx
    obtain ⟨q, hq, rfl⟩ := List.mem_map.1 hp
    exact h y (List.mem_of_mem_take hy) q (List.mem_of_mem_take hq)
theorem fits_in {s : Sc} {L : List Rw} (h : in64W L) : ∀ x ∈ fitsW s L, ∀ p ∈ x.r, i64R p.1 ∧ p.2.length ≤ 60 := by
  intro x hx
  obtain ⟨y, hy, rfl⟩ := List.mem_map.1 hx
  exact fitR_in s.1 y.r (few64 h y (List.mem_of_mem_take hy))
theorem fits_inR {s : Sc} {L : List Rw} (h : in64W L) : ∀ x ∈ fitsW s L, inR x.r := fun x hx p hp => by
  have := fits_in h x hx p hp
  exact ⟨this.1, by omega⟩
theorem fits_len (s : Sc) (L : List Rw) : 1 ≤ (fitsW s L).length ∧ (fitsW s L).length ≤ 40 := by
  unfold fitsW preW
  simp only [List.length_map, List.length_take, List.length_cons]
  omega
theorem rows_len (s : Sc) (L : List Rw) : 1 ≤ (rowsW s L).length ∧ (rowsW s L).length ≤ 40 := by
  unfold rowsW
  rw [sortW_len]
  exact fits_len s L
theorem rows_ok {s : Sc} (hs : okS s) (L : List Rw) : OkR s (rowsOfW (rowsW s L)) := by
  have h := sorted_ok hs (L := (preW L).take 40) (by unfold preW; simp) (by simp; omega)
  exact h
theorem rows_in {s : Sc} {L : List Rw} (h : in64W L) : in64 (rowsOfW (rowsW s L)) := by
  intro x hx p hp
  obtain ⟨y, hy, rfl⟩ := List.mem_map.1 hx
  exact (fits_in h y (sortW_mem _ _ _ y hy) p hp).1
theorem frs_mem {c : List Int} : ∀ {l : List (List Int)}, c ∈ l → (frameI c).length ≤ (frs l).length
  | [], h => by cases h
  | d :: l, h => by
    rw [frs_cons, List.length_append]
    rcases List.mem_cons.1 h with rfl | h
    · omega
    · have := frs_mem h; omega
theorem part_long {s : Sc} {R : List Rv} (h : OkR s R) (h64 : in64 R) : 20 ≤ (writeV s R).length := by
  have hp := parted h h64
  have h1 := frameI_len (putS s.1 s.2.1 s.2.2.1 s.2.2.2)
  have h2 := putI_pos ((putS s.1 s.2.1 s.2.2.1 s.2.2.2).length : Int)
  have h3 := (putS_ok h.ok).2
  have h0 := (schemaOk_iff.1 h.ok).1
  have ht := hp.tl
  obtain ⟨c, hc⟩ : ∃ c, c ∈ paysT s (splitI s.2.2.2.toNat R) := by
    cases hq : paysT s (splitI s.2.2.2.toNat R) with
    | nil => rw [hq] at ht; simp at ht
    | cons c l => exact ⟨c, List.mem_cons_self⟩
  have h8 := fr8 (pays_ok h h64 c (by unfold pays; simp [hc]))
  have hm := frs_mem (l := payG s.1 (splitI s.2.2.2.toNat R) ++ paysT s (splitI s.2.2.2.toNat R)) (c := c) (by simp [hc])
  rw [hp.eq, List.length_append, Fr.le8_len]
  unfold pays
  rw [frs_cons, List.length_append]
  omega
end Go.Ab
/- A ROUND's END that leaves no new object: nothing is gone. -/
set_option linter.all false
namespace Go.Ab
def rsf (p : D × D) : D := match p.2 with | .undef => .undef | _ => p.1
theorem rsf_self (v : D) : rsf (v, v) = v := by cases v <;> rfl
theorem rsf_undef (d : D) : rsf (d, .undef) = .undef := rfl
theorem rsf_int (d : D) (k : IntKind) (n : Int) : rsf (d, .int k n) = d := rfl
theorem rsf_sl (d : D) (a b c e : Nat) : rsf (d, .sl a b c e) = d := rfl
theorem rsf_slc (d : D) (a : Bool) (b : Nat) (c : List D) : rsf (d, .slc a b c) = d := rfl
theorem rsf_bool (d : D) (b : Bool) : rsf (d, .bool b) = d := rfl
theorem rsf_ptr (d : D) (a b c e : Nat) : rsf (d, .ptr a b c e) = d := rfl
theorem rsf_nilptr (d : D) : rsf (d, .nilptr) = d := rfl
theorem rsf_agg (d : D) (a : List D) : rsf (d, .agg a) = d := rfl
theorem reset_full {T0 T : List D} {n0 : Nat} {H : List Obj} (h : H.length = n0) : reset T0 n0 ⟨T, H⟩ = some ⟨(T.zip T0).map rsf, H⟩ := by
  have e : ∀ (T : List (D × D)), (T.map fun (d, d0) => match d0 with | .undef => .undef | _ => d) = T.map rsf := fun T => List.map_congr_left fun p _ => by
    obtain ⟨d, d0⟩ := p
    rfl
  unfold reset
  subst h
  simp only [List.take_length]
  split
  · exact congrArg some (congrArg (fun t => St.mk t H) (e _))
  · exact congrArg some (congrArg (fun t => St.mk t H) (e _))
end Go.Ab
