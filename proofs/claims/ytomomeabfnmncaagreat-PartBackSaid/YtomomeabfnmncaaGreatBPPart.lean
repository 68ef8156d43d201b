/- PLAIN WORDS: parts, of rows alone; what was written is opened. -/
import Derived.Test.YtomomeabfnmncaaGreatBF110
import Derived.Test.YtomomeabfnmncaaGreatBPCrc
set_option linter.all false
set_option maxRecDepth 100000
namespace Go.Ab
open Go.Proofs Go.Proofs.YtomomeabfnmncaaGreatH Go.Proofs.YtomomeabfnmncaaGreatH.Crc Go.Proofs.YtomomeabfnmncaaGreatH.Var Go.Proofs.YtomomeabfnmncaaGreatH.Fr Go.Proofs.YtomomeabfnmncaaGreatH.Rec
abbrev Rv := List Va
abbrev Sc := List Int × Int × Int × Int
def colV (k : Nat) (R : List Rv) : List Va := R.map fun x => x.getD k (0, [])
def colsV (R : List Rv) : Nat → List Int → List Int
  | _, [] => []
  | k, t :: ts => blkO t (colV k R) ++ colsV R (k + 1) ts
def gransV (ts : List Int) (G : List (List Rv)) : List Int := G.flatMap fun x => colsV x 0 ts
def placesV (ts : List Int) : Nat → List (List Rv) → List Va
  | _, [] => []
  | o, x :: G => ((o : Int), []) :: placesV ts (o + (colsV x 0 ts).length) G
def marksV (k : Nat) (G : List (List Rv)) : List Rv := G.map fun x => (x.headD []).take k
def headV (s : Sc) (G : List (List Rv)) : List Int := frameI (putS s.1 s.2.1 s.2.2.1 s.2.2.2) ++ gransV s.1 G
/-- What is behind the granules. -/
def tailV (s : Sc) (G : List (List Rv)) : List Int :=
  colsV (marksV s.2.1.toNat G) 0 (s.1.take s.2.1.toNat) ++ (blkO 2 (placesV s.1 (frameI (putS s.1 s.2.1 s.2.2.1 s.2.2.2)).length G) ++ Fr.le8 ((headV s G).length : Nat))
def writeV (s : Sc) (R : List Rv) : List Int := headV s (splitI s.2.2.2.toNat R) ++ tailV s (splitI s.2.2.2.toNat R)
abbrev okS (s : Sc) : Prop := schemaOk s.1 s.2.1 s.2.2.1 s.2.2.2 = true
/-- The rows of flagged ones. -/
abbrev rowsOfW (L : List Rw) : List Rv := L.map Rw.r
theorem colR_V (k : Nat) (L : List Rw) : colR k L = colV k (rowsOfW L) := by unfold colR colV rowsOfW; rw [List.map_map]; rfl
theorem colsI_V (L : List Rw) : ∀ (ts : List Int) (k : Nat), colsI L k ts = colsV (rowsOfW L) k ts
  | [], _ => rfl
  | t :: ts, k => by simp only [colsI, colsV]; rw [colsI_V L ts, colR_V]
theorem grans_V (ts : List Int) (G : List (List Rw)) : gransI ts G = gransV ts (G.map rowsOfW) := by
  unfold gransI gransV
  rw [List.flatMap_map]
  congr 1
  funext x
  exact colsI_V x ts 0
theorem places_V (ts : List Int) : ∀ (G : List (List Rw)) (o : Nat), placesI ts o G = placesV ts o (G.map rowsOfW)
  | [], _ => rfl
  | x :: G, o => by simp only [placesI, placesV, List.map_cons]; rw [places_V ts G, colsI_V]
theorem marks_V (k : Nat) (G : List (List Rw)) : rowsOfW (G.map (markR k)) = marksV k (G.map rowsOfW) := by
  unfold marksV rowsOfW
  rw [List.map_map, List.map_map]
  refine List.map_congr_left fun x _ => ?_
  cases x <;> rfl
theorem write_V (ts : List Int) (k m g : Int) (hg : 1 ≤ g) (L : List Rw) : writeB ts k m g L = writeV (ts, k, m, g) (rowsOfW L) := by
  unfold writeB writeG writeV tailV headB headV
  simp only
  rw [show splitI g.toNat (rowsOfW L) = (splitI g.toNat L).map rowsOfW from splitI_map Rw.r g.toNat (by omega) L.length L (Nat.le_refl _)]
  rw [grans_V, colsI_V, marks_V, places_V]
/-- What is wrong of rows, of rows alone. -/
def okAtV (ts : List Int) (k : Int) (R : List Rv) (j : Nat) : Bool := !ltI (cmpK ts k (R.getD (j + 1) []) (R.getD j [])) 0
def srtV (ts : List Int) (k : Int) (R : List Rv) : Bool := (List.range (R.length - 1)).all (okAtV ts k R)
theorem srt_V (ts : List Int) (k : Int) (L : List Rw) : srt ts k L (L.length - 1) = srtV ts k (rowsOfW L) := by
  unfold srt srtV
  rw [show (rowsOfW L).length = L.length by simp]
  congr 1
  funext j
  unfold okAt okAtV
  simp [List.getD_eq_getElem?_getD]
def wErrV (s : Sc) (R : List Rv) : Int :=
  if checkI s.1 s.2.1 s.2.2.1 s.2.2.2 ≠ 0 then 20
  else if R = [] ∨ 2000 < R.length then 1
  else if (R.any fun x => !mayR s.1 x) = true then 21
  else if srtV s.1 s.2.1 R = false then 1
  else 0
theorem wErr_V (ts : List Int) (k m g : Int) (L : List Rw) : wErr ts k m g L = wErrV (ts, k, m, g) (rowsOfW L) := by
  unfold wErr wErrV
  rw [srt_V]
  simp only
  have e1 : (rowsOfW L = [] ∨ 2000 < (rowsOfW L).length) = (L = [] ∨ 2000 < L.length) := by simp
  have e2 : ((rowsOfW L).any fun x => !mayR ts x) = (L.any fun x => !mayR ts x.r) := by simp [List.any_map, Function.comp_def]
  simp only [e1, e2]
theorem rowsOfW_F (R : List Rv) : rowsOfW (R.map rwF) = R := by unfold rowsOfW; rw [List.map_map]; exact (List.map_congr_left (fun _ _ => rfl)).trans (List.map_id R)
/-- Rows that may be written. -/
structure OkR (s : Sc) (R : List Rv) : Prop where
  ok : okS s
  ne : R ≠ []
  len : R.length ≤ 2000
  may : ∀ x ∈ R, mayR s.1 x = true
  srt : srtV s.1 s.2.1 R = true
theorem wErr_iff {s : Sc} {R : List Rv} : wErrV s R = 0 ↔ OkR s R := by
  unfold wErrV
  constructor
  · intro h
    split at h
    · cases h
    · rename_i h1
      split at h
      · cases h
      · rename_i h2
        split at h
        · cases h
        · rename_i h3
          split at h
          · cases h
          · rename_i h4
            refine ⟨?_, fun e => h2 (.inl e), by omega, ?_, by simpa using h4⟩
            · unfold okS
              unfold checkI at h1
              cases hs : schemaOk s.1 s.2.1 s.2.2.1 s.2.2.2 with
              | true => rfl
              | false => rw [hs] at h1; exact absurd (by decide) h1
            · intro x hx
              have h3 : (R.any fun x => !mayR s.1 x) = false := by simpa using h3
              rw [List.any_eq_false] at h3
              simpa using h3 x hx
  · rintro ⟨h1, h2, h3, h4, h5⟩
    rw [if_neg (by unfold checkI; unfold okS at h1; rw [h1]; simp), if_neg (by simp [h2]; omega), if_neg, if_neg (by simp [h5])]
    have : (R.any fun x => !mayR s.1 x) = false := by
      rw [List.any_eq_false]
      intro x hx
      simp [h4 x hx]
    simp [this]
theorem openV (b : List Int) (s : Sc) (R : List Rv) : openI b = some (s, R) → wErrV s R = 0 ∧ writeV s R = b := by
  unfold openI
  intro h
  split at h
  · cases h
  · split at h
    · cases h
    · rename_i h2
      split at h
      · cases h
      · split at h
        · rename_i hc
          simp only [Option.some.injEq, Prod.mk.injEq] at h
          obtain ⟨h3, rfl⟩ := h
          generalize hu : unframeI b = u at *
          have hs : (schT u.1).2 = 0 := by by_cases h : (schT u.1).2 = 0; exact h; exact absurd (.inl h) h2
          have hok := schT_ok hs
          rw [wErr_V, write_V _ _ _ _ (schemaOk_iff.1 hok).2.2.2.2.1, rowsOfW_F] at hc
          rw [← h3]
          exact hc
        · cases h
end Go.Ab
/- PLAIN WORDS: what was written is opened. -/
set_option linter.all false
set_option maxRecDepth 100000
namespace Go.Ab
open Go.Proofs Go.Proofs.YtomomeabfnmncaaGreatH Go.Proofs.YtomomeabfnmncaaGreatH.Crc Go.Proofs.YtomomeabfnmncaaGreatH.Var Go.Proofs.YtomomeabfnmncaaGreatH.Fr Go.Proofs.YtomomeabfnmncaaGreatH.Rec
theorem mayR_get : ∀ (ts : List Int) (r : Rv), mayR ts r = true → ∀ (j : Nat) (t : Int), ts[j]? = some t → fitsI t (r.getD j (0, [])) = true
  | [], _, _, j, t, h => by simp at h
  | t0 :: ts, [], h, _, _, _ => by simp [mayR] at h
  | t0 :: ts, p :: r, h, j, t, hj => by
    simp only [mayR, Bool.and_eq_true] at h
    cases j with
    | zero => simp at hj; subst hj; simpa using h.1
    | succ j => simpa using mayR_get ts r h.2 j t (by simpa using hj)
/-- Numbers of 64 bits. -/
def in64 (R : List Rv) : Prop := ∀ x ∈ R, ∀ p ∈ x, i64R p.1
theorem colV_in {R : List Rv} (h : in64 R) (k : Nat) : ∀ p ∈ colV k R, i64R p.1 := by
  intro p hp
  obtain ⟨x, hx, rfl⟩ := List.mem_map.1 hp
  rw [List.getD_eq_getElem?_getD]
  cases hg : x[k]? with
  | none => unfold i64R; simp
  | some q => exact h x hx q (List.mem_of_getElem? hg)
theorem colV_ok {ts : List Int} {R : List Rv} (hm : ∀ x ∈ R, mayR ts x = true) (hl : R.length ≤ 2000) {j : Nat} {t : Int} (ht : ts[j]? = some t) (hk : 1 ≤ t ∧ t ≤ 3) : blockOk t (colV j R) = true := by
  rw [blockOk_eq]
  refine ⟨(kind_eq t).2 hk, by unfold colV; simpa using hl, ?_⟩
  intro p hp
  obtain ⟨x, hx, rfl⟩ := List.mem_map.1 hp
  exact mayR_get ts x (hm x hx) j t ht
def colsL (R : List Rv) : Nat → List Int → List (List Va)
  | _, [] => []
  | k, _ :: ts => colV k R :: colsL R (k + 1) ts
theorem colsL_len (R : List Rv) : ∀ (ts : List Int) (k : Nat), (colsL R k ts).length = ts.length
  | [], _ => rfl
  | t :: ts, k => by simp [colsL, colsL_len R ts]
theorem colsL_get (R : List Rv) : ∀ (ts : List Int) (k j : Nat), j < ts.length → (colsL R k ts)[j]? = some (colV (k + j) R)
  | [], _, _, h => by simp at h
  | t :: ts, k, 0, _ => by simp [colsL]
  | t :: ts, k, j + 1, h => by
    simp only [colsL, List.getElem?_cons_succ]
    rw [colsL_get R ts (k + 1) j (by simpa using h), show k + 1 + j = k + (j + 1) by omega]
theorem takeC_cols {R : List Rv} (h64 : in64 R) : ∀ (ts : List Int) (k : Nat) (rest : List Int), (∀ (j : Nat) (t : Int), ts[j]? = some t → blockOk t (colV (k + j) R) = true) → takeC ts (colsV R k ts ++ rest) = some (colsL R k ts, rest)
  | [], _, _, _ => rfl
  | t :: ts, k, rest, h => by
    have h0 := h 0 t rfl
    have hb : blkO t (colV k R) = blockI t (colV k R) := if_pos h0
    have ht := take_put t (colV k R) h0 (colV_in h64 k) (colsV R (k + 1) ts ++ rest)
    have ih := takeC_cols h64 ts (k + 1) rest (fun j t' hj => by
      have := h (j + 1) t' (by simpa using hj)
      rwa [show k + (j + 1) = k + 1 + j by omega] at this)
    simp only [colsV, colsL, takeC, hb, List.append_assoc, ht]
    rw [if_neg (by simp), Int.toNat_natCast, List.drop_left, ih]
    rfl
theorem rowsOf_cols {ts : List Int} (hn : ts ≠ []) {R : List Rv} (hl : ∀ x ∈ R, x.length = ts.length) : rowsOf (colsL R 0 ts) = some R := by
  have hlen := colsL_len R ts 0
  have hget := colsL_get R ts 0
  have hall : ∀ y ∈ colsL R 0 ts, y.length = R.length := by
    intro y hy
    obtain ⟨j, hj⟩ := List.mem_iff_getElem?.1 hy
    have hjl : j < ts.length := by
      have := (List.getElem?_eq_some_iff.1 hj).1
      omega
    rw [hget j hjl] at hj
    simp only [Option.some.injEq] at hj
    rw [← hj]; simp [colV]
  generalize hC : colsL R 0 ts = C at *
  cases C with
  | nil => exfalso; simp at hlen; exact hn (List.eq_nil_of_length_eq_zero hlen.symm)
  | cons c C =>
    have hc : c.length = R.length := hall c List.mem_cons_self
    unfold rowsOf
    simp only
    rw [if_pos (by
      rw [List.all_eq_true]
      intro y hy
      simp [hall y hy, hc])]
    simp only [Option.some.injEq]
    refine List.ext_getElem (by simp [hc]) fun i h1 h2 => ?_
    simp only [List.getElem_map, List.getElem_range]
    refine List.ext_getElem (by simp [hl _ (List.getElem_mem h2)]; simpa using hlen) fun j g1 g2 => ?_
    rw [List.getElem_map]
    have hjl : j < ts.length := by rw [List.length_map] at g1; omega
    have e : (c :: C)[j]? = some (colV j R) := by have := hget j hjl; rwa [Nat.zero_add] at this
    have e2 : (c :: C)[j]'(by simpa using g1) = colV j R := by
      rw [List.getElem?_eq_getElem (by simpa using g1)] at e
      exact Option.some.inj e
    rw [e2]
    have e3 : (colV j R)[i]? = some (R[i].getD j (0, [])) := by
      unfold colV
      rw [List.getElem?_map, List.getElem?_eq_getElem h2]; rfl
    rw [e3, Option.getD_some, List.getD_eq_getElem?_getD, List.getElem?_eq_getElem g2]
    rfl
theorem colsV_pos {R : List Rv} {ts : List Int} (hn : ts ≠ []) (h : ∀ (j : Nat) (t : Int), ts[j]? = some t → blockOk t (colV j R) = true) : 0 < (colsV R 0 ts).length := by
  cases ts with
  | nil => exact absurd rfl hn
  | cons t ts =>
    have h0 := h 0 t rfl
    have hb : blkO t (colV 0 R) = blockI t (colV 0 R) := if_pos h0
    simp only [colsV, hb, List.length_append]
    unfold blockI
    rw [frameI_len]
    omega
theorem readI_grans {ts : List Int} (hn : ts ≠ []) (hts : ∀ t ∈ ts, 1 ≤ t ∧ t ≤ 3) (tail : List Int) : ∀ (G : List (List Rv)) (acc : List Rv) (fuel : Nat), (∀ x ∈ G, in64 x ∧ x.length ≤ 2000 ∧ ∀ r ∈ x, mayR ts r = true) → (acc ++ G.flatten).length ≤ 2000 → (gransV ts G ++ tail).length ≤ fuel →
    readI ts tail.length fuel (gransV ts G ++ tail) acc = some (acc ++ G.flatten)
  | [], acc, fuel, _, _, _ => by
    have e : gransV ts [] ++ tail = tail := rfl
    rw [e, List.flatten_nil, List.append_nil]
    cases fuel with
    | zero => simp [readI]
    | succ n => simp [readI]
  | x :: G, acc, fuel, h, hl, hf => by
    obtain ⟨h1, h2, h3⟩ := h x List.mem_cons_self
    have hok : ∀ (j : Nat) (t : Int), ts[j]? = some t → blockOk t (colV j x) = true := fun j t hj => colV_ok h3 h2 hj (hts t (List.mem_of_getElem? hj))
    have hpos := colsV_pos hn hok
    have e : gransV ts (x :: G) ++ tail = colsV x 0 ts ++ (gransV ts G ++ tail) := by simp [gransV]
    have hT : takeT ts (colsV x 0 ts ++ (gransV ts G ++ tail)) = some (x, gransV ts G ++ tail) := by
      unfold takeT
      rw [takeC_cols h1 ts 0 _ (fun j t hj => by rw [Nat.zero_add]; exact hok j t hj)]
      simp only
      rw [rowsOf_cols hn (fun r hr => mayR_len ts r (h3 r hr))]
      rfl
    rw [e] at hf ⊢
    obtain ⟨n, rfl⟩ : ∃ n, fuel = n + 1 := ⟨fuel - 1, by simp at hf; omega⟩
    simp only [readI]
    rw [if_neg (by simp; omega), hT]
    simp only
    rw [if_neg (by simp at hl; omega), readI_grans hn hts tail G (acc ++ x) n (fun y hy => h y (List.mem_cons_of_mem _ hy)) (by simpa using hl) (by simp at hf ⊢; omega)]
    simp
theorem splitI_flat {α : Type} (g : Nat) (hg : 1 ≤ g) : ∀ (n : Nat) (L : List α), L.length ≤ n → (splitI g L).flatten = L
  | _, [], _ => by simp [splitI_nil]
  | 0, a :: l, h => by simp at h
  | n + 1, a :: l, h => by
    rw [splitI_cons g hg (a :: l) (by simp), List.flatten_cons, splitI_flat g hg n ((a :: l).drop g) (by simp at h ⊢; omega), List.take_append_drop]
theorem splitV_mem {α : Type} (g : Nat) (hg : 1 ≤ g) : ∀ (n : Nat) (L : List α), L.length ≤ n → ∀ x ∈ splitI g L, x ≠ [] ∧ x.length ≤ g ∧ ∀ y ∈ x, y ∈ L
  | _, [], _, x, hx => by simp [splitI_nil] at hx
  | 0, a :: l, h, x, hx => by simp at h
  | n + 1, a :: l, h, x, hx => by
    rw [splitI_cons g hg (a :: l) (by simp)] at hx
    rcases List.mem_cons.1 hx with rfl | hx
    · obtain ⟨g', rfl⟩ : ∃ g', g = g' + 1 := ⟨g - 1, by omega⟩
      exact ⟨by simp, by simp; omega, fun y hy => List.mem_of_mem_take hy⟩
    · obtain ⟨h1, h2, h3⟩ := splitV_mem g hg n ((a :: l).drop g) (by simp at h ⊢; omega) x hx
      exact ⟨h1, h2, fun y hy => List.mem_of_mem_drop (h3 y hy)⟩
theorem leN_le8 (n : Nat) (h : n < 2 ^ 64) : leN (Fr.le8 (n : Int)) = n := by
  have e : Fr.le8 (n : Int) = (List.range 8).map fun i => ((n / 2 ^ (8 * i) % 256 : Nat) : Int) := by
    unfold Fr.le8
    refine List.map_congr_left fun i _ => ?_
    have e : ((2 : Int) ^ (8 * i)) = ((2 ^ (8 * i) : Nat) : Int) := by simp
    rw [e, ← Int.natCast_ediv]
    exact (Int.natCast_emod _ _).symm
  rw [e, leN_digits, Nat.mod_eq_of_lt (by simpa using h)]
theorem colsV_len (R : List Rv) : ∀ (ts : List Int) (k : Nat), (colsV R k ts).length ≤ 200020 * ts.length
  | [], _ => by simp [colsV]
  | t :: ts, k => by
    have h1 := colsV_len R ts (k + 1)
    have h2 := blkO_len t (colV k R)
    simp only [colsV, List.length_append, List.length_cons]
    omega
theorem gransV_len (ts : List Int) : ∀ (G : List (List Rv)), (gransV ts G).length ≤ 200020 * ts.length * G.length
  | [] => by simp [gransV]
  | x :: G => by
    have h1 := gransV_len ts G
    have h2 := colsV_len x ts 0
    have e : gransV ts (x :: G) = colsV x 0 ts ++ gransV ts G := by simp [gransV]
    rw [e, List.length_append, List.length_cons, Nat.mul_succ]
    omega
theorem headV_len {s : Sc} (hs : okS s) {G : List (List Rv)} (hG : G.length ≤ 2000) : (headV s G).length ≤ 2 ^ 36 := by
  have hl := (schemaOk_iff.1 hs).1.2
  have h1 := gransV_len s.1 G
  have h2 : (gransV s.1 G).length ≤ 200020 * 64 * 2000 := Nat.le_trans h1 (Nat.mul_le_mul (Nat.mul_le_mul_left _ hl) hG)
  have h3 := frameI_len (putS s.1 s.2.1 s.2.2.1 s.2.2.2)
  have h4 := putS_len s.1 s.2.1 s.2.2.1 s.2.2.2 hs
  have h5 := putI_len10 ((putS s.1 s.2.1 s.2.2.1 s.2.2.2).length : Int) (by omega)
  unfold headV
  rw [List.length_append]
  omega
/-- What was written is opened. -/
theorem open_write {s : Sc} {R : List Rv} (h : OkR s R) (h64 : in64 R) : openI (writeV s R) = some (s, R) := by
  obtain ⟨ts, k, m, g⟩ := s
  obtain ⟨hok, hne, hlen, hmay, hsrt⟩ := h
  have hE : wErrV (ts, k, m, g) R = 0 := wErr_iff.2 ⟨hok, hne, hlen, hmay, hsrt⟩
  simp only at hmay hsrt
  obtain ⟨hl1, ht1, hk1, hm1, hg1⟩ := schemaOk_iff.1 hok
  simp only at hl1 ht1 hk1 hm1 hg1
  have htn : ts ≠ [] := by intro e; subst e; simp at hl1
  have hG1 : 1 ≤ g.toNat := by omega
  have hSp := splitV_mem g.toNat hG1 R.length R (Nat.le_refl _)
  have hFl := splitI_flat g.toNat hG1 R.length R (Nat.le_refl _)
  have hSl := splitI_len g.toNat hG1 R.length R (Nat.le_refl _)
  have hHl := headV_len hok (G := splitI g.toNat R) (by omega)
  have hW : writeV (ts, k, m, g) R = frameI (putS ts k m g) ++ (gransV ts (splitI g.toNat R) ++ tailV (ts, k, m, g) (splitI g.toNat R)) := by
    unfold writeV headV; simp only [List.append_assoc]
  have hps := putS_len ts k m g hok
  have hu := unframe_frame (putS ts k m g) (gransV ts (splitI g.toNat R) ++ tailV (ts, k, m, g) (splitI g.toNat R)) (by omega)
  rw [← hW] at hu
  have hsT := schT_put hok
  have hwl : (writeV (ts, k, m, g) R).length = (headV (ts, k, m, g) (splitI g.toNat R)).length + (tailV (ts, k, m, g) (splitI g.toNat R)).length := by
    unfold writeV; simp only [List.length_append]
  obtain ⟨Y, hY⟩ : ∃ Y, tailV (ts, k, m, g) (splitI g.toNat R) = Y ++ Fr.le8 ((headV (ts, k, m, g) (splitI g.toNat R)).length : Nat) := ⟨_, by unfold tailV; rw [← List.append_assoc]⟩
  have h8 := Fr.le8_len ((headV (ts, k, m, g) (splitI g.toNat R)).length : Nat)
  have htl : (tailV (ts, k, m, g) (splitI g.toNat R)).length = Y.length + 8 := by rw [hY, List.length_append, h8]
  have hfrom : fromI (writeV (ts, k, m, g) R) = (headV (ts, k, m, g) (splitI g.toNat R)).length := by
    have e : writeV (ts, k, m, g) R = (headV (ts, k, m, g) (splitI g.toNat R) ++ Y) ++ Fr.le8 ((headV (ts, k, m, g) (splitI g.toNat R)).length : Nat) := by
      unfold writeV; simp only; rw [hY, List.append_assoc]
    unfold fromI
    rw [show (writeV (ts, k, m, g) R).length - 8 = (headV (ts, k, m, g) (splitI g.toNat R) ++ Y).length by rw [hwl, htl, List.length_append]; omega]
    conv => lhs; arg 1; arg 2; arg 2; rw [e]
    rw [List.drop_left, List.take_of_length_le (by omega), leN_le8 _ (by omega)]
  have hdrop : (writeV (ts, k, m, g) R).drop (frameI (putS ts k m g)).length = gransV ts (splitI g.toNat R) ++ tailV (ts, k, m, g) (splitI g.toNat R) := by rw [hW, List.drop_left]
  have hrd := readI_grans htn ht1 (tailV (ts, k, m, g) (splitI g.toNat R)) (splitI g.toNat R) [] (gransV ts (splitI g.toNat R) ++ tailV (ts, k, m, g) (splitI g.toNat R)).length (fun x hx => by
    obtain ⟨_, h1, h2⟩ := hSp x hx
    exact ⟨fun r hr => h64 r (h2 r hr), by have : g.toNat ≤ 64 := by omega
                                           omega, fun r hr => hmay r (h2 r hr)⟩) (by rw [List.nil_append, hFl]; exact hlen) (Nat.le_refl _)
  rw [List.nil_append, hFl] at hrd
  unfold openI
  rw [hu]
  simp only [hsT, Int.toNat_natCast, hdrop, hfrom]
  rw [if_neg (by simp; omega), if_neg (by simp; omega)]
  rw [show (writeV (ts, k, m, g) R).length - (headV (ts, k, m, g) (splitI g.toNat R)).length = (tailV (ts, k, m, g) (splitI g.toNat R)).length by omega, hrd]
  simp only
  rw [if_pos]
  rw [wErr_V, write_V _ _ _ _ hg1.1, rowsOfW_F]
  exact ⟨hE, rfl⟩
end Go.Ab
/- PLAIN WORDS: columns are told where they end; a frame with one byte that is another one. -/
set_option linter.all false
set_option maxRecDepth 100000
namespace Go.Ab
open Go.Proofs Go.Proofs.YtomomeabfnmncaaGreatH Go.Proofs.YtomomeabfnmncaaGreatH.Crc Go.Proofs.YtomomeabfnmncaaGreatH.Var Go.Proofs.YtomomeabfnmncaaGreatH.Fr Go.Proofs.YtomomeabfnmncaaGreatH.Rec
/-! ### columns end by themselves -/
theorem wide_more : ∀ (l R : List Int), (∀ x ∈ l, i64R x) → wideI l.length (fixedI l ++ R) = some l
  | [], R, _ => by simp [wideI]
  | x :: l, R, h => by
    have hx := h x List.mem_cons_self
    have ih := wide_more l R fun y hy => h y (List.mem_cons_of_mem _ hy)
    rw [fixed_cons]
    obtain ⟨u, hu⟩ : ∃ u : Nat, IntKind.u64.wrap x = u := ⟨(IntKind.u64.wrap x).toNat, by rw [IntKind.wrap_u64]; omega⟩
    have hu64 : u < 2 ^ 64 := by rw [IntKind.wrap_u64] at hu; omega
    rw [hu, le8_digits]
    have hd := leN_digits 8 u
    rw [Nat.mod_eq_of_lt (by simpa using hu64)] at hd
    generalize hD : ((List.range 8).map fun i => ((u / 2 ^ (8 * i) % 256 : Nat) : Int)) = D8 at *
    have hDl : D8.length = 8 := by rw [← hD]; simp
    rw [List.length_cons]
    simp only [wideI]
    rw [List.append_assoc, if_neg (by simp [hDl]), List.drop_left' hDl, List.take_left' hDl, ih, hd]
    simp only [Option.map_some, Option.some.injEq, List.cons.injEq, and_true]
    unfold i64R at hx
    rw [IntKind.wrap_u64] at hu
    rw [IntKind.wrap_i64]
    omega
theorem steps_more : ∀ (l : List Int) (w : Int) (R : List Int), (∀ x ∈ l, i64R x) → i64R w → stepsI l.length w (deltaI w l ++ R) = some l
  | [], _, _, _, _ => by simp [stepsI]
  | n :: l, w, R, h, hw => by
    have hn := h n List.mem_cons_self
    have ih := steps_more l n R (fun y hy => h y (List.mem_cons_of_mem _ hy)) hn
    have hz := zig_range _ (subI_range n w)
    unfold u64R at hz
    have hv := varI_put (zigI (subI n w)) hz.1 (by omega) (deltaI n l ++ R)
    have hp := putI_pos (zigI (subI n w))
    rw [List.length_cons, show deltaI w (n :: l) = putI (zigI (subI n w)) ++ deltaI n l from rfl, List.append_assoc]
    simp only [stepsI]
    rw [hv]
    simp only [zag_zig, add_sub_I hw hn]
    rw [if_neg (by omega), List.drop_left' (by simp), ih]
    rfl
theorem ints_more {l : List Int} (hl : l.length ≤ 2000) (h : ∀ x ∈ l, i64R x) (R : List Int) : rawI (intsI l ++ R) = some l := by
  unfold intsI
  split
  · rw [List.append_assoc, List.cons_append, raw_put _ hl, if_pos rfl]; exact steps_more l 0 R h (by unfold i64R; omega)
  · rw [List.append_assoc, List.cons_append, raw_put _ hl, if_neg (by omega)]; exact wide_more l R h
theorem rawT_dict_more (l : List Tx) (hl : l.length ≤ 2000) (h : ∀ s ∈ l, s.length ≤ 60) (R : List Int) : rawT (l.length : Int) 1 (dictI l ++ R) = (l, R, false) := by
  unfold rawT
  rw [if_pos rfl]
  have hWl := wd_len l []
  have hWm : ∀ s ∈ wd [] l, s.length ≤ 60 := fun s hs => by
    rcases wd_mem l [] s hs with h' | h'
    · cases h'
    · exact h s h'
  have hd : dictI l ++ R = putI (wd [] l).length ++ (eachI (wd [] l) ++ (pl [] l ++ R)) := by unfold dictI; rw [dict_eq]; simp
  have hw := some_words l [] R (by simp at hWl; omega)
  have he := some_each (wd [] l) (pl [] l ++ R) hWm
  have hq : wordsT (l.length : Int) (dictI l ++ R) = (wd [] l, pl [] l ++ R, false) := by
    unfold wordsT
    have hn := numT_put (b := ((l.length : Int) + 1).toNat) (n := (wd [] l).length) (by simp at hWl; omega) (by simp at hWl; omega) (eachI (wd [] l) ++ (pl [] l ++ R))
    rw [hd, hn]
    simp only [Int.toNat_natCast]
    exact he
  rw [hq]
  simp only [Int.toNat_natCast]
  exact hw
theorem rawT_each_more (l : List Tx) (h : ∀ s ∈ l, s.length ≤ 60) (R : List Int) : rawT (l.length : Int) 0 (eachI l ++ R) = (l, R, false) := by
  unfold rawT
  rw [if_neg (by omega)]
  simpa using some_each l R h
/-- Texts as they are told, whatever is behind. -/
def toldT (l : List Int) : List Tx := (rawT (numT 2001 l false).1 ((numT 2001 l false).2.1.headD 0) (numT 2001 l false).2.1.tail).1
theorem texts_more {l : List Tx} (hl : l.length ≤ 2000) (h : ∀ s ∈ l, s.length ≤ 60) (R : List Int) : toldT (textsI l ++ R) = l := by
  have key : ∀ (w : Int) (r : List Int), rawT (l.length : Int) w (r ++ R) = (l, R, false) → textsI l = putI l.length ++ (w :: r) → toldT (textsI l ++ R) = l := by
    intro w r h1 h2
    have hn := numT_put (b := 2001) (n := l.length) (by omega) (by omega) (w :: r ++ R)
    unfold toldT
    rw [h2, List.append_assoc, hn]
    simp only [List.cons_append, List.headD_cons, List.tail_cons, h1]
  by_cases hc : (dictI l).length < (eachI l).length
  · exact key 1 (dictI l) (rawT_dict_more l hl h R) (by unfold textsI; rw [if_pos hc])
  · exact key 0 (eachI l) (rawT_each_more l h R) (by unfold textsI; rw [if_neg hc])
/-- A column's bytes within a frame, of n values at most. -/
def PayN (n : Nat) (c : List Int) : Prop := ∃ (t : Int) (l : List Va), c = t :: colI t l ∧ blockOk t l = true ∧ (∀ p ∈ l, i64R p.1) ∧ l.length ≤ n
theorem col_more {t : Int} {l l' : List Va} (h : blockOk t l = true) (h' : blockOk t l' = true) (hr : ∀ p ∈ l, i64R p.1) (hr' : ∀ p ∈ l', i64R p.1) {R R' : List Int} (e : colI t l ++ R = colI t l' ++ R') : colI t l = colI t l' := by
  obtain ⟨_, hl, hf⟩ := (blockOk_eq t l).1 h
  obtain ⟨_, hl', hf'⟩ := (blockOk_eq t l').1 h'
  unfold colI at e ⊢
  by_cases ht : t = 3
  · subst ht
    have hz : eqI 3 3 = true := rfl
    rw [hz] at e ⊢
    simp only [if_true] at e ⊢
    have m : ∀ (l : List Va), (∀ p ∈ l, fitsI 3 p = true) → ∀ s ∈ l.map (·.2), s.length ≤ 60 := fun l hf s hs => by
      obtain ⟨p, hp, rfl⟩ := List.mem_map.1 hs
      exact (fits3 (hf p hp)).2
    have h1 := texts_more (l := l.map (·.2)) (by simpa using hl) (m l hf) R
    have h2 := texts_more (l := l'.map (·.2)) (by simpa using hl') (m l' hf') R'
    rw [e, h2] at h1
    rw [h1]
  · have hz : eqI t 3 = false := eqI_f ht
    rw [hz] at e ⊢
    simp only [Bool.false_eq_true, if_false] at e ⊢
    have m : ∀ (l : List Va), (∀ p ∈ l, i64R p.1) → ∀ s ∈ l.map (·.1), i64R s := fun l hf s hs => by
      obtain ⟨p, hp, rfl⟩ := List.mem_map.1 hs
      exact hf p hp
    have h1 := ints_more (l := l.map (·.1)) (by simpa using hl) (m l hr) R
    have h2 := ints_more (l := l'.map (·.1)) (by simpa using hl') (m l' hr') R'
    rw [e, h2] at h1
    rw [Option.some.inj h1]
theorem pay_more {n n' : Nat} {c c' R R' : List Int} (h : PayN n c) (h' : PayN n' c') (e : c ++ R = c' ++ R') : c = c' := by
  obtain ⟨t, l, rfl, h1, h2, _⟩ := h
  obtain ⟨t', l', rfl, h1', h2', _⟩ := h'
  simp only [List.cons_append, List.cons.injEq] at e
  obtain ⟨rfl, e⟩ := e
  rw [col_more h1 h1' h2 h2' e]
/-- A column is a number of values, a way, and the rest. -/
theorem col_form (t : Int) (l : List Va) : ∃ (w : Int) (d : List Int), (w = 0 ∨ w = 1) ∧ colI t l = putI l.length ++ (w :: d) := by
  unfold colI
  split
  · unfold textsI
    rw [List.length_map]
    split
    · exact ⟨1, _, .inr rfl, rfl⟩
    · exact ⟨0, _, .inl rfl, rfl⟩
  · unfold intsI
    rw [List.length_map]
    split
    · exact ⟨1, _, .inr rfl, rfl⟩
    · exact ⟨0, _, .inl rfl, rfl⟩
theorem pay_len {n : Nat} (hn : n ≤ 2000) {c : List Int} (h : PayN n c) : c.length ≤ 22 + 80 * n := by
  obtain ⟨t, l, rfl, h1, _, h3⟩ := h
  obtain ⟨_, hl, hf⟩ := (blockOk_eq t l).1 h1
  unfold colI
  split
  · have := texts_len (l.map (·.2)) 60 (by omega) (by simp; omega) (by intro s hs; obtain ⟨p, hp, rfl⟩ := List.mem_map.1 hs; exact fits60 (hf p hp))
    simp only [List.length_map] at this
    simp only [List.length_cons]
    omega
  · have := ints_len (l.map (·.1)) (by simp; omega)
    simp only [List.length_map] at this
    simp only [List.length_cons]
    omega
theorem putI_lt {n : Nat} (h : n < 128) : putI (n : Int) = [(n : Int)] := putI_small h
theorem putI_two {n : Nat} (h : 128 ≤ n) (h2 : n < 16384) : putI (n : Int) = [((n % 128 + 128 : Nat) : Int), ((n / 128 : Nat) : Int)] := by
  unfold putI
  rw [Int.toNat_natCast, putN_big (by omega), putN_small (by omega)]
  rfl
theorem putI_head {n : Nat} {y : Int} {r r' : List Int} (e : putI (n : Int) ++ r = y :: r') (h : y < 128) : y = n ∧ r = r' := by
  by_cases hn : n < 128
  · rw [putI_lt hn] at e
    simp only [List.cons_append, List.nil_append, List.cons.injEq] at e
    exact ⟨e.1.symm, e.2⟩
  · exfalso
    unfold putI at e
    rw [Int.toNat_natCast, putN_big hn] at e
    simp only [ints, List.map_cons, List.cons_append, List.cons.injEq] at e
    omega
theorem pay_t {n : Nat} {c : List Int} (h : PayN n c) : ∃ (t : Int) (m : Nat) (w : Int) (d : List Int), c = t :: (putI (m : Int) ++ (w :: d)) ∧ (1 ≤ t ∧ t ≤ 3) ∧ (w = 0 ∨ w = 1) ∧ m ≤ n ∧ PayN m c := by
  obtain ⟨t, l, rfl, h1, h2, h3⟩ := h
  obtain ⟨w, d, hw, e⟩ := col_form t l
  exact ⟨t, l.length, w, d, by rw [e], (kind_eq t).1 ((blockOk_eq t l).1 h1).1, hw, h3, t, l, rfl, h1, h2, Nat.le_refl _⟩
/-- A byte later: then the later one has one value at most. -/
theorem pay_later {n n' : Nat} {c c' R R' : List Int} (h : PayN n c) (h' : PayN n' c') (e : (c ++ R).drop 1 = c' ++ R') : c'.length ≤ 102 := by
  obtain ⟨t, m, w, d, rfl, ht, hw, hm, _⟩ := pay_t h
  obtain ⟨t', m', w', d', e', ht', hw', hm', hp'⟩ := pay_t h'
  have e2 : putI (m : Int) ++ ((w :: d) ++ R) = t' :: (putI (m' : Int) ++ ((w' :: d') ++ R')) := by
    rw [e'] at e
    simpa [List.append_assoc] using e
  obtain ⟨_, e3⟩ := putI_head e2 (by omega)
  obtain ⟨e4, _⟩ := putI_head (y := w) (r' := d ++ R) e3.symm (by omega)
  have hm1 : m' ≤ 1 := by omega
  have := pay_len (by omega) hp'
  omega
/-- A byte ahead: then this one has one value at most. -/
theorem pay_ahead {n n' : Nat} {c c' R R' : List Int} {z : Int} (h : PayN n c) (h' : PayN n' c') (e : z :: (c ++ R) = c' ++ R') : c.length ≤ 102 := by
  obtain ⟨t, m, w, d, ec, ht, hw, hm, hp⟩ := pay_t h
  obtain ⟨t', m', w', d', rfl, ht', hw', hm', _⟩ := pay_t h'
  have e2 : putI (m' : Int) ++ ((w' :: d') ++ R') = t :: (putI (m : Int) ++ ((w :: d) ++ R)) := by
    rw [ec] at e
    simp only [List.cons_append, List.append_assoc, List.cons.injEq] at e
    simpa [List.append_assoc] using e.2.symm
  obtain ⟨_, e3⟩ := putI_head e2 (by omega)
  obtain ⟨e4, _⟩ := putI_head (y := w') (r' := d' ++ R') e3.symm (by omega)
  have hm1 : m ≤ 1 := by omega
  have := pay_len (by omega) hp
  omega
/-! ### a frame with one byte that is another one -/
/-- .. of the same length: the sum tells. -/
theorem turn_same {c c' R R' : List Int} {j : Nat} {x : Int} (hc : c.length ≤ 1048576) (hB : isB c) (hl : c.length = c'.length) (hx : 0 ≤ x ∧ x < 256) (hj : j < (frameI c).length) (hne : (frameI c)[j]? ≠ some x)
    (e : (frameI c ++ R).set j x = frameI c' ++ R') : False := by
  have hfl := frameI_len c
  have hfl' := frameI_len c'
  rw [List.set_append_left _ _ hj] at e
  have e1 : (frameI c).set j x = frameI c' := by
    have := congrArg (List.take (frameI c).length) e
    rw [List.take_left' (by simp), List.take_left' (by rw [hfl, hfl', hl])] at this
    exact this
  rcases Nat.lt_or_ge j (putI (c.length : Int)).length with hw | hw
  · have e2 := congrArg (List.take (putI (c.length : Int)).length) e1
    have e3 : ((frameI c).set j x).take (putI (c.length : Int)).length = (putI (c.length : Int)).set j x := by
      unfold frameI
      rw [List.set_append_left _ _ hw, List.take_left' (by simp)]
    have e4 : (frameI c').take (putI (c.length : Int)).length = putI (c.length : Int) := by
      unfold frameI
      rw [← hl, List.take_left]
    rw [e3, e4] at e2
    apply hne
    unfold frameI
    rw [List.getElem?_append_left hw, ← e2, List.getElem?_set_self hw]
  · have hg : ¬ (frameI c)[j]'hj = x := fun h => hne (by rw [List.getElem?_eq_getElem hj, h])
    have ht := unframe_turn c hc hB j hw hj x hx hg
    have hu := unframe_frame c' [] (by omega)
    rw [List.append_nil, ← e1, ht] at hu
    simp at hu
theorem turn_frame {n n' : Nat} (hn : n ≤ 200) (hn' : n' ≤ 200) {c c' R R' : List Int} (h : PayN n c) (h' : PayN n' c') {j : Nat} {x : Int} (hB : isB c) (hx : 0 ≤ x ∧ x < 256) (hj : j < (frameI c).length) (hne : (frameI c)[j]? ≠ some x)
    (e : (frameI c ++ R).set j x = frameI c' ++ R') : False := by
  have hcl := pay_len (by omega) h
  have hcl' := pay_len (by omega) h'
  by_cases hl : c.length = c'.length
  · exact turn_same (by omega) hB hl hx hj hne e
  · have hF : ∀ (c R : List Int), frameI c ++ R = putI (c.length : Int) ++ (sum4 (crcI c) ++ (c ++ R)) := fun c R => by unfold frameI; simp only [List.append_assoc]
    have hjw : j < (putI (c.length : Int)).length := by
      refine Classical.byContradiction fun hw => hl ?_
      have h1 := varI_put (c.length : Int) (by omega) (by omega) ((sum4 (crcI c) ++ (c ++ R)).set (j - (putI (c.length : Int)).length) x)
      have h2 := varI_put (c'.length : Int) (by omega) (by omega) (sum4 (crcI c') ++ (c' ++ R'))
      rw [hF, hF, List.set_append_right _ _ (by omega)] at e
      rw [e, h2] at h1
      simp only [Prod.mk.injEq] at h1
      omega
    have drop2 : ∀ (c R : List Int), (frameI c ++ R).drop ((putI (c.length : Int)).length + 4) = c ++ R := fun c R => by
      rw [hF, ← List.append_assoc, List.drop_left' (by rw [List.length_append, sum4_len])]
    have hs4 := sum4_len (crcI c)
    rcases Nat.lt_or_ge c.length 128 with h1 | h1
    · have p1 := putI_lt h1
      rcases Nat.lt_or_ge c'.length 128 with h2 | h2
      · have p2 := putI_lt h2
        have e2 := congrArg (List.drop 5) e
        have d1 := drop2 c R
        have d2 := drop2 c' R'
        rw [p1] at d1 hjw
        rw [p2] at d2
        rw [List.drop_set_of_lt (by simp at hjw; omega)] at e2
        rw [show ([(c.length : Int)] : List Int).length + 4 = 5 from rfl] at d1
        rw [show ([(c'.length : Int)] : List Int).length + 4 = 5 from rfl] at d2
        rw [d1, d2] at e2
        exact hl (by rw [pay_more h h' e2])
      · have p2 := putI_two h2 (by omega)
        have e2 := congrArg (List.drop 6) e
        have d1 := drop2 c R
        have d2 := drop2 c' R'
        rw [p1] at d1 hjw
        rw [p2] at d2
        rw [List.drop_set_of_lt (by simp at hjw; omega)] at e2
        rw [show ([(c.length : Int)] : List Int).length + 4 = 5 from rfl] at d1
        rw [show ([((c'.length % 128 + 128 : Nat) : Int), ((c'.length / 128 : Nat) : Int)] : List Int).length + 4 = 6 from rfl] at d2
        rw [d2, show 6 = 5 + 1 from rfl, ← List.drop_drop, d1] at e2
        have := pay_later h h' e2
        omega
    · have p1 := putI_two h1 (by omega)
      rcases Nat.lt_or_ge c'.length 128 with h2 | h2
      · have p2 := putI_lt h2
        have e2 := congrArg (List.drop 5) e
        have d2 := drop2 c' R'
        rw [p1] at hjw
        rw [p2] at d2
        rw [List.drop_set_of_lt (by simp at hjw; omega)] at e2
        rw [show ([(c'.length : Int)] : List Int).length + 4 = 5 from rfl] at d2
        rw [d2, hF, p1] at e2
        obtain ⟨s0, s1, s2, s3, hs⟩ : ∃ s0 s1 s2 s3, sum4 (crcI c) = [s0, s1, s2, s3] := by rw [sum4_eq]; exact ⟨_, _, _, _, rfl⟩
        rw [hs] at e2
        have := pay_ahead (z := s3) h h' (by simpa using e2)
        omega
      · have p2 := putI_two h2 (by omega)
        have e2 := congrArg (List.drop 6) e
        have d1 := drop2 c R
        have d2 := drop2 c' R'
        rw [p1] at d1 hjw
        rw [p2] at d2
        rw [List.drop_set_of_lt (by simp at hjw; omega)] at e2
        rw [show ([((c.length % 128 + 128 : Nat) : Int), ((c.length / 128 : Nat) : Int)] : List Int).length + 4 = 6 from rfl] at d1
        rw [show ([((c'.length % 128 + 128 : Nat) : Int), ((c'.length / 128 : Nat) : Int)] : List Int).length + 4 = 6 from rfl] at d2
        rw [d1, d2] at e2
        exact hl (by rw [pay_more h h' e2])
end Go.Ab
/- PLAIN WORDS: no part is the beginning of another one, and none is another one but for a byte. -/
set_option linter.all false
set_option maxRecDepth 100000
namespace Go.Ab
open Go.Proofs Go.Proofs.YtomomeabfnmncaaGreatH Go.Proofs.YtomomeabfnmncaaGreatH.Crc Go.Proofs.YtomomeabfnmncaaGreatH.Var Go.Proofs.YtomomeabfnmncaaGreatH.Fr Go.Proofs.YtomomeabfnmncaaGreatH.Rec
/-- Frames, one behind the other. -/
def frs (ps : List (List Int)) : List Int := ps.flatMap frameI
theorem frs_cons (c : List Int) (cs : List (List Int)) : frs (c :: cs) = frameI c ++ frs cs := by simp [frs]
theorem frs_append (a b : List (List Int)) : frs (a ++ b) = frs a ++ frs b := by simp [frs]
/-- What may be within a frame. -/
structure PayOk (c : List Int) : Prop where
  l3 : 3 ≤ c.length
  big : c.length ≤ 1048576
  byt : isB c
  pos : 0 < c.headD 0
theorem fr8 {c : List Int} (h : PayOk c) : 8 ≤ (frameI c).length := by
  have := frameI_len c
  have := putI_pos (c.length : Int)
  have := h.l3
  omega
theorem putI_len3 {n : Nat} (h : n ≤ 1048576) : (putI (n : Int)).length ≤ 3 := by
  rw [putI_len, Int.toNat_natCast]
  rcases Nat.lt_or_ge n 128 with h1 | h1
  · rw [putN_small h1]; simp
  · rw [putN_big (by omega)]
    rcases Nat.lt_or_ge (n / 128) 128 with h2 | h2
    · rw [putN_small h2]; simp
    · rw [putN_big (by omega), putN_small (by omega)]; simp
/-- The last eight bytes are no frame. -/
theorem le8_fr {f : Nat} (hf : f < 2 ^ 40) {c x y : List Int} (hc : PayOk c) (e : Fr.le8 (f : Int) ++ x = frameI c ++ y) : False := by
  have hp := putI_pos (c.length : Int)
  have hp3 := putI_len3 hc.big
  have h3 := hc.l3
  have hs := sum4_len (crcI c)
  obtain ⟨w, hw⟩ : ∃ w, w = (putI (c.length : Int)).length := ⟨_, rfl⟩
  have e1 : (Fr.le8 (f : Int) ++ x)[w + 4]? = some 0 := by
    rw [List.getElem?_append_left (by rw [Fr.le8_len]; omega)]
    unfold Fr.le8
    rw [List.getElem?_map, List.getElem?_range (by omega)]
    simp only [Option.map_some, Option.some.injEq]
    have e : ((2 : Int) ^ (8 * (w + 4))) = ((2 ^ (8 * (w + 4)) : Nat) : Int) := by simp
    rw [e, ← Int.natCast_ediv, Nat.div_eq_of_lt]
    · rfl
    · exact Nat.lt_of_lt_of_le hf (Nat.pow_le_pow_right (by decide) (by omega))
  have e2 : (frameI c ++ y)[w + 4]? = some (c.headD 0) := by
    have hF : frameI c ++ y = (putI (c.length : Int) ++ sum4 (crcI c)) ++ (c ++ y) := by unfold frameI; simp only [List.append_assoc]
    rw [hF, List.getElem?_append_right (by rw [List.length_append, hs]; omega)]
    rw [show w + 4 - (putI (c.length : Int) ++ sum4 (crcI c)).length = 0 by rw [List.length_append, hs]; omega]
    cases c with
    | nil => simp at h3
    | cons a c => rfl
  rw [e, e2] at e1
  have := hc.pos
  simp only [Option.some.injEq] at e1
  omega
theorem fr_uniq {c c' x y : List Int} (h : PayOk c) (h' : PayOk c') (e : frameI c ++ x = frameI c' ++ y) : c = c' ∧ x = y := by
  have h1 := unframe_frame c x h.big
  have h2 := unframe_frame c' y h'.big
  rw [e, h2] at h1
  simp only [Prod.mk.injEq, and_true] at h1
  obtain ⟨rfl, _⟩ := h1
  exact ⟨rfl, List.append_cancel_left e⟩
/-- No part is the beginning of another one. -/
theorem frs_uniq {f f' : Nat} (hf : f < 2 ^ 40) (hf' : f' < 2 ^ 40) {x : List Int} : ∀ (cs cs' : List (List Int)), (∀ c ∈ cs, PayOk c) → (∀ c ∈ cs', PayOk c) → frs cs ++ (Fr.le8 (f : Int) ++ x) = frs cs' ++ Fr.le8 (f' : Int) → cs = cs' ∧ x = []
  | [], [], _, _, e => by
    refine ⟨rfl, ?_⟩
    have := congrArg List.length e
    simp [frs, Fr.le8_len] at this
    exact this
  | [], c' :: cs', _, h', e => by
    exfalso
    rw [frs_cons, List.append_assoc] at e
    exact le8_fr hf (h' c' List.mem_cons_self) (by simpa [frs] using e)
  | c :: cs, [], h, _, e => by
    exfalso
    have := congrArg List.length e
    rw [frs_cons] at this
    have h8 := fr8 (h c List.mem_cons_self)
    simp [frs, Fr.le8_len] at this
    omega
  | c :: cs, c' :: cs', h, h', e => by
    rw [frs_cons, frs_cons, List.append_assoc, List.append_assoc] at e
    obtain ⟨hcc, e2⟩ := fr_uniq (h c List.mem_cons_self) (h' c' List.mem_cons_self) e
    subst hcc
    obtain ⟨rfl, hx⟩ := frs_uniq hf hf' cs cs' (fun c hc => h c (List.mem_cons_of_mem _ hc)) (fun c hc => h' c (List.mem_cons_of_mem _ hc)) e2
    exact ⟨rfl, hx⟩
/-- A part that is another one but for a byte: where the byte is. -/
theorem frs_turn {f f' : Nat} {x : Int} : ∀ (cs cs' : List (List Int)) (k : Nat), (∀ c ∈ cs, PayOk c) → (∀ c ∈ cs', PayOk c) → (frs cs ++ Fr.le8 (f : Int)).set k x = frs cs' ++ Fr.le8 (f' : Int) → (frs cs ++ Fr.le8 (f : Int))[k]? ≠ some x →
    cs = cs' ∨ ∃ pre c r R c' r' R' j, cs = pre ++ c :: r ∧ cs' = pre ++ c' :: r' ∧ j < (frameI c).length ∧ (frameI c)[j]? ≠ some x ∧ (frameI c ++ R).set j x = frameI c' ++ R'
  | [], [], _, _, _, _, _ => .inl rfl
  | [], c' :: cs', k, _, h', e, _ => by
    exfalso
    have := congrArg List.length e
    rw [frs_cons] at this
    have h8 := fr8 (h' c' List.mem_cons_self)
    simp [frs, Fr.le8_len] at this
    omega
  | c :: cs, [], k, h, _, e, _ => by
    exfalso
    have := congrArg List.length e
    rw [frs_cons] at this
    have h8 := fr8 (h c List.mem_cons_self)
    simp [frs, Fr.le8_len] at this
    omega
  | c :: cs, c' :: cs', k, h, h', e, hne => by
    rw [frs_cons, frs_cons, List.append_assoc, List.append_assoc] at e
    rw [frs_cons, List.append_assoc] at hne
    rcases Nat.lt_or_ge k (frameI c).length with hk | hk
    · rw [List.getElem?_append_left hk] at hne
      exact .inr ⟨[], c, cs, _, c', cs', _, k, rfl, rfl, hk, hne, e⟩
    · rw [List.set_append_right _ _ hk] at e
      rw [List.getElem?_append_right hk] at hne
      obtain ⟨hcc, e2⟩ := fr_uniq (h c List.mem_cons_self) (h' c' List.mem_cons_self) e
      subst hcc
      rcases frs_turn cs cs' (k - (frameI c).length) (fun c hc => h c (List.mem_cons_of_mem _ hc)) (fun c hc => h' c (List.mem_cons_of_mem _ hc)) e2 hne with rfl | ⟨pre, d, r, R, d', r', R', j, rfl, rfl, h1, h2, h3⟩
      · exact .inl rfl
      · exact .inr ⟨c :: pre, d, r, R, d', r', R', j, rfl, rfl, h1, h2, h3⟩
/-! ### a part's frames -/
def payC (R : List Rv) : Nat → List Int → List (List Int)
  | _, [] => []
  | k, t :: ts => (t :: colI t (colV k R)) :: payC R (k + 1) ts
theorem payC_len (R : List Rv) : ∀ (ts : List Int) (k : Nat), (payC R k ts).length = ts.length
  | [], _ => rfl
  | t :: ts, k => by simp [payC, payC_len R ts]
theorem cols_frs {R : List Rv} : ∀ (ts : List Int) (k : Nat), (∀ (j : Nat) (t : Int), ts[j]? = some t → blockOk t (colV (k + j) R) = true) → colsV R k ts = frs (payC R k ts)
  | [], _, _ => rfl
  | t :: ts, k, h => by
    have hb : blkO t (colV k R) = blockI t (colV k R) := if_pos (h 0 t rfl)
    simp only [colsV, payC]
    rw [frs_cons, hb, cols_frs ts (k + 1) (fun j t' hj => by
      have := h (j + 1) t' (by simpa using hj)
      rwa [show k + (j + 1) = k + 1 + j by omega] at this)]
    rfl
theorem payC_N {R : List Rv} (h64 : in64 R) : ∀ (ts : List Int) (k : Nat), (∀ (j : Nat) (t : Int), ts[j]? = some t → blockOk t (colV (k + j) R) = true) → ∀ c ∈ payC R k ts, PayN R.length c
  | [], _, _, c, hc => by cases hc
  | t :: ts, k, h, c, hc => by
    rcases List.mem_cons.1 hc with rfl | hc
    · exact ⟨t, colV k R, rfl, h 0 t rfl, colV_in h64 k, by simp [colV]⟩
    · exact payC_N h64 ts (k + 1) (fun j t' hj => by
        have := h (j + 1) t' (by simpa using hj)
        rwa [show k + (j + 1) = k + 1 + j by omega] at this) c hc
def payG (ts : List Int) (G : List (List Rv)) : List (List Int) := G.flatMap fun x => payC x 0 ts
theorem payG_len (ts : List Int) : ∀ G : List (List Rv), (payG ts G).length = G.length * ts.length
  | [] => by simp [payG]
  | x :: G => by
    have e : payG ts (x :: G) = payC x 0 ts ++ payG ts G := by simp [payG]
    rw [e, List.length_append, payC_len, payG_len ts G, List.length_cons, Nat.succ_mul]
    omega
theorem PayN_le {n m : Nat} {c : List Int} (h : PayN n c) (hm : n ≤ m) : PayN m c := by
  obtain ⟨t, l, e, h1, h2, h3⟩ := h
  exact ⟨t, l, e, h1, h2, by omega⟩
theorem PayN_ok {n : Nat} (hn : n ≤ 2000) {c : List Int} (h : PayN n c) : PayOk c := by
  have hl := pay_len hn h
  obtain ⟨t, m, w, d, rfl, ht, hw, hm, hp⟩ := pay_t h
  have hp' := putI_pos (m : Int)
  refine ⟨by simp; omega, by omega, ?_, by simp; omega⟩
  obtain ⟨t', l, e, h1, h2, h3⟩ := h
  rw [e]
  simp only [List.cons.injEq] at e
  exact isB_cons' (by omega) (isB_col t' l)
theorem mayR_take : ∀ (ts : List Int) (r : Rv) (k : Nat), mayR ts r = true → mayR (ts.take k) (r.take k) = true
  | [], [], k, _ => by simp [mayR]
  | [], _ :: _, _, h => by simp [mayR] at h
  | _ :: _, [], _, h => by simp [mayR] at h
  | t :: ts, p :: r, 0, _ => rfl
  | t :: ts, p :: r, k + 1, h => by
    simp only [mayR, Bool.and_eq_true] at h
    simp only [List.take_succ_cons, mayR, Bool.and_eq_true]
    exact ⟨h.1, mayR_take ts r k h.2⟩
theorem placesV_len (ts : List Int) : ∀ (G : List (List Rv)) (o : Nat), (placesV ts o G).length = G.length
  | [], _ => rfl
  | x :: G, o => by simp [placesV, placesV_len ts G]
theorem placesV_mem (ts : List Int) : ∀ (G : List (List Rv)) (o : Nat), ∀ p ∈ placesV ts o G, ∃ q : Nat, p = ((q : Int), []) ∧ q ≤ o + (gransV ts G).length
  | [], _, p, hp => by cases hp
  | x :: G, o, p, hp => by
    have e : (gransV ts (x :: G)).length = (colsV x 0 ts).length + (gransV ts G).length := by simp [gransV]
    rcases List.mem_cons.1 hp with rfl | hp
    · exact ⟨o, rfl, by omega⟩
    · obtain ⟨q, h1, h2⟩ := placesV_mem ts G _ p hp
      exact ⟨q, h1, by omega⟩
/-- What a part's frames are of. -/
def paysT (s : Sc) (G : List (List Rv)) : List (List Int) := payC (marksV s.2.1.toNat G) 0 (s.1.take s.2.1.toNat) ++ [2 :: colI 2 (placesV s.1 (frameI (putS s.1 s.2.1 s.2.2.1 s.2.2.2)).length G)]
def pays (s : Sc) (R : List Rv) : List (List Int) := putS s.1 s.2.1 s.2.2.1 s.2.2.2 :: (payG s.1 (splitI s.2.2.2.toNat R) ++ paysT s (splitI s.2.2.2.toNat R))
structure Parted (s : Sc) (R : List Rv) : Prop where
  eq : writeV s R = frs (pays s R) ++ Fr.le8 ((headV s (splitI s.2.2.2.toNat R)).length : Nat)
  small : (headV s (splitI s.2.2.2.toNat R)).length < 2 ^ 40
  g : ∀ c ∈ payG s.1 (splitI s.2.2.2.toNat R), PayN s.2.2.2.toNat c
  t : ∀ c ∈ paysT s (splitI s.2.2.2.toNat R), PayN (splitI s.2.2.2.toNat R).length c
  tl : (paysT s (splitI s.2.2.2.toNat R)).length = s.2.1.toNat + 1
theorem parted {s : Sc} {R : List Rv} (h : OkR s R) (h64 : in64 R) : Parted s R := by
  obtain ⟨ts, k, m, g⟩ := s
  obtain ⟨hok, hne, hlen, hmay, hsrt⟩ := h
  simp only at hmay hsrt
  obtain ⟨hl1, ht1, hk1, hm1, hg1⟩ := schemaOk_iff.1 hok
  simp only at hl1 ht1 hk1 hm1 hg1
  have hG1 : 1 ≤ g.toNat := by omega
  have hSp := splitV_mem g.toNat hG1 R.length R (Nat.le_refl _)
  have hSl := splitI_len g.toNat hG1 R.length R (Nat.le_refl _)
  have hHl := headV_len hok (G := splitI g.toNat R) (by omega)
  obtain ⟨G, hG⟩ : ∃ G, splitI g.toNat R = G := ⟨_, rfl⟩
  have hgr : ∀ x ∈ G, (in64 x ∧ x.length ≤ g.toNat) ∧ ∀ (j : Nat) (t : Int), ts[j]? = some t → blockOk t (colV j x) = true := by
    intro x hx
    rw [← hG] at hx
    obtain ⟨_, h1, h2⟩ := hSp x hx
    have hg64 : g.toNat ≤ 64 := by omega
    exact ⟨⟨fun r hr => h64 r (h2 r hr), h1⟩, fun j t hj => colV_ok (fun r hr => hmay r (h2 r hr)) (by omega) hj (ht1 t (List.mem_of_getElem? hj))⟩
  have hgrans : ∀ G : List (List Rv), (∀ x ∈ G, (in64 x ∧ x.length ≤ g.toNat) ∧ ∀ (j : Nat) (t : Int), ts[j]? = some t → blockOk t (colV j x) = true) → gransV ts G = frs (payG ts G) ∧ ∀ c ∈ payG ts G, PayN g.toNat c := by
    intro G
    induction G with
    | nil => intro _; exact ⟨rfl, fun c hc => by cases hc⟩
    | cons x G ih =>
      intro h
      obtain ⟨i1, i2⟩ := ih fun y hy => h y (List.mem_cons_of_mem _ hy)
      obtain ⟨⟨h1, h2⟩, h3⟩ := h x List.mem_cons_self
      have e1 : gransV ts (x :: G) = colsV x 0 ts ++ gransV ts G := by simp [gransV]
      have e2 : payG ts (x :: G) = payC x 0 ts ++ payG ts G := by simp [payG]
      refine ⟨by rw [e1, e2, frs_append, i1, cols_frs ts 0 (fun j t hj => by rw [Nat.zero_add]; exact h3 j t hj)], fun c hc => ?_⟩
      rw [e2] at hc
      rcases List.mem_append.1 hc with hc | hc
      · exact PayN_le (payC_N h1 ts 0 (fun j t hj => by rw [Nat.zero_add]; exact h3 j t hj) c hc) h2
      · exact i2 c hc
  obtain ⟨g1, g2⟩ := hgrans G hgr
  rw [hG] at hHl hSl
  have hM : ∀ x ∈ marksV k.toNat G, (∀ p ∈ x, i64R p.1) ∧ mayR (ts.take k.toNat) x = true := by
    intro x hx
    obtain ⟨y, hy, rfl⟩ := List.mem_map.1 hx
    rw [← hG] at hy
    obtain ⟨q1, _, q2⟩ := hSp y hy
    cases y with
    | nil => exact absurd rfl q1
    | cons z y =>
      have hz := q2 z List.mem_cons_self
      exact ⟨fun p hp => h64 z hz p (List.mem_of_mem_take hp), mayR_take ts z k.toNat (hmay z hz)⟩
  have hMl : (marksV k.toNat G).length = G.length := by simp [marksV]
  have hMok : ∀ (j : Nat) (t : Int), (ts.take k.toNat)[j]? = some t → blockOk t (colV (0 + j) (marksV k.toNat G)) = true := fun j t hj => by
    rw [Nat.zero_add]
    exact colV_ok (fun r hr => (hM r hr).2) (by omega) hj (ht1 t (List.mem_of_mem_take (List.mem_of_getElem? hj)))
  obtain ⟨O, hO⟩ : ∃ O, (frameI (putS ts k m g)).length = O := ⟨_, rfl⟩
  have hPl := placesV_len ts G O
  have hPm := placesV_mem ts G O
  have hHe : (headV (ts, k, m, g) G).length = O + (gransV ts G).length := by unfold headV; rw [List.length_append, ← hO]
  have hPok : blockOk 2 (placesV ts O G) = true := by
    rw [blockOk_eq]
    refine ⟨rfl, by omega, fun p hp => ?_⟩
    obtain ⟨q, rfl, _⟩ := hPm p hp
    rfl
  have hPr : ∀ p ∈ placesV ts O G, i64R p.1 := by
    intro p hp
    obtain ⟨q, rfl, hq⟩ := hPm p hp
    show i64R (q : Int)
    unfold i64R
    omega
  refine ⟨?_, ?_, ?_, ?_, ?_⟩
  · unfold writeV pays tailV headV paysT
    simp only
    rw [hG, hO, frs_cons, frs_append, frs_append, ← g1, ← cols_frs _ 0 hMok]
    rw [show blkO 2 (placesV ts O G) = frs [2 :: colI 2 (placesV ts O G)] by unfold blkO; rw [if_pos hPok]; simp [frs, blockI]]
    simp only [List.append_assoc]
  · simp only; rw [hG]; omega
  · simp only; rw [hG]; exact g2
  · simp only
    rw [hG]
    intro c hc
    unfold paysT at hc
    simp only at hc
    rw [hO] at hc
    rcases List.mem_append.1 hc with hc | hc
    · rw [← hMl]
      exact payC_N (fun x hx => (hM x hx).1) _ 0 hMok c hc
    · simp at hc
      exact ⟨2, _, hc, hPok, hPr, by omega⟩
  · unfold paysT
    simp only [List.length_append, payC_len, List.length_take, List.length_cons, List.length_nil]
    omega
end Go.Ab
/- PLAIN WORDS: the laws of parts: a part of the bytes, or more, is none; a byte that is changed is told. -/
set_option linter.all false
set_option maxRecDepth 100000
namespace Go.Ab
open Go.Proofs Go.Proofs.YtomomeabfnmncaaGreatH Go.Proofs.YtomomeabfnmncaaGreatH.Crc Go.Proofs.YtomomeabfnmncaaGreatH.Var Go.Proofs.YtomomeabfnmncaaGreatH.Fr Go.Proofs.YtomomeabfnmncaaGreatH.Rec
/-! ### what is read are numbers of 64 bits -/
theorem wide_in : ∀ (n : Nat) (b l : List Int), wideI n b = some l → ∀ x ∈ l, i64R x
  | 0, b, l, h, x, hx => by simp [wideI] at h; subst h; cases hx
  | n + 1, b, l, h, x, hx => by
    simp only [wideI] at h
    split at h
    · cases h
    · obtain ⟨r, hr, rfl⟩ := Option.map_eq_some_iff.1 h
      rcases List.mem_cons.1 hx with rfl | hx
      · unfold i64R; rw [IntKind.wrap_i64]; omega
      · exact wide_in n _ r hr x hx
theorem steps_in : ∀ (n : Nat) (w : Int) (b l : List Int), stepsI n w b = some l → ∀ x ∈ l, i64R x
  | 0, w, b, l, h, x, hx => by simp [stepsI] at h; subst h; cases hx
  | n + 1, w, b, l, h, x, hx => by
    simp only [stepsI] at h
    split at h
    · cases h
    · obtain ⟨r, hr, rfl⟩ := Option.map_eq_some_iff.1 h
      rcases List.mem_cons.1 hx with rfl | hx
      · exact addI_range _ _
      · exact steps_in n _ _ r hr x hx
theorem take_in (t : Int) (b : List Int) : ∀ p ∈ (takeI t b).1, i64R p.1 := by
  intro p hp
  unfold takeI at hp
  split at hp
  · cases hp
  · split at hp
    · cases hp
    · cases hr : readO t (unframeI b).1.tail with
      | none => rw [hr] at hp; cases hp
      | some v =>
        rw [hr] at hp
        simp only at hp
        unfold readO at hr
        split at hr
        · obtain ⟨l, _, rfl⟩ := Option.map_eq_some_iff.1 hr
          obtain ⟨s, _, rfl⟩ := List.mem_map.1 hp
          show i64R 0; unfold i64R; omega
        · obtain ⟨l, hl, rfl⟩ := Option.map_eq_some_iff.1 hr
          obtain ⟨n, hn, rfl⟩ := List.mem_map.1 hp
          show i64R n
          unfold intsT at hl
          cases hw : rawI (unframeI b).1.tail with
          | none => rw [hw] at hl; cases hl
          | some l' =>
            rw [hw] at hl
            simp only at hl
            split at hl
            · simp only [Option.some.injEq] at hl
              subst hl
              unfold rawI at hw
              split at hw
              · cases hw
              · split at hw
                · exact steps_in _ _ _ _ hw n hn
                · exact wide_in _ _ _ hw n hn
            · cases hl
theorem takeC_in : ∀ (ts b : List Int) (q : List (List Va) × List Int), takeC ts b = some q → ∀ c ∈ q.1, ∀ p ∈ c, i64R p.1
  | [], b, q, h, c, hc => by simp [takeC] at h; subst h; cases hc
  | t :: ts, b, q, h, c, hc => by
    simp only [takeC] at h
    split at h
    · cases h
    · obtain ⟨r, hr, rfl⟩ := Option.map_eq_some_iff.1 h
      rcases List.mem_cons.1 hc with rfl | hc
      · exact take_in t b
      · exact takeC_in ts _ r hr c hc
theorem takeT_in {ts b : List Int} {l : List Rv} {r : List Int} (h : takeT ts b = some (l, r)) : in64 l := by
  unfold takeT at h
  cases hC : takeC ts b with
  | none => rw [hC] at h; cases h
  | some q =>
    rw [hC] at h
    obtain ⟨l', hl', e⟩ := Option.map_eq_some_iff.1 h
    simp only [Prod.mk.injEq] at e
    obtain ⟨rfl, _⟩ := e
    have hq := takeC_in ts b q hC
    unfold rowsOf at hl'
    split at hl'
    · cases hl'
    · rename_i c C heq
      split at hl'
      · simp only [Option.some.injEq] at hl'
        subst hl'
        intro x hx p hp
        obtain ⟨i, _, rfl⟩ := List.mem_map.1 hx
        obtain ⟨y, hy, rfl⟩ := List.mem_map.1 hp
        cases hg : y[i]? with
        | none => show i64R 0; unfold i64R; omega
        | some v => exact hq y hy v (List.mem_of_getElem? hg)
      · cases hl'
theorem readI_in {ts : List Int} {left : Nat} : ∀ (n : Nat) (b : List Int) (acc : List Rv), in64 acc → ∀ l, readI ts left n b acc = some l → in64 l
  | 0, b, acc, ha, l, h => by
    simp only [readI] at h
    split at h
    · cases h; exact ha
    · cases h
  | n + 1, b, acc, ha, l, h => by
    simp only [readI] at h
    split at h
    · cases h; exact ha
    · cases hT : takeT ts b with
      | none => rw [hT] at h; cases h
      | some q =>
        obtain ⟨x, r⟩ := q
        rw [hT] at h
        simp only at h
        split at h
        · cases h
        · refine readI_in n r (acc ++ x) ?_ l h
          intro y hy
          rcases List.mem_append.1 hy with hy | hy
          · exact ha y hy
          · exact takeT_in hT y hy
theorem open_in {b : List Int} {s : Sc} {R : List Rv} (h : openI b = some (s, R)) : in64 R := by
  unfold openI at h
  split at h
  · cases h
  · split at h
    · cases h
    · split at h
      · cases h
      · rename_i l hl
        split at h
        · simp only [Option.some.injEq, Prod.mk.injEq] at h
          obtain ⟨_, rfl⟩ := h
          exact readI_in _ _ [] (fun x hx => by cases hx) _ hl
        · cases h
/-- What is opened is a part that was written. -/
theorem open_part {b : List Int} {s : Sc} {R : List Rv} (h : openI b = some (s, R)) : OkR s R ∧ in64 R ∧ writeV s R = b := by
  obtain ⟨h1, h2⟩ := openV b s R h
  exact ⟨wErr_iff.1 h1, open_in h, h2⟩
theorem isB_putS (s : Sc) : isB (putS s.1 s.2.1 s.2.2.1 s.2.2.2) := isB_putAll _
theorem putAll_small : ∀ l : List Int, (∀ x ∈ l, 0 ≤ x ∧ x < 128) → putAllI l = l
  | [], _ => rfl
  | x :: l, h => by
    have hx := h x List.mem_cons_self
    obtain ⟨n, rfl⟩ : ∃ n : Nat, x = n := ⟨x.toNat, by omega⟩
    have e : putAllI ((n : Int) :: l) = putI (n : Int) ++ putAllI l := rfl
    rw [e, putI_lt (by omega), putAll_small l fun y hy => h y (List.mem_cons_of_mem _ hy)]
    rfl
theorem putS_eq {s : Sc} (hs : okS s) : putS s.1 s.2.1 s.2.2.1 s.2.2.2 = (s.1.length : Int) :: (s.1 ++ [s.2.1, s.2.2.1, s.2.2.2]) := by
  obtain ⟨hl1, ht1, hk1, hm1, hg1⟩ := schemaOk_iff.1 hs
  unfold putS
  refine putAll_small _ fun x hx => ?_
  rcases List.mem_cons.1 hx with rfl | hx
  · omega
  · rcases List.mem_append.1 hx with hx | hx
    · have := ht1 x hx; omega
    · simp at hx; omega
theorem putS_ok {s : Sc} (hs : okS s) : PayOk (putS s.1 s.2.1 s.2.2.1 s.2.2.2) ∧ (putS s.1 s.2.1 s.2.2.1 s.2.2.2).length = s.1.length + 4 := by
  have e := putS_eq hs
  have hl : (putS s.1 s.2.1 s.2.2.1 s.2.2.2).length = s.1.length + 4 := by rw [e]; simp
  obtain ⟨hl1, _⟩ := schemaOk_iff.1 hs
  refine ⟨⟨by omega, by omega, isB_putS s, ?_⟩, hl⟩
  rw [e]
  simp only [List.headD_cons]
  omega
theorem putS_inj {s s' : Sc} (hs : okS s) (hs' : okS s') (e : putS s.1 s.2.1 s.2.2.1 s.2.2.2 = putS s'.1 s'.2.1 s'.2.2.1 s'.2.2.2) : s = s' := by
  have h1 := schT_put hs
  have h2 := schT_put hs'
  rw [e, h2] at h1
  simp only [Prod.mk.injEq, and_true] at h1
  obtain ⟨a, b, c, d⟩ := s
  obtain ⟨a', b', c', d'⟩ := s'
  simp only at h1
  obtain ⟨rfl, rfl, rfl, rfl⟩ := h1
  rfl
theorem pays_ok {s : Sc} {R : List Rv} (h : OkR s R) (h64 : in64 R) : ∀ c ∈ pays s R, PayOk c := by
  have hp := parted h h64
  have h0 := schemaOk_iff.1 h.ok
  have hsl := splitI_len s.2.2.2.toNat (by omega) R.length R (Nat.le_refl _)
  have hl := h.len
  intro c hc
  rcases List.mem_cons.1 hc with rfl | hc
  · exact (putS_ok h.ok).1
  · rcases List.mem_append.1 hc with hc | hc
    · exact PayN_ok (by omega) (hp.g c hc)
    · exact PayN_ok (by omega) (hp.t c hc)
/-- No part begins with another one. -/
theorem part_uniq {s s' : Sc} {R R' : List Rv} (h : OkR s R) (h64 : in64 R) (h' : OkR s' R') (h64' : in64 R') {x : List Int} (e : writeV s R ++ x = writeV s' R') : x = [] := by
  have hp := parted h h64
  have hp' := parted h' h64'
  rw [hp.eq, hp'.eq, List.append_assoc] at e
  exact (frs_uniq hp.small hp'.small _ _ (pays_ok h h64) (pays_ok h' h64') e).2
/-- A part of the bytes is none. -/
theorem part_cut {s : Sc} {R : List Rv} (h : OkR s R) (h64 : in64 R) (k : Nat) (hk : k < (writeV s R).length) : openI ((writeV s R).take k) = none := by
  cases ho : openI ((writeV s R).take k) with
  | none => rfl
  | some q =>
    exfalso
    obtain ⟨s', R'⟩ := q
    obtain ⟨h1, h2, h3⟩ := open_part ho
    have e : writeV s' R' ++ (writeV s R).drop k = writeV s R := by rw [h3, List.take_append_drop]
    have := congrArg List.length (part_uniq h1 h2 h h64 e)
    simp at this
    omega
/-- More than the bytes are none. -/
theorem part_more {s : Sc} {R : List Rv} (h : OkR s R) (h64 : in64 R) (y : Int) : openI (writeV s R ++ [y]) = none := by
  cases ho : openI (writeV s R ++ [y]) with
  | none => rfl
  | some q =>
    exfalso
    obtain ⟨s', R'⟩ := q
    obtain ⟨h1, h2, h3⟩ := open_part ho
    have := part_uniq h h64 h1 h2 h3.symm
    cases this
/-- A byte that is changed is told. -/
theorem part_turn {s : Sc} {R : List Rv} (h : OkR s R) (h64 : in64 R) (hl : R.length ≤ 100) (hg : s.2.2.2 ≤ 100) (k : Nat) (hk : k < (writeV s R).length) (x : Int) (hx : 0 ≤ x ∧ x < 256) (hne : (writeV s R)[k]? ≠ some x) : openI ((writeV s R).set k x) = none := by
  cases ho : openI ((writeV s R).set k x) with
  | none => rfl
  | some q =>
    exfalso
    obtain ⟨s', R'⟩ := q
    obtain ⟨h1, h2, h3⟩ := open_part ho
    have hp := parted h h64
    have hp' := parted h1 h2
    have hp1 := pays_ok h h64
    have hp2 := pays_ok h1 h2
    have h0 := schemaOk_iff.1 h.ok
    have h0' := schemaOk_iff.1 h1.ok
    have hG1 : 1 ≤ s.2.2.2.toNat := by omega
    have e := h3.symm
    rw [hp.eq, hp'.eq] at e
    have hne2 := hne
    rw [hp.eq] at hne2
    rcases frs_turn (pays s R) (pays s' R') k hp1 hp2 e hne2 with heq | ⟨pre, c, r, Y, c', r', Y', j, e1, e2, hj, hnj, e3⟩
    · -- the same frames: the same part
      have hh := heq
      unfold pays at hh
      rw [List.cons.injEq] at hh
      obtain rfl := putS_inj h.ok h1.ok hh.1
      have hGl : (splitI s.2.2.2.toNat R).length = (splitI s.2.2.2.toNat R').length := by
        have := congrArg List.length hh.2
        rw [List.length_append, List.length_append, payG_len, payG_len, hp.tl, hp'.tl] at this
        have h2 : (splitI s.2.2.2.toNat R).length * s.1.length = (splitI s.2.2.2.toNat R').length * s.1.length := by omega
        exact Nat.eq_of_mul_eq_mul_right (by omega) h2
      have hgr : payG s.1 (splitI s.2.2.2.toNat R) = payG s.1 (splitI s.2.2.2.toNat R') := (List.append_inj hh.2 (by rw [payG_len, payG_len, hGl])).1
      have hf : (headV s (splitI s.2.2.2.toNat R)).length = (headV s (splitI s.2.2.2.toNat R')).length := by
        have hgv : ∀ (R : List Rv), OkR s R → in64 R → gransV s.1 (splitI s.2.2.2.toNat R) = frs (payG s.1 (splitI s.2.2.2.toNat R)) := fun R h h64 => by
          have hp := parted h h64
          have e1 := hp.eq
          have hSp := splitV_mem s.2.2.2.toNat hG1 R.length R (Nat.le_refl _)
          have key : ∀ G : List (List Rv), (∀ x ∈ G, ∀ r ∈ x, r ∈ R) → (∀ x ∈ G, x.length ≤ 2000) → gransV s.1 G = frs (payG s.1 G) := by
            intro G
            induction G with
            | nil => intro _ _; rfl
            | cons x G ih =>
              intro q1 q2
              have e1 : gransV s.1 (x :: G) = colsV x 0 s.1 ++ gransV s.1 G := by simp [gransV]
              have e2 : payG s.1 (x :: G) = payC x 0 s.1 ++ payG s.1 G := by simp [payG]
              rw [e1, e2, frs_append, ih (fun y hy => q1 y (List.mem_cons_of_mem _ hy)) (fun y hy => q2 y (List.mem_cons_of_mem _ hy)), cols_frs s.1 0 (fun j t hj => by
                rw [Nat.zero_add]
                exact colV_ok (fun r hr => h.may r (q1 x List.mem_cons_self r hr)) (q2 x List.mem_cons_self) hj (h0.2.1 t (List.mem_of_getElem? hj)))]
          exact key _ (fun x hx r hr => (hSp x hx).2.2 r hr) (fun x hx => by
            have := (hSp x hx).2.1
            omega)
        unfold headV
        rw [List.length_append, List.length_append, hgv R h h64, hgv R' h1 h2, hgr]
      rw [heq, hf, ← hp'.eq, h3] at e
      have hw : writeV s R = writeV s R' := by rw [hp.eq, hp'.eq, heq, hf]
      apply hne
      have : (writeV s R).set k x = writeV s R := by rw [← h3, hw]
      rw [← this, List.getElem?_set_self hk]
    · cases pre with
      | nil =>
        -- in the head
        unfold pays at e1 e2
        simp only [List.nil_append, List.cons.injEq] at e1 e2
        obtain ⟨rfl, _⟩ := e1
        obtain ⟨rfl, _⟩ := e2
        have q1 := putS_ok h.ok
        have q2 := putS_ok h1.ok
        by_cases hll : s.1.length = s'.1.length
        · exact turn_same (by omega) (isB_putS s) (by omega) hx hj hnj e3
        · have hF : ∀ (c R : List Int), c.length < 128 → frameI c ++ R = (c.length : Int) :: (sum4 (crcI c) ++ (c ++ R)) := fun c R hc => by
            unfold frameI; rw [putI_lt hc]; simp only [List.append_assoc, List.cons_append, List.nil_append]
          have hc1 := q1.2
          have hc2 := q2.2
          rw [hF _ _ (by omega), hF _ _ (by omega)] at e3
          cases j with
          | zero =>
            simp only [List.set_cons_zero, List.cons.injEq] at e3
            have e4 := congrArg (List.drop 4) e3.2
            rw [List.drop_left' (sum4_len _), List.drop_left' (sum4_len _), putS_eq h.ok, putS_eq h1.ok] at e4
            simp only [List.cons_append, List.cons.injEq] at e4
            omega
          | succ j =>
            simp only [List.set_cons_succ, List.cons.injEq] at e3
            omega
      | cons p pre =>
        unfold pays at e1 e2
        simp only [List.cons_append, List.cons.injEq] at e1 e2
        obtain ⟨rfl, e1⟩ := e1
        obtain ⟨ep, e2⟩ := e2
        obtain rfl := putS_inj h1.ok h.ok ep
        have hcm : c ∈ payG s'.1 (splitI s'.2.2.2.toNat R) ++ paysT s' (splitI s'.2.2.2.toNat R) := by rw [e1]; simp
        have hcm' : c' ∈ payG s'.1 (splitI s'.2.2.2.toNat R') ++ paysT s' (splitI s'.2.2.2.toNat R') := by rw [e2]; simp
        have hGl := splitI_len s'.2.2.2.toNat hG1 R.length R (Nat.le_refl _)
        have hc : PayN 100 c := by
          rcases List.mem_append.1 hcm with h | h
          · exact PayN_le (hp.g c h) (by omega)
          · exact PayN_le (hp.t c h) (by omega)
        have hc' : PayN 101 c' := by
          have hlt : pre.length < (payG s'.1 (splitI s'.2.2.2.toNat R)).length + (paysT s' (splitI s'.2.2.2.toNat R)).length := by
            have := congrArg List.length e1
            simp only [List.length_append, List.length_cons] at this
            omega
          rw [payG_len, hp.tl] at hlt
          rcases Nat.lt_or_ge pre.length (payG s'.1 (splitI s'.2.2.2.toNat R')).length with hi | hi
          · have hg2 : (payG s'.1 (splitI s'.2.2.2.toNat R') ++ paysT s' (splitI s'.2.2.2.toNat R'))[pre.length]? = some c' := by rw [e2]; simp
            rw [List.getElem?_append_left hi] at hg2
            exact PayN_le (hp'.g c' (List.mem_of_getElem? hg2)) (by omega)
          · have hg2 : (payG s'.1 (splitI s'.2.2.2.toNat R') ++ paysT s' (splitI s'.2.2.2.toNat R'))[pre.length]? = some c' := by rw [e2]; simp
            rw [List.getElem?_append_right hi] at hg2
            refine PayN_le (hp'.t c' (List.mem_of_getElem? hg2)) ?_
            rw [payG_len] at hi
            refine Classical.byContradiction fun hgt => ?_
            have hkk : s'.2.1.toNat ≤ s'.1.length := by omega
            have h5 : ((splitI s'.2.2.2.toNat R).length + 2) * s'.1.length ≤ (splitI s'.2.2.2.toNat R').length * s'.1.length := Nat.mul_le_mul_right _ (by omega)
            rw [Nat.add_mul] at h5
            omega
        have hB := (hp1 c (by unfold pays; exact List.mem_cons_of_mem _ hcm)).byt
        exact turn_frame (by omega) (by omega) hc hc' hB hx hj hnj e3
end Go.Ab
