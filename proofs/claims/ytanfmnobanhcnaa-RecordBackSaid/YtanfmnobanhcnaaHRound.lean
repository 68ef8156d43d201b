import Derived.Test.YtanfmnobanhcnaaHRec
set_option linter.unusedVariables false
set_option linter.unusedSimpArgs false
namespace Go.Proofs.YtanfmnobanhcnaaH.Rec
open Go.RowKit Go.Proofs.YtanfmnobanhcnaaW.PrintMore Go.Proofs.YtanfmnobanhcnaaW.PrintWords
open Go.Proofs.YtanfmnobanhcnaaH (putAllI putAllI_len)
open Go.Proofs.YtanfmnobanhcnaaH.Crc (isB nats nats_lt crcI crcN crcReg crcReg_append crcReg_inj crcReg_lt crcReg_cons Mn_inj Mn_lt xcan crcI_inj_iff nats_app crcI_range)
open Go.Proofs.YtanfmnobanhcnaaH.Var
open Go.Proofs.YtanfmnobanhcnaaH.Fr (frameI unframeI unframe_frame frameI_len unframe_part sum4 sum4_inj sum4_len)
theorem numR_put {a : Int} (h : 0 ≤ a ∧ a ≤ 999999) (r : List Int) (b : Bool) : numR (putI a ++ r) b = (a, r, b) := by
  unfold numR
  have := putI_pos a
  rw [varI_put a h.1 (by omega) r]
  simp only
  rw [if_neg (by omega), if_neg (by omega), show ((putI a).length : Int).toNat = (putI a).length by omega, List.drop_left]
theorem putAllI_cons (x : Int) (t : List Int) : putAllI (x :: t) = putI x ++ putAllI t := rfl
theorem idsN_put : ∀ (ids : List Int) (r : List Int) (b : Bool), (∀ x ∈ ids, 0 ≤ x ∧ x ≤ 999999) → idsN ids.length (putAllI ids ++ r) b = (ids, r, b)
  | [], r, b, _ => rfl
  | x :: t, r, b, h => by
    rw [putAllI_cons, List.append_assoc, List.length_cons]
    simp only [idsN]
    rw [numR_put (h x List.mem_cons_self), idsN_put t r b (fun y hy => h y (List.mem_cons_of_mem _ hy))]
theorem nums_put : ∀ (v : List Int), (∀ x ∈ v, 0 ≤ x ∧ x ≤ 1048576) → nums (putAllI v) = some v
  | [], _ => nums_nil rfl
  | x :: t, h => by
    have hx := h x List.mem_cons_self
    have := putI_pos x
    rw [putAllI_cons, nums_step (by rw [List.length_append]; omega), varI_put x hx.1 (by omega)]
    simp only
    rw [if_neg (by omega), if_neg (by omega), show ((putI x).length : Int).toNat = (putI x).length by omega, List.drop_left, nums_put t (fun y hy => h y (List.mem_cons_of_mem _ hy))]
    rfl
theorem schT_put {ts : List Int} {k m g : Int} (h : schemaOk ts k m g = true) : schT (putS ts k m g) = ((ts, k, m, g), 0) := by
  have h0 := schemaOk_iff.1 h
  obtain ⟨h1, h2, h3, h4, h5⟩ := h0
  unfold schT putS
  rw [nums_put _ (by
    intro x hx
    rcases List.mem_cons.1 hx with rfl | hx
    · omega
    rcases List.mem_append.1 hx with hx | hx
    · have := h2 x hx; omega
    · simp at hx
      omega)]
  have e0 : ((ts.length : Int) :: (ts ++ [k, m, g])).getD 0 0 = (ts.length : Int) := rfl
  have eg : ∀ j, ((ts.length : Int) :: (ts ++ [k, m, g])).getD (ts.length + (j + 1)) 0 = ([k, m, g] : List Int).getD j 0 := by
    intro j
    rw [show ts.length + (j + 1) = (ts.length + j) + 1 by omega, List.getD_cons_succ, List.getD_eq_getElem?_getD, List.getElem?_append_right (by omega), Nat.add_sub_cancel_left, ← List.getD_eq_getElem?_getD]
  simp only [e0, Int.toNat_natCast]
  rw [if_neg (by simp), if_pos (by simp; omega), eg 0, eg 1, eg 2]
  have et : (((ts.length : Int) :: (ts ++ [k, m, g])).drop 1).take ts.length = ts := by
    rw [List.drop_succ_cons, List.drop_zero, List.take_left]
  rw [et]
  show (if schemaOk ts k m g = true then ((ts, k, m, g), (0 : Int)) else noSch) = _
  rw [if_pos h]
theorem schR_put {ts : List Int} {k m g : Int} (h : schemaOk ts k m g = true) (r : List Int) : schR (putI (putS ts k m g).length ++ (putS ts k m g ++ r)) false = ((ts, k, m, g), r, false) := by
  have hl := putS_len ts k m g h
  rw [schR_eq, numR_put ⟨by omega, by omega⟩]
  simp only
  rw [if_neg (by
    rintro (h | h)
    · cases h
    · rw [List.length_append] at h; omega), Int.toNat_natCast, List.take_left, List.drop_left, schT_put h]
  rfl
/-- A record's bytes behind its kind. -/
def recT (kd : Int) (ts : List Int) (k m g : Int) (ids : List Int) (id : Int) : List Int :=
  (if kd = 1 then putI (putS ts k m g).length ++ putS ts k m g else []) ++ putI id ++ (if kd = 2 then [] else putI ids.length ++ putAllI ids)
theorem recB_eq (kd : Int) (ts : List Int) (k m g : Int) (ids : List Int) (id : Int) : recB kd ts k m g ids id = kd :: recT kd ts k m g ids id := by
  unfold recB recT
  simp [List.append_assoc]
theorem bare_eq {ts : List Int} {k m g : Int} (h : bare ts k m g = true) : ts = [] ∧ k = 0 ∧ m = 0 ∧ g = 0 := by
  unfold bare at h
  simp only [Bool.and_eq_true, decide_eq_true_eq] at h
  exact ⟨List.eq_nil_of_length_eq_zero h.1.1.1, h.1.1.2, h.1.2, h.2⟩
theorem recR2_put {kd : Int} {s : List Int × Int × Int × Int} {ids : List Int} {id : Int} (hid : 0 ≤ id ∧ id ≤ 999999) (hids : ∀ x ∈ ids, 0 ≤ x ∧ x ≤ 999999) (hl : ids.length ≤ 40) (h2 : kd = 2 → ids = []) (r : List Int) :
    recR2 kd (s, putI id ++ (if kd = 2 then [] else putI ids.length ++ putAllI ids) ++ r, false) = ((kd, s, ids, id), r, false) := by
  unfold recR2
  rw [if_neg (by intro h; cases h)]
  simp only [List.append_assoc]
  rw [numR_put hid]
  simp only
  by_cases hk : kd = 2
  · rw [if_pos (.inl hk), if_pos hk, h2 hk]
    rfl
  · rw [if_neg (by rintro (h | h); exact hk h; cases h), if_neg hk, List.append_assoc, numR_put ⟨by omega, by omega⟩]
    simp only
    rw [show (min (ids.length : Int) 40).toNat = ids.length by omega, idsN_put ids r false hids]
theorem recR_put {kd : Int} {ts : List Int} {k m g : Int} {ids : List Int} {id : Int} (h : mayI kd ts k m g ids id = true) (r : List Int) :
    recR kd (recT kd ts k m g ids id ++ r) false = ((kd, (ts, k, m, g), ids, id), r, false) := by
  obtain ⟨hk, hl, hid, hids⟩ := mayI_some h
  unfold recR recT
  by_cases h1 : kd = 1
  · have hs : schemaOk ts k m g = true := by
      rcases hk with ⟨_, h⟩ | ⟨h, _⟩ | ⟨h, _⟩
      · exact h
      · omega
      · omega
    rw [if_pos h1, if_pos h1]
    have e : putI ((putS ts k m g).length : Int) ++ putS ts k m g ++ putI id ++ (if kd = 2 then [] else putI ids.length ++ putAllI ids) ++ r
        = putI ((putS ts k m g).length : Int) ++ (putS ts k m g ++ (putI id ++ (if kd = 2 then [] else putI ids.length ++ putAllI ids) ++ r)) := by simp [List.append_assoc]
    rw [e, schR_put hs]
    exact recR2_put hid hids hl (fun h => by omega) r
  · have hb : (ts = [] ∧ k = 0 ∧ m = 0 ∧ g = 0) ∧ (kd = 2 → ids = []) := by
      rcases hk with ⟨h, _⟩ | ⟨_, h, h0⟩ | ⟨h3, h, _⟩
      · exact absurd h h1
      · exact ⟨bare_eq h, fun _ => List.eq_nil_of_length_eq_zero h0⟩
      · exact ⟨bare_eq h, fun h => by omega⟩
    obtain ⟨⟨rfl, rfl, rfl, rfl⟩, h2⟩ := hb
    rw [if_neg h1, if_neg h1, List.nil_append]
    exact recR2_put hid hids hl h2 r
theorem recB_len {kd : Int} {ts : List Int} {k m g : Int} {ids : List Int} {id : Int} (h : mayI kd ts k m g ids id = true) : (recB kd ts k m g ids id).length ≤ 1111 := by
  obtain ⟨hk, hl, hid, hids⟩ := mayI_some h
  have h1 := putI_len10 id (by omega)
  have h2 := putI_len10 (ids.length : Int) (by omega)
  have h3 := putAllI_len ids (fun x hx => by have := hids x hx; omega)
  have h4 : ((if kd = 1 then putI (putS ts k m g).length ++ putS ts k m g else []) : List Int).length ≤ 690 := by
    split
    · have hs : schemaOk ts k m g = true := by
        rcases hk with ⟨_, h⟩ | ⟨h, _⟩ | ⟨h, _⟩
        · exact h
        · omega
        · omega
      have := putS_len ts k m g hs
      have := putI_len10 ((putS ts k m g).length : Int) (by omega)
      rw [List.length_append]
      omega
    · exact Nat.zero_le _
  have h5 : ((if kd = 2 then [] else putI ids.length ++ putAllI ids) : List Int).length ≤ 410 := by
    split
    · exact Nat.zero_le _
    · rw [List.length_append]; omega
  unfold recB
  simp only [List.length_append, List.length_singleton]
  omega
/-- What was put is taken, whatever is behind. -/
theorem recTake_put {kd : Int} {ts : List Int} {k m g : Int} {ids : List Int} {id : Int} (h : mayI kd ts k m g ids id = true) (r : List Int) :
    recTake (frameI (recB kd ts k m g ids id) ++ r) = ((kd, (ts, k, m, g), ids, id), ((frameI (recB kd ts k m g ids id)).length : Int), 0) := by
  have hl := recB_len h
  unfold recTake
  rw [unframe_frame _ _ (by omega)]
  simp only
  rw [if_neg (by intro h; exact h rfl)]
  have e := recB_eq kd ts k m g ids id
  have hR := recR_put h []
  rw [List.append_nil] at hR
  rw [if_neg (by rw [e]; simp)]
  have e1 : (recB kd ts k m g ids id).getD 0 0 = kd := by rw [e]; rfl
  have e2 : (recB kd ts k m g ids id).drop 1 = recT kd ts k m g ids id := by rw [e]; rfl
  rw [e1, e2, hR]
  have hp : putOf (kd, (ts, k, m, g), ids, id) = (frameI (recB kd ts k m g ids id), true) := by
    show recPut kd ts k m g ids id = _
    unfold recPut
    rw [if_pos h]
  rw [if_neg]
  rintro (h | h | h)
  · cases h
  · rw [hp] at h; cases h
  · rw [hp] at h
    exact h (by rw [show (((frameI (recB kd ts k m g ids id)).length : Int)).toNat = (frameI (recB kd ts k m g ids id)).length by omega, List.take_left])
/-- Of a record's frame a part is none. -/
theorem recTake_part {kd : Int} {ts : List Int} {k m g : Int} {ids : List Int} {id : Int} (h : mayI kd ts k m g ids id = true) (j : Nat) (hj : j < (frameI (recB kd ts k m g ids id)).length) :
    recTake ((frameI (recB kd ts k m g ids id)).take j) = (noRec, 0, 10) := by
  have hl := recB_len h
  unfold recTake
  rw [unframe_part _ (by omega) j hj]
  exact if_pos (by decide)
/-- One byte that is another one makes another sum. -/
theorem crc_other {a b : List Int} {x y : Int} (ha : isB a) (hb : isB b) (hx : 0 ≤ x ∧ x < 256) (hy : 0 ≤ y ∧ y < 256) (h : crcI (a ++ x :: b) = crcI (a ++ y :: b)) : x = y := by
  rw [crcI_inj_iff] at h
  have e : ∀ z, nats (a ++ z :: b) = nats a ++ (z.toNat :: nats b) := fun z => by simp [nats]
  rw [e, e] at h
  unfold crcN at h
  rw [crcReg_append, crcReg_append, crcReg_cons, crcReg_cons] at h
  have h1 : ∀ p q : Nat, p ^^^ 4294967295 = q ^^^ 4294967295 → p = q := fun p q hh => by
    have := congrArg (· ^^^ 4294967295) hh
    simpa [Nat.xor_assoc] using this
  have h2 := h1 _ _ h
  have hr : crcReg 4294967295 (nats a) < 4294967296 := crcReg_lt _ _ (by decide) (nats_lt ha)
  have hz : ∀ z : Int, 0 ≤ z ∧ z < 256 → crcReg 4294967295 (nats a) ^^^ z.toNat < 4294967296 := fun z hz => Nat.xor_lt_two_pow (n := 32) hr (by omega)
  have h3 := crcReg_inj (nats b) (nats_lt hb) _ _ (Mn_lt 8 _ (hz x hx)) (Mn_lt 8 _ (hz y hy)) h2
  have h4 := Mn_inj 8 _ _ (hz x hx) (hz y hy) h3
  have h5 : x.toNat = y.toNat := by
    have := congrArg (fun t => crcReg 4294967295 (nats a) ^^^ t) h4
    simpa [xcan] using this
  omega
theorem unframe_err (l : List Int) : (unframeI l).2.2 = 0 ∨ (unframeI l).2.2 = 10 ∨ (unframeI l).2.2 = 11 := by
  unfold unframeI
  split
  · exact .inr (.inl rfl)
  · split
    · exact .inl rfl
    · exact .inr (.inr rfl)
/-- What is taken is a record's frame; all else is told. -/
theorem recTake_cases (l : List Int) : (∃ kd ts k m g ids id, mayI kd ts k m g ids id = true ∧ ∃ rest, l = frameI (recB kd ts k m g ids id) ++ rest) ∨
    ((recTake l).1 = noRec ∧ (recTake l).2.1 = 0 ∧ ((recTake l).2.2 = 10 ∨ (recTake l).2.2 = 11)) := by
  have he := unframe_err l
  unfold recTake
  generalize unframeI l = u at he ⊢
  simp only []
  by_cases h0 : u.2.2 ≠ 0
  · rw [if_pos h0]
    exact .inr ⟨rfl, rfl, by rcases he with h | h | h; exact absurd h h0; exact .inl h; exact .inr h⟩
  · rw [if_neg h0]
    by_cases h1 : u.1.length = 0
    · rw [if_pos h1]
      exact .inr ⟨rfl, rfl, .inl rfl⟩
    · rw [if_neg h1]
      generalize recR (u.1.getD 0 0) (u.1.drop 1) false = q
      by_cases h2 : q.2.2 = true ∨ (putOf q.1).2 = false ∨ (putOf q.1).1 ≠ l.take u.2.1.toNat
      · rw [if_pos h2]
        exact .inr ⟨rfl, rfl, .inl rfl⟩
      · left
        obtain ⟨⟨kd, ⟨ts, k, m, g⟩, ids, id⟩, l1, b1⟩ := q
        by_cases hm : mayI kd ts k m g ids id = true
        · have hp : putOf (kd, (ts, k, m, g), ids, id) = (frameI (recB kd ts k m g ids id), true) := by
            show recPut kd ts k m g ids id = _
            unfold recPut
            rw [if_pos hm]
          have h4 : (putOf (kd, (ts, k, m, g), ids, id)).1 = l.take u.2.1.toNat := Classical.byContradiction fun h => h2 (.inr (.inr h))
          rw [hp] at h4
          exact ⟨kd, ts, k, m, g, ids, id, hm, l.drop u.2.1.toNat, by rw [show frameI (recB kd ts k m g ids id) = l.take u.2.1.toNat from h4, List.take_append_drop]⟩
        · exfalso
          refine h2 (.inr (.inl ?_))
          show (recPut kd ts k m g ids id).2 = false
          rw [recPut_2]
          simpa using hm
theorem putI_small {n : Nat} (h : n < 128) : putI (n : Int) = [(n : Int)] := by
  unfold putI
  rw [Int.toNat_natCast, putN_small h]
  rfl
theorem recB_inj_pre {kd kd' : Int} {ts ts' : List Int} {k m g k' m' g' : Int} {ids ids' : List Int} {id id' : Int} (h : mayI kd ts k m g ids id = true) (h' : mayI kd' ts' k' m' g' ids' id' = true) {rest : List Int}
    (e : recB kd' ts' k' m' g' ids' id' ++ rest = recB kd ts k m g ids id) : rest = [] := by
  rw [recB_eq, recB_eq, List.cons_append] at e
  obtain ⟨rfl, e2⟩ := List.cons.inj e
  have h1 := recR_put h' rest
  have h2 := recR_put h []
  rw [List.append_nil, ← e2, h1] at h2
  exact congrArg (fun q => q.2.1) h2
theorem isB_recB {kd : Int} {ts : List Int} {k m g : Int} {ids : List Int} {id : Int} (h : mayI kd ts k m g ids id = true) : isB (recB kd ts k m g ids id) := isB_rec (by have := (mayI_some h).1; omega)
/-- One byte of a short record's frame that is another one is told. -/
theorem recTake_turn {kd : Int} {ts : List Int} {k m g : Int} {ids : List Int} {id : Int} (h : mayI kd ts k m g ids id = true) (hN : (recB kd ts k m g ids id).length < 128) (j : Nat) (hj : j < (frameI (recB kd ts k m g ids id)).length)
    (v : Int) (hv : 0 ≤ v ∧ v < 256) (hne : v ≠ (frameI (recB kd ts k m g ids id)).getD j 0) :
    (recTake ((frameI (recB kd ts k m g ids id)).set j v)).2.1 = 0 ∧ ((recTake ((frameI (recB kd ts k m g ids id)).set j v)).2.2 = 10 ∨ (recTake ((frameI (recB kd ts k m g ids id)).set j v)).2.2 = 11) := by
  refine (recTake_cases ((frameI (recB kd ts k m g ids id)).set j v)).elim (fun hx => ?_) (fun h => h.2)
  obtain ⟨kd', ts', k', m', g', ids', id', h', rest, e⟩ := hx
  exfalso
  have hB := isB_recB h
  have hB' := isB_recB h'
  have hpre := fun rest => @recB_inj_pre kd kd' ts ts' k m g k' m' g' ids ids' id id' h h' rest
  generalize recB kd ts k m g ids id = p at hN hj hne e hB hpre
  generalize recB kd' ts' k' m' g' ids' id' = q at e hB' hpre
  have hl := congrArg List.length e
  rw [List.length_set, List.length_append, frameI_len, frameI_len, putI_small hN] at hl
  have hq : q.length < 128 := by
    have := putI_pos (q.length : Int)
    simp at hl
    omega
  rw [putI_small hq] at hl
  simp only [List.length_singleton] at hl
  have hf : ∀ z : List Int, z.length < 128 → frameI z = (z.length : Int) :: (sum4 (crcI z) ++ z) := fun z hz => by
    unfold frameI
    rw [putI_small hz]
    rfl
  rw [hf p hN] at e hne hj
  rw [hf q hq] at e
  cases j with
  | zero =>
    rw [List.set_cons_zero, List.cons_append] at e
    obtain ⟨e1, e2⟩ := List.cons.inj e
    rw [List.append_assoc] at e2
    obtain ⟨_, e4⟩ := List.append_inj e2 (by rw [sum4_len, sum4_len])
    have hr := hpre rest e4.symm
    subst hr
    rw [List.append_nil] at e4
    exact hne (by rw [e1, ← e4]; rfl)
  | succ j =>
    rw [List.set_cons_succ, List.cons_append] at e
    obtain ⟨e1, e2⟩ := List.cons.inj e
    have hr : rest = [] := List.eq_nil_of_length_eq_zero (by omega)
    subst hr
    rw [List.append_nil] at e2
    have hne2 : v ≠ (sum4 (crcI p) ++ p).getD j 0 := hne
    by_cases hj4 : j < 4
    · rw [List.set_append_left _ _ (by rw [sum4_len]; exact hj4)] at e2
      obtain ⟨e3, e4⟩ := List.append_inj e2 (by rw [List.length_set, sum4_len, sum4_len])
      subst e4
      apply hne2
      have e5 := congrArg (fun t => t.getD j 0) e3
      simp only [List.getD_eq_getElem?_getD] at e5 ⊢
      rw [List.getElem?_set_self (by rw [sum4_len]; exact hj4)] at e5
      rw [List.getElem?_append_left (by rw [sum4_len]; exact hj4), ← e5]
      rfl
    · rw [List.set_append_right _ _ (by rw [sum4_len]; omega), sum4_len] at e2
      obtain ⟨e3, e4⟩ := List.append_inj e2 (by rw [sum4_len, sum4_len])
      have hjp : j - 4 < p.length := by simp [sum4_len] at hj; omega
      have hc : crcI p = crcI q := sum4_inj (crcI_range hB) (crcI_range hB') e3
      rw [← e4] at hc
      have hsplit : p = p.take (j - 4) ++ p[j - 4] :: p.drop (j - 4 + 1) := by
        rw [← List.drop_eq_getElem_cons hjp, List.take_append_drop]
      have hset : p.set (j - 4) v = p.take (j - 4) ++ v :: p.drop (j - 4 + 1) := by
        rw [List.set_eq_take_append_cons_drop, if_pos hjp]
      rw [hset] at hc
      have hc2 : crcI (p.take (j - 4) ++ p[j - 4] :: p.drop (j - 4 + 1)) = crcI (p.take (j - 4) ++ v :: p.drop (j - 4 + 1)) := by rw [← hsplit]; exact hc
      have := crc_other (isB_take hB _) (isB_drop hB _) (hB _ (List.getElem_mem hjp)) hv hc2
      apply hne2
      rw [List.getD_eq_getElem?_getD, List.getElem?_append_right (by rw [sum4_len]; omega), sum4_len, List.getElem?_eq_getElem hjp, ← this]
      rfl
end Go.Proofs.YtanfmnobanhcnaaH.Rec
