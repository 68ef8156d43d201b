/- THE FUNCTIONS' EQUATIONS: block.Put. -/
import Derived.Test.YtomomeabfnmncaaGreatBF84
import Derived.Test.YtomomeabfnmncaaGreatBF53
set_option linter.all false
set_option maxRecDepth 100000
namespace Go.Ab
open Go.Proofs Go.Proofs.YtomomeabfnmncaaGreatH Go.Proofs.YtomomeabfnmncaaGreatH.Crc Go.Proofs.YtomomeabfnmncaaGreatH.Var Go.Proofs.YtomomeabfnmncaaGreatH.Fr
def c26 : Fn' := ⟨37, [(.tmp 4), (.tmp 5)], (.seq (.reg none [⟨(some 2), none, (.box false (.t 0))⟩, ⟨(some 4), none, (.mv (.k nilS))⟩, ⟨(some 5), none, (.mv (.k (.bool false)))⟩]) (.seq (.reg none [⟨(some 8), none, (.fn 76 [] [(.t 2)])⟩, ⟨(some 6), none, (.mv (.t 8))⟩]) (.seq (.seq (.reg none [⟨(some 9), none, (.ld none (.t 2))⟩, ⟨(some 10), none, (.call (.f 77) [(.t 9)])⟩, ⟨(some 11), none, (.un .not (.t 10))⟩, ⟨(some 12), none, (.mv (.t 11))⟩, ⟨(some 13), (some ((some 12), false)), (.mv (.t 1))⟩, ⟨(some 14), (some ((some 12), false)), (.len 1 (.t 13))⟩, ⟨(some 15), (some ((some 12), false)), (.bin .gtr [] (.t 14) (.k (.int .i64 2000)))⟩, ⟨(some 16), none, (.pick (.t 12) (.k (.bool true)) (.t 15))⟩, ⟨(some 17), none, (.mv (.t 16))⟩, ⟨(some 18), (some ((some 17), false)), (.mv (.t 1))⟩, ⟨(some 19), (some ((some 17), false)), (.mv (.t 6))⟩, ⟨(some 20), (some ((some 17), false)), (.call (.f 78) [(.t 18), (.t 19)])⟩, ⟨(some 21), none, (.pick (.t 17) (.k (.bool true)) (.t 20))⟩]) (.cond (.t 21) (.seq (.reg none [⟨(some 4), none, (.mv (.k nilS))⟩, ⟨(some 5), none, (.mv (.k (.bool false)))⟩]) .ret) .skip)) (.seq (.reg none [⟨(some 7), none, (.mv (.k nilS))⟩]) (.seq (.seq (.reg none [⟨(some 22), none, (.ld none (.t 2))⟩, ⟨(some 23), none, (.bin .eql [] (.t 22) (.k (.int .i64 3)))⟩]) (.cond (.t 23) (.reg none [⟨(some 24), none, (.mv (.t 1))⟩, ⟨(some 25), none, (.call (.f 80) [(.t 24), (.f 81)])⟩, ⟨(some 26), none, (.call (.f 79) [(.t 25)])⟩, ⟨(some 7), none, (.mv (.t 26))⟩]) (.reg none [⟨(some 27), none, (.mv (.t 1))⟩, ⟨(some 28), none, (.call (.f 83) [(.t 27), (.f 84)])⟩, ⟨(some 29), none, (.call (.f 82) [(.t 28)])⟩, ⟨(some 7), none, (.mv (.t 29))⟩]))) (.seq (.reg none [⟨(some 30), none, (.ld none (.t 2))⟩, ⟨(some 31), none, (.cvt (.int .u8) (.t 30))⟩, ⟨(some 32), none, (.bsl false 1 1 [(.int .u8 0)] [(0, (.t 31))])⟩, ⟨(some 33), none, (.mv (.t 7))⟩, ⟨(some 34), none, (.bsl false 1 2 [nilS] [(0, (.t 32)), (1, (.t 33))])⟩, ⟨(some 35), none, (.call (.f 37) [(.t 34)])⟩, ⟨(some 36), none, (.call (.f 32) [(.t 35)])⟩, ⟨(some 4), none, (.mv (.t 36))⟩, ⟨(some 5), none, (.mv (.k (.bool true)))⟩]) .ret))))))⟩
theorem k26 : compF Tryz.prog 36 = some c26 := by kernel_rfl
attribute [local simp] op_or op_an op_add op_sub op_mul oq_eql oq_neq oq_lss oq_gtr oq_leq oq_geq
attribute [-simp] intOp bin_shl bin_shr
theorem isB_nil : isB [] := fun _ h => nomatch h
theorem isB_cons' {c : Int} {a : List Int} (h : 0 ≤ c ∧ c < 256) (ha : isB a) : isB (c :: a) := fun x hx => by
  rcases List.mem_cons.1 hx with rfl | hx
  · exact h
  · exact ha x hx
theorem isB_bs (s : Tx) : isB (bsI s) := fun x hx => by
  obtain ⟨b, _, rfl⟩ := List.mem_map.1 hx
  have := b.toNat_lt
  omega
theorem each_cons (s : Tx) (l : List Tx) : eachI (s :: l) = putI s.length ++ (bsI s ++ eachI l) := by simp [eachI]
theorem isB_each : ∀ l : List Tx, isB (eachI l)
  | [] => isB_nil
  | s :: l => by rw [each_cons]; exact isB_append (isB_put _) (isB_append (isB_bs s) (isB_each l))
theorem isB_delta : ∀ (w : Int) (l : List Int), isB (deltaI w l)
  | w, [] => isB_nil
  | w, n :: t => isB_append (isB_put _) (isB_delta n t)
theorem isB_fixed (l : List Int) : isB (fixedI l) := fun x hx => by
  obtain ⟨i, _, rfl⟩ := List.mem_map.1 hx
  unfold fixB by8
  rw [IntKind.wrap_u8]
  omega
theorem isB_dictF : ∀ (l : List Tx) (q : List Tx × List Int), isB q.2 → isB (l.foldl dictS q).2
  | [], q, h => h
  | s :: l, q, h => by
    rw [List.foldl_cons]
    refine isB_dictF l _ ?_
    unfold dictS
    split <;> exact isB_append h (isB_put _)
theorem isB_dict (l : List Tx) : isB (dictI l) := isB_append (isB_put _) (isB_append (isB_each _) (isB_dictF l _ isB_nil))
theorem isB_texts (l : List Tx) : isB (textsI l) := by
  unfold textsI
  split
  · exact isB_append (isB_put _) (isB_cons' (by omega) (isB_dict l))
  · exact isB_append (isB_put _) (isB_cons' (by omega) (isB_each l))
theorem isB_intsI (l : List Int) : isB (intsI l) := by
  unfold intsI
  split
  · exact isB_append (isB_put _) (isB_cons' (by omega) (isB_delta 0 l))
  · exact isB_append (isB_put _) (isB_cons' (by omega) (isB_fixed l))
theorem each_len (m : Nat) (hm : m ≤ 1000000) : ∀ l : List Tx, (∀ s ∈ l, s.length ≤ m) → (eachI l).length ≤ (m + 10) * l.length
  | [], _ => by simp [eachI]
  | s :: l, h => by
    have ih := each_len m hm l fun x hx => h x (List.mem_cons_of_mem _ hx)
    have hs := h s List.mem_cons_self
    have hp := putI_len10 (s.length : Int) (by omega)
    rw [each_cons]
    simp only [List.length_append, bsI_len, List.length_cons, Nat.mul_add]
    omega
theorem dict_mem : ∀ (l : List Tx) (q : List Tx × List Int), q.1.length + l.length ≤ 1000000000 → (∀ w ∈ (l.foldl dictS q).1, w ∈ q.1 ∨ w ∈ l) ∧ (l.foldl dictS q).2.length ≤ q.2.length + 10 * l.length
  | [], q, _ => by simp
  | s :: l, q, hl => by
    simp only [List.length_cons] at hl
    have hd := dictS_le s q
    have h1 : ∀ w ∈ (dictS q s).1, w ∈ q.1 ∨ w = s := by
      intro w hw
      unfold dictS at hw
      split at hw
      · exact .inl hw
      · rcases List.mem_append.1 hw with h | h
        · exact .inl h
        · exact .inr (by simpa using h)
    have h2 : (dictS q s).2.length ≤ q.2.length + 10 := by
      unfold dictS
      split
      · rename_i hm
        have : q.1.idxOf s ≤ q.1.length := List.idxOf_le_length
        have := putI_len10 ((q.1.idxOf s : Nat) : Int) (by omega)
        simp only [List.length_append]
        omega
      · have := putI_len10 (q.1.length : Int) (by omega)
        simp only [List.length_append]
        omega
    have hq1 := hd.1
    obtain ⟨i1, i2⟩ := dict_mem l (dictS q s) (by omega)
    rw [List.foldl_cons, List.length_cons]
    refine ⟨fun w hw => ?_, by omega⟩
    rcases i1 w hw with h | h
    · rcases h1 w h with h | h
      · exact .inl h
      · exact .inr (by simp [h])
    · exact .inr (List.mem_cons_of_mem _ h)
theorem dict_len (l : List Tx) (m : Nat) (hm : m ≤ 1000000) (hl : l.length ≤ 1000000) (h : ∀ s ∈ l, s.length ≤ m) : (dictI l).length ≤ 10 + (m + 20) * l.length := by
  have h1 := dictF l ([], [])
  have h2 := dict_mem l ([], []) (by simp; omega)
  have hW : (l.foldl dictS ([], [])).1.length ≤ l.length := by simpa using h1.1
  have hp := putI_len10 ((l.foldl dictS ([], [])).1.length : Int) (by omega)
  have h3 := each_len m hm (l.foldl dictS ([], [])).1 (fun s hs => by
    rcases h2.1 s hs with h' | h'
    · cases h'
    · exact h s h')
  have h4 := h2.2
  have h5 : (m + 10) * (l.foldl dictS ([], [])).1.length ≤ (m + 10) * l.length := Nat.mul_le_mul_left _ hW
  have e : (m + 20) * l.length = (m + 10) * l.length + 10 * l.length := by rw [← Nat.add_mul]
  unfold dictI
  simp only [List.length_append, List.length_nil] at h4 ⊢
  omega
theorem texts_len (l : List Tx) (m : Nat) (hm : m ≤ 1000000) (hl : l.length ≤ 1000000) (h : ∀ s ∈ l, s.length ≤ m) : (textsI l).length ≤ 21 + (m + 20) * l.length := by
  have h1 := dict_len l m hm hl h
  have h2 := each_len m hm l h
  have hp := putI_len10 (l.length : Int) (by omega)
  have e : (m + 20) * l.length = (m + 10) * l.length + 10 * l.length := by rw [← Nat.add_mul]
  unfold textsI
  split <;> simp <;> omega
theorem leI_le {a b : Int} (h : leI a b = true) : a ≤ b := by simpa [leI] using h
theorem eqI_eq {a b : Int} (h : eqI a b = true) : a = b := by simpa [eqI] using h
theorem ltI_lt {a b : Int} (h : ltI a b = true) : a < b := by simpa [ltI] using h
theorem leI_nle {a b : Int} (h : leI a b = false) : b < a := by simpa [leI] using h
theorem eqI_ne {a b : Int} (h : eqI a b = false) : a ≠ b := by simpa [eqI] using h
theorem ltI_nlt {a b : Int} (h : ltI a b = false) : b ≤ a := by simpa [ltI] using h
theorem ints_len (l : List Int) (hl : l.length ≤ 1000000) : (intsI l).length ≤ 11 + 8 * l.length := by
  have hp := putI_len10 (l.length : Int) (by omega)
  have hf := fixedI_len l
  unfold intsI
  split <;> simp <;> omega
/-- What a block's frame is of. -/
def colI (t : Int) (l : List Va) : List Int := if eqI t 3 then textsI (l.map (·.2)) else intsI (l.map (·.1))
def blockI (t : Int) (l : List Va) : List Int := frameI (t :: colI t l)
def blockOk (t : Int) (l : List Va) : Bool := kindI t && decide (l.length ≤ 2000) && l.all (fitsI t)
theorem isB_col (t : Int) (l : List Va) : isB (colI t l) := by unfold colI; split; exact isB_texts _; exact isB_intsI _
theorem fits60 {t : Int} {p : Va} (h : fitsI t p = true) : p.2.length ≤ 60 := by
  unfold fitsI at h
  split at h
  · have : p.2 = [] := by simpa using h
    rw [this]; simp
  · split at h
    · have := leI_le (Bool.and_eq_true_iff.1 h).2
      omega
    · cases h
theorem col_len (t : Int) (l : List Va) (h : ∀ p ∈ l, p.2.length ≤ 60) (hl : l.length ≤ 2000) : (colI t l).length ≤ 200000 := by
  unfold colI
  split
  · have := texts_len (l.map (·.2)) 60 (by omega) (by simp; omega) (by intro s hs; obtain ⟨p, hp, rfl⟩ := List.mem_map.1 hs; exact h p hp)
    simp only [List.length_map] at this
    omega
  · have := ints_len (l.map (·.1)) (by simp; omega)
    simp only [List.length_map] at this
    omega
set_option maxHeartbeats 4000000 in
/-- block.Put. -/
theorem K26 (c : Bool) (s : Nat) (t : Int) (ht : i64R t) (l : List Va) (hs : s = 2 ∨ l = []) (hl : l.length ≤ 2 ^ 30) :
    K0 36 [.int .i64 t, .slc c s (l.map Va.d)] [] = some (.tuple (if blockOk t l then [.slc false 1 ((blockI t l).map (.int .u8)), .bool true] else [nilS, .bool false]), []) := by
  have h52 := K52 t
  have h53 := K53 c s l hs t (by omega)
  have hany : (l.any fun p => !fitsI t p) = !l.all (fitsI t) := by simp [List.all_eq_not_any_not]
  rw [hany] at h53
  refine K_call k26 (oraG_none (by decide) (by decide)) (by simp [c26]) ?_
  unfold blockOk
  cases hk : kindI t with
  | false => rw [hk] at h52; simp [c26, h52]
  | true =>
    rw [hk] at h52
    by_cases hlen : l.length ≤ 2000
    · have z1 : ltI 2000 (l.length : Int) = false := ltI_f (by omega)
      cases ha : l.all (fitsI t) with
      | false => rw [ha] at h53; simp [c26, h52, z1, h53, hlen, backK, List.lookup]
      | true =>
        rw [ha] at h53
        have h60 : ∀ p ∈ l, p.2.length ≤ 60 := fun p hp => fits60 (List.all_eq_true.1 ha p hp)
        have hkk : 1 ≤ t ∧ t ≤ 3 := by
          unfold kindI at hk
          simp only [Bool.and_eq_true] at hk
          exact ⟨leI_le hk.1, leI_le hk.2⟩
        have hw8 : IntKind.u8.wrap t = t := by rw [IntKind.wrap_u8]; omega
        have hcl := col_len t l h60 hlen
        have hiB := isB_col t l
        have hcat := K60 true [(true, 1, [t]), (false, 1, colI t l)] (by simp [tot]; omega) (by simp)
        simp only [List.map_cons, List.map_nil, Ro.d, cat, List.flatten_cons, List.flatten_nil, List.append_nil] at hcat
        have hfr := N32 (t :: colI t l) false (isB_cons' (by omega) hiB) (by simp; omega)
        have hb : blockI t l = frameI (t :: colI t l) := rfl
        rw [hb]
        cases h3 : eqI t 3 with
        | true =>
          have hc : colI t l = textsI (l.map (·.2)) := by unfold colI; rw [h3]; rfl
          have h2 : ∀ s ∈ l.map (·.2), s.length ≤ 60 := by
            intro s hs
            obtain ⟨p, hp, rfl⟩ := List.mem_map.1 hs
            exact h60 p hp
          obtain ⟨c', s', hs', h55⟩ := K55 c s l hs hl
          have e1 : l.map (fun p => D.str p.2) = (l.map (·.2)).map D.str := by simp
          rw [e1] at h55
          have h54 := K54 c' s' (l.map (·.2)) (by rcases hs' with h | h; exact .inl h; exact .inr (by simp [h])) (by simpa using hl)
            (by have := each_len 60 (by omega) _ h2; simp at this; omega) (by have := dict_len _ 60 (by omega) (by simp; omega) h2; simp at this; omega)
          rw [← hc] at h54
          generalize colI t l = X at *
          generalize l.map (·.2) = L at *
          generalize frameI (t :: X) = Y at *
          simp only [List.map_cons, List.singleton_append, List.cons_append, List.nil_append] at hcat hfr
          simp [c26, h52, z1, h53, h3, hw8, h54, h55, hcat, hfr, hlen, backK, List.lookup]
        | false =>
          have hc : colI t l = intsI (l.map (·.1)) := by unfold colI; rw [h3]; rfl
          obtain ⟨c', s', hs', h58⟩ := K58 c s l hs hl
          have e1 : l.map (fun p => D.int .i64 p.1) = (l.map (·.1)).map (.int .i64) := by simp
          rw [e1] at h58
          have h57 := K57 c' s' (l.map (·.1)) (by rcases hs' with h | h; exact .inl h; exact .inr (by simp [h])) (by simpa using hl)
          rw [← hc] at h57
          generalize colI t l = X at *
          generalize l.map (·.1) = L at *
          generalize frameI (t :: X) = Y at *
          simp only [List.map_cons, List.singleton_append, List.cons_append, List.nil_append] at hcat hfr
          simp [c26, h52, z1, h53, h3, hw8, h57, h58, hcat, hfr, hlen, backK, List.lookup]
    · have z1 : ltI 2000 (l.length : Int) = true := ltI_t (by omega)
      simp [c26, h52, z1, hlen]
end Go.Ab
