/- THE FUNCTIONS' EQUATIONS: block.Put. -/
import Derived.Test.YtanfmnobanhcnaaBF84
import Derived.Test.YtanfmnobanhcnaaBF53
set_option linter.all false
set_option maxRecDepth 100000
namespace Go.Ab
open Go.Proofs Go.Proofs.YtanfmnobanhcnaaH Go.Proofs.YtanfmnobanhcnaaH.Crc Go.Proofs.YtanfmnobanhcnaaH.Var Go.Proofs.YtanfmnobanhcnaaH.Fr
def c26 : Fn' := ⟨37, [(.tmp 4), (.tmp 5)], (.seq (.reg none [⟨(some 2), none, (.box false (.t 0))⟩, ⟨(some 4), none, (.mv (.k nilS))⟩, ⟨(some 5), none, (.mv (.k (.bool false)))⟩]) (.seq (.reg none [⟨(some 8), none, (.fn 50 [] [(.t 2)])⟩, ⟨(some 6), none, (.mv (.t 8))⟩]) (.seq (.seq (.reg none [⟨(some 9), none, (.ld none (.t 2))⟩, ⟨(some 10), none, (.call (.f 52) [(.t 9)])⟩, ⟨(some 11), none, (.un .not (.t 10))⟩, ⟨(some 12), none, (.mv (.t 11))⟩, ⟨(some 13), (some ((some 12), false)), (.mv (.t 1))⟩, ⟨(some 14), (some ((some 12), false)), (.len 1 (.t 13))⟩, ⟨(some 15), (some ((some 12), false)), (.bin .gtr [] (.t 14) (.k (.int .i64 2000)))⟩, ⟨(some 16), none, (.pick (.t 12) (.k (.bool true)) (.t 15))⟩, ⟨(some 17), none, (.mv (.t 16))⟩, ⟨(some 18), (some ((some 17), false)), (.mv (.t 1))⟩, ⟨(some 19), (some ((some 17), false)), (.mv (.t 6))⟩, ⟨(some 20), (some ((some 17), false)), (.call (.f 53) [(.t 18), (.t 19)])⟩, ⟨(some 21), none, (.pick (.t 17) (.k (.bool true)) (.t 20))⟩]) (.cond (.t 21) (.seq (.reg none [⟨(some 4), none, (.mv (.k nilS))⟩, ⟨(some 5), none, (.mv (.k (.bool false)))⟩]) .ret) .skip)) (.seq (.reg none [⟨(some 7), none, (.mv (.k nilS))⟩]) (.seq (.seq (.reg none [⟨(some 22), none, (.ld none (.t 2))⟩, ⟨(some 23), none, (.bin .eql [] (.t 22) (.k (.int .i64 3)))⟩]) (.cond (.t 23) (.reg none [⟨(some 24), none, (.mv (.t 1))⟩, ⟨(some 25), none, (.call (.f 55) [(.t 24), (.f 56)])⟩, ⟨(some 26), none, (.call (.f 54) [(.t 25)])⟩, ⟨(some 7), none, (.mv (.t 26))⟩]) (.reg none [⟨(some 27), none, (.mv (.t 1))⟩, ⟨(some 28), none, (.call (.f 58) [(.t 27), (.f 59)])⟩, ⟨(some 29), none, (.call (.f 57) [(.t 28)])⟩, ⟨(some 7), none, (.mv (.t 29))⟩]))) (.seq (.reg none [⟨(some 30), none, (.ld none (.t 2))⟩, ⟨(some 31), none, (.cvt (.int .u8) (.t 30))⟩, ⟨(some 32), none, (.bsl false 1 1 [(.int .u8 0)] [(0, (.t 31))])⟩, ⟨(some 33), none, (.mv (.t 7))⟩, ⟨(some 34), none, (.bsl false 1 2 [nilS] [(0, (.t 32)), (1, (.t 33))])⟩, ⟨(some 35), none, (.call (.f 60) [(.t 34)])⟩, ⟨(some 36), none, (.call (.f 32) [(.t 35)])⟩, ⟨(some 4), none, (.mv (.t 36))⟩, ⟨(some 5), none, (.mv (.k (.bool true)))⟩]) .ret))))))⟩
theorem k26 : compF Try.prog 26 = some c26 := by kernel_rfl
attribute [local simp] op_or op_an op_add op_sub op_mul oq_eql oq_neq oq_lss oq_gtr oq_leq oq_geq
attribute [-simp] intOp bin_shl bin_shr
theorem isB_nil : isB [] := fun _ h => nomatch h
theorem isB_cons' {c : Int} {a : List Int} (h : 0 ≤ c ∧ c < 256) (ha : isB a) : isB (c :: a) := fun x hx => by
  rcases List.mem_cons.1 hx with rfl | hx
  · exact h
  · exact ha x hx
theorem isB_bs (s : Tx) : isB (bsI s) := fun x hx => by
  obtain ⟨b, _, rfl⟩ := List.mem_map.1 hx
  have := b.toNat_lt
  omega
theorem each_cons (s : Tx) (l : List Tx) : eachI (s :: l) = putI s.length ++ (bsI s ++ eachI l) := by simp [eachI]
theorem isB_each : ∀ l : List Tx, isB (eachI l)
  | [] => isB_nil
  | s :: l => by rw [each_cons]; exact isB_append (isB_put _) (isB_append (isB_bs s) (isB_each l))
theorem isB_delta : ∀ (w : Int) (l : List Int), isB (deltaI w l)
  | w, [] => isB_nil
  | w, n :: t => isB_append (isB_put _) (isB_delta n t)
theorem isB_fixed (l : List Int) : isB (fixedI l) := fun x hx => by
  obtain ⟨i, _, rfl⟩ := List.mem_map.1 hx
  unfold fixB by8
  rw [IntKind.wrap_u8]
  omega
theorem isB_dictF : ∀ (l : List Tx) (q : List Tx × List Int), isB q.2 → isB (l.foldl dictS q).2
  | [], q, h => h
  | s :: l, q, h => by
    rw [List.foldl_cons]
    refine isB_dictF l _ ?_
    unfold dictS
    split <;> exact isB_append h (isB_put _)
theorem isB_dict (l : List Tx) : isB (dictI l) := isB_append (isB_put _) (isB_append (isB_each _) (isB_dictF l _ isB_nil))
theorem isB_texts (l : List Tx) : isB (textsI l) := by
  unfold textsI
  split
  · exact isB_append (isB_put _) (isB_cons' (by omega) (isB_dict l))
  · exact isB_append (isB_put _) (isB_cons' (by omega) (isB_each l))
theorem isB_intsI (l : List Int) : isB (intsI l) := by
  unfold intsI
  split
  · exact isB_append (isB_put _) (isB_cons' (by omega) (isB_delta 0 l))
  · exact isB_append (isB_put _) (isB_cons' (by omega) (isB_fixed l))
theorem each_len (m : Nat) (hm : m ≤ 1000000) : ∀ l : List Tx, (∀ s ∈ l, s.length ≤ m) → (eachI l).length ≤ (m + 10) * l.length
  | [], _ => by simp [eachI]
  | s :: l, h => by
    have ih := each_len m hm l fun x hx => h x (List.mem_cons_of_mem _ hx)
    have hs := h s List.mem_cons_self
    have hp := putI_len10 (s.length : Int) (by omega)
    rw [each_cons]
    simp only [List.length_append, bsI_len, List.length_cons, Nat.mul_add]
    omega
theorem dict_mem : ∀ (l : List Tx) (q : List Tx × List Int), q.1.length + l.length ≤ 1000000000 → (∀ w ∈ (l.foldl dictS q).1, w ∈ q.1 ∨ w ∈ l) ∧ (l.foldl dictS q).2.length ≤ q.2.length + 10 * l.length
  | [], q, _ => by simp
  | s :: l, q, hl => by
    simp only [List.length_cons] at hl
    have hd := dictS_le s q
    have h1 : ∀ w ∈ (dictS q s).1, w ∈ q.1 ∨ w = s := by
      intro w hw
      unfold dictS at hw
      split at hw
      · exact .inl hw
      · rcases List.mem_append.1 hw with h | h
        · exact .inl h
        · exact .inr (by simpa using h)
    have h2 : (dictS q s).2.length ≤ q.2.length + 10 := by
      unfold dictS
      split
      · rename_i hm
        have : q.1.idxOf s ≤ q.1.length := List.idxOf_le_length
        have := putI_len10 ((q.1.idxOf s : Nat) : Int) (by omega)
        simp only [List.length_append]
        omega
      · have := putI_len10 (q.1.length : Int) (by omega)
        simp only [List.length_append]
        omega
    have hq1 := hd.1
    obtain ⟨i1, i2⟩ := dict_mem l (dictS q s) (by omega)
    rw [List.foldl_cons, List.length_cons]
    refine ⟨fun w hw => ?_, by omega⟩
    rcases i1 w hw with h | h
    · rcases h1 w h with h | h
      · exact .inl h
      · exact .inr (by simp [h])
    · exact .inr (List.mem_cons_of_mem _ h)
theorem dict_len (l : List Tx) (m : Nat) (hm : m ≤ 1000000) (hl : l.length ≤ 1000000) (h : ∀ s ∈ l, s.length ≤ m) : (dictI l).length ≤ 10 + (m + 20) * l.length := by
  have h1 := dictF l ([], [])
  have h2 := dict_mem l ([], []) (by simp; omega)
  have hW : (l.foldl dictS ([], [])).1.length ≤ l.length := by simpa using h1.1
  have hp := putI_len10 ((l.foldl dictS ([], [])).1.length : Int) (by omega)
  have h3 := each_len m hm (l.foldl dictS ([], [])).1 (fun s hs => by
    rcases h2.1 s hs with h' | h'
    · cases h'
    · exact h s h')
  have h4 := h2.2
  have h5 : (m + 10) * (l.foldl dictS ([], [])).1.length ≤ (m + 10) * l.length := Nat.mul_le_mul_left _ hW
  have e : (m + 20) * l.length = (m + 10) * l.length + 10 * l.length := by rw [← Nat.add_mul]
  unfold dictI
  simp only [List.length_append, List.length_nil] at h4 ⊢
  omega
theorem texts_len (l : List Tx) (m : Nat) (hm : m ≤ 1000000) (hl : l.length ≤ 1000000) (h : ∀ s ∈ l, s.length ≤ m) : (textsI l).length ≤ 21 + (m + 20) * l.length := by
  have h1 := dict_len l m hm hl h
  have h2 := each_len m hm l h
  have hp := putI_len10 (l.length : Int) (by omega)
  have e : (m + 20) * l.length = (m + 10) * l.length + 10 * l.length := by rw [← Nat.add_mul]
  unfold textsI
  split <;> simp <;> omega
theorem leI_le {a b : Int} (h : leI a b = true) : a ≤ b := by simpa [leI] using h
theorem eqI_eq {a b : Int} (h : eqI a b = true) : a = b := by simpa [eqI] using h
theorem ltI_lt {a b : Int} (h : ltI a b = true) : a < b := by simpa [ltI] using h
theorem leI_nle {a b : Int} (h : leI a b = false) : b < a := by simpa [leI] using h
theorem eqI_ne {a b : Int} (h : eqI a b = false) : a ≠ b := by simpa [eqI] using h
theorem ltI_nlt {a b : Int} (h : ltI a b = false) : b ≤ a := by simpa [ltI] using h
theorem ints_len (l : List Int) (hl : l.length ≤ 1000000) : (intsI l).length ≤ 11 + 8 * l.length := by
  have hp := putI_len10 (l.length : Int) (by omega)
  have hf := fixedI_len l
  unfold intsI
  split <;> simp <;> omega
/-- What a block's frame is of. -/
def colI (t : Int) (l : List Va) : List Int := if eqI t 3 then textsI (l.map (·.2)) else intsI (l.map (·.1))
def blockI (t : Int) (l : List Va) : List Int := frameI (t :: colI t l)
def blockOk (t : Int) (l : List Va) : Bool := kindI t && decide (l.length ≤ 2000) && l.all (fitsI t)
theorem isB_col (t : Int) (l : List Va) : isB (colI t l) := by unfold colI; split; exact isB_texts _; exact isB_intsI _
theorem fits60 {t : Int} {p : Va} (h : fitsI t p = true) : p.2.length ≤ 60 := by
  unfold fitsI at h
  split at h
  · have : p.2 = [] := by simpa using h
    rw [this]; simp
  · split at h
    · have := leI_le (Bool.and_eq_true_iff.1 h).2
      omega
    · cases h
theorem col_len (t : Int) (l : List Va) (h : ∀ p ∈ l, p.2.length ≤ 60) (hl : l.length ≤ 2000) : (colI t l).length ≤ 200000 := by
  unfold colI
  split
  · have := texts_len (l.map (·.2)) 60 (by omega) (by simp; omega) (by intro s hs; obtain ⟨p, hp, rfl⟩ := List.mem_map.1 hs; exact h p hp)
    simp only [List.length_map] at this
    omega
  · have := ints_len (l.map (·.1)) (by simp; omega)
    simp only [List.length_map] at this
    omega
set_option maxHeartbeats 4000000 in
/-- block.Put. -/
theorem K26 (c : Bool) (s : Nat) (t : Int) (ht : i64R t) (l : List Va) (hs : s = 2 ∨ l = []) (hl : l.length ≤ 2 ^ 30) :
    K0 26 [.int .i64 t, .slc c s (l.map Va.d)] [] = some (.tuple (if blockOk t l then [.slc false 1 ((blockI t l).map (.int .u8)), .bool true] else [nilS, .bool false]), []) := by
  have h52 := K52 t
  have h53 := K53 c s l hs t (by omega)
  have hany : (l.any fun p => !fitsI t p) = !l.all (fitsI t) := by simp [List.all_eq_not_any_not]
  rw [hany] at h53
  refine K_call k26 (oraG_none (by decide) (by decide)) (by simp [c26]) ?_
  unfold blockOk
  cases hk : kindI t with
  | false => rw [hk] at h52; simp [c26, h52]
  | true =>
    rw [hk] at h52
    by_cases hlen : l.length ≤ 2000
    · have z1 : ltI 2000 (l.length : Int) = false := ltI_f (by omega)
      cases ha : l.all (fitsI t) with
      | false => rw [ha] at h53; simp [c26, h52, z1, h53, hlen, backK, List.lookup]
      | true =>
        rw [ha] at h53
        have h60 : ∀ p ∈ l, p.2.length ≤ 60 := fun p hp => fits60 (List.all_eq_true.1 ha p hp)
        have hkk : 1 ≤ t ∧ t ≤ 3 := by
          unfold kindI at hk
          simp only [Bool.and_eq_true] at hk
          exact ⟨leI_le hk.1, leI_le hk.2⟩
        have hw8 : IntKind.u8.wrap t = t := by rw [IntKind.wrap_u8]; omega
        have hcl := col_len t l h60 hlen
        have hiB := isB_col t l
        have hcat := K60 true [(true, 1, [t]), (false, 1, colI t l)] (by simp [tot]; omega) (by simp)
        simp only [List.map_cons, List.map_nil, Ro.d, cat, List.flatten_cons, List.flatten_nil, List.append_nil] at hcat
        have hfr := N32 (t :: colI t l) false (isB_cons' (by omega) hiB) (by simp; omega)
        have hb : blockI t l = frameI (t :: colI t l) := rfl
        rw [hb]
        cases h3 : eqI t 3 with
        | true =>
          have hc : colI t l = textsI (l.map (·.2)) := by unfold colI; rw [h3]; rfl
          have h2 : ∀ s ∈ l.map (·.2), s.length ≤ 60 := by
            intro s hs
            obtain ⟨p, hp, rfl⟩ := List.mem_map.1 hs
            exact h60 p hp
          obtain ⟨c', s', hs', h55⟩ := K55 c s l hs hl
          have e1 : l.map (fun p => D.str p.2) = (l.map (·.2)).map D.str := by simp
          rw [e1] at h55
          have h54 := K54 c' s' (l.map (·.2)) (by rcases hs' with h | h; exact .inl h; exact .inr (by simp [h])) (by simpa using hl)
            (by have := each_len 60 (by omega) _ h2; simp at this; omega) (by have := dict_len _ 60 (by omega) (by simp; omega) h2; simp at this; omega)
          rw [← hc] at h54
          generalize colI t l = X at *
          generalize l.map (·.2) = L at *
          generalize frameI (t :: X) = Y at *
          simp only [List.map_cons, List.singleton_append, List.cons_append, List.nil_append] at hcat hfr
          simp [c26, h52, z1, h53, h3, hw8, h54, h55, hcat, hfr, hlen, backK, List.lookup]
        | false =>
          have hc : colI t l = intsI (l.map (·.1)) := by unfold colI; rw [h3]; rfl
          obtain ⟨c', s', hs', h58⟩ := K58 c s l hs hl
          have e1 : l.map (fun p => D.int .i64 p.1) = (l.map (·.1)).map (.int .i64) := by simp
          rw [e1] at h58
          have h57 := K57 c' s' (l.map (·.1)) (by rcases hs' with h | h; exact .inl h; exact .inr (by simp [h])) (by simpa using hl)
          rw [← hc] at h57
          generalize colI t l = X at *
          generalize l.map (·.1) = L at *
          generalize frameI (t :: X) = Y at *
          simp only [List.map_cons, List.singleton_append, List.cons_append, List.nil_append] at hcat hfr
          simp [c26, h52, z1, h53, h3, hw8, h57, h58, hcat, hfr, hlen, backK, List.lookup]
    · have z1 : ltI 2000 (l.length : Int) = true := ltI_t (by omega)
      simp [c26, h52, z1, hlen]
end Go.Ab
/- THE FUNCTIONS' EQUATIONS: thresherlaw07: shown, few. -/
set_option linter.all false
set_option maxRecDepth 100000
namespace Go.Ab
open Go.Proofs Go.Proofs.YtanfmnobanhcnaaH Go.Proofs.YtanfmnobanhcnaaH.Crc Go.Proofs.YtanfmnobanhcnaaH.Var Go.Proofs.YtanfmnobanhcnaaH.Fr
def c24 : Fn' := ⟨37, [(.tmp 0)], (.seq (.reg none [⟨(some 0), none, (.mv (.k (.bool false)))⟩]) (.seq (.reg none [⟨(some 4), none, (.call (.f 26) [(.k (.int .i64 1)), (.k nilS)])⟩, ⟨(some 3), none, (.mv (.t 4))⟩, ⟨(some 5), none, (.ext (.t 3) 0)⟩, ⟨(some 6), none, (.ext (.t 3) 1)⟩, ⟨(some 1), none, (.mv (.t 5))⟩, ⟨(some 2), none, (.mv (.t 6))⟩]) (.seq (.reg none [⟨(some 7), none, (.mv (.t 2))⟩, ⟨(some 8), none, (.mv (.t 7))⟩, ⟨(some 9), (some ((some 8), true)), (.mv (.t 1))⟩, ⟨(some 10), (some ((some 8), true)), (.len 1 (.t 9))⟩, ⟨(some 11), (some ((some 8), true)), (.bin .eql [] (.t 10) (.k (.int .i64 8)))⟩, ⟨(some 12), none, (.pick (.t 8) (.t 11) (.k (.bool false)))⟩, ⟨(some 13), none, (.mv (.t 12))⟩, ⟨(some 14), (some ((some 13), true)), (.mv (.t 1))⟩, ⟨(some 15), (some ((some 13), true)), (.ia none 1 false (.t 14) (.k (.int .i64 0)))⟩, ⟨(some 16), (some ((some 13), true)), (.ld none (.t 15))⟩, ⟨(some 17), (some ((some 13), true)), (.bin .eql [] (.t 16) (.k (.int .u8 3)))⟩, ⟨(some 18), none, (.pick (.t 13) (.t 17) (.k (.bool false)))⟩, ⟨(some 19), none, (.mv (.t 18))⟩, ⟨(some 20), (some ((some 19), true)), (.mv (.t 1))⟩, ⟨(some 21), (some ((some 19), true)), (.ia none 1 false (.t 20) (.k (.int .i64 5)))⟩, ⟨(some 22), (some ((some 19), true)), (.ld none (.t 21))⟩, ⟨(some 23), (some ((some 19), true)), (.bin .eql [] (.t 22) (.k (.int .u8 1)))⟩, ⟨(some 24), none, (.pick (.t 19) (.t 23) (.k (.bool false)))⟩, ⟨(some 25), none, (.mv (.t 24))⟩, ⟨(some 26), (some ((some 25), true)), (.mv (.t 1))⟩, ⟨(some 27), (some ((some 25), true)), (.ia none 1 false (.t 26) (.k (.int .i64 6)))⟩, ⟨(some 28), (some ((some 25), true)), (.ld none (.t 27))⟩, ⟨(some 29), (some ((some 25), true)), (.bin .eql [] (.t 28) (.k (.int .u8 0)))⟩, ⟨(some 30), none, (.pick (.t 25) (.t 29) (.k (.bool false)))⟩, ⟨(some 31), none, (.mv (.t 30))⟩, ⟨(some 32), (some ((some 31), true)), (.mv (.t 1))⟩, ⟨(some 33), (some ((some 31), true)), (.ia none 1 false (.t 32) (.k (.int .i64 7)))⟩, ⟨(some 34), (some ((some 31), true)), (.ld none (.t 33))⟩, ⟨(some 35), (some ((some 31), true)), (.bin .eql [] (.t 34) (.k (.int .u8 0)))⟩, ⟨(some 36), none, (.pick (.t 31) (.t 35) (.k (.bool false)))⟩, ⟨(some 0), none, (.mv (.t 36))⟩]) .ret)))⟩
theorem k24 : compF Try.prog 24 = some c24 := by kernel_rfl
def b25_0 : C := (.seq (.seq (.reg none [⟨(some 7), none, (.mv (.t 4))⟩, ⟨(some 8), none, (.mv (.t 0))⟩, ⟨(some 9), none, (.len 1 (.t 8))⟩, ⟨(some 10), none, (.bin .lss [] (.t 7) (.t 9))⟩, ⟨(some 11), none, (.mv (.t 10))⟩, ⟨(some 12), (some ((some 11), true)), (.mv (.t 4))⟩, ⟨(some 13), (some ((some 11), true)), (.bin .lss [] (.t 12) (.k (.int .i64 60)))⟩, ⟨(some 14), none, (.pick (.t 11) (.t 13) (.k (.bool false)))⟩]) (.cond (.t 14) .skip (.exit 0))) (.seq (.block 1 (.seq (.reg none [⟨(some 17), none, (.mv (.t 0))⟩, ⟨(some 18), none, (.mv (.t 4))⟩, ⟨(some 19), none, (.ia none 2 true (.t 17) (.t 18))⟩, ⟨(some 20), none, (.ld (some 2) (.t 19))⟩, ⟨(some 5), none, (.alloc false [(.int .i64 0), (.str [])])⟩, ⟨none, none, (.st 2 (.t 5) (.t 20))⟩]) (.seq (.seq (.reg none [⟨(some 21), none, (.fa 1 1 false (.t 5))⟩, ⟨(some 22), none, (.ld none (.t 21))⟩, ⟨(some 23), none, (.len 0 (.t 22))⟩, ⟨(some 24), none, (.bin .gtr [] (.t 23) (.k (.int .i64 70)))⟩]) (.cond (.t 24) (.reg none [⟨(some 25), none, (.fa 1 1 false (.t 5))⟩, ⟨(some 26), none, (.ld none (.t 25))⟩, ⟨(some 27), none, (.sub 0 1 (.t 26) none (some (.k (.int .i64 70))) none)⟩, ⟨(some 28), none, (.fa 1 1 false (.t 5))⟩, ⟨none, none, (.st 1 (.t 28) (.t 27))⟩]) .skip)) (.reg none [⟨(some 29), none, (.mv (.t 3))⟩, ⟨(some 30), none, (.ld (some 2) (.t 5))⟩, ⟨(some 31), none, (.bsl false 2 1 [(.int .i64 0), (.str [])] [(0, (.t 30))])⟩, ⟨(some 32), none, (.app 2 24 (.t 29) (.t 31))⟩, ⟨(some 3), none, (.mv (.t 32))⟩])))) (.reg none [⟨(some 15), none, (.mv (.t 4))⟩, ⟨(some 16), none, (.bin .add [] (.t 15) (.k (.int .i64 1)))⟩, ⟨(some 4), none, (.mv (.t 16))⟩])))
def c25 : Fn' := ⟨34, [(.tmp 2)], (.seq (.reg none [⟨(some 2), none, (.mv (.k nilS))⟩]) (.seq (.reg none [⟨(some 6), none, (.bsl true 2 0 [(.int .i64 0), (.str [])] [])⟩, ⟨(some 3), none, (.mv (.t 6))⟩]) (.seq (.seq (.reg none [⟨(some 4), none, (.mv (.k (.int .i64 0)))⟩]) (.block 0 (.loop b25_0))) (.seq (.reg none [⟨(some 33), none, (.mv (.t 3))⟩, ⟨(some 2), none, (.mv (.t 33))⟩]) .ret))))⟩
theorem k25 : compF Try.prog 25 = some c25 := by kernel_rfl
attribute [local simp] op_or op_an op_add op_sub op_mul oq_eql oq_neq oq_lss oq_gtr oq_leq oq_geq
attribute [-simp] intOp bin_shl bin_shr
set_option maxHeartbeats 2000000 in
theorem K24 : K0 24 [] [] = some (.bool true, []) := by
  have h := K26 true 0 1 (by unfold i64R; omega) [] (.inr rfl) (by simp)
  have hb : ∃ s0 s1 s2 s3, blockI 1 [] = [3, s0, s1, s2, s3, 1, 0, 0] := by
    have : colI 1 [] = [0, 0] := by decide +kernel
    unfold blockI frameI
    rw [this]
    have : putI (([1, 0, 0] : List Int).length : Int) = [3] := by decide +kernel
    rw [this]
    exact ⟨_, _, _, _, rfl⟩
  obtain ⟨s0, s1, s2, s3, hb⟩ := hb
  have ho : blockOk 1 [] = true := by decide
  rw [ho, hb] at h
  simp only [if_true, List.map_nil] at h
  refine K_call k24 (oraG_none (by decide) (by decide)) (by simp [c24]) ?_
  have z1 : eqI 8 8 = true := rfl
  have z2 : eqI 3 3 = true := rfl
  have z3 : eqI 1 1 = true := rfl
  have z4 : eqI 0 0 = true := rfl
  simp at h
  simp [c24, h, z1, z2, z3, z4]
/-- A text of 70 bytes at most. -/
def cut70 (p : Va) : Va := (p.1, p.2.take 70)
/-- few. -/
def fewV (l : List Va) : List Va := (l.take 60).map cut70
def rowV2 (l : List Va) : Obj := .row 2 (l.map Va.d) 0
def t25 (c : Bool) (s : Nat) (l : List Va) (a i : Nat) : List D := [.slc c s (l.map Va.d), .undef, nilS, .sl 0 0 a a, .int .i64 i, .undef, .sl 0 0 0 0, .undef, .undef, .undef, .undef, .undef, .undef, .undef, .undef, .undef, .undef, .undef, .undef, .undef, .undef, .undef, .undef, .undef, .undef, .undef, .undef, .undef, .undef, .undef, .undef, .undef, .undef, .undef]
def kn25 : List Kn := [.blk 0, .c ((C.reg none [⟨some 33, none, .mv (.t 3)⟩, ⟨some 2, none, .mv (.t 33)⟩]).seq C.ret)]
theorem few_drop (l : List Va) (i : Nat) (h : i < 60) (x : Va) (r : List Va) (hr : l.drop i = x :: r) : fewV l = fewV (l.take i) ++ cut70 x :: ((l.drop (i + 1)).take (59 - i)).map cut70 := by
  have e : l = l.take i ++ l.drop i := (List.take_append_drop i l).symm
  have hx : l.drop (i + 1) = r := by rw [← List.tail_drop, hr]; rfl
  have hil : i ≤ l.length := by
    rcases Nat.lt_or_ge i l.length with h | h
    · omega
    · rw [List.drop_eq_nil_of_le h] at hr; cases hr
  rw [hx]
  conv => lhs; rw [e, hr]
  unfold fewV
  rw [List.take_append]
  have h1 : (l.take i).length = i := by simp; omega
  rw [h1, show 60 - i = (59 - i) + 1 by omega, List.take_succ_cons, List.map_append, List.map_cons]
set_option maxHeartbeats 4000000 in
theorem L25 (c : Bool) (s : Nat) (l : List Va) (hs : s = 2 ∨ l = []) (hl : l.length ≤ 2 ^ 47) : ∀ (k i : Nat) (acc : List Va) (a : Nat), k + i = 60 → acc.length ≤ i → a = acc.length →
    finK false 0 [Rs.tmp 2] (loopK cf0 K0 (LpB cf0 K0 b25_0 (t25 c s l 0 0) 1 ⟨t25 c s l a i, [rowV2 acc]⟩) kn25) = some (.slc false 2 ((acc ++ ((l.drop i).take k).map cut70).map Va.d), [])
  | 0, i, acc, a, hk, ha, hai => by
    have z2 : ltI (i : Int) 60 = false := ltI_f (by omega)
    cases z1 : ltI (i : Int) l.length with
    | true =>
      rw [LpB_eq]
      simp only [t25, rowV2]
      conv => lhs; arg 4; arg 3; arg 6; simp [b25_0, z1, z2]
      simp [kn25, hai, List.take_of_length_le]
    | false =>
      rw [LpB_eq]
      simp only [t25, rowV2]
      conv => lhs; arg 4; arg 3; arg 6; simp [b25_0, z1, z2]
      simp [kn25, hai, List.take_of_length_le]
  | k + 1, i, acc, a, hk, ha, hai => by
    have z2 : ltI (i : Int) 60 = true := ltI_t (by omega)
    rcases Nat.lt_or_ge i l.length with hll | hll
    · have z1 : ltI (i : Int) l.length = true := ltI_t (by omega)
      obtain ⟨⟨n, x⟩, hx⟩ : ∃ x, l[i]'hll = x := ⟨_, rfl⟩
      have hw := w64 (i + 1) (by omega)
      obtain rfl : s = 2 := hs.resolve_right (by intro e; subst e; simp at hll)
      have e : acc ++ ((l.drop i).take (k + 1)).map cut70 = acc ++ [cut70 (n, x)] ++ ((l.drop (i + 1)).take k).map cut70 := by
        rw [List.drop_eq_getElem_cons hll, hx, List.take_succ_cons]; simp
      rw [e]
      have ih := L25 c 2 l hs hl k (i + 1) (acc ++ [cut70 (n, x)]) (acc ++ [cut70 (n, x)]).length (by omega) (by simp; omega) rfl
      have hb1 : (acc.length + 1) * 24 ≤ 70368744177664 := by omega
      generalize List.map cut70 (List.take k (List.drop (i + 1) l)) = M at *
      have hd : (cut70 (n, x)).d = .agg [.int .i64 n, .str (x.take 70)] := rfl
      generalize cut70 (n, x) = y at *
      rw [LpB_eq]
      simp only [t25, rowV2] at ih ⊢
      by_cases h7 : 70 < x.length
      · have z3 : ltI 70 (x.length : Int) = true := ltI_t (by omega)
        have h70 : 70 ≤ x.length := by omega
        have h70' : 70 ≤ (x.length : Int) := by omega
        conv => lhs; arg 4; arg 3; arg 6; simp [b25_0, z1, z2, z3, h70, h70', hll, hx, Va.d, hw, hb1, hai]
        simp [hd] at ih ⊢
        exact ih
      · have z3 : ltI 70 (x.length : Int) = false := ltI_f (by omega)
        rw [List.take_of_length_le (by omega)] at hd
        conv => lhs; arg 4; arg 3; arg 6; simp [b25_0, z1, z2, z3, hll, hx, Va.d, hw, hb1, hai]
        simp [hd] at ih ⊢
        exact ih
    · have z1 : ltI (i : Int) l.length = false := ltI_f (by omega)
      rw [LpB_eq]
      simp only [t25, rowV2]
      conv => lhs; arg 4; arg 3; arg 6; simp [b25_0, z1, z2]
      rw [List.drop_eq_nil_of_le hll]
      simp [kn25, hai, List.take_of_length_le]
set_option maxHeartbeats 4000000 in
/-- few. -/
theorem K25 (c : Bool) (s : Nat) (l : List Va) (hs : s = 2 ∨ l = []) (hl : l.length ≤ 2 ^ 47) : K0 25 [.slc c s (l.map Va.d)] [] = some (.slc false 2 ((fewV l).map Va.d), []) := by
  have h := L25 c s l hs hl 60 0 [] 0 rfl (Nat.le_refl _) rfl
  refine K_call k25 (oraG_none (by decide) (by decide)) (by simp [c25]) ?_
  simp only [t25, kn25, rowV2, List.drop_zero, List.nil_append] at h
  simp [c25]
  simp at h
  rw [h]
  simp only [fewV, List.map_take, List.map_map]
end Go.Ab
