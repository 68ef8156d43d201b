/-
The functions Name and Id of the package snap of the given program, and the law's head: what they answer; under what the row lists of the library's variables.
-/
import Derived.Test.YthfkegkjnhebcaaDoorShelf
import Derived.Lib.SmallJoins
import Derived.Lib.AtoiAllCases
import Derived.Lib.AtoiTie
import Derived.Lib.ItoaNum
import Derived.Lib.ItoaMem
import Derived.Lib.AppendIntMem
import Derived.Lib.ItoaLen
import Derived.WalkKit
import Derived.BigCall
set_option linter.unusedVariables false
set_option linter.unusedSimpArgs false
namespace Go.Proofs.YthfkegkjnhebcaaDoor
open Go Go.Shelf Go.RowKit Go.Proofs

/-- What the row lists, as far as the walks need it. -/
structure Vars (w : World) : Prop where
  tab : Lib.TabIs Tryd.prog w "internal/strconv.uint64pow10" .u64 Lib.pow10Tab
  syn : ∃ tp p, w.var? Tryd.prog "strconv.ErrSyntax" = some #[.iface tp p]
  rng : ∃ tp p, w.var? Tryd.prog "strconv.ErrRange" = some #[.iface tp p]
theorem gP : Tryd.prog.globalNamed "internal/strconv.uint64pow10" = some 2 := by kernel_rfl
theorem gS : Tryd.prog.globalNamed "strconv.ErrSyntax" = some 0 := by kernel_rfl
theorem gR : Tryd.prog.globalNamed "strconv.ErrRange" = some 1 := by kernel_rfl
theorem Vars.below {w w' : World} (h : Vars w) (hb : Below w.heap.size w w') : Vars w' := by
  obtain ⟨tp, p, hs⟩ := h.syn
  obtain ⟨tq, q, hr⟩ := h.rng
  exact ⟨Joins.tab_stays gP h.tab hb (Nat.le_refl _), ⟨tp, p, Joins.var_stays gS hs hb (Nat.le_refl _)⟩, ⟨tq, q, Joins.var_stays gR hr hb (Nat.le_refl _)⟩⟩
theorem below_then' {w w1 w2 : World} (h : Below w.heap.size w w1) (k : Below w1.heap.size w1 w2) : Below w.heap.size w w2 :=
  ⟨k.os.trans h.os, k.tape.trans h.tape, k.output.trans h.output, Nat.le_trans h.size k.size, fun i hi => (k.block i (Nat.lt_of_lt_of_le hi h.size)).trans (h.block i hi)⟩
/-- A part's name. -/
def nameL (n : Int) : List UInt8 := 112 :: Lib.itoa n
theorem name_calls (n : Int) (h0 : -9223372036854775808 ≤ n) (h1 : n ≤ 9223372036854775807) (w : World) (hv : Vars w) :
    Calls Tryd.prog 5 #[.int .i64 n] w fun e w' => e = .returned (.string ⟨(nameL n).toArray⟩) ∧ Below w.heap.size w w' := by
  have hl := Lib.itoa_length_le n h0 h1
  have hno : ¬ 9223372036854775807 < 1 + (Lib.itoa n).length := by omega
  go_enter Tryd.func5, Tryd.ntmps5
  go_wp2_with fail
  refine (Tryd.strconv_Itoa n h0 h1 _ hv.tab).mono ?_
  rintro e w1 ⟨rfl, k, os, rfl⟩
  have hb := Lib.below_grow w.heap.size w (Nat.le_refl _) k os
  go_wp2
  go_ret
  refine ⟨?_, hb⟩
  have e : (ByteArray.mk #[112]) ++ (ByteArray.mk (Lib.itoa n).toArray) = ByteArray.mk (nameL n).toArray := by
    apply ByteArray.ext
    simp [nameL, ByteArray.data_append]
  rw [← e]
  rfl
/-- What a text says as a part's name. -/
def idL (s : List UInt8) : Int × Bool :=
  if Lib.hasPrefix s [112] = true then
    match Lib.atoiAll (Lib.trimPrefix s [112]) with
    | .ok v => if v < 0 then (0, false) else if 999999 < v then (0, false) else if nameL v = s then (v, true) else (0, false)
    | _ => (0, false)
  else (0, false)
theorem trim_len (s : ByteArray) : (Lib.trimPrefix s.data.toList [112]).length ≤ s.size := by
  unfold Lib.trimPrefix
  have e : s.data.toList.length = s.size := Array.length_toList
  split
  · rw [List.length_drop]; omega
  · omega
theorem id_calls (s : ByteArray) (hs : s.size ≤ 281474976710656) (w : World) (hv : Vars w) :
    Calls Tryd.prog 6 #[.string s] w fun e w' => e = .returned (.tuple #[.int .i64 (idL s.data.toList).1, .bool (idL s.data.toList).2]) ∧ Below w.heap.size w w' := by
  have ht := trim_len s
  have hd : (ByteArray.mk (Lib.trimPrefix s.data.toList [112]).toArray).size ≤ 281474976710656 := by
    show (Lib.trimPrefix s.data.toList [112]).toArray.size ≤ _
    rw [List.size_toArray]
    omega
  go_enter Tryd.func6, Tryd.ntmps6
  go_wp2_with fail
  refine (Tryd.strings_CutPrefix s ⟨#[112]⟩ w).mono ?_
  rintro e w1 ⟨rfl, rfl⟩
  have hfin : ∀ b : Bool, Lib.hasPrefix s.data.toList [112] = b → b = false → (idL s.data.toList).1 = 0 ∧ (idL s.data.toList).2 = false := by
    intro b hb hf
    unfold idL
    rw [hb, hf, if_neg (by decide)]
    exact ⟨rfl, rfl⟩
  have herr : (∀ v, Lib.atoiAll (Lib.trimPrefix s.data.toList [112]) ≠ .ok v) → (idL s.data.toList).1 = 0 ∧ (idL s.data.toList).2 = false := by
    intro hn
    unfold idL
    split
    · split
      · rename_i v hv
        exact absurd hv (hn v)
      · exact ⟨rfl, rfl⟩
    · exact ⟨rfl, rfl⟩
  rcases ha : Lib.atoiAll (Lib.trimPrefix s.data.toList [112]) with v | _ | _
  · skip
    have hbd := Lib.atoiAll_bounds ha
    go_wp2_with fail
    refine (Tryd.strconv_Atoi_ok ⟨(Lib.trimPrefix s.data.toList [112]).toArray⟩ (by omega) v ha _).mono ?_
    rintro e w2 ⟨rfl, hw⟩
    have hb2 : Below w1.heap.size w1 w2 := by
      rcases hw with rfl | ⟨t, rfl⟩
      · exact Below.refl _ _
      · exact Lib.bytesWorld_below _ _ _
    have hv2 := hv.below hb2
    cases hp : Lib.hasPrefix s.data.toList [112] with
    | false =>
      obtain ⟨e1, e2⟩ := hfin _ hp rfl
      go_wp2
      go_ret2
      exact ⟨by rw [e1, e2]; rfl, hb2⟩
    | true =>
      by_cases h0 : v < 0
      · have e1 : idL s.data.toList = (0, false) := by unfold idL; rw [hp, if_pos rfl, ha]; exact if_pos h0
        go_wp2
        go_ret2
        exact ⟨by rw [e1]; rfl, hb2⟩
      · by_cases h9 : 999999 < v
        · have e1 : idL s.data.toList = (0, false) := by unfold idL; rw [hp, if_pos rfl, ha]; exact (if_neg h0).trans (if_pos h9)
          go_wp2
          go_ret2
          exact ⟨by rw [e1]; rfl, hb2⟩
        · have e1 : idL s.data.toList = if nameL v = s.data.toList then (v, true) else (0, false) := by unfold idL; rw [hp, if_pos rfl, ha]; exact (if_neg h0).trans (if_neg h9)
          go_wp2_with fail
          refine (name_calls v (by omega) (by omega) _ hv2).mono ?_
          rintro e w3 ⟨rfl, hb3⟩
          have hb4 : Below w1.heap.size w1 w3 := below_then' hb2 hb3
          by_cases hq : nameL v = s.data.toList
          · rw [if_pos hq] at e1
            have hs2 : (ByteArray.mk (nameL v).toArray) = s := by
              apply ByteArray.ext
              rw [hq]
            rw [hs2]
            go_wp2
            go_ret2
            exact ⟨by rw [e1]; rfl, hb4⟩
          · rw [if_neg hq] at e1
            have hs2 : ¬ (ByteArray.mk (nameL v).toArray) = s := by
              intro h
              apply hq
              rw [← h]
            have hs3 : ((ByteArray.mk (nameL v).toArray).toList == s.toList) = false := by
              rw [beq_eq_false_iff_ne, ByteArray.toList_eq, ByteArray.toList_eq]
              exact hq
            generalize (ByteArray.mk (nameL v).toArray) = x at hs2 hs3
            go_wp2
            go_ret2
            exact ⟨by rw [e1]; rfl, hb4⟩
  · skip
    obtain ⟨tp, p, hy⟩ := hv.syn
    obtain ⟨e1, e2⟩ := herr (fun v h => by rw [ha] at h; cases h)
    go_wp2_with fail
    refine (Any.strconv_Atoi_syntax_var Tryd.laysC172 ⟨(Lib.trimPrefix s.data.toList [112]).toArray⟩ hd ha tp p _ hy).mono ?_
    rintro e w2 ⟨N, rfl, -, -, hb2⟩
    cases hp : Lib.hasPrefix s.data.toList [112] with
    | false =>
      go_wp2
      go_ret2
      exact ⟨by rw [e1, e2]; rfl, hb2⟩
    | true =>
      go_wp2
      go_ret2
      exact ⟨by rw [e1, e2]; rfl, hb2⟩
  · skip
    obtain ⟨tp, p, hy⟩ := hv.rng
    obtain ⟨e1, e2⟩ := herr (fun v h => by rw [ha] at h; cases h)
    go_wp2_with fail
    refine (Tryd.strconv_Atoi_range_var ⟨(Lib.trimPrefix s.data.toList [112]).toArray⟩ hd ha tp p _ hy).mono ?_
    rintro e w2 ⟨N, rfl, -, -, hb2⟩
    cases hp : Lib.hasPrefix s.data.toList [112] with
    | false =>
      go_wp2
      go_ret2
      exact ⟨by rw [e1, e2]; rfl, hb2⟩
    | true =>
      go_wp2
      go_ret2
      exact ⟨by rw [e1, e2]; rfl, hb2⟩
/-! ### What the numerals spell -/
theorem decFrom_append : ∀ (a b : List UInt8) (acc m : Nat), Lib.decFrom acc a = some m → Lib.decFrom acc (a ++ b) = Lib.decFrom m b
  | [], b, acc, m, h => by
    simp only [Lib.decFrom] at h
    injection h with h
    rw [h]
    rfl
  | c :: a, b, acc, m, h => by
    simp only [Lib.decFrom, List.cons_append] at h ⊢
    cases hd : Lib.digitVal c with
    | none => rw [hd] at h; cases h
    | some d => rw [hd] at h; exact decFrom_append a b _ m h
theorem digit_of {d : Nat} (h : d < 10) : Lib.digitVal (UInt8.ofNat (48 + d)) = some d := by
  have e : (UInt8.ofNat (48 + d)).toNat = 48 + d := by rw [UInt8.toNat_ofNat']; exact Nat.mod_eq_of_lt (by omega)
  unfold Lib.digitVal
  rw [e, if_pos (by omega)]
  congr 1
  omega
theorem decFrom_dec (n : Nat) : ∃ d c r, Lib.decDigits n = UInt8.ofNat (48 + d) :: r ∧ d < 10 ∧ c = n ∧ Lib.decFrom 0 (Lib.decDigits n) = some c := by
  induction n using Nat.strongRecOn with
  | _ n ih =>
    by_cases h : n < 10
    · refine ⟨n, n, [], Lib.decDigits_one h, h, rfl, ?_⟩
      rw [Lib.decDigits_one h]
      simp only [Lib.decFrom, digit_of h]
      simp
    · obtain ⟨d, c, r, h1, h2, rfl, h4⟩ := ih (n / 10) (by omega)
      have e : Lib.decDigits n = Lib.decDigits (n / 10) ++ [UInt8.ofNat (48 + n % 10)] := by
        conv => lhs; rw [Lib.decDigits, dif_neg h]
      refine ⟨d, n, r ++ [UInt8.ofNat (48 + n % 10)], by rw [e, h1]; rfl, h2, rfl, ?_⟩
      rw [e, decFrom_append _ _ _ _ h4]
      simp only [Lib.decFrom, digit_of (show n % 10 < 10 by omega)]
      congr 1
      omega
theorem dec_len (n : Nat) (h : n ≤ 999999) : (Lib.decDigits n).length ≤ 6 := by
  rw [Lib.decDigits_length]
  have h1 := Lib.nDigits_pos n
  by_cases h0 : n < 10
  · rw [Lib.nDigits_small h0]; omega
  rw [Lib.nDigits_big h0]
  by_cases h2 : n / 10 < 10
  · rw [Lib.nDigits_small h2]; omega
  rw [Lib.nDigits_big h2]
  by_cases h3 : n / 10 / 10 < 10
  · rw [Lib.nDigits_small h3]; omega
  rw [Lib.nDigits_big h3]
  by_cases h4 : n / 10 / 10 / 10 < 10
  · rw [Lib.nDigits_small h4]; omega
  rw [Lib.nDigits_big h4]
  by_cases h5 : n / 10 / 10 / 10 / 10 < 10
  · rw [Lib.nDigits_small h5]; omega
  rw [Lib.nDigits_big h5, Lib.nDigits_small (show n / 10 / 10 / 10 / 10 / 10 < 10 by omega)]
  omega
theorem atoi_dec (n : Nat) (h : n ≤ 999999) : Lib.atoiAll (Lib.decDigits n) = .ok (n : Int) := by
  have hl := dec_len n h
  rw [Lib.atoiAll_short _ (by omega)]
  obtain ⟨d, c, r, h1, h2, rfl, h4⟩ := decFrom_dec n
  have hn : Lib.decNat (Lib.decDigits c) = some c := by
    unfold Lib.decNat
    rw [h1] at h4 ⊢
    exact h4
  have e : (UInt8.ofNat (48 + d)).toNat = 48 + d := by rw [UInt8.toNat_ofNat']; exact Nat.mod_eq_of_lt (by omega)
  have n1 : (UInt8.ofNat (48 + d) == 45) = false := by
    rw [beq_eq_false_iff_ne]
    intro hh
    have := congrArg UInt8.toNat hh
    rw [e] at this
    have e2 : (45 : UInt8).toNat = 45 := rfl
    omega
  have n2 : (UInt8.ofNat (48 + d) == 43) = false := by
    rw [beq_eq_false_iff_ne]
    intro hh
    have := congrArg UInt8.toNat hh
    rw [e] at this
    have e2 : (43 : UInt8).toNat = 43 := rfl
    omega
  have ha : Lib.atoi (Lib.decDigits c) = some (c : Int) := by
    rw [h1] at hn ⊢
    simp only [Lib.atoi, n1, n2]
    rw [if_neg (by decide), if_neg (by decide), hn]
    rfl
  rw [ha]
  rfl
theorem name_dec (n : Nat) : nameL (n : Int) = 112 :: Lib.decDigits n := by unfold nameL; rw [Lib.itoa_nonneg]
theorem id_name (n : Nat) (h : n ≤ 999999) : idL (nameL (n : Int)) = ((n : Int), true) := by
  have hp : Lib.hasPrefix (nameL (n : Int)) [112] = true := by
    unfold Lib.hasPrefix
    rw [name_dec]
    simp [List.isPrefixOf]
  have ht : Lib.trimPrefix (nameL (n : Int)) [112] = Lib.decDigits n := by
    unfold Lib.trimPrefix
    rw [hp, if_pos rfl, name_dec]
    rfl
  unfold idL
  rw [hp, if_pos rfl, ht, atoi_dec n h]
  show (if (n : Int) < 0 then _ else if 999999 < (n : Int) then _ else if nameL n = nameL n then _ else _) = _
  rw [if_neg (by omega), if_neg (by omega), if_pos rfl]
theorem name_inj {m n : Nat} (hm : m ≤ 999999) (hn : n ≤ 999999) (h : nameL (m : Int) = nameL (n : Int)) : m = n := by
  have h1 := id_name m hm
  rw [h, id_name n hn] at h1
  injection h1 with h1 _
  omega
theorem name_len (n : Nat) (h : n ≤ 999999) : (nameL (n : Int)).length ≤ 20 := by
  rw [name_dec, List.length_cons]
  have := dec_len n h
  omega
theorem id_some (s : List UInt8) : (idL s).2 = true → nameL (idL s).1 = s ∧ 0 ≤ (idL s).1 ∧ (idL s).1 ≤ 999999 := by
  unfold idL
  split
  · split
    · split
      · intro h; cases h
      · split
        · intro h; cases h
        · split
          · rename_i hq
            intro _
            exact ⟨hq, by simp; omega, by simp; omega⟩
          · intro h; cases h
    · intro h; cases h
  · intro h; cases h
theorem id_none (s : List UInt8) : (idL s).2 = false → (idL s).1 = 0 := by
  unfold idL
  split
  · split
    · split
      · intro _; rfl
      · split
        · intro _; rfl
        · split
          · intro h; cases h
          · intro _; rfl
    · intro _; rfl
  · intro _; rfl
theorem name12 : nameL 12 = [112, 49, 50] := by
  rw [show (12 : Int) = ((12 : Nat) : Int) from rfl, name_dec, Lib.decDigits_two (by decide) (by decide)]
  rfl
theorem shown_calls (w : World) (hv : Vars w) : Calls Tryd.prog 4 #[] w fun e w' => e = .returned (.bool true) ∧ Below w.heap.size w w' := by
  go_enter Tryd.func4, Tryd.ntmps4
  go_wp2_with fail
  refine (id_calls ⟨#[112, 49, 50]⟩ (by decide) w hv).mono ?_
  rintro e w1 ⟨rfl, hb1⟩
  have e1 : idL (ByteArray.mk #[112, 49, 50]).data.toList = (12, true) := by
    have := id_name 12 (by decide)
    rw [show ((12 : Nat) : Int) = 12 from rfl, name12] at this
    exact this
  rw [e1]
  have hv1 := hv.below hb1
  go_wp2_with fail
  refine (name_calls 12 (by decide) (by decide) w1 hv1).mono ?_
  rintro e w2 ⟨rfl, hb2⟩
  rw [name12]
  have hb := below_then' hb1 hb2
  go_wp2
  go_ret
  exact ⟨rfl, hb⟩
end Go.Proofs.YthfkegkjnhebcaaDoor
