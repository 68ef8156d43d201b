/-
The law SnapNames of the given program: its walk.
-/
import Derived.Test.YthfkegkjnhebcaaDoorSnap
set_option linter.unusedVariables false
set_option linter.unusedSimpArgs false
namespace Go.Proofs.YthfkegkjnhebcaaDoor
open Go Go.Shelf Go.RowKit Go.Proofs
theorem lesser2 (k k' : IntKind) (x y : Int) : Builtin.min2 (.int k x) (.int k' y) = pure (.int k (if y < x then y else x)) := by simp only [Builtin.min2]
theorem lesser (ats : Array TypeId) (ty : TypeId) (a b : Value) : Builtin.min_ ats ty #[a, b] = (Builtin.min2 a b >>= fun s => pure s) := by simp only [Builtin.min_, List.foldlM_cons, List.foldlM_nil]
attribute [local go_sem] lesser2 lesser
set_option maxHeartbeats 400000 in
set_option maxRecDepth 100000 in
theorem law_calls (a b : Nat) (s : ByteArray) (ha : a < 4294967296) (hb : b < 4294967296) (hs : s.size ≤ 140737488351232) (w : World) (hv : Vars w) :
    Calls Tryd.prog 3 #[.int .u32 (a : Int), .int .u32 (b : Int), .string s] w fun e w' => e = .returned (.bool true) ∧ Below w.heap.size w w' := by
  have hm : ((a : Int) % 1000000) = ((a % 1000000 : Nat) : Int) := by omega
  have hn : ((b : Int) % 1000000) = ((b % 1000000 : Nat) : Int) := by omega
  have hm9 : a % 1000000 ≤ 999999 := by omega
  have hn9 : b % 1000000 ≤ 999999 := by omega
  obtain ⟨m, hmd⟩ : ∃ m, m = a % 1000000 := ⟨_, rfl⟩
  obtain ⟨n, hnd⟩ : ∃ n, n = b % 1000000 := ⟨_, rfl⟩
  rw [← hmd] at hm hm9
  rw [← hnd] at hn hn9
  clear hmd hnd
  go_enter Tryd.func3, Tryd.ntmps3
  go_wp2_with fail
  refine (shown_calls w hv).mono ?_
  rintro e w1 ⟨rfl, hb1⟩
  have hv1 := hv.below hb1
  go_wp2_with fail
  refine (name_calls (m : Int) (by omega) (by omega) w1 hv1).mono ?_
  rintro e w2 ⟨rfl, hb2⟩
  have hv2 := hv1.below hb2
  have hB2 := below_then' hb1 hb2
  have hml := name_len m hm9
  obtain ⟨x, hx⟩ : ∃ x, x = ByteArray.mk (nameL (m : Int)).toArray := ⟨_, rfl⟩
  have hxd : x.data.toList = nameL (m : Int) := by rw [hx]
  have hxs : x.size ≤ 20 := by rw [hx]; show (nameL (m : Int)).toArray.size ≤ 20; rw [List.size_toArray]; exact hml
  rw [← hx]
  clear hx
  go_wp2_with fail
  refine (id_calls x (by omega) w2 hv2).mono ?_
  rintro e w3 ⟨rfl, hb3⟩
  have hv3 := hv2.below hb3
  have hB3 := below_then' hB2 hb3
  rw [hxd, id_name m hm9]
  by_cases hlen : (30 : Int) < (s.size : Int)
  · go_wp2_with fail
    obtain ⟨t, htd⟩ : ∃ t, t = s.extract 0 30 := ⟨_, rfl⟩
    have ht : t.size ≤ 281474976710656 := by rw [htd, ByteArray.size_extract]; omega
    rw [← htd]
    clear htd
    refine (id_calls t ht w3 hv3).mono ?_
    rintro e w4 ⟨rfl, hb4⟩
    have hv4 := hv3.below hb4
    have hB4 := below_then' hB3 hb4
    have hsome := id_some t.data.toList
    have hnone := id_none t.data.toList
    obtain ⟨i, hi⟩ : ∃ i, i = (idL t.data.toList).1 := ⟨_, rfl⟩
    obtain ⟨d, hd⟩ : ∃ d, d = (idL t.data.toList).2 := ⟨_, rfl⟩
    rw [← hi, ← hd] at hsome
    rw [← hi, ← hd] at hnone
    rw [← hi, ← hd]
    clear hi hd
    go_wp2_with fail
    refine (name_calls (n : Int) (by omega) (by omega) w4 hv4).mono ?_
    rintro e w5 ⟨rfl, hb5⟩
    have hv5 := hv4.below hb5
    have hB5 := below_then' hB4 hb5
    have hx20 : (x.size : Int) ≤ 20 := by omega
    obtain ⟨y, hy⟩ : ∃ y, y = ByteArray.mk (nameL (n : Int)).toArray := ⟨_, rfl⟩
    rw [← hy]
    have hyx : (x.toList == y.toList) = ((m : Int) == (n : Int)) := by
      rw [ByteArray.toList_eq, ByteArray.toList_eq, hxd, hy]
      rw [Bool.eq_iff_iff, beq_iff_eq, beq_iff_eq]
      constructor
      · intro h
        have := name_inj hm9 hn9 h
        omega
      · intro h
        rw [h]
    clear hy
    generalize hq : ((m : Int) == (n : Int)) = q at hyx
    cases d with
    | true =>
      obtain ⟨h1, h2, h3⟩ := hsome rfl
      clear hsome hnone
      have ht2 : ByteArray.mk (nameL i).toArray = t := by
        apply ByteArray.ext
        rw [h1]
      clear h1
      go_wp2_with fail
      refine (name_calls i (by omega) (by omega) w5 hv5).mono ?_
      rintro e w6 ⟨rfl, hb6⟩
      rw [ht2]
      clear ht2
      have hB6 := below_then' hB5 hb6
      go_wp2
      go_ret
      exact ⟨rfl, hB6⟩
    | false =>
      have h0 := hnone rfl
      subst h0
      clear hsome hnone
      go_wp2
      go_ret
      exact ⟨rfl, hB5⟩
  · go_wp2_with fail
    have ht : s.size ≤ 281474976710656 := by omega
    obtain ⟨t, htd⟩ : ∃ t, t = s := ⟨_, rfl⟩
    rw [← htd] at ht
    rw [← htd]
    clear htd
    refine (id_calls t ht w3 hv3).mono ?_
    rintro e w4 ⟨rfl, hb4⟩
    have hv4 := hv3.below hb4
    have hB4 := below_then' hB3 hb4
    have hsome := id_some t.data.toList
    have hnone := id_none t.data.toList
    obtain ⟨i, hi⟩ : ∃ i, i = (idL t.data.toList).1 := ⟨_, rfl⟩
    obtain ⟨d, hd⟩ : ∃ d, d = (idL t.data.toList).2 := ⟨_, rfl⟩
    rw [← hi, ← hd] at hsome
    rw [← hi, ← hd] at hnone
    rw [← hi, ← hd]
    clear hi hd
    go_wp2_with fail
    refine (name_calls (n : Int) (by omega) (by omega) w4 hv4).mono ?_
    rintro e w5 ⟨rfl, hb5⟩
    have hv5 := hv4.below hb5
    have hB5 := below_then' hB4 hb5
    have hx20 : (x.size : Int) ≤ 20 := by omega
    obtain ⟨y, hy⟩ : ∃ y, y = ByteArray.mk (nameL (n : Int)).toArray := ⟨_, rfl⟩
    rw [← hy]
    have hyx : (x.toList == y.toList) = ((m : Int) == (n : Int)) := by
      rw [ByteArray.toList_eq, ByteArray.toList_eq, hxd, hy]
      rw [Bool.eq_iff_iff, beq_iff_eq, beq_iff_eq]
      constructor
      · intro h
        have := name_inj hm9 hn9 h
        omega
      · intro h
        rw [h]
    clear hy
    generalize hq : ((m : Int) == (n : Int)) = q at hyx
    cases d with
    | true =>
      obtain ⟨h1, h2, h3⟩ := hsome rfl
      clear hsome hnone
      have ht2 : ByteArray.mk (nameL i).toArray = t := by
        apply ByteArray.ext
        rw [h1]
      clear h1
      go_wp2_with fail
      refine (name_calls i (by omega) (by omega) w5 hv5).mono ?_
      rintro e w6 ⟨rfl, hb6⟩
      rw [ht2]
      clear ht2
      have hB6 := below_then' hB5 hb6
      go_wp2
      go_ret
      exact ⟨rfl, hB6⟩
    | false =>
      have h0 := hnone rfl
      subst h0
      clear hsome hnone
      go_wp2
      go_ret
      exact ⟨rfl, hB5⟩
end Go.Proofs.YthfkegkjnhebcaaDoor
