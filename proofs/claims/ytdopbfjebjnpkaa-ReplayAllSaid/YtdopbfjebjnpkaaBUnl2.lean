/- replay.unlike, walked by hand: slices.Sorted, unlike; and that the machine's oracle is right. -/
import Derived.Test.YtdopbfjebjnpkaaBUnl
import Derived.Test.YtdopbfjebjnpkaaAGrow
set_option linter.all false
namespace Go.Proofs.Unl
open Go.RowKit Go.Shelf Go.Lib Go.Sort Go.Ab
attribute [local go_sem] Oper.semAt_some
set_option maxRecDepth 100000 in
set_option maxHeartbeats 2000000 in
/-- slices.Sorted, of what slices.Values has handed back. -/
theorem sorted_in (n : Nat) (hn : 5 ≤ n) (Bs : Nat) (sv : Value) (zs : List Int) (hlen : zs.length ≤ maxLen) (hbytes : zs.length * 8 ≤ 140737488351232) (w : World) (hBs : Bs < w.heap.size) (hc : w.cell? ⟨Bs, 0, none⟩ = some sv) (hI : Ints w.heap.size w sv zs) :
    CallsIn Fence.wide n Try.prog 51 #[.func (.func 74) #[] #[.pointer (some ⟨Bs, 0, none⟩)]] w fun e W' => ∃ v, e = .returned v ∧ W'.ownsRow w.heap.size 3 1 v zs.length ((zs.mergeSort fun x y => decide (x ≤ y)).map (Value.int .i64)) ∧ (v = .slice none 0 0 ↔ zs = []) ∧ Below w.heap.size w W' := by
  have h1 : 1 ≤ n := by omega
  refine callsIn_of_wp Try.func51 rfl trivial ?_ rfl
  simp only [Try.ntmps51, List.size_toArray, List.length_cons, List.length_nil, Nat.reduceAdd, Nat.reduceSub, Array.replicate_succ, Array.replicate_zero, List.push_toArray, List.append_toArray, List.nil_append, List.cons_append]
  have hf72 : Fence.wide.fn 72 := trivial
  have hf73 : Fence.wide.fn 73 := trivial
  gi_wp2_with (gi_at_call 72; refine (collect_in Fence.wide (n - 1) trivial trivial trivial rfl (by omega) Bs sv zs hlen hbytes _ hBs hc hI).mono ?_; rintro e W ⟨v, rfl, hrow, hnil, hb⟩)
  rcases hrow.2 with ⟨rfl, hz⟩ | ⟨gb, cap, cur, rfl, hbase, hgb, r1, r2, r3, r4⟩
  · have hss : zs = [] := List.eq_nil_of_length_eq_zero hz
    subst hss
    gi_wp2_with (gi_at_call 73; refine (callsIn_wide.2 (Try.slices_Sort_int_none none 0 W)).mono ?_; rintro e w' ⟨rfl, rfl⟩)
    go_ret
    exact ⟨.slice none 0 0, rfl, by simpa using hrow, by simp, hb⟩
  · have hH : Holds (Value.int .i64) W gb 0 zs.toArray := holds_of_blockI hgb (by simpa using r4)
    have hgl : gb < W.heap.size := (Array.getElem?_eq_some_iff.1 hgb).1
    have cS := Try.slices_Sort_int gb 0 cap zs W hH hgl (by omega)
    gi_wp2_with (gi_at_call 73; refine (callsIn_wide.2 cS).mono ?_; rintro e w' ⟨rfl, nn, os, rfl⟩)
    go_ret
    exact ⟨_, rfl, ownsRow_sortedI (by simp) hbase hgb r1 r2 r3, hnil, hb.grown (grownBy_sortedI _) hb.size (fun j hj => by cases hj; exact hbase)⟩
def Hid (p : Prop) : Prop := p
set_option maxRecDepth 100000 in
set_option maxHeartbeats 4000000 in
/-- replay.unlike. -/
theorem unlike_calls (a : Option Addr) (len cap : Nat) (zs : List Int) (below : Int) (hlen : zs.length ≤ 1048576) (w : World) (hI : Ints w.heap.size w (.slice a len cap) zs) :
    Calls Try.prog 30 #[.slice a len cap, .int .i64 below] w fun e w' => e = .returned (.bool (unl zs below)) ∧ Below w.heap.size w w' := by
  have hB1 : Below w.heap.size w (w.alloc (.cells #[.slice a len cap] 30)) := (Below.refl _ w).alloc (Nat.le_refl _) _
  have bN := Boxed.new w 30 (.slice a len cap)
  have hml : zs.length ≤ maxLen := by unfold maxLen; omega
  have cV := callsIn_wide.1 (values_in Fence.wide 1 trivial rfl a len cap w)
  have cS := callsIn_wide.1 (sorted_in 5 (by omega) w.heap.size (.slice a len cap) zs hml (by omega) (w.alloc (.cells #[.slice a len cap] 30)) (by simp) bN.cell (hI.below hB1 |> fun h => by
    rcases h with h | ⟨b, off, c, h1, h2, h3⟩
    · exact .inl h
    · exact .inr ⟨b, off, c, h1, by simp; omega, h3⟩))
  go_enter Try.func30, Try.ntmps30
  go_wp2_with (first
    | (go_at_call 52; refine cV.mono ?_; rintro e w' ⟨rfl, rfl⟩)
    | (go_at_call 51; refine cS.mono ?_; rintro e w2 ⟨v, rfl, hrow, hnil, hb⟩))
  rcases hrow.2 with ⟨rfl, hz⟩ | ⟨gb, cap1, cur, rfl, hbase, hgb, r1, r2, r3, r4⟩
  · have hss : zs = [] := List.eq_nil_of_length_eq_zero hz
    subst hss
    go_wp2_with (first
      | (go_at_call 31; refine (Try.slices_Clone_int_nil 0 0 _).mono ?_; rintro e w' ⟨rfl, rfl⟩)
      | (go_at_call 53; refine (Try.slices_Compact_int_empty none 0 _).mono ?_; rintro e w' ⟨rfl, rfl⟩))
    go_ret
    exact ⟨rfl, hB1.trans (hb.mono (by simp))⟩
  · obtain ⟨ss, hss⟩ : ∃ ss, ss = zs.mergeSort fun x y => decide (x ≤ y) := ⟨_, rfl⟩
    have hsl : ss.length = zs.length := by rw [hss]; simp
    have hne : zs ≠ [] := fun e => by have := hnil.2 e; cases this
    have hpos : 0 < ss.length := by rw [hsl]; exact List.length_pos_iff.2 hne
    rw [← hss] at hrow r4
    have hcell : ∀ j, j < ss.length → w2.cell? ⟨gb, 0 + j, none⟩ = some (.int .i64 (ss.getD j 0)) := fun j hj => by
      rw [Nat.zero_add, hrow.cellAt j (by omega)]
      simp [List.getD, hj]
    have cC := Try.slices_Clone_int gb 0 zs.length cap1 ss w2 (by omega) (by omega) hcell
    have hU := unl_sorted zs below ss hss hne hpos
    go_wp2_with (first
      | (go_at_call 31; refine cC.mono ?_; rintro e w3 ⟨v', rfl, hrow3, hnn3, hb3⟩))
    rw [List.take_of_length_le (by omega)] at hrow3
    rcases hrow3.2 with ⟨rfl, hz⟩ | ⟨g2, cap2, cur2, rfl, hbase2, hgb2, s1, s2, s3, s4⟩
    · exact absurd rfl hnn3
    have hH : Holds (Value.int .i64) w3 g2 0 ss.toArray := holds_of_blockI hgb2 (by rw [hsl]; simpa using s4)
    have cK := Try.slices_Compact_int g2 0 cap2 ss w3 hH (by omega) (by omega)
    rw [hsl] at cK
    have hgl : gb < w2.heap.size := (Array.getElem?_eq_some_iff.1 hgb).1
    obtain ⟨m, hm⟩ : ∃ m, zs.length = m + 1 := ⟨zs.length - 1, by omega⟩
    obtain ⟨x, hx⟩ : ∃ x, ss[ss.length - 1]'(by omega) = x := ⟨_, rfl⟩
    have hlast3 : w3.cell? ⟨gb, m, none⟩ = some (.int .i64 x) := by
      rw [hb3.cell (p := ⟨gb, m, none⟩) hgl, hrow.cellAt m (by omega), ← hx]
      simp [hsl, hm]
    rw [hx] at hU
    obtain ⟨kl, hkl⟩ : ∃ kl, (compact ss).length = kl := ⟨_, rfl⟩
    have hkle : kl ≤ ss.length := by
      rw [← hkl]; unfold compact compactUpTo; rw [List.length_map]
      exact Nat.le_trans (List.length_filter_le _ _) (by simp)
    rw [hkl] at hU cK
    rw [hm] at cK hsl
    rw [hsl] at hU hkle
    have hw4 : ∀ q (l : List Int), Below w2.heap.size w3 (putRow (Value.int .i64) (Sort.ahead w3 q) g2 0 l.toArray) := fun q l =>
      ⟨rfl, rfl, rfl, by simp [putRow, mapBlock, Sort.ahead], fun k hk => by simp [putRow, mapBlock, Sort.ahead, Array.getElem?_modify, show g2 ≠ k by omega]⟩
    have hBA : Hid (Below w.heap.size w w3) := (hB1.trans (hb.mono (by simp))).trans (hb3.mono (by have := hb.size; simp at this; omega))
    have hsz : Hid (w.heap.size ≤ w2.heap.size) := by have := hb.size; simp at this; show _ ≤ _; omega
    clear hnil hnn3 hrow hrow3 r1 r2 r3 r4 s1 s2 s3 s4 hH hcell cC hb hb3 hgb hgb2 hI hB1 bN cV cS
    have hK : Calls Try.prog 53 #[.slice (some ⟨g2, 0, none⟩) (m + 1) cap2] w3 fun e w4 => e = .returned (.slice (some ⟨g2, 0, none⟩) kl cap2) ∧ w4.cell? ⟨gb, m, none⟩ = some (.int .i64 x) ∧ Hid (Below w2.heap.size w3 w4) := by
      refine cK.mono ?_
      rintro e w4 ⟨rfl, q, rfl⟩
      exact ⟨rfl, ((hw4 q _).cell (p := ⟨gb, m, none⟩) hgl).trans hlast3, hw4 q _⟩
    have hHU : Hid (unl zs below = (decide (kl = m + 1) && decide (x < below))) := hU
    have hm0 : ((m : Int) + 1 == 0) = false := by simp; omega
    have hkle2 : kl ≤ m + 1 := hkle
    have hHm : Hid (zs.length = m + 1) := hm
    rw [hm]
    have hlen2 : m + 1 ≤ 1048576 := by omega
    clear hkl hss hne hpos cK hU hw4 hlast3 hsl hx hm hlen hml hkle hgl hbase hbase2
    by_cases hk : kl = m + 1
    · subst hk
      by_cases hxb : x < below
      · go_wp2_with (first
          | (go_at_call 53; refine hK.mono ?_; rintro e w4 ⟨rfl, hlast, hB4⟩))
        go_ret
        exact ⟨by rw [show unl zs below = _ from hHU]; simp [hxb], (show Below _ _ _ from hBA).trans ((show Below _ _ _ from hB4).mono hsz)⟩
      · go_wp2_with (first
          | (go_at_call 53; refine hK.mono ?_; rintro e w4 ⟨rfl, hlast, hB4⟩))
        go_ret
        exact ⟨by rw [show unl zs below = _ from hHU]; simp [hxb], (show Below _ _ _ from hBA).trans ((show Below _ _ _ from hB4).mono hsz)⟩
    · have hkf : ((kl : Int) == (m : Int) + 1) = false := by simp; omega
      go_wp2_with (first
        | (go_at_call 53; refine hK.mono ?_; rintro e w4 ⟨rfl, hlast, hB4⟩))
      go_ret
      exact ⟨by rw [show unl zs below = _ from hHU]; simp [hk], (show Below _ _ _ from hBA).trans ((show Below _ _ _ from hB4).mono hsz)⟩
end Go.Proofs.Unl
