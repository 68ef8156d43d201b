-- Written by hp.py (own driver over print.py) out of the translation, hand-made functions among it. Lean checks it.
import Derived.Test.YtanfmnobanhcnaaPRec3x0
import Derived.Test.YtanfmnobanhcnaaPRec3x6
import Derived.Test.YtanfmnobanhcnaaPRec3x7
namespace Go.Proofs.Ytanfmnobanhcnaa.PRec3
open Go.RowKit Go.Proofs.YtanfmnobanhcnaaW.PrintWords Go.Proofs.YtanfmnobanhcnaaW.PrintLast Go.Proofs.YtanfmnobanhcnaaW.PrintMore
attribute [local go_sem] max2_int min2_int max_two min_two max_three min_three max_four min_four   -- for this text's walks alone
set_option linter.unusedVariables false
set_option linter.unusedSimpArgs false

/-! ### record_reader_record: function 42 -/
set_option maxHeartbeats 2000000 in
theorem record_reader_record_sz (w : World) (o : Obj) : (w.alloc o).heap.size = w.heap.size + 1 := by
  show (w.heap.push _).size = _
  simp
set_option maxHeartbeats 2000000 in
theorem record_reader_record_set {w : World} {q t : Nat} {a' b' c' d' e' f' i' : Value} (h : w.heap[q]? = some (.cells #[a', b', c', d', e', f', i'] t (0, 0))) (a b c d e f i : Value) : (((((((w.setCell ⟨q, 0, none⟩ a).setCell ⟨q, 1, none⟩ b).setCell ⟨q, 2, none⟩ c).setCell ⟨q, 3, none⟩ d).setCell ⟨q, 4, none⟩ e).setCell ⟨q, 5, none⟩ f).setCell ⟨q, 6, none⟩ i).heap[q]? = some (.cells #[a, b, c, d, e, f, i] t (0, 0)) :=
  blk_set (blk_set (blk_set (blk_set (blk_set (blk_set (blk_set h 0 a) 1 b) 2 c) 3 d) 4 e) 5 f) 6 i
set_option maxHeartbeats 2000000 in
theorem record_reader_record_far {w : World} {g q t : Nat} {cs : Array Value} (h : w.heap[g]? = some (.cells cs t (0, 0))) (hp : g ≠ q) (a b c d e f i : Value) : (((((((w.setCell ⟨q, 0, none⟩ a).setCell ⟨q, 1, none⟩ b).setCell ⟨q, 2, none⟩ c).setCell ⟨q, 3, none⟩ d).setCell ⟨q, 4, none⟩ e).setCell ⟨q, 5, none⟩ f).setCell ⟨q, 6, none⟩ i).heap[g]? = some (.cells cs t (0, 0)) :=
  blk_far (p := ⟨q, 6, none⟩) (blk_far (p := ⟨q, 5, none⟩) (blk_far (p := ⟨q, 4, none⟩) (YtanfmnobanhcnaaH.far4 h hp a b c d) hp e) hp f) hp i
set_option maxHeartbeats 2000000 in
theorem record_reader_record_Vfar {w : World} {e0 base q : Nat} {k : IntKind} {ok : Nat → Prop} {v : Value} {xs : List Int} (h : Kd.V (Kd.int k) e0 w base ok v xs) (hok : ∀ k, ok k → k ≠ q) (a b c d e f i : Value) : Kd.V (Kd.int k) e0 (((((((w.setCell ⟨q, 0, none⟩ a).setCell ⟨q, 1, none⟩ b).setCell ⟨q, 2, none⟩ c).setCell ⟨q, 3, none⟩ d).setCell ⟨q, 4, none⟩ e).setCell ⟨q, 5, none⟩ f).setCell ⟨q, 6, none⟩ i) base ok v xs :=
  Kd.V_far (p := ⟨q, 6, none⟩) (Kd.V_far (p := ⟨q, 5, none⟩) (Kd.V_far (p := ⟨q, 4, none⟩) (YtanfmnobanhcnaaH.Vfar4 h hok a b c d) hok e) hok f) hok i
set_option maxHeartbeats 2000000 in
theorem record_reader_record_new {g q : Nat} {row : Option Nat} {w w1 : World} (h : YtanfmnobanhcnaaH.Mut g row w w1) (hg : w.heap.size ≤ q) (a b c d e f i : Value) : YtanfmnobanhcnaaH.Mut g row w (((((((w1.setCell ⟨q, 0, none⟩ a).setCell ⟨q, 1, none⟩ b).setCell ⟨q, 2, none⟩ c).setCell ⟨q, 3, none⟩ d).setCell ⟨q, 4, none⟩ e).setCell ⟨q, 5, none⟩ f).setCell ⟨q, 6, none⟩ i) :=
  (((h.new4 hg a b c d).new_ hg 4 e).new_ hg 5 f).new_ hg 6 i
set_option maxHeartbeats 2000000 in
theorem record_reader_record_chain {w : World} {q t : Nat} {a' b' c' d' e' f' i' : Value} (h : w.heap[q]? = some (.cells #[a', b', c', d', e', f', i'] t (0, 0))) (b c d e : Value) : ((((w.setCell ⟨q, 1, none⟩ b).setCell ⟨q, 2, none⟩ c).setCell ⟨q, 3, none⟩ d).setCell ⟨q, 4, none⟩ e).heap[q]? = some (.cells #[a', b, c, d, e, f', i'] t (0, 0)) :=
  blk_set (blk_set (blk_set (blk_set h 1 b) 2 c) 3 d) 4 e
set_option maxHeartbeats 2000000 in
theorem record_reader_record_chain_far {w : World} {g q t : Nat} {cs : Array Value} (h : w.heap[g]? = some (.cells cs t (0, 0))) (hp : g ≠ q) (b c d e : Value) : ((((w.setCell ⟨q, 1, none⟩ b).setCell ⟨q, 2, none⟩ c).setCell ⟨q, 3, none⟩ d).setCell ⟨q, 4, none⟩ e).heap[g]? = some (.cells cs t (0, 0)) :=
  blk_far (p := ⟨q, 4, none⟩) (blk_far (p := ⟨q, 3, none⟩) (blk_far (p := ⟨q, 2, none⟩) (blk_far (p := ⟨q, 1, none⟩) h hp b) hp c) hp d) hp e
set_option maxHeartbeats 2000000 in
theorem record_reader_record_chain_V {w : World} {e0 base q : Nat} {k : IntKind} {ok : Nat → Prop} {v : Value} {xs : List Int} (h : Kd.V (Kd.int k) e0 w base ok v xs) (hok : ∀ k, ok k → k ≠ q) (b c d e : Value) : Kd.V (Kd.int k) e0 ((((w.setCell ⟨q, 1, none⟩ b).setCell ⟨q, 2, none⟩ c).setCell ⟨q, 3, none⟩ d).setCell ⟨q, 4, none⟩ e) base ok v xs :=
  Kd.V_far (p := ⟨q, 4, none⟩) (Kd.V_far (p := ⟨q, 3, none⟩) (Kd.V_far (p := ⟨q, 2, none⟩) (Kd.V_far (p := ⟨q, 1, none⟩) h hok b) hok c) hok d) hok e
set_option maxHeartbeats 8000000 in
set_option maxRecDepth 100000 in
theorem record_reader_record.calls (g : Nat) (kd : Int) (l : List Int) (bad : Bool) (w : World) (h : YtanfmnobanhcnaaH.Rec.Rd 83 5 g w l bad) (hB : YtanfmnobanhcnaaH.Crc.isB l) (hl : l.length ≤ 1048576) :
    Calls Try.prog 42 #[.pointer (some ⟨g, 0, none⟩), .int .i64 kd] w fun e w' => ∃ vT vI, e = .returned (.agg #[.int .i64 kd, vT, .int .i64 (YtanfmnobanhcnaaH.Rec.recR kd l bad).1.2.1.2.1, .int .i64 (YtanfmnobanhcnaaH.Rec.recR kd l bad).1.2.1.2.2.1, .int .i64 (YtanfmnobanhcnaaH.Rec.recR kd l bad).1.2.1.2.2.2, vI, .int .i64 (YtanfmnobanhcnaaH.Rec.recR kd l bad).1.2.2.2]) ∧
      Kd.V (Kd.int .i64) 3 w' 0 (fun k => w.heap.size ≤ k) vT (YtanfmnobanhcnaaH.Rec.recR kd l bad).1.2.1.1 ∧ Kd.V (Kd.int .i64) 3 w' 0 (fun k => w.heap.size ≤ k) vI (YtanfmnobanhcnaaH.Rec.recR kd l bad).1.2.2.1 ∧
      YtanfmnobanhcnaaH.Rec.Rd 83 5 g w' (YtanfmnobanhcnaaH.Rec.recR kd l bad).2.1 (YtanfmnobanhcnaaH.Rec.recR kd l bad).2.2 ∧ YtanfmnobanhcnaaH.Mut g none w w' := by
  have hu30 := Try.underlying30
  have hu25 := Try.underlying25
  obtain ⟨gb, hgb⟩ : ∃ gb, gb = w.heap.size := ⟨_, rfl⟩
  obtain ⟨gx, hgx⟩ : ∃ gx, gx = w.heap.size + 1 := ⟨_, rfl⟩
  have hgl : g < w.heap.size := by obtain ⟨v, hg, _⟩ := h; exact blk_lt hg
  have hM1 := Aside0.mk (((YtanfmnobanhcnaaH.Mut.refl g none w).below_ (YtanfmnobanhcnaaH.below_alloc1 w (.cells #[.int .i64 0, .slice none 0 0, .int .i64 0, .int .i64 0, .int .i64 0, .slice none 0 0, .int .i64 0] 30))).below_ (YtanfmnobanhcnaaH.below_alloc1 (w.alloc (.cells #[.int .i64 0, .slice none 0 0, .int .i64 0, .int .i64 0, .int .i64 0, .slice none 0 0, .int .i64 0] 30)) (.cells #[.int .i64 kd, .slice none 0 0, .int .i64 0, .int .i64 0, .int .i64 0, .slice none 0 0, .int .i64 0] 30)))
  have hR1 := Aside0.mk ((h.below (YtanfmnobanhcnaaH.below_alloc1 w (.cells #[.int .i64 0, .slice none 0 0, .int .i64 0, .int .i64 0, .int .i64 0, .slice none 0 0, .int .i64 0] 30))).below (YtanfmnobanhcnaaH.below_alloc1 (w.alloc (.cells #[.int .i64 0, .slice none 0 0, .int .i64 0, .int .i64 0, .int .i64 0, .slice none 0 0, .int .i64 0] 30)) (.cells #[.int .i64 kd, .slice none 0 0, .int .i64 0, .int .i64 0, .int .i64 0, .slice none 0 0, .int .i64 0] 30)))
  have hG1 := Aside0.mk (show ((w.alloc (.cells #[.int .i64 0, .slice none 0 0, .int .i64 0, .int .i64 0, .int .i64 0, .slice none 0 0, .int .i64 0] 30)).alloc (.cells #[.int .i64 kd, .slice none 0 0, .int .i64 0, .int .i64 0, .int .i64 0, .slice none 0 0, .int .i64 0] 30)).heap[gb]? = some (.cells #[.int .i64 0, .slice none 0 0, .int .i64 0, .int .i64 0, .int .i64 0, .slice none 0 0, .int .i64 0] 30) by rw [hgb]; exact blk_alloc (blk_new w _) _)
  have hX1 := Aside0.mk (show ((w.alloc (.cells #[.int .i64 0, .slice none 0 0, .int .i64 0, .int .i64 0, .int .i64 0, .slice none 0 0, .int .i64 0] 30)).alloc (.cells #[.int .i64 kd, .slice none 0 0, .int .i64 0, .int .i64 0, .int .i64 0, .slice none 0 0, .int .i64 0] 30)).heap[gx]? = some (.cells #[.int .i64 kd, .slice none 0 0, .int .i64 0, .int .i64 0, .int .i64 0, .slice none 0 0, .int .i64 0] 30) by rw [hgx, ← record_reader_record_sz w (.cells #[.int .i64 0, .slice none 0 0, .int .i64 0, .int .i64 0, .int .i64 0, .slice none 0 0, .int .i64 0] 30)]; exact blk_new (w.alloc (.cells #[.int .i64 0, .slice none 0 0, .int .i64 0, .int .i64 0, .int .i64 0, .slice none 0 0, .int .i64 0] 30)) (.cells #[.int .i64 kd, .slice none 0 0, .int .i64 0, .int .i64 0, .int .i64 0, .slice none 0 0, .int .i64 0] 30))
  have hS1 := Aside0.mk (show ((w.alloc (.cells #[.int .i64 0, .slice none 0 0, .int .i64 0, .int .i64 0, .int .i64 0, .slice none 0 0, .int .i64 0] 30)).alloc (.cells #[.int .i64 kd, .slice none 0 0, .int .i64 0, .int .i64 0, .int .i64 0, .slice none 0 0, .int .i64 0] 30)).heap.size = gx + 1 by rw [hgx, record_reader_record_sz, record_reader_record_sz])
  clear h
  go_enter Try.func42, Try.ntmps42
  iterate 27 (first | go_values | go_skip | go_guarded | go_step)
  rename_i K hK

  rw [← hgx, ← hgb]
  have hgbx : gb < gx := by omega
  have hgg : g < gb := by omega
  have hgw : w.heap.size = gb := hgb.symm
  clear hgb hgx hgl
  have key : ∀ (v7 v9 v10 v11 v12 : Value) (w3 : World) (AT : Option Addr) (cT : Nat) (ts : List Int) (k m gr : Int) (l1 : List Int) (b1 : Bool) (v1 : Value)
      (HX3 : Aside0 (w3.heap[gx]? = some (.cells #[.int .i64 kd, .slice AT ts.length cT, .int .i64 k, .int .i64 m, .int .i64 gr, .slice none 0 0, .int .i64 0] 30))) (HG3 : Aside0 (w3.heap[gb]? = some (.cells #[.int .i64 0, .slice none 0 0, .int .i64 0, .int .i64 0, .int .i64 0, .slice none 0 0, .int .i64 0] 30))) (HR3 : Aside0 (w3.heap[g]? = some (.cells #[v1, .bool b1] 83))) (HV3 : Aside0 (Kd.V (Kd.int .u8) 5 w3 0 (fun k => k < g) v1 l1))
      (HVT3 : Aside0 (Kd.V (Kd.int .i64) 3 w3 0 (fun k => gx < k) (.slice AT ts.length cT) ts)) (HM3 : Aside0 (YtanfmnobanhcnaaH.Mut g none w w3)) (HB3 : Aside0 (YtanfmnobanhcnaaH.Crc.isB l1 ∧ l1.length ≤ 1048576))
      (HRES3 : Aside0 (YtanfmnobanhcnaaH.Rec.recR kd l bad = YtanfmnobanhcnaaH.Rec.recR2 kd ((ts, k, m, gr), l1, b1))), K { tmps := #[.pointer (some ⟨g, 0, none⟩), .int .i64 kd, undef, undef, .pointer (some ⟨gb, 0, none⟩), .pointer (some ⟨gx, 0, none⟩), .int .i64 kd, v7, .int .i64 kd, v9, v10, v11, v12, undef, undef, undef, undef, undef, undef, undef, undef, undef, undef, undef, undef, undef, undef, undef, undef, undef, undef, undef, undef, undef, undef, undef, undef, undef, undef, undef, undef, undef, undef, undef], defers := [] } w3 := by
    intro v7 v9 v10 v11 v12 w3 AT cT ts k m gr l1 b1 v1 HX3 HG3 HR3 HV3 HVT3 HM3 HB3 HRES3
    refine hK _ _ ?_
    clear hK hM1 hR1 hG1 hX1 hS1
    have hne1 : gx ≠ g := by omega
    have hne1' : g ≠ gx := by omega
    have hne2 : gb ≠ g := by omega
    have hne3 : g ≠ gb := by omega
    have hne4 : gx ≠ gb := by omega
    have hne4' : gb ≠ gx := by omega
    obtain ⟨A1, c1, rfl⟩ := Kd.V_slice HV3.out
    have qx0 := YtanfmnobanhcnaaH.cellv HX3.out 0 (Value.int .i64 kd) rfl
    have qx1 := YtanfmnobanhcnaaH.cellv HX3.out 1 (Value.slice AT ts.length cT) rfl
    have qx2 := YtanfmnobanhcnaaH.cellv HX3.out 2 (Value.int .i64 k) rfl
    have qx3 := YtanfmnobanhcnaaH.cellv HX3.out 3 (Value.int .i64 m) rfl
    have qx4 := YtanfmnobanhcnaaH.cellv HX3.out 4 (Value.int .i64 gr) rfl
    have qx5 := YtanfmnobanhcnaaH.cellv HX3.out 5 (Value.slice none 0 0) rfl
    have qx6 := YtanfmnobanhcnaaH.cellv HX3.out 6 (Value.int .i64 0) rfl
    have qg0 := YtanfmnobanhcnaaH.cellv HG3.out 0 (.int .i64 0) rfl
    have fg0 := blk_frozen HG3.out 0
    have qg1 := YtanfmnobanhcnaaH.cellv HG3.out 1 (.slice none 0 0) rfl
    have fg1 := blk_frozen HG3.out 1
    have qg2 := YtanfmnobanhcnaaH.cellv HG3.out 2 (.int .i64 0) rfl
    have fg2 := blk_frozen HG3.out 2
    have qg3 := YtanfmnobanhcnaaH.cellv HG3.out 3 (.int .i64 0) rfl
    have fg3 := blk_frozen HG3.out 3
    have qg4 := YtanfmnobanhcnaaH.cellv HG3.out 4 (.int .i64 0) rfl
    have fg4 := blk_frozen HG3.out 4
    have qg5 := YtanfmnobanhcnaaH.cellv HG3.out 5 (.slice none 0 0) rfl
    have fg5 := blk_frozen HG3.out 5
    have qg6 := YtanfmnobanhcnaaH.cellv HG3.out 6 (.int .i64 0) rfl
    have fg6 := blk_frozen HG3.out 6
    have qb := YtanfmnobanhcnaaH.cellv HR3.out 1 (.bool b1) rfl
    have fx5 := blk_frozen HX3.out 5
    have fx6 := blk_frozen HX3.out 6
    cases b1 with
    | true =>
      have HRES := Aside0.mk (show YtanfmnobanhcnaaH.Rec.recR kd l bad = ((kd, (ts, k, m, gr), [], 0), l1, true) by rw [HRES3.out]; exact if_pos rfl)
      go_wp2
      refine bodyPost_ret (results_cell_row rfl _ _ gb 30 #[.int .i64 kd, .slice AT ts.length cT, .int .i64 k, .int .i64 m, .int .i64 gr, .slice none 0 0, .int .i64 0] (0, 0) _ rfl (record_reader_record_set HG3.out _ _ _ _ _ _ _) Try.underlying30 rfl (by kernel_rfl)) rfl ?_
      exact ⟨_, _, by rw [HRES.out], by rw [HRES.out]; exact Kd.V_mono (record_reader_record_Vfar HVT3.out (fun k hk => by omega) _ _ _ _ _ _ _) (fun k hk => by omega), by rw [HRES.out]; exact Kd.V_nil _ _ _ _ _, by rw [HRES.out]; exact ⟨_, record_reader_record_far HR3.out hne3 _ _ _ _ _ _ _, record_reader_record_Vfar HV3.out (fun k hk => by omega) _ _ _ _ _ _ _⟩, record_reader_record_new HM3.out (by omega) _ _ _ _ _ _ _⟩
    | false =>
      go_wp2_with fail
      refine (record_reader_number.calls g l1 false w3 ⟨_, HR3.out, HV3.out⟩ HB3.out.1).mono ?_
      rintro e w4 ⟨rfl, hrd, hm⟩
      clear qb fx5 fx6 qx0 qg0 fg0 qx1 qg1 fg1 qx2 qg2 fg2 qx3 qg3 fg3 qx4 qg4 fg4 qx5 qg5 fg5 qx6 qg6 fg6
      have HX4 := Aside0.mk (hm.blk HX3.out hne1 (by simp))
      have HG4 := Aside0.mk (hm.blk HG3.out hne2 (by simp))
      have HVT4 := Aside0.mk (Kd.V_step HVT3.out (fun k hk hlt => hm.keep.2 k hlt (by omega) (by simp)))
      have HM4 := Aside0.mk (HM3.out.trans_ hm (.inl rfl))
      have hnB := YtanfmnobanhcnaaH.Rec.numR_B (bad := false) HB3.out.1
      have hnl := Nat.le_trans (YtanfmnobanhcnaaH.Rec.numR_le l1 false) HB3.out.2
      have hres : YtanfmnobanhcnaaH.Rec.recR kd l bad = (fun q : Int × List Int × Bool => if kd = 2 ∨ q.2.2 = true then ((kd, (ts, k, m, gr), [], q.1), q.2.1, q.2.2)
        else (fun c : Int × List Int × Bool => ((kd, (ts, k, m, gr), (YtanfmnobanhcnaaH.Rec.idsN (min c.1 40).toNat c.2.1 c.2.2).1, q.1), (YtanfmnobanhcnaaH.Rec.idsN (min c.1 40).toNat c.2.1 c.2.2).2)) (YtanfmnobanhcnaaH.Rec.numR q.2.1 q.2.2)) (YtanfmnobanhcnaaH.Rec.numR l1 false) := by rw [HRES3.out]; exact if_neg (by intro h; cases h)
      generalize YtanfmnobanhcnaaH.Rec.numR l1 false = q at hrd hnB hnl hres ⊢
      obtain ⟨id, l2, b2⟩ := q
      simp only at hrd hnB hnl hres ⊢
      obtain ⟨v2, hg2, hv2⟩ := hrd
      obtain ⟨A2, c2, rfl⟩ := Kd.V_slice hv2
      have HR4 := Aside0.mk hg2
      have HV4 := Aside0.mk hv2
      have HB4 := Aside0.mk (And.intro hnB hnl)
      have HRES4 := Aside0.mk hres
      clear hg2 hv2 hnB hnl hres hm HX3 HG3 HVT3 HM3 HB3 HR3 HV3 HRES3
      have qx0 := YtanfmnobanhcnaaH.cellv HX4.out 0 (Value.int .i64 kd) rfl
      have qx1 := YtanfmnobanhcnaaH.cellv HX4.out 1 (Value.slice AT ts.length cT) rfl
      have qx2 := YtanfmnobanhcnaaH.cellv HX4.out 2 (Value.int .i64 k) rfl
      have qx3 := YtanfmnobanhcnaaH.cellv HX4.out 3 (Value.int .i64 m) rfl
      have qx4 := YtanfmnobanhcnaaH.cellv HX4.out 4 (Value.int .i64 gr) rfl
      have qx5 := YtanfmnobanhcnaaH.cellv HX4.out 5 (Value.slice none 0 0) rfl
      have qx6 := YtanfmnobanhcnaaH.cellv HX4.out 6 (Value.int .i64 0) rfl
      have qg0 := YtanfmnobanhcnaaH.cellv HG4.out 0 (.int .i64 0) rfl
      have fg0 := blk_frozen HG4.out 0
      have qg1 := YtanfmnobanhcnaaH.cellv HG4.out 1 (.slice none 0 0) rfl
      have fg1 := blk_frozen HG4.out 1
      have qg2 := YtanfmnobanhcnaaH.cellv HG4.out 2 (.int .i64 0) rfl
      have fg2 := blk_frozen HG4.out 2
      have qg3 := YtanfmnobanhcnaaH.cellv HG4.out 3 (.int .i64 0) rfl
      have fg3 := blk_frozen HG4.out 3
      have qg4 := YtanfmnobanhcnaaH.cellv HG4.out 4 (.int .i64 0) rfl
      have fg4 := blk_frozen HG4.out 4
      have qg5 := YtanfmnobanhcnaaH.cellv HG4.out 5 (.slice none 0 0) rfl
      have fg5 := blk_frozen HG4.out 5
      have qg6 := YtanfmnobanhcnaaH.cellv HG4.out 6 (.int .i64 0) rfl
      have fg6 := blk_frozen HG4.out 6
      have qb := YtanfmnobanhcnaaH.cellv HR4.out 1 (.bool b2) rfl
      have fx5 := blk_frozen HX4.out 5
      have fx6 := blk_frozen HX4.out 6
      have HX5 := Aside0.mk (blk_set HX4.out 6 (.int .i64 id))
      have HG5 := Aside0.mk (blk_far (p := ⟨gx, 6, none⟩) HG4.out hne4' (.int .i64 id))
      have HR5 := Aside0.mk (blk_far (p := ⟨gx, 6, none⟩) HR4.out hne1' (.int .i64 id))
      have HV5 := Aside0.mk (Kd.V_far (p := ⟨gx, 6, none⟩) HV4.out (fun k hk => by show k ≠ gx; omega) (.int .i64 id))
      have HVT5 := Aside0.mk (Kd.V_far (p := ⟨gx, 6, none⟩) HVT4.out (fun k hk => by show k ≠ gx; omega) (.int .i64 id))
      have HM5 := Aside0.mk (HM4.out.new_ (by omega : w.heap.size ≤ gx) 6 (.int .i64 id))
      have HRES5 := HRES4
      have HB5 := HB4
      clear HX4 HG4 HR4 HV4 HVT4 HM4 HRES4 HB4
      by_cases h2 : kd = 2
      · subst h2
        have HRES := Aside0.mk (HRES5.out.trans (if_pos (.inl rfl)))
        go_wp2
        refine bodyPost_ret (results_cell_row rfl _ _ gb 30 #[.int .i64 2, .slice AT ts.length cT, .int .i64 k, .int .i64 m, .int .i64 gr, .slice none 0 0, .int .i64 id] (0, 0) _ rfl (record_reader_record_set HG5.out _ _ _ _ _ _ _) Try.underlying30 rfl (by kernel_rfl)) rfl ?_
        exact ⟨_, _, by rw [HRES.out], by rw [HRES.out]; exact Kd.V_mono (record_reader_record_Vfar HVT5.out (fun k hk => by omega) _ _ _ _ _ _ _) (fun k hk => by omega), by rw [HRES.out]; exact Kd.V_nil _ _ _ _ _, by rw [HRES.out]; exact ⟨_, record_reader_record_far HR5.out hne3 _ _ _ _ _ _ _, record_reader_record_Vfar HV5.out (fun k hk => by omega) _ _ _ _ _ _ _⟩, record_reader_record_new HM5.out (by omega) _ _ _ _ _ _ _⟩
      · have h2b : (kd == 2) = false := by rw [beq_eq_false_iff_ne]; exact h2
        cases b2 with
        | true =>
          have HRES := Aside0.mk (HRES5.out.trans (if_pos (.inr rfl)))
          go_wp2
          refine bodyPost_ret (results_cell_row rfl _ _ gb 30 #[.int .i64 kd, .slice AT ts.length cT, .int .i64 k, .int .i64 m, .int .i64 gr, .slice none 0 0, .int .i64 id] (0, 0) _ rfl (record_reader_record_set HG5.out _ _ _ _ _ _ _) Try.underlying30 rfl (by kernel_rfl)) rfl ?_
          exact ⟨_, _, by rw [HRES.out], by rw [HRES.out]; exact Kd.V_mono (record_reader_record_Vfar HVT5.out (fun k hk => by omega) _ _ _ _ _ _ _) (fun k hk => by omega), by rw [HRES.out]; exact Kd.V_nil _ _ _ _ _, by rw [HRES.out]; exact ⟨_, record_reader_record_far HR5.out hne3 _ _ _ _ _ _ _, record_reader_record_Vfar HV5.out (fun k hk => by omega) _ _ _ _ _ _ _⟩, record_reader_record_new HM5.out (by omega) _ _ _ _ _ _ _⟩
        | false =>
          have HRES6 := Aside0.mk (HRES5.out.trans (if_neg (by rintro (h | h); exact h2 h; cases h)))
          clear HRES5
          go_wp2_with fail
          refine (record_reader_number.calls g l2 false _ ⟨_, HR5.out, HV5.out⟩ HB5.out.1).mono ?_
          rintro e w6 ⟨rfl, hrd, hm⟩
          clear qb fx5 fx6 qx0 qg0 fg0 qx1 qg1 fg1 qx2 qg2 fg2 qx3 qg3 fg3 qx4 qg4 fg4 qx5 qg5 fg5 qx6 qg6 fg6
          have HX6 := Aside0.mk (hm.blk HX5.out hne1 (by simp))
          have HG6 := Aside0.mk (hm.blk HG5.out hne2 (by simp))
          have HVT6 := Aside0.mk (Kd.V_step HVT5.out (fun k hk hlt => hm.keep.2 k hlt (by omega) (by simp)))
          have HM6 := Aside0.mk (HM5.out.trans_ hm (.inl rfl))
          have hnB := YtanfmnobanhcnaaH.Rec.numR_B (bad := false) HB5.out.1
          have hnl := Nat.le_trans (YtanfmnobanhcnaaH.Rec.numR_le l2 false) HB5.out.2
          have hnr := YtanfmnobanhcnaaH.Rec.numR_range l2 false
          have hres := HRES6.out
          try simp only at hres
          generalize YtanfmnobanhcnaaH.Rec.numR l2 false = q at hrd hnB hnl hnr hres ⊢
          obtain ⟨c, l3, b3⟩ := q
          simp only at hrd hnB hnl hnr hres ⊢
          have HRES7 := Aside0.mk hres
          have HB6 := Aside0.mk (And.intro hnB hnl)
          have HC := Aside0.mk hnr
          have HRD := Aside0.mk hrd
          clear HRES6 hres hrd hnB hnl hnr hm HX5 HG5 HVT5 HM5 HB5 HR5 HV5
          obtain ⟨N, hN⟩ : ∃ N, N = (min c 40).toNat := ⟨_, rfl⟩
          have hN40 : N ≤ 40 := by omega
          have HRES8 := HRES7.out
          rw [← hN] at HRES8
          have HRES9 := Aside0.mk HRES8
          obtain ⟨M0, hM0⟩ : ∃ M0, M0 = w6.heap.size := ⟨_, rfl⟩
          have hgxM : gx < M0 := by rw [hM0]; exact blk_lt HX6.out
          have HMZ6 := Aside0.mk (Nat.le_of_eq hM0)
          have HVT7 := Aside0.mk (show Kd.V (Kd.int .i64) 3 w6 0 (fun k => gx < k ∧ k < M0) (.slice AT ts.length cT) ts by rw [hM0]; exact Kd.V_bound HVT6.out)
          have HCN := Aside0.mk (And.intro hN HC.out)
          clear HRES7 HRES8 HC HVT6 hM0 hN
          go_wp2_with fail
          · generalize h40 : (40 : Int) = X
            have HXN := Aside0.mk (show X = (N : Int) by have := HCN.out; omega)
            clear h40 HCN
            go_loopw [33] (fun v33 w' => ∃ (i : Nat) (acc l4 : List Int) (b4 : Bool) (v5 : Value), v33 = .int .i64 (i : Int) ∧ i ≤ N ∧ Aside0 (acc.length = i) ∧ Aside0 (YtanfmnobanhcnaaH.Rec.idsN N l3 b3 = (acc ++ (YtanfmnobanhcnaaH.Rec.idsN (N - i) l4 b4).1, (YtanfmnobanhcnaaH.Rec.idsN (N - i) l4 b4).2)) ∧ Aside0 (YtanfmnobanhcnaaH.Crc.isB l4 ∧ l4.length ≤ 1048576) ∧ Aside0 (YtanfmnobanhcnaaH.Rec.Rd 83 5 g w' l4 b4) ∧ Aside0 (w'.heap[gx]? = some (.cells #[.int .i64 kd, .slice AT ts.length cT, .int .i64 k, .int .i64 m, .int .i64 gr, v5, .int .i64 id] 30)) ∧ Aside0 (w'.heap[gb]? = some (.cells #[.int .i64 0, .slice none 0 0, .int .i64 0, .int .i64 0, .int .i64 0, .slice none 0 0, .int .i64 0] 30)) ∧ Aside0 (Kd.R (Kd.int .i64) 3 w' M0 (fun k => M0 ≤ k) v5 acc) ∧ Aside0 (Kd.V (Kd.int .i64) 3 w' 0 (fun k => gx < k ∧ k < M0) (.slice AT ts.length cT) ts) ∧ Aside0 (YtanfmnobanhcnaaH.Mut g none w w') ∧ Aside0 (M0 ≤ w'.heap.size)) (fun v33 _ => N - (intOf v33).toNat)
            case atStart => exact ⟨0, [], l3, b3, _, rfl, Nat.zero_le _, ⟨rfl⟩, ⟨rfl⟩, HB6, HRD, HX6, HG6, ⟨Kd.R_nil _ _ _ _ _⟩, HVT7, HM6, HMZ6⟩
            case round =>
              clear HB6 HRD HX6 HG6 HVT7 HM6 HMZ6
              obtain ⟨i, acc, l4, b4, v5, rfl, hiN, HLA, HIDS, HB, HRD, HX, HG, HO, HVT, HM, HMZ⟩ := hrel
              obtain ⟨A5, c5, e5⟩ := Kd.R_slice HO.out
              subst e5
              by_cases hlt : i < N
              · have hltX : (i : Int) < X := by rw [HXN.out]; omega
                have HSTEP := Aside0.mk (show YtanfmnobanhcnaaH.Rec.idsN N l3 b3 = (acc ++ (YtanfmnobanhcnaaH.Rec.idsN (N - i) l4 b4).1, (YtanfmnobanhcnaaH.Rec.idsN (N - i) l4 b4).2) from HIDS.out)
                have hN1 : N - i = (N - (i + 1)) + 1 := by omega
                have hst := YtanfmnobanhcnaaH.Rec.idsN_step (N - (i + 1)) l4 b4 acc
                rw [← hN1, ← HIDS.out] at hst
                have hcall := fun W h => record_reader_number.calls g l4 b4 W h HB.out.1
                have hnB := YtanfmnobanhcnaaH.Rec.numR_B (bad := b4) HB.out.1
                have hnl := Nat.le_trans (YtanfmnobanhcnaaH.Rec.numR_le l4 b4) HB.out.2
                generalize YtanfmnobanhcnaaH.Rec.numR l4 b4 = q at hcall hnB hnl hst
                obtain ⟨x, l5, b5⟩ := q
                simp only at hcall hnB hnl hst
                have HST := Aside0.mk hst
                have HCALL := Aside0.mk hcall
                have HB5 := Aside0.mk (And.intro hnB hnl)
                have HLEN := Aside0.mk (show (acc.length + 1) * 8 ≤ 140737488355328 by have := HLA.out; omega)
                clear HSTEP HIDS HB hN1 hst hcall hnB hnl
                go_wp2_with fail
                have HRD1 := Aside0.mk (HRD.out.below (below_drew1 (Below.refl _ _)))
                have HX1 := Aside0.mk (show wr.drew.heap[gx]? = _ from HX.out)
                have HG1 := Aside0.mk (show wr.drew.heap[gb]? = _ from HG.out)
                have HO1 := Aside0.mk (Kd.R_drew HO.out)
                have HVT1 := Aside0.mk (Kd.V_drew HVT.out)
                have HM1 := Aside0.mk (HM.out.below_ (below_drew1 (Below.refl _ _)))
                have HMZ1 := Aside0.mk (show M0 ≤ wr.drew.heap.size from HMZ.out)
                have hcell := YtanfmnobanhcnaaH.cellv HX1.out 5 _ rfl
                refine start_ (n := 8) (S := fun w' => w'.cell? ⟨gx, 5, none⟩ = some (.slice A5 acc.length c5)) (ds := [7]) #[false, false, false, false, false, false, false, false] (by kernel_rfl) rfl rfl (hcell) (fun hHeld => ?_)
                generalize wr.drew = w5 at HRD1 HX1 HG1 HO1 HVT1 HM1 HMZ1 hcell hHeld ⊢
                refine pure_ (i := 0) (N := some 35) (v := ?_) (a' := ?_) #[true, false, false, false, false, false, false, false] rfl rfl (by kernel_rfl) (fun _ _ _ h => h) (Or.inl ⟨by rfl, ?_⟩) ?_ ?_
                rotate_left
                · intro w'
                  go_simp
                  with_reducible rfl
                rotate_left
                · simp only [Act.put, List.setIfInBounds_toArray, List.set_cons_zero, List.set_cons_succ, i64_w, i32_w]
                  rfl
                refine pure_ (i := 2) (N := some 37) (v := ?_) (a' := ?_) #[true, false, true, false, false, false, false, false] rfl rfl (by kernel_rfl) (fun _ _ _ h => h) (Or.inl ⟨by rfl, ?_⟩) ?_ ?_
                rotate_left
                · intro w'
                  go_simp
                  with_reducible rfl
                rotate_left
                · simp only [Act.put, List.setIfInBounds_toArray, List.set_cons_zero, List.set_cons_succ, i64_w, i32_w]
                  rfl
                refine take_ (i := 1) (N := some 36) (v := ?_) (a' := ?_) #[true, true, true, false, false, false, false, false] rfl rfl (by kernel_rfl) (fun _ _ _ h => h) (Or.inl ⟨by rfl, ?_⟩) hHeld ?_ ?_
                rotate_left
                · intro w' s0
                  go_simp
                  with_reducible rfl
                rotate_left
                · simp only [Act.put, List.setIfInBounds_toArray, List.set_cons_zero, List.set_cons_succ, i64_w, i32_w]
                  rfl
                refine one_ (i := 3) (N := some 38) #[true, true, true, true, false, false, false, false] rfl rfl (by kernel_rfl) (by decide) (fun K hK => ?_)
                refine goes_ Try.func78 (by kernel_rfl) rfl #[.pointer (some ⟨g, 0, none⟩)] (by rfl) rfl rfl (by simp only [List.map_toArray, List.map_cons, List.map_nil]; rfl) ?_
                with_reducible refine (HCALL.out _ HRD1.out).mono ?_
                rintro e w7 ⟨rfl, hrd7, hm7⟩
                refine ⟨_, rfl, ?_⟩
                have HX7 := Aside0.mk (hm7.blk HX1.out hne1 (by simp))
                have HG7 := Aside0.mk (hm7.blk HG1.out hne2 (by simp))
                have HVT8 := Aside0.mk (Kd.V_step HVT1.out (fun k hk hlt => hm7.keep.2 k hlt (by omega) (by simp)))
                have HM7 := Aside0.mk (HM1.out.trans_ hm7 (.inl rfl))
                have HO7 := Aside0.mk (hm7.R HO1.out (fun k hk => ⟨by omega, by simp⟩))
                have HRD7 := Aside0.mk hrd7
                have HMZ7 := Aside0.mk (Nat.le_trans HMZ1.out hm7.keep.1)
                have hc7 := YtanfmnobanhcnaaH.cellv HX7.out 5 _ rfl
                clear hrd7 hm7
                refine hK.out _ _ (hc7) (fun hHeld => ?_)
                clear hK K
                refine norm_ (a' := ?_) ?_ ?_
                rotate_left
                · show Act.put _ (some 38) _ = _
                  simp only [Act.put, List.setIfInBounds_toArray, List.set_cons_zero, List.set_cons_succ, i64_w, i32_w]
                  rfl
                refine one_ (i := 4) (N := some 39) #[true, true, true, true, true, false, false, false] rfl rfl (by kernel_rfl) (by decide) (fun K hK => ?_)
                refine value_ (w1 := ?_) (v := ?_) (by rfl) rfl ?_ ?_
                rotate_left 2
                · go_simp
                  constructor
                  · rfl
                  · rfl
                refine hK.out _ _ ((World.cell?_alloc_lt _ _ _ (World.block_lt_of_cell? _ _ hHeld)).trans hHeld) (fun hHeld => ?_)
                clear hK K
                refine norm_ (a' := ?_) ?_ ?_
                rotate_left
                · show Act.put _ (some 39) _ = _
                  simp only [Act.put, List.setIfInBounds_toArray, List.set_cons_zero, List.set_cons_succ, i64_w, i32_w]
                  rfl
                refine one_ (i := 5) (N := some 40) #[true, true, true, true, true, true, false, false] rfl rfl (by kernel_rfl) (by decide) (fun K hK => ?_)
                refine Kd.R_append_step (Kd.int .i64) (w0 := w7) M0 (by rfl) (.tmp 36) (.tmp 39) 23 3 (.int .i64 0) 8 rfl Try.underlying23 info3 rfl (by decide) (by decide) (.slice A5 acc.length c5) acc x [.int .i64 x] (fun k => M0 ≤ k) (fun _ => False) rfl rfl rfl (fun _ hk => hk.elim) (fun k hk => Nat.le_trans HMZ7.out hk) HO7.out (Below.refl _ _) HMZ7.out (by have := HLEN.out; omega) ?_
                intro v8 w8 ho8 hb8 hgr8 hat8
                have HOB := Aside0.mk (fun (j : Nat) (e : some j = (Value.slice A5 acc.length c5).ownBlock) => (HO7.out).1 j e.symm)
                have HX8 := Aside0.mk (blk_grown HX7.out hgr8 (fun e => by have := HOB.out _ e; omega))
                have HG8 := Aside0.mk (blk_grown HG7.out hgr8 (fun e => by have := HOB.out _ e; omega))
                obtain ⟨v9, hg9, hv9⟩ := HRD7.out
                have HR8 := Aside0.mk (blk_grown hg9 hgr8 (fun e => by have := HOB.out _ e; omega))
                have HV8 := Aside0.mk (Kd.V_step hv9 (fun k hk hlt => hgr8.block k hlt (fun e => by have := HOB.out _ e; omega)))
                have HVT9 := Aside0.mk (Kd.V_step HVT8.out (fun k hk hlt => hgr8.block k hlt (fun e => by have := HOB.out _ e; omega)))
                have HM8 := Aside0.mk (HM7.out.grown_ hgr8 (by cases hob : (Value.slice A5 acc.length c5).ownBlock with | none => exact .inl rfl | some j => exact .inr ⟨j, rfl, by have := HOB.out j hob.symm; omega⟩))
                have HMZ8 := Aside0.mk (Nat.le_trans HMZ7.out hgr8.size)
                obtain ⟨ys, hys⟩ : ∃ ys, ys = acc ++ [x] := ⟨_, rfl⟩
                rw [← hys] at ho8
                have HYS := Aside0.mk hys
                clear hys hg9 hv9
                obtain ⟨A8, c8, e8⟩ := Kd.R_slice ho8
                subst e8
                have HO8 := Aside0.mk ho8
                have hcc8 := blk_cell HX8.out 5
                have hff8 := blk_frozen HX8.out 5
                clear ho8 hb8 hgr8 hat8
                refine hK.out _ _ ((hcc8.trans rfl)) (fun hHeld => ?_)
                clear hK K
                refine norm_ (a' := ?_) ?_ ?_
                rotate_left
                · show Act.put _ (some 40) _ = _
                  simp only [Act.put, List.setIfInBounds_toArray, List.set_cons_zero, List.set_cons_succ, i64_w, i32_w]
                  rfl
                refine pure_ (i := 6) (N := some 41) (v := ?_) (a' := ?_) #[true, true, true, true, true, true, true, false] rfl rfl (by kernel_rfl) (fun _ _ _ h => h) (Or.inl ⟨by rfl, ?_⟩) ?_ ?_
                rotate_left
                · intro w'
                  go_simp
                  with_reducible rfl
                rotate_left
                · simp only [Act.put, List.setIfInBounds_toArray, List.set_cons_zero, List.set_cons_succ, i64_w, i32_w]
                  rfl
                refine last_ (i := 7) (N := none) #[true, true, true, true, true, true, true, true] rfl rfl (by kernel_rfl) (by decide) (fun K hK => ?_)
                refine skip_ (w1 := ?_) (by rfl) rfl ?_ ?_
                rotate_left
                · go_simp
                  rfl
                refine hK.out _ _ ?_
                clear hK K
                refine done_ (by kernel_rfl) ?_
                go_wp2
                go_round
                case rel => exact ⟨i + 1, ys, l5, b5, _, by go_num, by omega, ⟨by rw [HYS.out, List.length_append, HLA.out]; rfl⟩, ⟨by rw [HYS.out]; exact HST.out⟩, HB5, ⟨_, blk_far (p := ⟨gx, 5, none⟩) HR8.out hne1' _, Kd.V_far (p := ⟨gx, 5, none⟩) HV8.out (fun k hk => by show k ≠ gx; omega) _⟩, ⟨blk_set HX8.out 5 _⟩, ⟨blk_far (p := ⟨gx, 5, none⟩) HG8.out hne4' _⟩, ⟨Kd.R_far (p := ⟨gx, 5, none⟩) HO8.out (fun k hk => by show k ≠ gx; omega) _⟩, ⟨Kd.V_far (p := ⟨gx, 5, none⟩) HVT9.out (fun k hk => by show k ≠ gx; omega) _⟩, ⟨HM8.out.new_ (by omega : w.heap.size ≤ gx) 5 _⟩, ⟨by simpa [World.setCell] using HMZ8.out⟩⟩
                case measure => simp [intOf]; omega
              · have hiN' : i = N := by omega
                subst hiN'
                have hltX : ¬ (i : Int) < X := by rw [HXN.out]; omega
                obtain ⟨v4, hg4, hv4⟩ := HRD.out
                have HRw := Aside0.mk hg4
                have HVw := Aside0.mk hv4
                have HXw := HX
                have HGw := HG
                have HVTw := Aside0.mk (Kd.V_mono HVT.out (fun k hk => hk.1))
                have HMw := HM
                have hidx := HIDS.out
                rw [Nat.sub_self] at hidx
                have HRESw := Aside0.mk (show YtanfmnobanhcnaaH.Rec.recR kd l bad = ((kd, (ts, k, m, gr), acc, id), l4, b4) by rw [HRES9.out, hidx]; show ((kd, (ts, k, m, gr), acc ++ [], id), l4, b4) = _; rw [List.append_nil])
                clear hg4 hv4 hidx HRES9 HRD HX HG HVT HM
                have HRES := HRESw
                have qx0 := YtanfmnobanhcnaaH.cellv HXw.out 0 (Value.int .i64 kd) rfl
                have qx1 := YtanfmnobanhcnaaH.cellv HXw.out 1 (Value.slice AT ts.length cT) rfl
                have qx2 := YtanfmnobanhcnaaH.cellv HXw.out 2 (Value.int .i64 k) rfl
                have qx3 := YtanfmnobanhcnaaH.cellv HXw.out 3 (Value.int .i64 m) rfl
                have qx4 := YtanfmnobanhcnaaH.cellv HXw.out 4 (Value.int .i64 gr) rfl
                have qx5 := YtanfmnobanhcnaaH.cellv HXw.out 5 (Value.slice A5 acc.length c5) rfl
                have qx6 := YtanfmnobanhcnaaH.cellv HXw.out 6 (Value.int .i64 id) rfl
                have qg0 := YtanfmnobanhcnaaH.cellv HGw.out 0 (.int .i64 0) rfl
                have fg0 := blk_frozen HGw.out 0
                have qg1 := YtanfmnobanhcnaaH.cellv HGw.out 1 (.slice none 0 0) rfl
                have fg1 := blk_frozen HGw.out 1
                have qg2 := YtanfmnobanhcnaaH.cellv HGw.out 2 (.int .i64 0) rfl
                have fg2 := blk_frozen HGw.out 2
                have qg3 := YtanfmnobanhcnaaH.cellv HGw.out 3 (.int .i64 0) rfl
                have fg3 := blk_frozen HGw.out 3
                have qg4 := YtanfmnobanhcnaaH.cellv HGw.out 4 (.int .i64 0) rfl
                have fg4 := blk_frozen HGw.out 4
                have qg5 := YtanfmnobanhcnaaH.cellv HGw.out 5 (.slice none 0 0) rfl
                have fg5 := blk_frozen HGw.out 5
                have qg6 := YtanfmnobanhcnaaH.cellv HGw.out 6 (.int .i64 0) rfl
                have fg6 := blk_frozen HGw.out 6
                have qb := YtanfmnobanhcnaaH.cellv HRw.out 1 (.bool b4) rfl
                have fx5 := blk_frozen HXw.out 5
                have fx6 := blk_frozen HXw.out 6
                go_wp2
                refine bodyPost_ret (results_cell_row rfl _ _ gb 30 #[.int .i64 kd, .slice AT ts.length cT, .int .i64 k, .int .i64 m, .int .i64 gr, .slice A5 acc.length c5, .int .i64 id] (0, 0) _ rfl (record_reader_record_set HGw.out _ _ _ _ _ _ _) Try.underlying30 rfl (by kernel_rfl)) rfl ?_
                exact ⟨_, _, by rw [HRES.out], by rw [HRES.out]; exact Kd.V_mono (record_reader_record_Vfar HVTw.out (fun k hk => by omega) _ _ _ _ _ _ _) (fun k hk => by omega), by rw [HRES.out]; exact Kd.V_mono (record_reader_record_Vfar (Kd.R_V HO.out) (fun k hk => by omega) _ _ _ _ _ _ _) (fun k hk => by omega), by rw [HRES.out]; exact ⟨_, record_reader_record_far HRw.out hne3 _ _ _ _ _ _ _, record_reader_record_Vfar HVw.out (fun k hk => by omega) _ _ _ _ _ _ _⟩, record_reader_record_new HMw.out (by omega) _ _ _ _ _ _ _⟩
          · obtain ⟨X, hX⟩ : ∃ X, X = c := ⟨_, rfl⟩
            rw [← hX]
            have HXN := Aside0.mk (show X = (N : Int) by have := HCN.out; omega)
            clear hX HCN
            go_loopw [33] (fun v33 w' => ∃ (i : Nat) (acc l4 : List Int) (b4 : Bool) (v5 : Value), v33 = .int .i64 (i : Int) ∧ i ≤ N ∧ Aside0 (acc.length = i) ∧ Aside0 (YtanfmnobanhcnaaH.Rec.idsN N l3 b3 = (acc ++ (YtanfmnobanhcnaaH.Rec.idsN (N - i) l4 b4).1, (YtanfmnobanhcnaaH.Rec.idsN (N - i) l4 b4).2)) ∧ Aside0 (YtanfmnobanhcnaaH.Crc.isB l4 ∧ l4.length ≤ 1048576) ∧ Aside0 (YtanfmnobanhcnaaH.Rec.Rd 83 5 g w' l4 b4) ∧ Aside0 (w'.heap[gx]? = some (.cells #[.int .i64 kd, .slice AT ts.length cT, .int .i64 k, .int .i64 m, .int .i64 gr, v5, .int .i64 id] 30)) ∧ Aside0 (w'.heap[gb]? = some (.cells #[.int .i64 0, .slice none 0 0, .int .i64 0, .int .i64 0, .int .i64 0, .slice none 0 0, .int .i64 0] 30)) ∧ Aside0 (Kd.R (Kd.int .i64) 3 w' M0 (fun k => M0 ≤ k) v5 acc) ∧ Aside0 (Kd.V (Kd.int .i64) 3 w' 0 (fun k => gx < k ∧ k < M0) (.slice AT ts.length cT) ts) ∧ Aside0 (YtanfmnobanhcnaaH.Mut g none w w') ∧ Aside0 (M0 ≤ w'.heap.size)) (fun v33 _ => N - (intOf v33).toNat)
            case atStart => exact ⟨0, [], l3, b3, _, rfl, Nat.zero_le _, ⟨rfl⟩, ⟨rfl⟩, HB6, HRD, HX6, HG6, ⟨Kd.R_nil _ _ _ _ _⟩, HVT7, HM6, HMZ6⟩
            case round =>
              clear HB6 HRD HX6 HG6 HVT7 HM6 HMZ6
              obtain ⟨i, acc, l4, b4, v5, rfl, hiN, HLA, HIDS, HB, HRD, HX, HG, HO, HVT, HM, HMZ⟩ := hrel
              obtain ⟨A5, c5, e5⟩ := Kd.R_slice HO.out
              subst e5
              by_cases hlt : i < N
              · have hltX : (i : Int) < X := by rw [HXN.out]; omega
                have HSTEP := Aside0.mk (show YtanfmnobanhcnaaH.Rec.idsN N l3 b3 = (acc ++ (YtanfmnobanhcnaaH.Rec.idsN (N - i) l4 b4).1, (YtanfmnobanhcnaaH.Rec.idsN (N - i) l4 b4).2) from HIDS.out)
                have hN1 : N - i = (N - (i + 1)) + 1 := by omega
                have hst := YtanfmnobanhcnaaH.Rec.idsN_step (N - (i + 1)) l4 b4 acc
                rw [← hN1, ← HIDS.out] at hst
                have hcall := fun W h => record_reader_number.calls g l4 b4 W h HB.out.1
                have hnB := YtanfmnobanhcnaaH.Rec.numR_B (bad := b4) HB.out.1
                have hnl := Nat.le_trans (YtanfmnobanhcnaaH.Rec.numR_le l4 b4) HB.out.2
                generalize YtanfmnobanhcnaaH.Rec.numR l4 b4 = q at hcall hnB hnl hst
                obtain ⟨x, l5, b5⟩ := q
                simp only at hcall hnB hnl hst
                have HST := Aside0.mk hst
                have HCALL := Aside0.mk hcall
                have HB5 := Aside0.mk (And.intro hnB hnl)
                have HLEN := Aside0.mk (show (acc.length + 1) * 8 ≤ 140737488355328 by have := HLA.out; omega)
                clear HSTEP HIDS HB hN1 hst hcall hnB hnl
                go_wp2_with fail
                have HRD1 := Aside0.mk (HRD.out.below (below_drew1 (Below.refl _ _)))
                have HX1 := Aside0.mk (show wr.drew.heap[gx]? = _ from HX.out)
                have HG1 := Aside0.mk (show wr.drew.heap[gb]? = _ from HG.out)
                have HO1 := Aside0.mk (Kd.R_drew HO.out)
                have HVT1 := Aside0.mk (Kd.V_drew HVT.out)
                have HM1 := Aside0.mk (HM.out.below_ (below_drew1 (Below.refl _ _)))
                have HMZ1 := Aside0.mk (show M0 ≤ wr.drew.heap.size from HMZ.out)
                have hcell := YtanfmnobanhcnaaH.cellv HX1.out 5 _ rfl
                refine start_ (n := 8) (S := fun w' => w'.cell? ⟨gx, 5, none⟩ = some (.slice A5 acc.length c5)) (ds := [7]) #[false, false, false, false, false, false, false, false] (by kernel_rfl) rfl rfl (hcell) (fun hHeld => ?_)
                generalize wr.drew = w5 at HRD1 HX1 HG1 HO1 HVT1 HM1 HMZ1 hcell hHeld ⊢
                refine pure_ (i := 0) (N := some 35) (v := ?_) (a' := ?_) #[true, false, false, false, false, false, false, false] rfl rfl (by kernel_rfl) (fun _ _ _ h => h) (Or.inl ⟨by rfl, ?_⟩) ?_ ?_
                rotate_left
                · intro w'
                  go_simp
                  with_reducible rfl
                rotate_left
                · simp only [Act.put, List.setIfInBounds_toArray, List.set_cons_zero, List.set_cons_succ, i64_w, i32_w]
                  rfl
                refine pure_ (i := 2) (N := some 37) (v := ?_) (a' := ?_) #[true, false, true, false, false, false, false, false] rfl rfl (by kernel_rfl) (fun _ _ _ h => h) (Or.inl ⟨by rfl, ?_⟩) ?_ ?_
                rotate_left
                · intro w'
                  go_simp
                  with_reducible rfl
                rotate_left
                · simp only [Act.put, List.setIfInBounds_toArray, List.set_cons_zero, List.set_cons_succ, i64_w, i32_w]
                  rfl
                refine take_ (i := 1) (N := some 36) (v := ?_) (a' := ?_) #[true, true, true, false, false, false, false, false] rfl rfl (by kernel_rfl) (fun _ _ _ h => h) (Or.inl ⟨by rfl, ?_⟩) hHeld ?_ ?_
                rotate_left
                · intro w' s0
                  go_simp
                  with_reducible rfl
                rotate_left
                · simp only [Act.put, List.setIfInBounds_toArray, List.set_cons_zero, List.set_cons_succ, i64_w, i32_w]
                  rfl
                refine one_ (i := 3) (N := some 38) #[true, true, true, true, false, false, false, false] rfl rfl (by kernel_rfl) (by decide) (fun K hK => ?_)
                refine goes_ Try.func78 (by kernel_rfl) rfl #[.pointer (some ⟨g, 0, none⟩)] (by rfl) rfl rfl (by simp only [List.map_toArray, List.map_cons, List.map_nil]; rfl) ?_
                with_reducible refine (HCALL.out _ HRD1.out).mono ?_
                rintro e w7 ⟨rfl, hrd7, hm7⟩
                refine ⟨_, rfl, ?_⟩
                have HX7 := Aside0.mk (hm7.blk HX1.out hne1 (by simp))
                have HG7 := Aside0.mk (hm7.blk HG1.out hne2 (by simp))
                have HVT8 := Aside0.mk (Kd.V_step HVT1.out (fun k hk hlt => hm7.keep.2 k hlt (by omega) (by simp)))
                have HM7 := Aside0.mk (HM1.out.trans_ hm7 (.inl rfl))
                have HO7 := Aside0.mk (hm7.R HO1.out (fun k hk => ⟨by omega, by simp⟩))
                have HRD7 := Aside0.mk hrd7
                have HMZ7 := Aside0.mk (Nat.le_trans HMZ1.out hm7.keep.1)
                have hc7 := YtanfmnobanhcnaaH.cellv HX7.out 5 _ rfl
                clear hrd7 hm7
                refine hK.out _ _ (hc7) (fun hHeld => ?_)
                clear hK K
                refine norm_ (a' := ?_) ?_ ?_
                rotate_left
                · show Act.put _ (some 38) _ = _
                  simp only [Act.put, List.setIfInBounds_toArray, List.set_cons_zero, List.set_cons_succ, i64_w, i32_w]
                  rfl
                refine one_ (i := 4) (N := some 39) #[true, true, true, true, true, false, false, false] rfl rfl (by kernel_rfl) (by decide) (fun K hK => ?_)
                refine value_ (w1 := ?_) (v := ?_) (by rfl) rfl ?_ ?_
                rotate_left 2
                · go_simp
                  constructor
                  · rfl
                  · rfl
                refine hK.out _ _ ((World.cell?_alloc_lt _ _ _ (World.block_lt_of_cell? _ _ hHeld)).trans hHeld) (fun hHeld => ?_)
                clear hK K
                refine norm_ (a' := ?_) ?_ ?_
                rotate_left
                · show Act.put _ (some 39) _ = _
                  simp only [Act.put, List.setIfInBounds_toArray, List.set_cons_zero, List.set_cons_succ, i64_w, i32_w]
                  rfl
                refine one_ (i := 5) (N := some 40) #[true, true, true, true, true, true, false, false] rfl rfl (by kernel_rfl) (by decide) (fun K hK => ?_)
                refine Kd.R_append_step (Kd.int .i64) (w0 := w7) M0 (by rfl) (.tmp 36) (.tmp 39) 23 3 (.int .i64 0) 8 rfl Try.underlying23 info3 rfl (by decide) (by decide) (.slice A5 acc.length c5) acc x [.int .i64 x] (fun k => M0 ≤ k) (fun _ => False) rfl rfl rfl (fun _ hk => hk.elim) (fun k hk => Nat.le_trans HMZ7.out hk) HO7.out (Below.refl _ _) HMZ7.out (by have := HLEN.out; omega) ?_
                intro v8 w8 ho8 hb8 hgr8 hat8
                have HOB := Aside0.mk (fun (j : Nat) (e : some j = (Value.slice A5 acc.length c5).ownBlock) => (HO7.out).1 j e.symm)
                have HX8 := Aside0.mk (blk_grown HX7.out hgr8 (fun e => by have := HOB.out _ e; omega))
                have HG8 := Aside0.mk (blk_grown HG7.out hgr8 (fun e => by have := HOB.out _ e; omega))
                obtain ⟨v9, hg9, hv9⟩ := HRD7.out
                have HR8 := Aside0.mk (blk_grown hg9 hgr8 (fun e => by have := HOB.out _ e; omega))
                have HV8 := Aside0.mk (Kd.V_step hv9 (fun k hk hlt => hgr8.block k hlt (fun e => by have := HOB.out _ e; omega)))
                have HVT9 := Aside0.mk (Kd.V_step HVT8.out (fun k hk hlt => hgr8.block k hlt (fun e => by have := HOB.out _ e; omega)))
                have HM8 := Aside0.mk (HM7.out.grown_ hgr8 (by cases hob : (Value.slice A5 acc.length c5).ownBlock with | none => exact .inl rfl | some j => exact .inr ⟨j, rfl, by have := HOB.out j hob.symm; omega⟩))
                have HMZ8 := Aside0.mk (Nat.le_trans HMZ7.out hgr8.size)
                obtain ⟨ys, hys⟩ : ∃ ys, ys = acc ++ [x] := ⟨_, rfl⟩
                rw [← hys] at ho8
                have HYS := Aside0.mk hys
                clear hys hg9 hv9
                obtain ⟨A8, c8, e8⟩ := Kd.R_slice ho8
                subst e8
                have HO8 := Aside0.mk ho8
                have hcc8 := blk_cell HX8.out 5
                have hff8 := blk_frozen HX8.out 5
                clear ho8 hb8 hgr8 hat8
                refine hK.out _ _ ((hcc8.trans rfl)) (fun hHeld => ?_)
                clear hK K
                refine norm_ (a' := ?_) ?_ ?_
                rotate_left
                · show Act.put _ (some 40) _ = _
                  simp only [Act.put, List.setIfInBounds_toArray, List.set_cons_zero, List.set_cons_succ, i64_w, i32_w]
                  rfl
                refine pure_ (i := 6) (N := some 41) (v := ?_) (a' := ?_) #[true, true, true, true, true, true, true, false] rfl rfl (by kernel_rfl) (fun _ _ _ h => h) (Or.inl ⟨by rfl, ?_⟩) ?_ ?_
                rotate_left
                · intro w'
                  go_simp
                  with_reducible rfl
                rotate_left
                · simp only [Act.put, List.setIfInBounds_toArray, List.set_cons_zero, List.set_cons_succ, i64_w, i32_w]
                  rfl
                refine last_ (i := 7) (N := none) #[true, true, true, true, true, true, true, true] rfl rfl (by kernel_rfl) (by decide) (fun K hK => ?_)
                refine skip_ (w1 := ?_) (by rfl) rfl ?_ ?_
                rotate_left
                · go_simp
                  rfl
                refine hK.out _ _ ?_
                clear hK K
                refine done_ (by kernel_rfl) ?_
                go_wp2
                go_round
                case rel => exact ⟨i + 1, ys, l5, b5, _, by go_num, by omega, ⟨by rw [HYS.out, List.length_append, HLA.out]; rfl⟩, ⟨by rw [HYS.out]; exact HST.out⟩, HB5, ⟨_, blk_far (p := ⟨gx, 5, none⟩) HR8.out hne1' _, Kd.V_far (p := ⟨gx, 5, none⟩) HV8.out (fun k hk => by show k ≠ gx; omega) _⟩, ⟨blk_set HX8.out 5 _⟩, ⟨blk_far (p := ⟨gx, 5, none⟩) HG8.out hne4' _⟩, ⟨Kd.R_far (p := ⟨gx, 5, none⟩) HO8.out (fun k hk => by show k ≠ gx; omega) _⟩, ⟨Kd.V_far (p := ⟨gx, 5, none⟩) HVT9.out (fun k hk => by show k ≠ gx; omega) _⟩, ⟨HM8.out.new_ (by omega : w.heap.size ≤ gx) 5 _⟩, ⟨by simpa [World.setCell] using HMZ8.out⟩⟩
                case measure => simp [intOf]; omega
              · have hiN' : i = N := by omega
                subst hiN'
                have hltX : ¬ (i : Int) < X := by rw [HXN.out]; omega
                obtain ⟨v4, hg4, hv4⟩ := HRD.out
                have HRw := Aside0.mk hg4
                have HVw := Aside0.mk hv4
                have HXw := HX
                have HGw := HG
                have HVTw := Aside0.mk (Kd.V_mono HVT.out (fun k hk => hk.1))
                have HMw := HM
                have hidx := HIDS.out
                rw [Nat.sub_self] at hidx
                have HRESw := Aside0.mk (show YtanfmnobanhcnaaH.Rec.recR kd l bad = ((kd, (ts, k, m, gr), acc, id), l4, b4) by rw [HRES9.out, hidx]; show ((kd, (ts, k, m, gr), acc ++ [], id), l4, b4) = _; rw [List.append_nil])
                clear hg4 hv4 hidx HRES9 HRD HX HG HVT HM
                have HRES := HRESw
                have qx0 := YtanfmnobanhcnaaH.cellv HXw.out 0 (Value.int .i64 kd) rfl
                have qx1 := YtanfmnobanhcnaaH.cellv HXw.out 1 (Value.slice AT ts.length cT) rfl
                have qx2 := YtanfmnobanhcnaaH.cellv HXw.out 2 (Value.int .i64 k) rfl
                have qx3 := YtanfmnobanhcnaaH.cellv HXw.out 3 (Value.int .i64 m) rfl
                have qx4 := YtanfmnobanhcnaaH.cellv HXw.out 4 (Value.int .i64 gr) rfl
                have qx5 := YtanfmnobanhcnaaH.cellv HXw.out 5 (Value.slice A5 acc.length c5) rfl
                have qx6 := YtanfmnobanhcnaaH.cellv HXw.out 6 (Value.int .i64 id) rfl
                have qg0 := YtanfmnobanhcnaaH.cellv HGw.out 0 (.int .i64 0) rfl
                have fg0 := blk_frozen HGw.out 0
                have qg1 := YtanfmnobanhcnaaH.cellv HGw.out 1 (.slice none 0 0) rfl
                have fg1 := blk_frozen HGw.out 1
                have qg2 := YtanfmnobanhcnaaH.cellv HGw.out 2 (.int .i64 0) rfl
                have fg2 := blk_frozen HGw.out 2
                have qg3 := YtanfmnobanhcnaaH.cellv HGw.out 3 (.int .i64 0) rfl
                have fg3 := blk_frozen HGw.out 3
                have qg4 := YtanfmnobanhcnaaH.cellv HGw.out 4 (.int .i64 0) rfl
                have fg4 := blk_frozen HGw.out 4
                have qg5 := YtanfmnobanhcnaaH.cellv HGw.out 5 (.slice none 0 0) rfl
                have fg5 := blk_frozen HGw.out 5
                have qg6 := YtanfmnobanhcnaaH.cellv HGw.out 6 (.int .i64 0) rfl
                have fg6 := blk_frozen HGw.out 6
                have qb := YtanfmnobanhcnaaH.cellv HRw.out 1 (.bool b4) rfl
                have fx5 := blk_frozen HXw.out 5
                have fx6 := blk_frozen HXw.out 6
                go_wp2
                refine bodyPost_ret (results_cell_row rfl _ _ gb 30 #[.int .i64 kd, .slice AT ts.length cT, .int .i64 k, .int .i64 m, .int .i64 gr, .slice A5 acc.length c5, .int .i64 id] (0, 0) _ rfl (record_reader_record_set HGw.out _ _ _ _ _ _ _) Try.underlying30 rfl (by kernel_rfl)) rfl ?_
                exact ⟨_, _, by rw [HRES.out], by rw [HRES.out]; exact Kd.V_mono (record_reader_record_Vfar HVTw.out (fun k hk => by omega) _ _ _ _ _ _ _) (fun k hk => by omega), by rw [HRES.out]; exact Kd.V_mono (record_reader_record_Vfar (Kd.R_V HO.out) (fun k hk => by omega) _ _ _ _ _ _ _) (fun k hk => by omega), by rw [HRES.out]; exact ⟨_, record_reader_record_far HRw.out hne3 _ _ _ _ _ _ _, record_reader_record_Vfar HVw.out (fun k hk => by omega) _ _ _ _ _ _ _⟩, record_reader_record_new HMw.out (by omega) _ _ _ _ _ _ _⟩
  have hne1 : gx ≠ g := by omega
  have hne1' : g ≠ gx := by omega
  have hne2 : gb ≠ g := by omega
  have hne4' : gb ≠ gx := by omega
  by_cases h1 : kd = 1
  · subst h1
    have KEY := Aside0.mk key
    have hrr : YtanfmnobanhcnaaH.Rec.recR 1 l bad = YtanfmnobanhcnaaH.Rec.recR2 1 (YtanfmnobanhcnaaH.Rec.schR l bad) := by unfold YtanfmnobanhcnaaH.Rec.recR; rw [if_pos rfl]
    have HRR := Aside0.mk hrr
    clear key hK hrr
    go_wp2_with fail
    refine (record_reader_schema.calls g l bad _ hR1.out hB hl).mono ?_
    rintro e w2 ⟨vT, rfl, hvT, hrd, hm⟩
    have HX2 := Aside0.mk (hm.blk hX1.out hne1 (by simp))
    have HG2 := Aside0.mk (hm.blk hG1.out hne2 (by simp))
    have HM2 := Aside0.mk (hM1.out.trans_ hm (.inl rfl))
    have hsB := YtanfmnobanhcnaaH.Rec.schR_B (bad := bad) hB
    have hsl := Nat.le_trans (YtanfmnobanhcnaaH.Rec.schR_le l bad) hl
    have hrr := HRR.out
    rw [hS1.out] at hvT
    generalize YtanfmnobanhcnaaH.Rec.schR l bad = s at hvT hrd hsB hsl hrr ⊢
    obtain ⟨⟨ts, k, m, gr⟩, l1, b1⟩ := s
    simp only at hvT hrd hsB hsl hrr ⊢
    obtain ⟨AT, cT, rfl⟩ := Kd.V_slice hvT
    obtain ⟨v1, hg1, hv1⟩ := hrd
    have HVT := Aside0.mk hvT
    have HR2 := Aside0.mk hg1
    have HV2 := Aside0.mk hv1
    have HB2 := Aside0.mk (And.intro hsB hsl)
    have HRR2 := Aside0.mk hrr
    clear hvT hg1 hv1 hsB hsl hrr HRR hm hM1 hR1 hG1 hX1 hS1
    have qx1 := YtanfmnobanhcnaaH.cellv HX2.out 1 _ rfl
    have fx1 := blk_frozen HX2.out 1
    have qx2 := YtanfmnobanhcnaaH.cellv HX2.out 2 _ rfl
    have fx2 := blk_frozen HX2.out 2
    have qx3 := YtanfmnobanhcnaaH.cellv HX2.out 3 _ rfl
    have fx3 := blk_frozen HX2.out 3
    have qx4 := YtanfmnobanhcnaaH.cellv HX2.out 4 _ rfl
    have fx4 := blk_frozen HX2.out 4
    go_wp2
    exact KEY.out _ _ _ _ _ _ AT cT ts k m gr l1 b1 v1 ⟨record_reader_record_chain HX2.out _ _ _ _⟩ ⟨record_reader_record_chain_far HG2.out hne4' _ _ _ _⟩ ⟨record_reader_record_chain_far HR2.out hne1' _ _ _ _⟩ ⟨record_reader_record_chain_V HV2.out (fun k hk => by omega) _ _ _ _⟩
      ⟨record_reader_record_chain_V HVT.out (fun k hk => by omega) _ _ _ _⟩ ⟨(((HM2.out.new_ (by omega : w.heap.size ≤ gx) 1 _).new_ (by omega : w.heap.size ≤ gx) 2 _).new_ (by omega : w.heap.size ≤ gx) 3 _).new_ (by omega : w.heap.size ≤ gx) 4 _⟩ HB2 HRR2
  · have h1b : (kd == 1) = false := by rw [beq_eq_false_iff_ne]; exact h1
    have KEY := Aside0.mk key
    have hrr : YtanfmnobanhcnaaH.Rec.recR kd l bad = YtanfmnobanhcnaaH.Rec.recR2 kd (([], 0, 0, 0), l, bad) := by unfold YtanfmnobanhcnaaH.Rec.recR; rw [if_neg h1]
    have HRR := Aside0.mk hrr
    clear key hK hrr
    go_wp2
    obtain ⟨v1, hg1, hv1⟩ := hR1.out
    exact KEY.out _ _ _ _ _ _ none 0 [] 0 0 0 l bad v1 hX1 hG1 ⟨hg1⟩ ⟨hv1⟩ ⟨Kd.V_nil _ _ _ _ _⟩ hM1 ⟨⟨hB, hl⟩⟩ HRR


/-! ### bytes_Equal: function 43 -/
def bytes_Equal.f (l0 : List Int) (l1 : List Int) : Option (Bool) := some ((strOfNums l0).toList == (strOfNums l1).toList)
set_option maxHeartbeats 8000000 in
set_option maxRecDepth 100000 in
theorem bytes_Equal.calls (A0 : Option Addr) (c0 : Nat) (l0 : List Int) (A1 : Option Addr) (c1 : Nat) (l1 : List Int) (r : Bool) (w : World) (hr0 : Kd.C (Kd.int .u8) w A0 l0.length l0) (hc0 : l0.length ≤ c0) (hr1 : Kd.C (Kd.int .u8) w A1 l1.length l1) (hc1 : l1.length ≤ c1) (h : bytes_Equal.f l0 l1 = some r) :
    Calls Try.prog 43 #[.slice A0 l0.length c0, .slice A1 l1.length c1] w fun e w' => e = .returned (.bool r) ∧ Drawn0 w w' := by
  have HR0 := Aside0.mk hr0
  have HC0 := Aside0.mk hc0
  clear hr0 hc0
  have HR1 := Aside0.mk hr1
  have HC1 := Aside0.mk hc1
  clear hr1 hc1
  have H : (some ((strOfNums l0).toList == (strOfNums l1).toList)) = some r := h
  clear h
  obtain rfl := Option.some.inj H
  have hcv3 := Kd.C_string (P := Try.prog) (A := A0) (c := c0) Try.underlying26 Try.underlying5 Try.underlying9 HR0.out
  have hcv4 := Kd.C_string (P := Try.prog) (A := A1) (c := c1) Try.underlying26 Try.underlying5 Try.underlying9 HR1.out
  go_enter Try.func43, Try.ntmps43
  go_wp2
  go_ret
  exact ⟨by first | rfl | (simp; done) | (simp [*]; done), by repeat (first | exact Drawn0.refl _ | apply Drawn0.step)⟩

end Go.Proofs.Ytanfmnobanhcnaa.PRec3
