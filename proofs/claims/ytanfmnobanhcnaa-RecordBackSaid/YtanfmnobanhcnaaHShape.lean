import Derived.Test.YtanfmnobanhcnaaHArr
namespace Go.Proofs.YtanfmnobanhcnaaH
open Go Go.RowKit Go.Proofs.YtanfmnobanhcnaaW.PrintWords Go.Deep Go.ChangeShapes Go.WideShapes
theorem twelve_of {α : Type} : ∀ {l : List α}, l.length = 12 → ∃ c0 c1 c2 c3 c4 c5 c6 c7 c8 c9 c10 c11, l = [c0, c1, c2, c3, c4, c5, c6, c7, c8, c9, c10, c11]
  | [c0, c1, c2, c3, c4, c5, c6, c7, c8, c9, c10, c11], _ => ⟨c0, c1, c2, c3, c4, c5, c6, c7, c8, c9, c10, c11, rfl⟩
/-- A struct of an array of eight bytes and four bytes that is handed in. -/
theorem shape_open {H : Type} {enc : TypeId × Value → H} {P : Program} {W : World} {sp : Nat → Bool} {held : Bool} {t ta e : TypeId} {fs : Array Field} {r : Reach} (hu : P.underlying t = some (.struct fs)) (hua : P.underlying ta = some (.array 8 e)) (he : P.underlying e = some (.int .u8)) (hce : P.cellsOf e = 1) (hca : P.cellsOf ta = 8) (hct : P.cellsOf t = 12)
    (hfs : fs.toList.map (fun f => (f.type, f.offset)) = [(ta, 0), (e, 8), (e, 9), (e, 10), (e, 11)])
    {v : Value} {b0 base : Nat} {d : DataW H} {ps : List MemPlace} (hv : Value.okWide P W r b0 t v) (h : DataW.Trod enc P W base sp held t v d ps) : ∃ xs : List Int, xs.length = 12 ∧ v = .agg (xs.map (Value.int .u8)).toArray ∧ ∀ x ∈ xs, (Lit.int .u8 x).wf = true := by
  obtain ⟨cs, rfl, hsz⟩ := okWide_struct hu hv
  obtain ⟨fuel, hf⟩ := h
  cases fuel with
  | zero => simp [DataW.trod] at hf
  | succ m =>
    rw [DataW.trod_step] at hf
    unfold DataW.trodStep at hf
    simp only [hu] at hf
    have hl : (Value.agg cs).cells.toList.length = P.cellsOf t := by show cs.toList.length = _; rw [Array.length_toList]; exact hsz
    rw [if_pos hl] at hf
    simp only [Option.map_eq_some_iff] at hf
    obtain ⟨ys, hy, _⟩ := hf
    have hcs : (Value.agg cs).cells.toList = cs.toList := rfl
    rw [hcs] at hy
    have hlen : cs.toList.length = 12 := by rw [Array.length_toList, hsz, hct]
    have key : ∀ L : List Value, L.length = 12 → ∀ ys, fs.toList.mapM (fun f => DataW.trod enc P W base sp held m f.type ((L.drop f.offset).take (P.cellsOf f.type))) = some ys → ∃ xs : List Int, xs.length = 12 ∧ L = xs.map (Value.int .u8) ∧ ∀ x ∈ xs, (Lit.int .u8 x).wf = true := by
      intro L hL ys hy
      obtain ⟨c0, c1, c2, c3, c4, c5, c6, c7, c8, c9, c10, c11, rfl⟩ := twelve_of hL
      have e : fs.toList.mapM (fun f => DataW.trod enc P W base sp held m f.type (([c0, c1, c2, c3, c4, c5, c6, c7, c8, c9, c10, c11].drop f.offset).take (P.cellsOf f.type))) = (fs.toList.map (fun f => (f.type, f.offset))).mapM (fun p => DataW.trod enc P W base sp held m p.1 (([c0, c1, c2, c3, c4, c5, c6, c7, c8, c9, c10, c11].drop p.2).take (P.cellsOf p.1))) := by
        rw [List.mapM_map]
        rfl
      rw [e, hfs] at hy
      simp only [List.mapM_cons, List.mapM_nil, bind, Option.bind_eq_some_iff, pure, Option.some.injEq] at hy
      obtain ⟨x0, h0, r1, ⟨x1, h1, r2, ⟨x2, h2, r3, ⟨x3, h3, r4, ⟨x4, h4, _⟩, _⟩, _⟩, _⟩, _⟩ := hy
      rw [hca] at h0
      rw [hce] at h1 h2 h3 h4
      obtain ⟨xs, hx1, hx2, hx3⟩ := arr_cells hua he hce hca h0
      obtain ⟨b1, e1, _, w1⟩ := DataW.trod_int he h1
      obtain ⟨b2, e2, _, w2⟩ := DataW.trod_int he h2
      obtain ⟨b3, e3, _, w3⟩ := DataW.trod_int he h3
      obtain ⟨b4, e4, _, w4⟩ := DataW.trod_int he h4
      have f1 : c8 = Value.int .u8 b1 := by simpa using e1
      have f2 : c9 = Value.int .u8 b2 := by simpa using e2
      have f3 : c10 = Value.int .u8 b3 := by simpa using e3
      have f4 : c11 = Value.int .u8 b4 := by simpa using e4
      have hx2' : [c0, c1, c2, c3, c4, c5, c6, c7] = xs.map (Value.int .u8) := hx2
      refine ⟨xs ++ [b1, b2, b3, b4], by simp [hx1], ?_, fun x hx => ?_⟩
      · rw [List.map_append, ← hx2', f1, f2, f3, f4]
        rfl
      · rcases List.mem_append.1 hx with hx | hx
        · exact hx3 x hx
        · simp at hx
          rcases hx with rfl | rfl | rfl | rfl
          · exact w1
          · exact w2
          · exact w3
          · exact w4
    obtain ⟨xs, h1, h2, h3⟩ := key cs.toList hlen ys hy
    refine ⟨xs, h1, ?_, h3⟩
    rw [← h2]
end Go.Proofs.YtanfmnobanhcnaaH
