/- THE ABSTRACT MACHINE, sound: texts and bytes; copies. -/
import Derived.Test.YtomomeabfnmncaaGreatBOp11
set_option linter.all false
namespace Go.Ab

section
variable {P : Program} {w : World} {F : Fz} {κ : Env} {μ : Mu} {Pr : Nat → Prop}

theorem toU8_ok : ∀ {es : List D} {l : List UInt8}, toU8 es = some l → ∃ ns : List Int, es = ns.map (D.int .u8) ∧ l = ns.map fun n => UInt8.ofNat n.toNat
  | [], l, h => by simp [toU8] at h; subst h; exact ⟨[], rfl, rfl⟩
  | d :: r, l, h => by
    unfold toU8 at h
    split at h
    · rename_i heq; cases heq
    · rename_i n r' heq
      injection heq with h1 h2
      subst h1 h2
      cases hr : toU8 r with
      | none => simp [hr] at h
      | some l' =>
        simp [hr] at h
        subst h
        obtain ⟨ns, h1, h2⟩ := toU8_ok hr
        exact ⟨n :: ns, by simp [h1], by simp [h2]⟩
    · cases h

theorem foldl_push (ns : List Int) : ∀ s : ByteArray, (ns.foldl (fun r n => r.push (UInt8.ofNat n.toNat)) s).data.toList = s.data.toList ++ ns.map fun n => UInt8.ofNat n.toNat := by
  induction ns with
  | nil => intro s; simp
  | cons n ns ih => intro s; rw [List.foldl_cons, ih]; simp [ByteArray.push]

/-- A text out of bytes. -/
theorem b2s_ok {H : Hp} (R : Rel w F μ H Pr) {v : Value} {d : D} {s : Nat} {es : List D} {l : List UInt8} (hv : Rd w F (env μ H) v d) (he : (esM d).run H = some (s, es)) (hl : toU8 es = some l) (src dst e : TypeId)
    (hs : P.underlying src = some (.slice e)) (hee : P.underlying e = some (.int .u8)) (hd : P.underlying dst = some .string) : ∃ r, (convert src dst v).run P w = .ok r w ∧ Rd w F κ r (.str l) := by
  have hS := esM_ok R hv he
  obtain ⟨ns, rfl, rfl⟩ := toU8_ok hl
  rcases hS with ⟨⟨A, rfl⟩, h0⟩ | ⟨b, o, cap, vs, rfl, hcap, hpos, hll, hm⟩
  · have : ns = [] := by simpa using h0
    subst this
    refine ⟨.string .empty, ?_, ?_⟩
    · rw [run_convert_bytes_string w src dst e _ _ _ hs hee hd]; cases A <;> rfl
    · exact Rd.str κ ByteArray.empty
  · have hflat : (ns.map (D.int .u8)).flatMap D.cells = ns.map (D.int .u8) := by
      clear hl he hv hll hm hcap
      induction ns with
      | nil => rfl
      | cons n ns ih => rw [List.map_cons, List.flatMap_cons, ih]; rfl
    rw [hflat] at hm
    have hvs : vs = ns.map (Value.int .u8) := by
      apply List.ext_getElem?
      intro i
      by_cases hi : i < vs.length
      · have hi2 : i < ns.length := by have := hm.1.1; simp at this; omega
        have := hm.1.2 i vs[i] (.int .u8 ns[i]) (List.getElem?_eq_getElem hi) (by simp [hi2])
        rw [List.getElem?_eq_getElem hi, rd_int this]
        simp [hi2]
      · have hi2 : ¬ i < ns.length := by have := hm.1.1; simp at this; omega
        simp [List.getElem?_eq_none (Nat.le_of_not_lt hi), hi2]
    have hlen : (ns.map (D.int .u8)).length = vs.length := by rw [hvs]; simp
    refine ⟨.string (ns.foldl (fun r n => r.push (UInt8.ofNat n.toNat)) ByteArray.empty), ?_, ?_⟩
    · rw [run_convert_bytes_string w src dst e _ _ _ hs hee hd]
      refine run_bytesToString w ⟨b, o, none⟩ _ cap ns ?_
      rw [hlen]
      have := run_loadCells_at (P := P) (w := w) (b := b) (o := o) (vs := vs) (fun j v hv => (hm.2 j v hv).1)
      rw [this, hvs]
    · have := Rd.str (w := w) (F := F) κ (ns.foldl (fun r n => r.push (UInt8.ofNat n.toNat)) ByteArray.empty)
      rw [foldl_push] at this
      simpa using this

/-- Bytes out of a text. -/
theorem s2b_ok {H : Hp} (R : Rel w F μ H Pr) {v : Value} {l : List UInt8} (hv : Rd w F (env μ H) v (.str l)) (src dst e : TypeId) (hs : P.underlying src = some .string) (hd : P.underlying dst = some (.slice e)) (hee : P.underlying e = some (.int .u8)) {nk : Nat} (hnk : H nk = none) :
    ∃ r w' F' μ', (convert src dst v).run P w = .ok r w' ∧ Nx Pr w F μ H w' F' μ' (H.app [(nk, .row 1 (ofU8 l) 0)]) ∧ Rd w' F' (env μ' (H.app [(nk, .row 1 (ofU8 l) 0)])) r (.sl nk 0 l.length l.length) := by
  obtain ⟨p, rfl, rfl⟩ := rd_str hv
  obtain ⟨G, hG⟩ : ∃ G, G = grownCap w p.size 0 e := ⟨_, rfl⟩
  have hge : p.size ≤ G := by rw [hG]; exact grownCap_ge _ _ _ _
  obtain ⟨c, hc⟩ : ∃ c : Array Value, c = (p.data.map fun b => Value.int .u8 b.toNat) ++ Array.replicate (G - p.size) (.int .u8 0) := ⟨_, rfl⟩
  have hcs : c.size = G := by rw [hc]; simp; have : p.data.size = p.size := rfl; omega
  obtain ⟨w', hw'⟩ : ∃ w', w' = (w.drew.alloc (.cells c e)).freeze ⟨w.heap.size, c.size, none⟩ 1 := ⟨_, rfl⟩
  have A : Alloc w w' (.cells c e (c.size, c.size + 1)) := by
    rw [hw']
    refine ⟨?_, rfl, rfl, rfl⟩
    unfold World.freeze
    simp only [Nat.one_ne_zero, if_false]
    show ((w.heap.push (Go.Obj.cells c e)).modify w.heap.size _) = _
    apply Array.ext
    · simp
    · intro i h1 h2
      rw [Array.getElem_modify]
      split
      · rename_i hi
        subst hi
        simp
      · rename_i hi
        simp at h1
        have : i < w.heap.size := by omega
        rw [Array.getElem_push_lt this, Array.getElem_push_lt this]
  have hrun : (convert src dst (.string p)).run P w = .ok (.slice (some ⟨w.heap.size, 0, none⟩) p.size G) w' := by
    have hsh : (w.drew.alloc (.cells c e)).shape? w.heap.size = some (e, c.size) := by
      unfold World.shape?
      have : (w.drew.alloc (.cells c e)).heap[w.heap.size]? = some (.cells c e) := (drew_alloc w (.cells c e)).new
      rw [this]
    unfold convert
    simp only [Sem.run_bind, run_underlying hs, run_underlying hd, Result.andThen_ok]
    simp only [Sem.run_bind, run_underlying hee, Result.andThen_ok]
    unfold Conv.stringToBytes
    simp only [Sem.run_bind, run_choose, Question.forced, Bool.false_eq_true, if_false, Result.andThen_ok]
    have e1 : (Question.appendCap p.size 0 e).cut (w.tape w.drawn (.appendCap p.size 0 e)) = G := by rw [hG]; rfl
    rw [e1]
    have e2 : (newRow e ((p.data.map fun b => Value.int .u8 b.toNat) ++ Array.replicate (G - p.size) (.int .u8 0))).run P { w with drawn := w.drawn + 1 } = .ok ⟨w.heap.size, 0, none⟩ (w.drew.alloc (.cells c e)) := by
      rw [← hc]; rfl
    rw [e2]
    simp only [Result.andThen_ok, markStringish, Sem.run_bind, run_shape, hsh]
    rw [hw']
    rfl
  have hcells : (ofU8 p.data.toList).flatMap D.cells = ofU8 p.data.toList := by
    generalize p.data.toList = l
    induction l with
    | nil => rfl
    | cons x l ih => simp [ofU8] at ih ⊢; rw [ih]; rfl
  have hsz : (ofU8 p.data.toList).length = p.size := by simp [ofU8]
  have hpl : p.data.toList.length = p.size := Array.length_toList
  have hl : ∀ x ∈ ofU8 p.data.toList, x.cells.length = 1 := fun x hx => by
    obtain ⟨y, _, rfl⟩ := List.mem_map.1 hx
    rfl
  refine ⟨_, w', F, upd μ nk (some (w.heap.size, c.size)), hrun, ?_, ?_⟩
  · rw [app_upd, app_nil]
    refine Nx.newRow R A (fun o ho h => by simp at h; omega) hnk (by omega) hl (by rw [hcs, hsz]; omega) ?_
    rw [hcells]
    intro j d hd
    simp [ofU8] at hd
    obtain ⟨x, h1, rfl⟩ := hd
    refine ⟨.int .u8 x.toNat, ?_, rfl, .int _ _ _⟩
    have hj : j < p.data.size := (Array.getElem?_eq_some_iff.1 h1).1
    rw [hc, Nat.zero_add, Array.getElem?_append_left (by simpa using hj), Array.getElem?_map, h1]
    rfl
  · rw [app_upd, app_nil, hpl]
    have := Rd.sl (w := w') (F := F) (env (upd μ nk (some (w.heap.size, c.size))) (upd H nk (some (.row 1 (ofU8 p.data.toList) 0)))) nk w.heap.size 1 (ofU8 p.data.toList).length c.size 0 p.size 0 G (by rw [env_upd_same]; rfl) (by omega) hge (.inl (by simp)) (by rw [hcs]; omega)
    rw [hsz] at this
    exact this

theorem RdL.flat_take {news : List Value} {ys : List D} {s : Nat} (h : RdL w F κ news (ys.flatMap D.cells)) (hl : ∀ e ∈ ys, e.cells.length = s) (m : Nat) : RdL w F κ (news.take (m * s)) ((ys.take m).flatMap D.cells) := by
  have : (ys.take m).flatMap D.cells = (ys.flatMap D.cells).take (m * s) := by
    by_cases hm : m ≤ ys.length
    · have h1 : ys.flatMap D.cells = (ys.take m).flatMap D.cells ++ (ys.drop m).flatMap D.cells := by rw [← List.flatMap_append, List.take_append_drop]
      have h2 : ((ys.take m).flatMap D.cells).length = m * s := by rw [flat_len (fun e he => hl e (List.mem_of_mem_take he)), List.length_take, Nat.min_eq_left hm]
      rw [h1, List.take_left' h2]
    · rw [List.take_of_length_le (by omega), List.take_of_length_le]
      rw [flat_len hl]
      exact Nat.mul_le_mul_right _ (by omega)
  rw [this]
  exact h.take _

theorem run_copy {dT sT ty e : TypeId} {i : TypeInfo} (hu : P.underlying dT = some (.slice e)) (hi : P.info? e = some i) {base : Option Addr} {dLen dCap n : Nat} {y : Value} {news : List Value} {w' : World}
    (hn : (Builtin.lenOf y).run P w = .ok n w) (hf : (Builtin.firstCells i.size (Nat.min n dLen) y).run P w = .ok news.toArray w) (hst : ∀ a, base = some a → (storeCells a news).run P w = .ok () w') (hno : base = none → w' = w) :
    (Builtin.copy_ #[dT, sT] ty #[.slice base dLen dCap, y]).run P w = .ok (goInt (Nat.min n dLen : Nat)) w' := by
  unfold Builtin.copy_
  cases base with
  | none => rw [hno rfl]; simp [Sem.run_bind, run_underlying hu, hn, sizeOf, typeInfo, hi, hf]
  | some a => simp [Sem.run_bind, run_underlying hu, hn, sizeOf, typeInfo, hi, hf, hst a rfl]

theorem src_take {H : Hp} (R : Rel w F μ H Pr) {y : Value} {dy : D} {s s' : Nat} {ys : List D} (hy : Rd w F (env μ H) y dy) (h : (srcM dy).run H = some (s', ys)) (hl : ∀ e ∈ ys, e.cells.length = s) (m : Nat) (hm : m ≤ ys.length) :
    ∃ news : List Value, RdL w F noEnv news ((ys.take m).flatMap D.cells) ∧ (∀ x ∈ news, x.oneCell' = true) ∧ (Builtin.lenOf y).run P w = .ok ys.length w ∧ (Builtin.firstCells s m y).run P w = .ok news.toArray w := by
  have hslice : ∀ {s0 : Nat}, SlAt w F y s0 ys → ∃ news : List Value, RdL w F noEnv news ((ys.take m).flatMap D.cells) ∧ (∀ x ∈ news, x.oneCell' = true) ∧ (Builtin.lenOf y).run P w = .ok ys.length w ∧ (Builtin.firstCells s m y).run P w = .ok news.toArray w := by
    intro s0 hs
    rcases hs with ⟨⟨A, rfl⟩, rfl⟩ | ⟨b, o, cap, vs, rfl, hcap, hpos, hl', hmm⟩
    · obtain rfl : m = 0 := by simpa using hm
      exact ⟨[], by simpa using RdL.nil, fun x hx => (by cases hx), rfl, first_nil _ _ _⟩
    · refine ⟨vs.take (m * s), hmm.1.flat_take hl m, fun x hx => ?_, rfl, ?_⟩
      · obtain ⟨j, hj⟩ := List.mem_iff_getElem?.1 (List.mem_of_mem_take hx)
        exact (hmm.2 j x hj).2
      · have hvl : (vs.take (m * s)).length = m * s := by
          rw [List.length_take, hmm.1.1, flat_len hl]
          exact Nat.min_eq_left (Nat.mul_le_mul_right _ hm)
        have := run_loadCells_at (P := P) (w := w) (b := b) (o := o) (vs := vs.take (m * s)) (fun j v hv => by
          rw [List.getElem?_take] at hv
          split at hv
          · exact (hmm.2 j v hv).1
          · cases hv)
        rw [hvl] at this
        exact this
  unfold srcM at h
  split at h
  · rename_i b
    simp at h
    obtain ⟨rfl, rfl⟩ := h
    obtain ⟨p, rfl, rfl⟩ := rd_str hy
    have hsz : (ofU8 p.data.toList).length = p.size := by simp [ofU8]
    have hcells : ∀ l : List UInt8, (ofU8 l).flatMap D.cells = ofU8 l := by
      intro l
      induction l with
      | nil => rfl
      | cons x l ih => simp [ofU8] at ih ⊢; rw [ih]; rfl
    refine ⟨(p.data.toList.take m).map fun b => .int .u8 b.toNat, ?_, fun x hx => ?_, ?_, ?_⟩
    · have : (ofU8 p.data.toList).take m = ofU8 (p.data.toList.take m) := by simp [ofU8, List.map_take]
      rw [this, hcells]
      refine ⟨by simp [ofU8], fun i v d hv hd => ?_⟩
      rw [List.getElem?_map] at hv
      simp only [ofU8, List.getElem?_map] at hd
      obtain ⟨x, h1, rfl⟩ := Option.map_eq_some_iff.1 hv
      obtain ⟨x', h2, rfl⟩ := Option.map_eq_some_iff.1 hd
      rw [h1] at h2
      injection h2 with h2
      subst h2
      exact .int _ _ _
    · obtain ⟨c, _, rfl⟩ := List.mem_map.1 hx
      rfl
    · rw [hsz]; rfl
    · unfold Builtin.firstCells
      simp only [Sem.run_pure]
      congr 1
      apply Array.ext'
      simp
  · exact hslice (esM_ok R hy h)

/-- A copy. -/
theorem cpy_ok {H : Hp} (R : Rel w F μ H Pr) {t u ty e : TypeId} {s : Nat} {ag : Bool} (hu : P.underlying t = some (.slice e)) (hs : tyOf P e = some (s, ag)) {x y : Value} {dx dy d : D} {wr : Wr} (hx : Rd w F (env μ H) x dx) (hy : Rd w F (env μ H) y dy)
    (h : (srcM dy >>= fun p => cpyO s dx p.2 : M (D × Wr)).run H = some (d, wr)) :
    ∃ r w' F' μ', (Builtin.copy_ #[t, u] ty #[x, y]).run P w = .ok r w' ∧ Nx Pr w F μ H w' F' μ' (H.app wr) ∧ Rd w' F' (env μ' (H.app wr)) r d := by
  rw [M.run_bind] at h
  cases hsrc : (srcM dy).run H with
  | none => rw [hsrc] at h; cases h
  | some q =>
    obtain ⟨s', ys⟩ := q
    rw [hsrc] at h
    simp only [Option.bind_some] at h
    unfold cpyO at h
    split at h
    · rename_i g lo n L
      simp only [M.run_bind, run_look] at h
      cases hg : H g with
      | none => rw [hg] at h; cases h
      | some ob =>
        rw [hg] at h
        simp only [Option.bind_some] at h
        cases ob with
        | box cs => cases h
        | mp es => cases h
        | row s0 es fz =>
          simp only at h
          split at h
          · rename_i hcc
            obtain ⟨hL, hln, hfz, rfl, hly⟩ := hcc
            simp at h
            obtain ⟨rfl, rfl⟩ := h
            have hl : ∀ e ∈ ys, e.cells.length = s0 := fun e he => by simpa using List.all_eq_true.1 hly e he
            obtain ⟨m, hm⟩ : ∃ m, m = min ys.length n := ⟨_, rfl⟩
            rw [← hm]
            obtain ⟨news, hn1, hn2, hn3, hn4⟩ := src_take (P := P) R hy hsrc hl m (by omega)
            obtain ⟨i, hi, hsz⟩ := tyOf_und hs
            rw [← hsz] at hn4
            have hmin : Nat.min ys.length n = m := hm.symm
            have hk : env μ H g = some (kiOf (μ g) (.row s0 es fz)) := by simp [env, hg]
            have hok := R.ok g _ hg
            have hnl : news.length = m * s0 := by rw [hn1.1, flat_len (fun e he => hl e (List.mem_of_mem_take he)), List.length_take, Nat.min_eq_left (by omega)]
            have hlenE : (es.take lo ++ (ys.take m ++ es.drop (lo + m))).length = es.length := by simp; omega
            rcases hx.toSl with ⟨b, s1, sz, o, cap, hk', rfl, hn, hcap', ho, hszz⟩ | ⟨hk', rfl, rfl, rfl, rfl⟩ | ⟨k, a, cap, hk', hp, rfl⟩
            · rw [hk] at hk'
              injection hk' with hk'
              rcases hok.inv_row with ⟨hmm, _⟩ | ⟨b', sz', c, el, fr, hmm, hr⟩
              · rw [hmm] at hk'; simp [kiOf] at hk'
              · rw [hmm] at hk'
                simp [kiOf] at hk'
                obtain ⟨rfl, rfl, _, rfl⟩ := hk'
                by_cases hm0 : m = 0
                · subst hm0
                  have hnews : news = [] := List.length_eq_zero_iff.1 (by simpa using hnl)
                  subst hnews
                  refine ⟨_, w, F, μ, run_copy (P := P) hu hi hn3 (by rw [hmin]; exact hn4) (fun a ha => rfl) (fun _ => rfl), ?_, ?_⟩
                  · rw [app_upd, app_nil]
                    have e1 : es.take lo ++ (ys.take 0 ++ es.drop (lo + 0)) = es := by simp
                    rw [e1]
                    have e2 : upd H g (some (.row s0 es fz)) = H := by
                      funext k
                      by_cases h : k = g
                      · subst h; simp [hg]
                      · simp [h]
                    rw [e2]
                    exact Nx.refl R
                  · rw [hmin]; exact .int _ _ _
                · have ho' : o = lo * s0 := by
                    rcases ho with h | h
                    · exact h
                    · omega
                  subst ho'
                  have hfit : lo * s0 + news.length ≤ c.size := by
                    rw [hnl, hr.size, ← Nat.add_mul]
                    exact Nat.le_trans (Nat.mul_le_mul_right _ (by omega)) hr.fits
                  refine ⟨_, w.setRow b' (putA c (lo * s0) news), F, upd μ g (μ g), run_copy (P := P) hu hi hn3 (by rw [hmin]; exact hn4) (fun a ha => ?_) (fun h => by cases h), ?_, ?_⟩
                  · injection ha with ha
                    subst ha
                    have := run_storeCells_row (P := P) (o := lo * s0) news 0 w c el fr hr.heap (by rw [hr.size]; exact hr.froz) (by omega) hn2
                    simpa using this
                  · rw [app_upd, app_nil, hmm]
                    have hles : ∀ e ∈ es.take lo ++ (ys.take m ++ es.drop (lo + m)), e.cells.length = s0 := by
                      intro e he
                      rcases List.mem_append.1 he with he | he
                      · exact hr.len e (List.mem_of_mem_take he)
                      · rcases List.mem_append.1 he with he | he
                        · exact hl e (List.mem_of_mem_take he)
                        · exact hr.len e (List.mem_of_mem_drop he)
                    refine Nx.setRow R hg hmm hr (by rw [putA_size hfit]; exact hr.size) (fun o ho => putA_out hfit (.inl ?_)) (.inl hlenE.symm) hles (by rw [hlenE]; exact hr.fits) rfl (flat_rowCells hles (fun k x hx => ?_))
                    · have := Nat.mul_le_mul_right s0 hfz
                      omega
                    · intro j d hd
                      have hj : j < s0 := by rw [← hles x (List.mem_of_getElem? hx)]; exact (List.getElem?_eq_some_iff.1 hd).1
                      by_cases h1 : k < lo
                      · rw [List.getElem?_append_left (by simp; omega), List.getElem?_take, if_pos h1] at hx
                        obtain ⟨v, a1, a2, a3⟩ := hr.cells k x hx j d hd
                        refine ⟨v, ?_, a2, a3⟩
                        rw [putA_out hfit (.inl ?_)]
                        · exact a1
                        · have := Nat.mul_le_mul_right s0 (show k + 1 ≤ lo from h1)
                          rw [Nat.add_mul, Nat.one_mul] at this
                          omega
                      · rw [List.getElem?_append_right (by simp; omega)] at hx
                        have htl : (es.take lo).length = lo := by simp; omega
                        rw [htl] at hx
                        by_cases h2 : k - lo < m
                        · rw [List.getElem?_append_left (by simp; omega)] at hx
                          have hfl : ∀ e ∈ ys.take m, e.cells.length = s0 := fun e he => hl e (List.mem_of_mem_take he)
                          have hfa := flat_at hfl hx hd
                          have hidx : (k - lo) * s0 + j < news.length := by rw [hn1.1]; exact (List.getElem?_eq_some_iff.1 hfa).1
                          have e2 := putA_in hfit hidx
                          rw [show lo * s0 + ((k - lo) * s0 + j) = k * s0 + j by rw [← Nat.add_assoc, ← Nat.add_mul]; congr 2; omega] at e2
                          exact ⟨news[(k - lo) * s0 + j], by rw [e2]; exact List.getElem?_eq_getElem hidx, hn2 _ (List.getElem_mem hidx), hn1.2 _ _ d (List.getElem?_eq_getElem hidx) hfa⟩
                        · rw [List.getElem?_append_right (by simp; omega), List.getElem?_drop] at hx
                          have hml : (ys.take m).length = m := by simp; omega
                          rw [hml, show lo + m + (k - lo - m) = k by omega] at hx
                          obtain ⟨v, a1, a2, a3⟩ := hr.cells k x hx j d hd
                          refine ⟨v, ?_, a2, a3⟩
                          rw [putA_out hfit (.inr ?_)]
                          · exact a1
                          · rw [hnl, ← Nat.add_mul]
                            have := Nat.mul_le_mul_right s0 (show lo + m ≤ k by omega)
                            omega
                  · rw [hmin]; exact .int _ _ _
            · have hm0 : m = 0 := by omega
              subst hm0
              have hnews : news = [] := List.length_eq_zero_iff.1 (by simpa using hnl)
              subst hnews
              refine ⟨_, w, F, μ, run_copy (P := P) hu hi hn3 (by rw [hmin]; exact hn4) (fun a ha => by cases ha) (fun _ => rfl), ?_, ?_⟩
              · rw [app_upd, app_nil]
                have e1 : es.take 0 ++ (ys.take 0 ++ es.drop (0 + 0)) = es := by simp
                rw [e1]
                have e2 : upd H g (some (.row s0 es fz)) = H := by
                  funext k
                  by_cases h : k = g
                  · subst h; simp [hg]
                  · simp [h]
                rw [e2]
                exact Nx.refl R
              · rw [hmin]; exact .int _ _ _
            · rw [hk] at hk'
              injection hk' with hk'
              subst hk'
              cases hmm : μ g with
              | none => rw [hmm] at hp; exact hp.elim
              | some q => rw [hmm] at hp; obtain ⟨b, sz⟩ := q; simp [kiOf, KI.past] at hp; omega
          · cases h
    · cases h
end
end Go.Ab
