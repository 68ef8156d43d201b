/- THE ABSTRACT MACHINE, sound: maps. -/
import Derived.Test.YtdopbfjebjnpkaaAOp12
import Derived.MapKept
set_option linter.all false
namespace Go.Ab

section
variable {P : Program} {w : World} {F : Fz} {κ : Env} {μ : Mu} {Pr : Nat → Prop}

theorem keyFlat_ok {t : TypeId} (h : keyFlat P t ≠ []) : flatEq P t = keyFlat P t ∧ ∃ f, P.underlying t = some (.struct #[f]) := by
  unfold keyFlat at h ⊢
  cases hu : P.underlying t with
  | none => simp [hu] at h
  | some d =>
    cases d <;> simp only [hu, ne_eq, not_true_eq_false] at h ⊢
    rename_i fs
    split at h
    · rename_i hs
      rw [if_pos hs]
      obtain ⟨f, rfl⟩ : ∃ f, fs = #[f] := Array.size_eq_one_iff.1 hs
      exact ⟨rfl, f, rfl⟩
    · exact absurd rfl h

/-- A key that stands at its place. -/
theorem keyEq_agg {fl : List Nat} {a b : D} {r : Bool} (h : keyEq fl a b = some r) : ∃ cs ds, a = .agg cs ∧ b = .agg ds ∧ eqCells fl cs ds = some r := by
  unfold keyEq at h
  split at h
  · exact ⟨_, _, rfl, rfl, h⟩
  · cases h

theorem checkKey_ok {t : TypeId} {f : Field} (hu : P.underlying t = some (.struct #[f])) (hk : flatEq P t ≠ []) {xs : Array Value} {cs : List D} {r : Bool} (hx : RdL w F κ xs.toList cs) (hc : eqCells (flatEq P t) cs cs = some r) (em : Bool) :
    (Instr.checkKey em 10000 t (.agg xs)).run P w = .ok () w := by
  have hfl : ∃ kd, fieldKind P f = some kd ∧ flatEq P t = [kd] ∧ f.offset = 0 := by
    unfold flatEq at hk ⊢
    rw [hu] at hk ⊢
    simp only [ne_eq] at hk ⊢
    split at hk
    · rename_i hh
      rw [if_pos hh]
      cases hkd : fieldKind P f with
      | none => simp [mapO, hkd] at hk
      | some kd =>
        refine ⟨kd, rfl, by simp [mapO, hkd], ?_⟩
        have := hh.2.2
        simp [List.zipIdx] at this
        exact this.2
    · exact absurd rfl hk
  obtain ⟨kd, h1, h2, h3⟩ := hfl
  rw [h2] at hc
  match cs, hc with
  | [c], hc =>
    have hl := hx.1
    simp only [List.length_singleton, Array.length_toList] at hl
    obtain ⟨v, rfl⟩ : ∃ v, xs = #[v] := Array.size_eq_one_iff.1 hl
    have hfu : P.underlying f.type = some .bool ∨ (∃ k, P.underlying f.type = some (.int k)) ∨ P.underlying f.type = some .string := by
      unfold fieldKind at h1
      split at h1 <;> rename_i hu' <;> first | exact .inl hu' | exact .inr (.inl ⟨_, hu'⟩) | exact .inr (.inr hu') | cases h1
    have hpart : (part f.type #[v] f.offset).run P w = .ok v w := by
      rcases hfu with hu' | ⟨k, hu'⟩ | hu' <;> (have hr := run_underlying hu' w; unfold part isAgg; simp [Sem.run_bind, hr, h3])
    have hlast : (Instr.checkKey em 9999 f.type v).run P w = .ok () w := by
      rw [show (9999 : Nat) = 9998 + 1 from rfl, Instr.checkKey]
      rcases hfu with hu' | ⟨k, hu'⟩ | hu' <;> (have hr := run_underlying hu' w; simp only [Sem.run_bind, hr, Result.andThen_ok]; simp)
    rw [show (10000 : Nat) = 9999 + 1 from rfl, Instr.checkKey]
    have hr := run_underlying hu w
    simp only [Sem.run_bind, hr, Result.andThen_ok]
    by_cases hn : f.name = "_" <;> simp [hn, hpart, hlast, Sem.run_bind]
  | [], hc => simp [eqCells] at hc
  | a :: b :: r, hc => cases hq : eqCell kd a a <;> simp [eqCells, hq] at hc

theorem findAsk_ok {t : TypeId} {f : Field} (hu : P.underlying t = some (.struct #[f])) (hk : flatEq P t ≠ []) {xs : Array Value} {kd : D} {cs : List D} (hkd : kd = .agg cs) (hx : RdL w F κ xs.toList cs) :
    ∀ (es : List (D × D)) (ms : List MapEntry) (i : Nat) (r : Option D), ms.length = es.length → (∀ (j : Nat) (e : D × D) (m : MapEntry), es[j]? = some e → ms[j]? = some m → Rd w F noEnv m.key e.1 ∧ Rd w F noEnv m.val e.2) → findD (flatEq P t) kd es = some r →
      ∃ r', (Instr.findAsking t (.agg xs) ms i).run P w = .ok r' w ∧ ((r = none ∧ r' = none) ∨ ∃ v j mv, r = some v ∧ r' = some (j, mv) ∧ Rd w F noEnv mv v)
  | [], [], i, r, _, _, h => by
    simp [findD] at h
    exact ⟨none, by simp [Instr.findAsking], .inl ⟨h.symm, rfl⟩⟩
  | e :: es, m :: ms, i, r, hl, hent, h => by
    obtain ⟨h1, h2⟩ := hent 0 e m rfl rfl
    unfold findD at h
    cases hq : keyEq (flatEq P t) kd e.1 with
    | none => simp [hq] at h
    | some b =>
      simp only [hq] at h
      obtain ⟨cs', ds, e1, e2, e3⟩ := keyEq_agg hq
      rw [hkd] at e1
      injection e1 with e1
      subst e1
      rw [e2] at h1
      obtain ⟨ys, hys, hy⟩ := h1.toAgg
      have hrun := (flat_ok (op := .eql) (x := .const .nilIface) (y := .const .nilIface) hx (hy.mono (FLe.refl _ _) (KLe.none _)) hk e3).2
      unfold Instr.findAsking
      simp only [Sem.run_bind, Op.equal, Op.maxDepth, hys, hrun, Result.andThen_ok]
      cases b with
      | true =>
        simp at h
        exact ⟨some (i, m.val), by simp, .inr ⟨e.2, i, m.val, h.symm, rfl, h2⟩⟩
      | false =>
        simp only at h
        obtain ⟨r', h3, h4⟩ := findAsk_ok hu hk hkd hx es ms (i + 1) r (by simpa using hl) (fun j e m a b => hent (j + 1) e m (by simpa using a) (by simpa using b)) h
        exact ⟨r', by simpa using h3, h4⟩
  | [], m :: ms, i, r, hl, _, _ => by simp at hl
  | e :: es, [], i, r, hl, _, _ => by simp at hl

theorem findKey_ok {t : TypeId} {f : Field} (hu : P.underlying t = some (.struct #[f])) (hk : flatEq P t ≠ []) {xs : Array Value} {kd : D} {cs : List D} (hkd : kd = .agg cs) (hx : RdL w F κ xs.toList cs)
    (es : List (D × D)) (ms : List MapEntry) (r : Option D) (hl : ms.length = es.length) (hent : ∀ (j : Nat) (e : D × D) (m : MapEntry), es[j]? = some e → ms[j]? = some m → Rd w F noEnv m.key e.1 ∧ Rd w F noEnv m.val e.2) (h : findD (flatEq P t) kd es = some r) :
      ∃ r', (Instr.findKey t (.agg xs) ms).run P w = .ok r' w ∧ ((r = none ∧ r' = none) ∨ ∃ v j mv, r = some v ∧ r' = some (j, mv) ∧ Rd w F noEnv mv v) := by
  have hr := run_underlying hu w
  cases ms with
  | nil =>
    cases es with
    | nil =>
      simp [findD] at h
      exact ⟨none, by unfold Instr.findKey; simp [Sem.run_bind, hr, Instr.findNow], .inl ⟨h.symm, rfl⟩⟩
    | cons e es => simp at hl
  | cons m ms =>
    obtain ⟨r', h1, h2⟩ := findAsk_ok hu hk hkd hx es (m :: ms) 0 r hl hent h
    have hnow : Instr.findNow (.struct #[f]) (.agg xs) (m :: ms) 0 = none := by
      unfold Instr.findNow
      have : Instr.sameNow (.struct #[f]) (.agg xs) m.key = none := rfl
      rw [this]
    refine ⟨r', ?_, h2⟩
    unfold Instr.findKey
    simp only [Sem.run_bind, hr, Result.andThen_ok, hnow]
    exact h1

/-- What a key says of its value. -/
theorem key_val {fl : List Nat} {kd : D} {r : Bool} (h : keyEq fl kd kd = some r) {v : Value} (hv : Rd w F κ v kd) : ∃ cs xs, kd = .agg cs ∧ v = .agg xs ∧ RdL w F κ xs.toList cs ∧ eqCells fl cs cs = some r := by
  obtain ⟨cs, ds, e1, e2, e3⟩ := keyEq_agg h
  rw [e1] at e2
  injection e2 with e2
  subst e2
  rw [e1] at hv
  obtain ⟨xs, h1, h2⟩ := hv.toAgg
  exact ⟨cs, xs, e1, h1, h2, e3⟩

/-- A map's block. -/
theorem map_at {H : Hp} (R : Rel w F μ H Pr) {g : Nat} {es : List (D × D)} (hg : H g = some (.mp es)) {v : Value} (hv : Rd w F (env μ H) v (.map g)) :
    ∃ b sz ms ck, v = .map (some b) ∧ μ g = some (b, sz) ∧ MpAt w F b es ms ck := by
  obtain ⟨b, sz, ms, ck, hm, hb⟩ := (R.ok g _ hg).inv_mp
  refine ⟨b, sz, ms, ck, ?_, hm, hb⟩
  cases hv with
  | map _ _ b' hk =>
    unfold env at hk
    rw [hg, hm] at hk
    simp [kiOf] at hk
    rw [hk]

/-- Looking up. -/
theorem mget_ok {H : Hp} (R : Rel w F μ H Pr) {mt kt et : TypeId} (hu : P.underlying mt = some (.map kt et)) (hk : keyFlat P kt ≠ []) {ok : Bool} {z : D} (hz : zeroD P et = some z) {mv kv : Value} {md kd d : D} (hm : Rd w F (env μ H) mv md) (hkv : Rd w F (env μ H) kv kd)
    (h : (mgetM ok (keyFlat P kt) z md kd).run H = some d) : ∃ r, (Instr.lookup mt mv kv ok).run P w = .ok r w ∧ Rd w F (env μ H) r d := by
  obtain ⟨hfe, f, hf⟩ := keyFlat_ok hk
  rw [← hfe] at h hk
  unfold mgetM at h
  split at h
  · rename_i g
    simp only [M.run_bind, run_look] at h
    cases hg : H g with
    | none => rw [hg] at h; cases h
    | some o =>
      rw [hg] at h
      simp only [Option.bind_some] at h
      unfold mgetO at h
      split at h
      · rename_i es
        obtain ⟨b, sz, ms, ck, rfl, hmu, hb⟩ := map_at R hg hm
        split at h
        · rename_i r0 hkk
          obtain ⟨cs, xs, hkd, rfl, hx, hc⟩ := key_val hkk hkv
          have hcheck := checkKey_ok (w := w) hf hk hx hc ms.isEmpty
          have hru := run_underlying hu w
          have hgo := MapKept.run_getObj_map (P := P) hb.heap
          have hlen : ms.toList.length = es.length := by simpa using hb.len
          have hent : ∀ (j : Nat) (e : D × D) (m : MapEntry), es[j]? = some e → ms.toList[j]? = some m → Rd w F noEnv m.key e.1 ∧ Rd w F noEnv m.val e.2 := fun j e m a c => hb.ent j e m a (by simpa using c)
          obtain ⟨i, hi, zv, hzi, hzv⟩ : ∃ i, P.info? et = some i ∧ ∃ zv, i.zero = some zv ∧ ofV zv = some z := by
            unfold zeroD at hz
            cases hi : P.info? et with
            | none => simp [hi] at hz
            | some i =>
              simp only [hi] at hz
              cases hzi : i.zero with
              | none => simp [hzi] at hz
              | some zv => simp only [hzi] at hz; exact ⟨i, rfl, zv, hzi, hz⟩
          have hzero : (zeroValue et : Sem Value).run P w = .ok zv w := by simp [zeroValue, typeInfo, hi, hzi]
          cases hfd : findD (flatEq P kt) kd es with
          | none => rw [hfd] at h; cases h
          | some r =>
            rw [hfd] at h
            obtain ⟨r', h1, h2⟩ := findKey_ok (w := w) hf hk hkd hx es ms.toList r hlen hent hfd
            have hrun : (Instr.lookup mt (.map (some b)) (.agg xs) ok).run P w = ((match r' with | some (_, v) => pure (v, true) | none => do pure (← zeroValue et, false) : Sem (Value × Bool)).run P w).andThen fun p w => (pure (if ok then .tuple #[p.1, .bool p.2] else p.1) : Sem Value).run P w := by
              unfold Instr.lookup
              simp only [Sem.run_bind, hru, Result.andThen_ok, hgo, Sem.run_pure, hcheck, h1]
              cases r' with
              | none => simp [hzero]
              | some p => simp
            rw [hrun]
            rcases h2 with ⟨rfl, rfl⟩ | ⟨v, j, mv, rfl, rfl, h2⟩
            · simp at h
              subst h
              refine ⟨if ok then .tuple #[zv, .bool false] else zv, ?_, ?_⟩
              · simp [Sem.run_bind, hzero]
              · have hzr := ofV_ok hzv w F (env μ H)
                cases ok
                · simpa using hzr
                · have := Rd.tuple (w := w) (F := F) (env μ H) [zv, .bool false] [z, .bool false] rfl (fun i v d h1 h2 => by
                    match i with
                    | 0 => simp at h1 h2; subst h1 h2; exact hzr
                    | 1 => simp at h1 h2; subst h1 h2; exact .bool _ _
                    | n + 2 => simp at h1)
                  simpa using this
            · simp at h
              subst h
              have hv2 := h2.mono (FLe.refl w F) (KLe.none (env μ H))
              refine ⟨if ok then .tuple #[mv, .bool true] else mv, ?_, ?_⟩
              · simp
              · cases ok
                · simpa using hv2
                · have := Rd.tuple (w := w) (F := F) (env μ H) [mv, .bool true] [v, .bool true] rfl (fun i v d h1 h2 => by
                    match i with
                    | 0 => simp at h1 h2; subst h1 h2; exact hv2
                    | 1 => simp at h1 h2; subst h1 h2; exact .bool _ _
                    | n + 2 => simp at h1)
                  simpa using this
        · cases h
      · cases h
  · cases h

/-- A new map. -/
theorem Nx.newMap {H : Hp} (R : Rel w F μ H Pr) {w' : World} (A : Alloc w w' (.map #[] 0)) {g : Nat} (hg : H g = none) : Nx Pr w F μ H w' F (upd μ g (some (w.heap.size, 0))) (upd H g (some (.mp []))) := by
  have st := A.stp R.fc R.prlt
  refine Nx.one R st (fun g' b z hne hs hm => ⟨A.old (R.block_lt hs hm), fun _ h => h⟩) (fun o0 ho => by rw [hg] at ho; cases ho)
    (fun kle => .mp _ _ _ #[] 0 ⟨A.new, rfl, fun i e m h => by simp at h, fun o ho => absurd (cell_lt (R.fc _ _ ho)) (by omega)⟩) (fun b z hbz => ?_) (fun b o hf => ?_)
  · injection hbz with hbz
    injection hbz with h1 h2
    subst h1
    refine ⟨fun hp => absurd (R.prlt _ hp) (by omega), fun g' z' hne hs hm => absurd (R.block_lt hs hm) (by omega), .inr (Nat.le_refl _)⟩
  · rw [(st.fle b o hf).2]; exact R.fc b o hf

theorem mkmap_ok {H : Hp} (R : Rel w F μ H Pr) {t : TypeId} {nk : Nat} (hnk : H nk = none) :
    ∃ r w' F' μ', (Instr.makeMap t none).run P w = .ok r w' ∧ Nx Pr w F μ H w' F' μ' (H.app [(nk, .mp [])]) ∧ Rd w' F' (env μ' (H.app [(nk, .mp [])])) r (.map nk) := by
  refine ⟨.map (some w.heap.size), w.alloc (.map #[] 0), F, upd μ nk (some (w.heap.size, 0)), rfl, ?_, ?_⟩
  · rw [app_upd, app_nil]
    exact Nx.newMap (w' := w.alloc (.map #[] 0)) R ⟨rfl, rfl, rfl, rfl⟩ hnk
  · rw [app_upd, app_nil]
    exact .map _ nk w.heap.size (by rw [env_upd_same]; rfl)

/-- A map that has an entry more. -/
theorem Nx.setMap {H : Hp} (R : Rel w F μ H Pr) {g b sz : Nat} {es : List (D × D)} {ms : Array MapEntry} {ck : Nat} (hg : H g = some (.mp es)) (hm : μ g = some (b, sz)) (hb : MpAt w F b es ms ck) {k v : D} {kv vv : Value}
    (hk : Rd w F noEnv kv k) (hv : Rd w F noEnv vv v) {w' : World} (hw : w' = { w with heap := w.heap.setIfInBounds b (.map (ms.push { key := kv, val := vv, born := ck }) (ck + 1)) }) :
    Nx Pr w F μ H w' F (upd μ g (some (b, sz))) (upd H g (some (.mp (es ++ [(k, v)])))) := by
  have hsome : (H g).isSome = true := by simp [hg]
  have hlt : b < w.heap.size := R.block_lt hsome hm
  have hoth : ∀ b', b' ≠ b → w'.heap[b']? = w.heap[b']? := fun b' hne => by rw [hw]; simp [Array.getElem?_setIfInBounds, Ne.symm hne]
  have hsame : w'.heap[b]? = some (.map (ms.push { key := kv, val := vv, born := ck }) (ck + 1)) := by rw [hw]; simp [Array.getElem?_setIfInBounds, hlt]
  have hfb : ∀ b' o, F b' o → b' ≠ b := fun b' o hf e => hb.free o (e ▸ hf)
  have st : Stp w F Pr w' F := ⟨by rw [hw], by rw [hw], by rw [hw], by rw [hw]; simp, fun b' o hf => ⟨hf, cell_block (hoth b' (hfb b' o hf))⟩, fun b' hp => hoth b' (fun e => R.pr g b sz hsome hm (e ▸ hp)), fun _ _ _ h => h⟩
  refine Nx.one R st (fun g' b' z hne hs' hm' => ⟨hoth b' (fun e => hne (R.inj g' g b' z sz hs' hsome hm' (e ▸ hm))), fun _ h => h⟩) (fun o0 ho => ?_) (fun kle => ?_) (fun b' z h => ?_) (fun b' o hf => ?_)
  · rw [hg] at ho
    injection ho with ho
    subst ho
    rw [hm]
    exact .inl rfl
  · refine .mp _ _ _ _ _ ⟨hsame, by simp [hb.len], fun i e m he hmm => ?_, hb.free⟩
    by_cases hi : i < es.length
    · rw [List.getElem?_append_left hi] at he
      rw [Array.getElem?_push_lt (by rw [hb.len]; exact hi)] at hmm
      have hmm' : ms[i]? = some m := by rw [Array.getElem?_eq_getElem (by rw [hb.len]; exact hi)]; exact hmm
      obtain ⟨a1, a2⟩ := hb.ent i e m he hmm'
      exact ⟨a1.mono st.fle (KLe.refl _), a2.mono st.fle (KLe.refl _)⟩
    · have hi2 : i = es.length := by
        have := (List.getElem?_eq_some_iff.1 he).1
        simp at this
        omega
      subst hi2
      simp at he
      rw [← hb.len] at hmm
      simp at hmm
      subst he hmm
      exact ⟨hk.mono st.fle (KLe.refl _), hv.mono st.fle (KLe.refl _)⟩
  · injection h with h
    injection h with h1 h2
    subst h1
    exact ⟨R.pr g b sz hsome hm, fun g' z' hne hs' hm' => hne (R.inj g' g b z' sz hs' hsome hm' hm), .inl ⟨g, sz, hsome, hm⟩⟩
  · rw [(st.fle b' o hf).2]; exact R.fc b' o hf

/-- An entry more. -/
theorem mset_ok {H : Hp} (R : Rel w F μ H Pr) {mt kt et : TypeId} (hu : P.underlying mt = some (.map kt et)) (hk : keyFlat P kt ≠ []) {mv kv vv : Value} {md kd vd : D} (hm : Rd w F (env μ H) mv md) (hkv : Rd w F (env μ H) kv kd) (hvv : Rd w F (env μ H) vv vd) {wr : Wr}
    (h : (msetM (keyFlat P kt) md kd vd).run H = some wr) : ∃ w' F' μ', (Instr.mapUpdate mt mv kv vv).run P w = .ok () w' ∧ Nx Pr w F μ H w' F' μ' (H.app wr) := by
  obtain ⟨hfe, f, hf⟩ := keyFlat_ok hk
  rw [← hfe] at h hk
  unfold msetM at h
  split at h
  · rename_i g
    simp only [M.run_bind, run_look] at h
    cases hg : H g with
    | none => rw [hg] at h; cases h
    | some o =>
      rw [hg] at h
      simp only [Option.bind_some] at h
      unfold msetO at h
      split at h
      · rename_i es
        obtain ⟨b, sz, ms, ck, rfl, hmu, hb⟩ := map_at R hg hm
        split at h
        · rename_i hkeys
          split at h
          · rename_i r0 hkk
            obtain ⟨cs, xs, hkd, rfl, hx, hc⟩ := key_val hkk hkv
            have hcheck := checkKey_ok (w := w) hf hk hx hc false
            have hru := run_underlying hu w
            have hgo := MapKept.run_getObj_map (P := P) hb.heap
            have hlen : ms.toList.length = es.length := by simpa using hb.len
            have hent : ∀ (j : Nat) (e : D × D) (m : MapEntry), es[j]? = some e → ms.toList[j]? = some m → Rd w F noEnv m.key e.1 ∧ Rd w F noEnv m.val e.2 := fun j e m a c => hb.ent j e m a (by simpa using c)
            split at h
            · rename_i hfd
              obtain ⟨r', h1, h2⟩ := findKey_ok (w := w) hf hk hkd hx es ms.toList none hlen hent hfd
              have hr' : r' = none := by
                rcases h2 with ⟨_, h2⟩ | ⟨v, j, mv, h2, _⟩
                · exact h2
                · cases h2
              subst hr'
              simp at h
              subst h
              have hset := MapKept.run_setObj_map (P := P) (.map (ms.push { key := .agg xs, val := vv, born := ck }) (ck + 1)) hb.heap
              refine ⟨{ w with heap := w.heap.setIfInBounds b (.map (ms.push { key := .agg xs, val := vv, born := ck }) (ck + 1)) }, F, upd μ g (some (b, sz)), ?_, ?_⟩
              rotate_left
              · rw [app_upd, app_nil]
                exact Nx.setMap R hg hmu hb (hkv.at (fun k hk => by rw [hkeys.1] at hk; cases hk)) (hvv.at (fun k hk => by rw [hkeys.2] at hk; cases hk)) rfl
              · unfold Instr.mapUpdate
                simp only [Sem.run_bind, hru, Result.andThen_ok, hgo, hcheck, h1, hset]
            · cases h
          · cases h
        · cases h
      · cases h
  · cases h
end
end Go.Ab
