/- THE ABSTRACT MACHINE, sound: maps. -/
import Derived.Test.YtomomeabfnmncaaGreatBOp12
import Derived.MapKept
set_option linter.all false
namespace Go.Ab

section
variable {P : Program} {w : World} {F : Fz} {κ : Env} {μ : Mu} {Pr : Nat → Prop}

theorem plain_key {t : TypeId} {d : TypeDesc} (hu : P.underlying t = some d) (hd : d = .bool ∨ (∃ k, d = .int k) ∨ d = .string) (em : Bool) (n : Nat) (v : Value) : (Instr.checkKey em (n + 1) t v).run P w = .ok () w := by
  have hr := run_underlying hu w
  rw [Instr.checkKey]
  rcases hd with rfl | ⟨k, rfl⟩ | rfl <;> (simp only [Sem.run_bind, hr, Result.andThen_ok]; simp)

theorem part_plain {f : Field} (hfu : P.underlying f.type = some .bool ∨ (∃ k, P.underlying f.type = some (.int k)) ∨ P.underlying f.type = some .string) {xs : Array Value} {v : Value} (hv : xs[f.offset]? = some v) : (part f.type xs f.offset).run P w = .ok v w := by
  rcases hfu with hu' | ⟨k, hu'⟩ | hu' <;> (have hr := run_underlying hu' w; unfold part isAgg; simp [Sem.run_bind, hr, hv])

/-- Fields that may be compared cell by cell. -/
theorem flat_fields {t : TypeId} {fs : Array Field} (hu : P.underlying t = some (.struct fs)) (hk : flatEq P t ≠ []) : ∃ ks, mapO (fieldKind P) fs.toList = some ks ∧ flatEq P t = ks ∧ ∀ (i : Nat) (f : Field), fs[i]? = some f → f.offset = i := by
  unfold flatEq at hk ⊢
  rw [hu] at hk ⊢
  simp only [ne_eq] at hk ⊢
  split at hk
  · rename_i hh
    rw [if_pos hh]
    cases hm : mapO (fieldKind P) fs.toList with
    | none => simp [hm] at hk
    | some ks =>
      refine ⟨ks, rfl, rfl, fun i f hf => ?_⟩
      have h1 := List.all_eq_true.1 hh.2.2 (f, i) (by
        rw [List.mem_iff_getElem?]
        refine ⟨i, ?_⟩
        rw [List.getElem?_zipIdx, Array.getElem?_toList, hf]
        simp)
      simp at h1
      exact h1.2
  · exact absurd rfl hk

theorem kind_plain {f : Field} {k : Nat} (h : fieldKind P f = some k) : P.underlying f.type = some .bool ∨ (∃ k, P.underlying f.type = some (.int k)) ∨ P.underlying f.type = some .string := by
  unfold fieldKind at h
  split at h <;> rename_i hu' <;> first | exact .inl hu' | exact .inr (.inl ⟨_, hu'⟩) | exact .inr (.inr hu') | cases h

theorem checkKey_ok {t : TypeId} {fs : Array Field} (hu : P.underlying t = some (.struct fs)) (hsz : fs.size = 1 ∨ fs.size = 2) (hk : flatEq P t ≠ []) {xs : Array Value} {cs : List D} {r : Bool} (hx : RdL w F κ xs.toList cs) (hc : eqCells (flatEq P t) cs cs = some r) (em : Bool) :
    (Instr.checkKey em 10000 t (.agg xs)).run P w = .ok () w := by
  obtain ⟨ks, h1, h2, h3⟩ := flat_fields hu hk
  rw [h2] at hc
  have hr := run_underlying hu w
  have hlen : ∀ (ks : List Nat) (cs : List D) (r : Bool), eqCells ks cs cs = some r → cs.length = ks.length := by
    intro ks
    induction ks with
    | nil =>
      intro cs r h
      cases cs with
      | nil => rfl
      | cons c cs => simp [eqCells] at h
    | cons k ks ih =>
      intro cs r h
      cases cs with
      | nil => simp [eqCells] at h
      | cons c cs =>
        rw [eqCells] at h
        cases h4 : eqCell k c c with
        | none => simp [h4] at h
        | some a =>
          cases h5 : eqCells ks cs cs with
          | none => simp [h4, h5] at h
          | some b => simp [ih cs b h5]
  have hcl := hlen ks cs r hc
  have hxl : xs.size = cs.length := by simpa using hx.1
  rw [show (10000 : Nat) = 9999 + 1 from rfl, Instr.checkKey]
  simp only [Sem.run_bind, hr, Result.andThen_ok]
  rcases hsz with hsz | hsz
  · obtain ⟨f, rfl⟩ : ∃ f, fs = #[f] := Array.size_eq_one_iff.1 hsz
    cases hkf : fieldKind P f with
    | none => simp [mapO, hkf] at h1
    | some kf =>
      have hks : ks.length = 1 := by simp [mapO, hkf] at h1; rw [← h1]; rfl
      have hf := kind_plain hkf
      have ho := h3 0 f rfl
      obtain ⟨v, hv⟩ : ∃ v, xs[f.offset]? = some v := ⟨xs[f.offset]'(by omega), Array.getElem?_eq_getElem _⟩
      have hp := part_plain (w := w) hf hv
      have hl : ∀ v, (Instr.checkKey em 9999 f.type v).run P w = .ok () w := fun v => by
        rcases hf with h | ⟨k, h⟩ | h
        · exact plain_key h (.inl rfl) em 9998 v
        · exact plain_key h (.inr (.inl ⟨k, rfl⟩)) em 9998 v
        · exact plain_key h (.inr (.inr rfl)) em 9998 v
      by_cases hn : f.name = "_" <;> simp [hn, hp, hl, Sem.run_bind]
  · obtain ⟨f, g, rfl⟩ : ∃ f g, fs = #[f, g] := by
      match fs, hsz with
      | ⟨[f, g]⟩, _ => exact ⟨f, g, rfl⟩
    cases hkf : fieldKind P f with
    | none => simp [mapO, hkf] at h1
    | some kf =>
      cases hkg : fieldKind P g with
      | none => simp [mapO, hkf, hkg] at h1
      | some kg =>
        have hks : ks.length = 2 := by simp [mapO, hkf, hkg] at h1; rw [← h1]; rfl
        have hf := kind_plain hkf
        have hg := kind_plain hkg
        have ho := h3 0 f rfl
        have ho2 := h3 1 g rfl
        obtain ⟨v, hv⟩ : ∃ v, xs[f.offset]? = some v := ⟨xs[f.offset]'(by omega), Array.getElem?_eq_getElem _⟩
        obtain ⟨v2, hv2⟩ : ∃ v, xs[g.offset]? = some v := ⟨xs[g.offset]'(by omega), Array.getElem?_eq_getElem _⟩
        have hp := part_plain (w := w) hf hv
        have hp2 := part_plain (w := w) hg hv2
        have hl : ∀ v, (Instr.checkKey em 9999 f.type v).run P w = .ok () w := fun v => by
          rcases hf with h | ⟨k, h⟩ | h
          · exact plain_key h (.inl rfl) em 9998 v
          · exact plain_key h (.inr (.inl ⟨k, rfl⟩)) em 9998 v
          · exact plain_key h (.inr (.inr rfl)) em 9998 v
        have hl2 : ∀ v, (Instr.checkKey em 9999 g.type v).run P w = .ok () w := fun v => by
          rcases hg with h | ⟨k, h⟩ | h
          · exact plain_key h (.inl rfl) em 9998 v
          · exact plain_key h (.inr (.inl ⟨k, rfl⟩)) em 9998 v
          · exact plain_key h (.inr (.inr rfl)) em 9998 v
        by_cases hn : f.name = "_" <;> by_cases hn2 : g.name = "_" <;> simp [hn, hn2, hp, hp2, hl, hl2, Sem.run_bind]

/-- Keys that stand in a map, asked one by one. -/
theorem findAsk_ok {t : TypeId} (hk : flatEq P t ≠ []) {xs : Array Value} {cs : List D} (hx : RdL w F κ xs.toList cs) :
    ∀ (es : List (D × D)) (ms : List MapEntry) (i : Nat) (r : Option D), ms.length = es.length → (∀ (j : Nat) (e : D × D) (m : MapEntry), es[j]? = some e → ms[j]? = some m → Rd w F noEnv m.key e.1 ∧ Rd w F noEnv m.val e.2) → findD (flatEq P t) (.agg cs) es = some r →
      ∃ r', (Instr.findAsking t (.agg xs) ms i).run P w = .ok r' w ∧ ((r = none ∧ r' = none) ∨ ∃ v j mv, r = some v ∧ r' = some (j, mv) ∧ Rd w F noEnv mv v)
  | [], [], i, r, _, _, h => by
    simp [findD] at h
    exact ⟨none, by simp [Instr.findAsking], .inl ⟨h.symm, rfl⟩⟩
  | e :: es, m :: ms, i, r, hl, hent, h => by
    obtain ⟨h1, h2⟩ := hent 0 e m rfl rfl
    unfold findD at h
    cases hq : keyEq (flatEq P t) (.agg cs) e.1 with
    | none => simp [hq] at h
    | some b =>
      simp only [hq] at h
      obtain ⟨ds, e2, e3⟩ : ∃ ds, e.1 = .agg ds ∧ eqCells (flatEq P t) cs ds = some b := by
        unfold keyEq at hq
        split at hq
        · rename_i heq _; injection heq with heq; subst heq; exact ⟨_, by assumption, hq⟩
        all_goals first | (rename_i heq _; cases heq) | cases hq
      rw [e2] at h1
      obtain ⟨ys, hys, hy⟩ := h1.toAgg
      have hrun := (flat_ok (op := .eql) (x := .const .nilIface) (y := .const .nilIface) hx (hy.mono (FLe.refl _ _) (KLe.none _)) hk e3).2
      unfold Instr.findAsking
      simp only [Sem.run_bind, Op.equal, Op.maxDepth, hys, hrun, Result.andThen_ok]
      cases b with
      | true =>
        simp at h
        exact ⟨some (i, m.val), by simp, .inr ⟨e.2, i, m.val, h.symm, rfl, h2⟩⟩
      | false =>
        simp only at h
        obtain ⟨r', h3, h4⟩ := findAsk_ok hk hx es ms (i + 1) r (by simpa using hl) (fun j e m a b => hent (j + 1) e m (by simpa using a) (by simpa using b)) h
        exact ⟨r', by simpa using h3, h4⟩
  | [], m :: ms, i, r, hl, _, _ => by simp at hl
  | e :: es, [], i, r, hl, _, _ => by simp at hl

theorem findKey_ok {t : TypeId} {fs : Array Field} (hu : P.underlying t = some (.struct fs)) (hk : flatEq P t ≠ []) {xs : Array Value} {cs : List D} (hx : RdL w F κ xs.toList cs)
    (es : List (D × D)) (ms : List MapEntry) (r : Option D) (hl : ms.length = es.length) (hent : ∀ (j : Nat) (e : D × D) (m : MapEntry), es[j]? = some e → ms[j]? = some m → Rd w F noEnv m.key e.1 ∧ Rd w F noEnv m.val e.2) (h : findD (flatEq P t) (.agg cs) es = some r) :
      ∃ r', (Instr.findKey t (.agg xs) ms).run P w = .ok r' w ∧ ((r = none ∧ r' = none) ∨ ∃ v j mv, r = some v ∧ r' = some (j, mv) ∧ Rd w F noEnv mv v) := by
  have hr := run_underlying hu w
  cases ms with
  | nil =>
    cases es with
    | nil =>
      simp [findD] at h
      exact ⟨none, by unfold Instr.findKey; simp [Sem.run_bind, hr, Instr.findNow], .inl ⟨h.symm, rfl⟩⟩
    | cons e es => simp at hl
  | cons m ms =>
    obtain ⟨r', h1, h2⟩ := findAsk_ok hk hx es (m :: ms) 0 r hl hent h
    have hnow : Instr.findNow (.struct fs) (.agg xs) (m :: ms) 0 = none := by
      unfold Instr.findNow
      have : Instr.sameNow (.struct fs) (.agg xs) m.key = none := rfl
      rw [this]
    refine ⟨r', ?_, h2⟩
    unfold Instr.findKey
    simp only [Sem.run_bind, hr, Result.andThen_ok, hnow]
    exact h1

/-- Plain keys, found at once. -/
theorem findNow_ok {d : TypeDesc} {fl : List Nat} {kd : D} {kv : Value} (hstep : ∀ (e : D) (v : Value) (b : Bool), keyEq fl kd e = some b → Rd w F noEnv v e → Instr.sameNow d kv v = some b) :
    ∀ (es : List (D × D)) (ms : List MapEntry) (i : Nat) (r : Option D), ms.length = es.length → (∀ (j : Nat) (e : D × D) (m : MapEntry), es[j]? = some e → ms[j]? = some m → Rd w F noEnv m.key e.1 ∧ Rd w F noEnv m.val e.2) → findD fl kd es = some r →
      ∃ r', Instr.findNow d kv ms i = some r' ∧ ((r = none ∧ r' = none) ∨ ∃ v j mv, r = some v ∧ r' = some (j, mv) ∧ Rd w F noEnv mv v)
  | [], [], i, r, _, _, h => by
    simp [findD] at h
    exact ⟨none, by simp [Instr.findNow], .inl ⟨h.symm, rfl⟩⟩
  | e :: es, m :: ms, i, r, hl, hent, h => by
    obtain ⟨h1, h2⟩ := hent 0 e m rfl rfl
    unfold findD at h
    cases hq : keyEq fl kd e.1 with
    | none => simp [hq] at h
    | some b =>
      simp only [hq] at h
      have hs := hstep e.1 m.key b hq h1
      unfold Instr.findNow
      rw [hs]
      cases b with
      | true =>
        simp at h
        exact ⟨some (i, m.val), rfl, .inr ⟨e.2, i, m.val, h.symm, rfl, h2⟩⟩
      | false =>
        simp only at h
        exact findNow_ok hstep es ms (i + 1) r (by simpa using hl) (fun j e m a b => hent (j + 1) e m (by simpa using a) (by simpa using b)) h
  | [], m :: ms, i, r, hl, _, _ => by simp at hl
  | e :: es, [], i, r, hl, _, _ => by simp at hl

theorem flat_lt {t : TypeId} {fs : Array Field} (hu : P.underlying t = some (.struct fs)) (hk : flatEq P t ≠ []) : ∀ k ∈ flatEq P t, k < 100 := by
  obtain ⟨ks, h1, h2, _⟩ := flat_fields hu hk
  rw [h2]
  have key : ∀ (l : List Field) (ks : List Nat), mapO (fieldKind P) l = some ks → ∀ k ∈ ks, ∃ f, fieldKind P f = some k := by
    intro l
    induction l with
    | nil =>
      intro ks h k hk
      simp [mapO] at h
      subst h
      cases hk
    | cons f l ih =>
      intro ks h k hk
      cases hf : fieldKind P f with
      | none => simp [mapO, hf] at h
      | some a =>
        cases hm : mapO (fieldKind P) l with
        | none => simp [mapO, hf, hm] at h
        | some b =>
          simp [mapO, hf, hm] at h
          subst h
          rcases List.mem_cons.1 hk with rfl | hk
          · exact ⟨f, hf⟩
          · exact ih b hm k hk
  intro k hkm
  obtain ⟨f, hf⟩ := key fs.toList ks h1 k hkm
  unfold fieldKind at hf
  split at hf <;> first | (injection hf with hf; omega) | cases hf
theorem ite_some {c : Prop} [Decidable c] {α : Type} {a : α} {r : α} (h : (if c then some a else none) = some r) : c ∧ a = r := by
  by_cases hc : c
  · rw [if_pos hc] at h; exact ⟨hc, Option.some.inj h⟩
  · rw [if_neg hc] at h; cases h
/-- WHAT A KEY DOES: it may be one, and it is found. -/
theorem key_ok {t : TypeId} (hk : keyFlat P t ≠ []) {kd : D} {r0 : Bool} (h0 : keyEq (keyFlat P t) kd kd = some r0) {kv : Value} (hkv : Rd w F κ kv kd) :
    (∀ em, (Instr.checkKey em 10000 t kv).run P w = .ok () w) ∧
    ∀ (es : List (D × D)) (ms : List MapEntry) (r : Option D), ms.length = es.length → (∀ (j : Nat) (e : D × D) (m : MapEntry), es[j]? = some e → ms[j]? = some m → Rd w F noEnv m.key e.1 ∧ Rd w F noEnv m.val e.2) → findD (keyFlat P t) kd es = some r →
      ∃ r', (Instr.findKey t kv ms).run P w = .ok r' w ∧ ((r = none ∧ r' = none) ∨ ∃ v j mv, r = some v ∧ r' = some (j, mv) ∧ Rd w F noEnv mv v) := by
  cases hu : P.underlying t with
  | none => exfalso; unfold keyFlat at hk; rw [hu] at hk; exact hk rfl
  | some d =>
    have hr := run_underlying hu w
    have now : ∀ fl, keyFlat P t = fl → (∀ (e : D) (v : Value) (b : Bool), keyEq fl kd e = some b → Rd w F noEnv v e → Instr.sameNow d kv v = some b) →
        ∀ (es : List (D × D)) (ms : List MapEntry) (r : Option D), ms.length = es.length → (∀ (j : Nat) (e : D × D) (m : MapEntry), es[j]? = some e → ms[j]? = some m → Rd w F noEnv m.key e.1 ∧ Rd w F noEnv m.val e.2) → findD (keyFlat P t) kd es = some r →
          ∃ r', (Instr.findKey t kv ms).run P w = .ok r' w ∧ ((r = none ∧ r' = none) ∨ ∃ v j mv, r = some v ∧ r' = some (j, mv) ∧ Rd w F noEnv mv v) := by
      intro fl hfl hstep es ms r hl hent hfd
      rw [hfl] at hfd
      obtain ⟨r', h1, h2⟩ := findNow_ok hstep es ms 0 r hl hent hfd
      refine ⟨r', ?_, h2⟩
      unfold Instr.findKey
      simp only [Sem.run_bind, hr, Result.andThen_ok, h1, Sem.run_pure]
    cases d with
    | struct fs =>
      have hkf : keyFlat P t = if fs.size = 1 ∨ fs.size = 2 then flatEq P t else [] := by unfold keyFlat; rw [hu]
      by_cases hsz : fs.size = 1 ∨ fs.size = 2
      · rw [hkf, if_pos hsz] at hk h0 ⊢
        have hlt := flat_lt hu hk
        obtain ⟨cs, rfl, hc⟩ : ∃ cs, kd = .agg cs ∧ eqCells (flatEq P t) cs cs = some r0 := by
          cases kd with
          | agg cs => exact ⟨cs, rfl, h0⟩
          | int k a => have := (ite_some h0).1.1; rw [this] at hlt; have := hlt 100 (by simp); omega
          | str a => have := (ite_some h0).1; rw [this] at hlt; have := hlt 101 (by simp); omega
          | bool a => have := (ite_some h0).1; rw [this] at hlt; have := hlt 102 (by simp); omega
          | _ => cases h0
        obtain ⟨xs, rfl, hx⟩ := hkv.toAgg
        exact ⟨fun em => checkKey_ok hu hsz hk hx hc em, fun es ms r hl hent hfd => findKey_ok hu hk hx es ms r hl hent hfd⟩
      · rw [hkf, if_neg hsz] at hk
        exact absurd rfl hk
    | bool =>
      have hfl : keyFlat P t = [102] := by unfold keyFlat; rw [hu]
      refine ⟨fun em => plain_key hu (.inl rfl) em 9999 kv, now _ hfl ?_⟩
      rw [hfl] at h0
      cases kd with
      | bool a =>
        intro e v b' hq hv
        have hkb := rd_bool hkv
        subst hkb
        cases e with
        | bool c =>
          have := rd_bool hv
          subst this
          simp [keyEq] at hq
          simp [Instr.sameNow, hq]
        | _ => cases hq
      | agg cs =>
        exfalso
        cases cs with
        | nil => simp [keyEq, eqCells] at h0
        | cons c cs => cases c <;> simp [keyEq, eqCells, eqCell] at h0
      | int k a => simp [keyEq] at h0
      | str a => simp [keyEq] at h0
      | _ => cases h0
    | int k =>
      have hfl : keyFlat P t = [100] := by unfold keyFlat; rw [hu]
      refine ⟨fun em => plain_key hu (.inr (.inl ⟨k, rfl⟩)) em 9999 kv, now _ hfl ?_⟩
      rw [hfl] at h0
      cases kd with
      | int k' a =>
        intro e v b' hq hv
        have hkb := rd_int hkv
        subst hkb
        cases e with
        | int k2 c =>
          have := rd_int hv
          subst this
          have h1 := (ite_some hq).2
          have h2 := (ite_some hq).1.2
          subst h2
          simp [Instr.sameNow, h1]
        | _ => cases hq
      | agg cs =>
        exfalso
        cases cs with
        | nil => simp [keyEq, eqCells] at h0
        | cons c cs => cases c <;> simp [keyEq, eqCells, eqCell] at h0
      | bool a => simp [keyEq] at h0
      | str a => simp [keyEq] at h0
      | _ => cases h0
    | _ => exfalso; unfold keyFlat at hk; rw [hu] at hk; exact hk rfl

/-- A map's block. -/
theorem map_at {H : Hp} (R : Rel w F μ H Pr) {g : Nat} {es : List (D × D)} (hg : H g = some (.mp es)) {v : Value} (hv : Rd w F (env μ H) v (.map g)) :
    ∃ b sz ms ck, v = .map (some b) ∧ μ g = some (b, sz) ∧ MpAt w F b es ms ck := by
  obtain ⟨b, sz, ms, ck, hm, hb⟩ := (R.ok g _ hg).inv_mp
  refine ⟨b, sz, ms, ck, ?_, hm, hb⟩
  cases hv with
  | map _ _ b' hk =>
    unfold env at hk
    rw [hg, hm] at hk
    simp [kiOf] at hk
    rw [hk]

/-- Looking up. -/
theorem mget_ok {H : Hp} (R : Rel w F μ H Pr) {mt kt et : TypeId} (hu : P.underlying mt = some (.map kt et)) (hk : keyFlat P kt ≠ []) {ok : Bool} {z : D} (hz : zeroD P et = some z) {mv kv : Value} {md kd d : D} (hm : Rd w F (env μ H) mv md) (hkv : Rd w F (env μ H) kv kd)
    (h : (mgetM ok (keyFlat P kt) z md kd).run H = some d) : ∃ r, (Instr.lookup mt mv kv ok).run P w = .ok r w ∧ Rd w F (env μ H) r d := by
  unfold mgetM at h
  split at h
  · rename_i g
    simp only [M.run_bind, run_look] at h
    cases hg : H g with
    | none => rw [hg] at h; cases h
    | some o =>
      rw [hg] at h
      simp only [Option.bind_some] at h
      unfold mgetO at h
      split at h
      · rename_i es
        obtain ⟨b, sz, ms, ck, rfl, hmu, hb⟩ := map_at R hg hm
        split at h
        · rename_i r0 hkk
          obtain ⟨hchk, hfnd⟩ := key_ok (w := w) hk hkk hkv
          have hcheck := hchk ms.isEmpty
          have hru := run_underlying hu w
          have hgo := MapKept.run_getObj_map (P := P) hb.heap
          have hlen : ms.toList.length = es.length := by simpa using hb.len
          have hent : ∀ (j : Nat) (e : D × D) (m : MapEntry), es[j]? = some e → ms.toList[j]? = some m → Rd w F noEnv m.key e.1 ∧ Rd w F noEnv m.val e.2 := fun j e m a c => hb.ent j e m a (by simpa using c)
          obtain ⟨i, hi, zv, hzi, hzv⟩ : ∃ i, P.info? et = some i ∧ ∃ zv, i.zero = some zv ∧ ofV zv = some z := by
            unfold zeroD at hz
            cases hi : P.info? et with
            | none => simp [hi] at hz
            | some i =>
              simp only [hi] at hz
              cases hzi : i.zero with
              | none => simp [hzi] at hz
              | some zv => simp only [hzi] at hz; exact ⟨i, rfl, zv, hzi, hz⟩
          have hzero : (zeroValue et : Sem Value).run P w = .ok zv w := by simp [zeroValue, typeInfo, hi, hzi]
          cases hfd : findD (keyFlat P kt) kd es with
          | none => rw [hfd] at h; cases h
          | some r =>
            rw [hfd] at h
            obtain ⟨r', h1, h2⟩ := hfnd es ms.toList r hlen hent hfd
            have hrun : (Instr.lookup mt (.map (some b)) kv ok).run P w = ((match r' with | some (_, v) => pure (v, true) | none => do pure (← zeroValue et, false) : Sem (Value × Bool)).run P w).andThen fun p w => (pure (if ok then .tuple #[p.1, .bool p.2] else p.1) : Sem Value).run P w := by
              unfold Instr.lookup
              simp only [Sem.run_bind, hru, Result.andThen_ok, hgo, Sem.run_pure, hcheck, h1]
              cases r' with
              | none => simp [hzero]
              | some p => simp
            rw [hrun]
            rcases h2 with ⟨rfl, rfl⟩ | ⟨v, j, mv, rfl, rfl, h2⟩
            · simp at h
              subst h
              refine ⟨if ok then .tuple #[zv, .bool false] else zv, ?_, ?_⟩
              · simp [Sem.run_bind, hzero]
              · have hzr := ofV_ok hzv w F (env μ H)
                cases ok
                · simpa using hzr
                · have := Rd.tuple (w := w) (F := F) (env μ H) [zv, .bool false] [z, .bool false] rfl (fun i v d h1 h2 => by
                    match i with
                    | 0 => simp at h1 h2; subst h1 h2; exact hzr
                    | 1 => simp at h1 h2; subst h1 h2; exact .bool _ _
                    | n + 2 => simp at h1)
                  simpa using this
            · simp at h
              subst h
              have hv2 := h2.mono (FLe.refl w F) (KLe.none (env μ H))
              refine ⟨if ok then .tuple #[mv, .bool true] else mv, ?_, ?_⟩
              · simp
              · cases ok
                · simpa using hv2
                · have := Rd.tuple (w := w) (F := F) (env μ H) [mv, .bool true] [v, .bool true] rfl (fun i v d h1 h2 => by
                    match i with
                    | 0 => simp at h1 h2; subst h1 h2; exact hv2
                    | 1 => simp at h1 h2; subst h1 h2; exact .bool _ _
                    | n + 2 => simp at h1)
                  simpa using this
        · cases h
      · cases h
  · cases h

/-- A new map. -/
theorem Nx.newMap {H : Hp} (R : Rel w F μ H Pr) {w' : World} (A : Alloc w w' (.map #[] 0)) {g : Nat} (hg : H g = none) : Nx Pr w F μ H w' F (upd μ g (some (w.heap.size, 0))) (upd H g (some (.mp []))) := by
  have st := A.stp R.fc R.prlt
  refine Nx.one R st (fun g' b z hne hs hm => ⟨A.old (R.block_lt hs hm), fun _ h => h⟩) (fun o0 ho => by rw [hg] at ho; cases ho)
    (fun kle => .mp _ _ _ #[] 0 ⟨A.new, rfl, fun i e m h => by simp at h, fun o ho => absurd (cell_lt (R.fc _ _ ho)) (by omega)⟩) (fun b z hbz => ?_) (fun b o hf => ?_)
  · injection hbz with hbz
    injection hbz with h1 h2
    subst h1
    refine ⟨fun hp => absurd (R.prlt _ hp) (by omega), fun g' z' hne hs hm => absurd (R.block_lt hs hm) (by omega), .inr (Nat.le_refl _)⟩
  · rw [(st.fle b o hf).2]; exact R.fc b o hf

theorem mkmap_ok {H : Hp} (R : Rel w F μ H Pr) {t : TypeId} {nk : Nat} (hnk : H nk = none) :
    ∃ r w' F' μ', (Instr.makeMap t none).run P w = .ok r w' ∧ Nx Pr w F μ H w' F' μ' (H.app [(nk, .mp [])]) ∧ Rd w' F' (env μ' (H.app [(nk, .mp [])])) r (.map nk) := by
  refine ⟨.map (some w.heap.size), w.alloc (.map #[] 0), F, upd μ nk (some (w.heap.size, 0)), rfl, ?_, ?_⟩
  · rw [app_upd, app_nil]
    exact Nx.newMap (w' := w.alloc (.map #[] 0)) R ⟨rfl, rfl, rfl, rfl⟩ hnk
  · rw [app_upd, app_nil]
    exact .map _ nk w.heap.size (by rw [env_upd_same]; rfl)

/-- A map that has an entry more. -/
theorem Nx.setMap {H : Hp} (R : Rel w F μ H Pr) {g b sz : Nat} {es : List (D × D)} {ms : Array MapEntry} {ck : Nat} (hg : H g = some (.mp es)) (hm : μ g = some (b, sz)) (hb : MpAt w F b es ms ck) {k v : D} {kv vv : Value}
    (hk : Rd w F noEnv kv k) (hv : Rd w F noEnv vv v) {w' : World} (hw : w' = { w with heap := w.heap.setIfInBounds b (.map (ms.push { key := kv, val := vv, born := ck }) (ck + 1)) }) :
    Nx Pr w F μ H w' F (upd μ g (some (b, sz))) (upd H g (some (.mp (es ++ [(k, v)])))) := by
  have hsome : (H g).isSome = true := by simp [hg]
  have hlt : b < w.heap.size := R.block_lt hsome hm
  have hoth : ∀ b', b' ≠ b → w'.heap[b']? = w.heap[b']? := fun b' hne => by rw [hw]; simp [Array.getElem?_setIfInBounds, Ne.symm hne]
  have hsame : w'.heap[b]? = some (.map (ms.push { key := kv, val := vv, born := ck }) (ck + 1)) := by rw [hw]; simp [Array.getElem?_setIfInBounds, hlt]
  have hfb : ∀ b' o, F b' o → b' ≠ b := fun b' o hf e => hb.free o (e ▸ hf)
  have st : Stp w F Pr w' F := ⟨by rw [hw], by rw [hw], by rw [hw], by rw [hw]; simp, fun b' o hf => ⟨hf, cell_block (hoth b' (hfb b' o hf))⟩, fun b' hp => hoth b' (fun e => R.pr g b sz hsome hm (e ▸ hp)), fun _ _ _ h => h⟩
  refine Nx.one R st (fun g' b' z hne hs' hm' => ⟨hoth b' (fun e => hne (R.inj g' g b' z sz hs' hsome hm' (e ▸ hm))), fun _ h => h⟩) (fun o0 ho => ?_) (fun kle => ?_) (fun b' z h => ?_) (fun b' o hf => ?_)
  · rw [hg] at ho
    injection ho with ho
    subst ho
    rw [hm]
    exact .inl rfl
  · refine .mp _ _ _ _ _ ⟨hsame, by simp [hb.len], fun i e m he hmm => ?_, hb.free⟩
    by_cases hi : i < es.length
    · rw [List.getElem?_append_left hi] at he
      rw [Array.getElem?_push_lt (by rw [hb.len]; exact hi)] at hmm
      have hmm' : ms[i]? = some m := by rw [Array.getElem?_eq_getElem (by rw [hb.len]; exact hi)]; exact hmm
      obtain ⟨a1, a2⟩ := hb.ent i e m he hmm'
      exact ⟨a1.mono st.fle (KLe.refl _), a2.mono st.fle (KLe.refl _)⟩
    · have hi2 : i = es.length := by
        have := (List.getElem?_eq_some_iff.1 he).1
        simp at this
        omega
      subst hi2
      simp at he
      rw [← hb.len] at hmm
      simp at hmm
      subst he hmm
      exact ⟨hk.mono st.fle (KLe.refl _), hv.mono st.fle (KLe.refl _)⟩
  · injection h with h
    injection h with h1 h2
    subst h1
    exact ⟨R.pr g b sz hsome hm, fun g' z' hne hs' hm' => hne (R.inj g' g b z' sz hs' hsome hm' hm), .inl ⟨g, sz, hsome, hm⟩⟩
  · rw [(st.fle b' o hf).2]; exact R.fc b' o hf

/-- An entry more. -/
theorem mset_ok {H : Hp} (R : Rel w F μ H Pr) {mt kt et : TypeId} (hu : P.underlying mt = some (.map kt et)) (hk : keyFlat P kt ≠ []) {mv kv vv : Value} {md kd vd : D} (hm : Rd w F (env μ H) mv md) (hkv : Rd w F (env μ H) kv kd) (hvv : Rd w F (env μ H) vv vd) {wr : Wr}
    (h : (msetM (keyFlat P kt) md kd vd).run H = some wr) : ∃ w' F' μ', (Instr.mapUpdate mt mv kv vv).run P w = .ok () w' ∧ Nx Pr w F μ H w' F' μ' (H.app wr) := by
  unfold msetM at h
  split at h
  · rename_i g
    simp only [M.run_bind, run_look] at h
    cases hg : H g with
    | none => rw [hg] at h; cases h
    | some o =>
      rw [hg] at h
      simp only [Option.bind_some] at h
      unfold msetO at h
      split at h
      · rename_i es
        obtain ⟨b, sz, ms, ck, rfl, hmu, hb⟩ := map_at R hg hm
        split at h
        · rename_i hkeys
          split at h
          · rename_i r0 hkk
            obtain ⟨hchk, hfnd⟩ := key_ok (w := w) hk hkk hkv
            have hcheck := hchk false
            have hru := run_underlying hu w
            have hgo := MapKept.run_getObj_map (P := P) hb.heap
            have hlen : ms.toList.length = es.length := by simpa using hb.len
            have hent : ∀ (j : Nat) (e : D × D) (m : MapEntry), es[j]? = some e → ms.toList[j]? = some m → Rd w F noEnv m.key e.1 ∧ Rd w F noEnv m.val e.2 := fun j e m a c => hb.ent j e m a (by simpa using c)
            split at h
            · rename_i hfd
              obtain ⟨r', h1, h2⟩ := hfnd es ms.toList none hlen hent hfd
              have hr' : r' = none := by
                rcases h2 with ⟨_, h2⟩ | ⟨v, j, mv, h2, _⟩
                · exact h2
                · cases h2
              subst hr'
              simp at h
              subst h
              have hset := MapKept.run_setObj_map (P := P) (.map (ms.push { key := kv, val := vv, born := ck }) (ck + 1)) hb.heap
              refine ⟨{ w with heap := w.heap.setIfInBounds b (.map (ms.push { key := kv, val := vv, born := ck }) (ck + 1)) }, F, upd μ g (some (b, sz)), ?_, ?_⟩
              rotate_left
              · rw [app_upd, app_nil]
                exact Nx.setMap R hg hmu hb (hkv.at (fun k hk => by rw [hkeys.1] at hk; cases hk)) (hvv.at (fun k hk => by rw [hkeys.2] at hk; cases hk)) rfl
              · unfold Instr.mapUpdate
                simp only [Sem.run_bind, hru, Result.andThen_ok, hgo, hcheck, h1, hset]
            · cases h
          · cases h
        · cases h
      · cases h
  · cases h
end
end Go.Ab
