/- THE ABSTRACT MACHINE, sound: code. -/
import Derived.Test.YtomomeabfnmncaaGreatBReg
import Derived.LoopN
import Derived.Scope
set_option linter.all false
namespace Go.Ab

def exOf : Ex → Exit
  | .nrm => .normal
  | .exit i => .exit i
  | .ret => .ret

section
variable {P : Program} {w : World} {F : Fz} {κ : Env} {μ : Mu} {Pr : Nat → Prop} {N : Nat}

theorem ObjOk.at {m : Option (Nat × Nat)} {o : Obj} (h : ObjOk w F κ m o) {κ' : Env} (hk : ∀ g ∈ o.keys, κ' g = κ g) : ObjOk w F κ' m o := by
  cases h with
  | vrow s => exact .vrow s
  | row b sz s es fz c el fr h => exact .row b sz s es fz c el fr h
  | box b sz cs c el fr h =>
    refine .box b sz cs c el fr ⟨h.heap, h.size, h.len, h.froz, fun j d hd => ?_, h.free⟩
    obtain ⟨v, a1, a2, a3⟩ := h.cells j d hd
    exact ⟨v, a1, a2, a3.at fun g hg => hk g (keysL_mem hd hg)⟩
  | mp b sz es ms ck h => exact .mp b sz es ms ck h

theorem under_keys {n : Nat} {d : D} (h : d.under n = true) : ∀ g ∈ d.keys, g < n := by
  intro g hg
  have := List.all_eq_true.1 h g hg
  simpa using this
theorem under_okeys {n : Nat} {o : Obj} (h : o.under n = true) : ∀ g ∈ o.keys, g < n := by
  intro g hg
  have := List.all_eq_true.1 h g hg
  simpa using this

theorem env_take {H : List Obj} {n g : Nat} (h : g < n) : env μ (hp (H.take n)) g = env μ (hp H) g := by
  simp only [env, hp, List.getElem?_take, if_pos h]

/-- Behind a round. -/
theorem reset_ok {w0 : World} {F0 : Fz} {μ0 : Mu} {H0 : List Obj} {T0 : List D} (hT0 : T0.length = N) {s s' : St} (h : reset T0 H0.length s = some s') {a : Act} (hs : SR N Pr w0 F0 μ0 (hp H0) (s.T, hp s.H) a w) : SR N Pr w0 F0 μ0 (hp H0) (s'.T, hp s'.H) a w := by
  unfold reset at h
  simp only [] at h
  split at h
  · rename_i hc
    injection h with h
    subst h
    obtain ⟨h1, h2⟩ := hc
    obtain ⟨F, μ, n, hT, hd, hN⟩ := hs
    rw [List.all_eq_true] at h1 h2
    have hH : ∀ g, hp (s.H.take H0.length) g = if g < H0.length then hp s.H g else none := fun g => by simp [hp, List.getElem?_take]
    have hsub : ∀ g o, hp (s.H.take H0.length) g = some o → g < H0.length ∧ hp s.H g = some o := fun g o ho => by
      rw [hH] at ho
      split at ho
      · rename_i h; exact ⟨h, ho⟩
      · cases ho
    have hsub' : ∀ g, (hp (s.H.take H0.length) g).isSome = true → (hp s.H g).isSome = true := fun g hg => by
      obtain ⟨o, ho⟩ := Option.isSome_iff_exists.1 hg
      rw [(hsub g o ho).2]; rfl
    refine ⟨F, μ, ⟨⟨fun g o ho => ?_, fun g g' b z z' a1 a2 a3 a4 => n.rel.inj g g' b z z' (hsub' g a1) (hsub' g' a2) a3 a4, fun g b z a1 a2 => n.rel.pr g b z (hsub' g a1) a2, n.rel.fc, n.rel.prlt⟩, n.stp, fun g k hk => ?_, fun g b z a1 a2 => n.own g b z (hsub' g a1) a2⟩, ⟨?_, fun i v d h3 h4 => ?_⟩, hd, hN⟩
    · obtain ⟨g1, g2⟩ := hsub g o ho
      refine (n.rel.ok g o g2).at fun k hk => env_take ?_
      exact under_okeys (h2 o (List.mem_of_getElem? ho)) k hk
    · have hlt : g < H0.length := by
        unfold env at hk
        cases hg : hp H0 g with
        | none => rw [hg] at hk; cases hk
        | some o => exact (List.getElem?_eq_some_iff.1 hg).1
      rw [env_take hlt]
      exact n.kle g k hk
    · have : s.T.length = a.tmps.size := hT.len
      simp only [List.length_map, List.length_zip]
      omega
    · have hm := h1 d (List.mem_of_getElem? h4)
      rw [List.getElem?_map] at h4
      obtain ⟨p, h5, h6⟩ := Option.map_eq_some_iff.1 h4
      obtain ⟨d1, d0⟩ := p
      rw [List.getElem?_zip_eq_some] at h5
      simp only [] at h6
      split at h6
      · rw [← h6]; exact .undef _ _
      · subst h6
        exact (hT.rd i v _ h3 h5.1).at fun g hg => env_take (under_keys hm g hg)
  · injection h with h
    subst h
    obtain ⟨F, μ, n, hT, hd, hN⟩ := hs
    refine ⟨F, μ, n, ⟨?_, fun i v d h3 h4 => ?_⟩, hd, hN⟩
    · have : s.T.length = a.tmps.size := hT.len
      simp only [List.length_map, List.length_zip]
      omega
    · rw [List.getElem?_map] at h4
      obtain ⟨p, h5, h6⟩ := Option.map_eq_some_iff.1 h4
      obtain ⟨d1, d0⟩ := p
      rw [List.getElem?_zip_eq_some] at h5
      simp only [] at h6
      split at h6
      · rw [← h6]; exact .undef _ _
      · subst h6
        exact hT.rd i v _ h3 h5.1

def PostE (N : Nat) (Pr : Nat → Prop) (w0 : World) (F0 : Fz) (μ0 : Mu) (H0 : Hp) (e : Ex) (s : St) : Exit → Act → World → Prop := fun ex a w => ex = exOf e ∧ SR N Pr w0 F0 μ0 H0 (s.T, hp s.H) a w

theorem SR.trans {w0 : World} {F0 : Fz} {μ0 : Mu} {H0 : Hp} {w1 : World} {F1 : Fz} {μ1 : Mu} {H1 : Hp} (n : Nx Pr w0 F0 μ0 H0 w1 F1 μ1 H1) {s : SH} {a : Act} (h : SR N Pr w1 F1 μ1 H1 s a w) : SR N Pr w0 F0 μ0 H0 s a w := by
  obtain ⟨F, μ, n', r⟩ := h
  exact ⟨F, μ, n.trans n', r⟩

variable {cf : Cfg} {call : CallFn} {all : List Oper} {cx : Cx}

theorem rounds_mono {c : Code} {Q Q' : Exit → Act → World → Prop} (hq : ∀ e a w, Q e a w → Q' e a w) : ∀ (n : Nat) {a : Act} {w : World}, Code.rounds P c Q n a w → Code.rounds P c Q' n a w
  | 0, _, _, h => h.elim
  | n + 1, a, w, h => by
    rw [rounds_succ] at h ⊢
    refine wp_mono h fun e a' w' hh => ?_
    cases e <;> first | exact rounds_mono hq n hh | exact hq _ _ _ hh

/-- CODE. -/
theorem E_ok (hm : P.follows .mixedOrders = true) (hcall : CallOk P call) : ∀ (code : Code) (c : C), cCode P all cx code = some c → ∀ (s : St) (e : Ex) (s' : St), E cf call c s = some (e, s') →
    ∀ (w0 : World) (F0 : Fz) (μ0 : Mu) (H0 : Hp) (a : Act) (w : World), SR N Pr w0 F0 μ0 H0 (s.T, hp s.H) a w → code.wp P (PostE N Pr w0 F0 μ0 H0 e s') a w := by
  intro code
  induction code with
  | skip =>
    intro c hc s e s' he w0 F0 μ0 H0 a w hs
    simp only [cCode, Option.some.injEq] at hc
    subst hc
    simp only [E, Option.some.injEq, Prod.mk.injEq] at he
    obtain ⟨rfl, rfl⟩ := he
    exact wp_skip ⟨rfl, hs⟩
  | label l =>
    intro c hc s e s' he w0 F0 μ0 H0 a w hs
    simp only [cCode, Option.some.injEq] at hc
    subst hc
    simp only [E, Option.some.injEq, Prod.mk.injEq] at he
    obtain ⟨rfl, rfl⟩ := he
    exact wp_label ⟨rfl, hs⟩
  | exit id =>
    intro c hc s e s' he w0 F0 μ0 H0 a w hs
    simp only [cCode, Option.some.injEq] at hc
    subst hc
    simp only [E, Option.some.injEq, Prod.mk.injEq] at he
    obtain ⟨rfl, rfl⟩ := he
    exact wp_exit ⟨rfl, hs⟩
  | ret =>
    intro c hc s e s' he w0 F0 μ0 H0 a w hs
    simp only [cCode, Option.some.injEq] at hc
    subst hc
    simp only [E, Option.some.injEq, Prod.mk.injEq] at he
    obtain ⟨rfl, rfl⟩ := he
    exact wp_ret ⟨rfl, hs⟩
  | region id ops draw =>
    intro c hc s e s' he w0 F0 μ0 H0 a w hs
    have fin : ∀ dr, ((draw = false ∧ dr = none) ∨ (draw = true ∧ ∃ ps, dr = some ps ∧ pairsOf ops (cOps P all cx ops) = some ps)) → c = .reg dr (cOps P all cx ops) → (Code.region id ops draw).wp P (PostE N Pr w0 F0 μ0 H0 e s') a w := by
      rintro dr hdr rfl
      simp only [E] at he
      split at he
      · rename_i s1 h1
        simp only [Option.some.injEq, Prod.mk.injEq] at he
        obtain ⟨rfl, rfl⟩ := he
        exact reg_ok hm hcall hdr h1 hs fun a w h => ⟨rfl, h⟩
      · cases he
    cases draw with
    | false =>
      simp only [cCode, Bool.false_eq_true, if_false, Option.some.injEq] at hc
      exact fin none (.inl ⟨rfl, rfl⟩) hc.symm
    | true =>
      simp only [cCode, if_true, bind, Option.bind_eq_some_iff, Option.some.injEq] at hc
      obtain ⟨ps, h1, h2⟩ := hc
      exact fin (some ps) (.inr ⟨rfl, ps, rfl, h1⟩) h2.symm
  | seq x y ihx ihy =>
    intro c hc s e s' he w0 F0 μ0 H0 a w hs
    simp only [cCode, bind, Option.bind_eq_some_iff, Option.some.injEq] at hc
    obtain ⟨cx', h1, cy, h2, rfl⟩ := hc
    simp only [E] at he
    refine wp_seq ?_
    split at he
    · rename_i s1 h3
      refine wp_mono (ihx _ h1 _ _ _ h3 w0 F0 μ0 H0 a w hs) ?_
      rintro ex a' w' ⟨rfl, hs'⟩
      exact ihy _ h2 _ _ _ he w0 F0 μ0 H0 a' w' hs'
    · rename_i i s1 h3
      simp only [Option.some.injEq, Prod.mk.injEq] at he
      obtain ⟨rfl, rfl⟩ := he
      refine wp_mono (ihx _ h1 _ _ _ h3 w0 F0 μ0 H0 a w hs) ?_
      rintro ex a' w' ⟨rfl, hs'⟩
      exact ⟨rfl, hs'⟩
    · rename_i s1 h3
      simp only [Option.some.injEq, Prod.mk.injEq] at he
      obtain ⟨rfl, rfl⟩ := he
      refine wp_mono (ihx _ h1 _ _ _ h3 w0 F0 μ0 H0 a w hs) ?_
      rintro ex a' w' ⟨rfl, hs'⟩
      exact ⟨rfl, hs'⟩
    · cases he
  | cond x y z ihy ihz =>
    intro c hc s e s' he w0 F0 μ0 H0 a w hs
    simp only [cCode, bind, Option.bind_eq_some_iff, Option.some.injEq] at hc
    obtain ⟨xx, h0, cy, h1, cz, h2, rfl⟩ := hc
    simp only [E] at he
    obtain ⟨F, μ, n, hT, hd⟩ := id hs
    have hv := cX_ok h0 hT
    split at he
    · rename_i hx
      rw [hx] at hv
      exact wp_cond_true (rd_bool hv) (ihy _ h1 _ _ _ he w0 F0 μ0 H0 a w hs)
    · rename_i hx
      rw [hx] at hv
      exact wp_cond_false (rd_bool hv) (ihz _ h2 _ _ _ he w0 F0 μ0 H0 a w hs)
    · cases he
  | block id b ih =>
    intro c hc s e s' he w0 F0 μ0 H0 a w hs
    simp only [cCode, bind, Option.bind_eq_some_iff, Option.some.injEq] at hc
    obtain ⟨cb, h1, rfl⟩ := hc
    simp only [E] at he
    refine wp_block ?_
    split at he
    · rename_i i s1 h3
      refine wp_mono (ih _ h1 _ _ _ h3 w0 F0 μ0 H0 a w hs) ?_
      rintro ex a' w' ⟨rfl, hs'⟩
      by_cases hi : i = id
      · rw [if_pos hi] at he
        simp only [Option.some.injEq, Prod.mk.injEq] at he
        obtain ⟨rfl, rfl⟩ := he
        simp only [exOf, Exit.inBlock, if_pos hi]
        exact ⟨rfl, hs'⟩
      · rw [if_neg hi] at he
        simp only [Option.some.injEq, Prod.mk.injEq] at he
        obtain ⟨rfl, rfl⟩ := he
        simp only [exOf, Exit.inBlock, if_neg hi]
        exact ⟨rfl, hs'⟩
    · rename_i hne
      refine wp_mono (ih _ h1 _ _ _ he w0 F0 μ0 H0 a w hs) ?_
      rintro ex a' w' ⟨rfl, hs'⟩
      cases e with
      | nrm => exact ⟨rfl, hs'⟩
      | ret => exact ⟨rfl, hs'⟩
      | exit i => exact absurd he (hne i s')
  | loop b ih =>
    intro c hc s e s' he w0 F0 μ0 H0 a w hs
    simp only [cCode, bind, Option.bind_eq_some_iff, Option.some.injEq] at hc
    obtain ⟨cb, h1, rfl⟩ := hc
    simp only [E] at he
    obtain ⟨n, hn⟩ := Lp_some.1 he
    obtain ⟨F, μ, n0, hT, hd, hN⟩ := hs
    have hlen : s.T.length = N := by rw [hT.len]; exact hN
    have key : ∀ (n : Nat) (t : St), iter (fun s => E cf call cb s) s.T s.H.length n t = some (e, s') → ∀ (a1 : Act) (w1 : World), SR N Pr w F μ (hp s.H) (t.T, hp t.H) a1 w1 → Code.rounds P b (PostE N Pr w F μ (hp s.H) e s') n a1 w1 := by
      intro n
      induction n with
      | zero => intro t h; cases h
      | succ n ihn =>
        intro t h a1 w1 hs1
        rw [rounds_succ]
        simp only [iter] at h
        split at h
        · rename_i s1 h3
          split at h
          · rename_i s2 h4
            refine wp_mono (ih _ h1 _ _ _ h3 w F μ (hp s.H) a1 w1 hs1) ?_
            rintro ex a' w' ⟨rfl, hs'⟩
            exact ihn s2 h a' w' (reset_ok hlen h4 hs')
          · cases h
        · rename_i s1 h3
          simp only [Option.some.injEq, Prod.mk.injEq] at h
          obtain ⟨rfl, rfl⟩ := h
          refine wp_mono (ih _ h1 _ _ _ h3 w F μ (hp s.H) a1 w1 hs1) ?_
          rintro ex a' w' ⟨rfl, hs'⟩
          exact ⟨rfl, hs'⟩
        · rename_i i s1 h3
          split at h
          · rename_i s2 h4
            simp only [Option.some.injEq, Prod.mk.injEq] at h
            obtain ⟨rfl, rfl⟩ := h
            refine wp_mono (ih _ h1 _ _ _ h3 w F μ (hp s.H) a1 w1 hs1) ?_
            rintro ex a' w' ⟨rfl, hs'⟩
            exact ⟨rfl, reset_ok hlen h4 hs'⟩
          · cases h
        · cases h
    refine wp_loop_rounds n ?_
    have h9 := key n s hn a w ⟨F, μ, Nx.refl n0.rel, hT, hd, hN⟩
    exact rounds_mono (fun ex a' w' h => ⟨h.1, h.2.trans n0⟩) n h9
  | scope b ih =>
    intro c hc s e s' he w0 F0 μ0 H0 a w hs
    simp only [cCode] at hc
    refine wp_scope_straight (wp_mono (ih _ hc _ _ _ he w0 F0 μ0 H0 a w hs) ?_)
    rintro ex a' w' ⟨rfl, hs'⟩
    cases e <;> exact ⟨rfl, hs'⟩
  | _ => intro c hc; simp only [cCode] at hc; cases hc
end
end Go.Ab
