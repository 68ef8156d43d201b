/- THE ABSTRACT MACHINE: what a datum says of a value in a world; and what it is that one state follows from another. -/
import Derived.Test.YtomomeabfnmncaaGreatBDef
import Derived.Laws.Cells
import Derived.Laws.IdiomCopy
import Derived.Laws.World
set_option linter.all false
namespace Go.Ab

abbrev Fz := Nat → Nat → Prop
abbrev Mu := Nat → Option (Nat × Nat)

/-- What the environment tells of a key. -/
inductive KI where
  | vrow
  | row (b s len sz : Nat)
  | box (b : Nat)
  | mp (b : Nat)

def kiOf (m : Option (Nat × Nat)) : Obj → KI
  | .row s es _ => match m with | none => .vrow | some (b, sz) => .row b s es.length sz
  | .box _ => match m with | some (b, _) => .box b | none => .vrow
  | .mp _ => match m with | some (b, _) => .mp b | none => .vrow

abbrev Env := Nat → Option KI
def env (μ : Mu) (H : Hp) : Env := fun g => (H g).map (kiOf (μ g))
def noEnv : Env := fun _ => none

/-- Has the row grown since it had L elements? -/
def KI.past : KI → Nat → Prop
  | .row _ _ len _, L => L < len
  | _, _ => False

def KI.le (k k' : KI) : Prop := k' = k ∨ ∃ b s len sz, k' = .row b s len sz ∧ (match k with | .vrow => 0 < len | .row _ _ l _ => l < len | _ => False)

def KLe (κ κ' : Env) : Prop := ∀ g k, κ g = some k → ∃ k', κ' g = some k' ∧ k.le k'

theorem KI.le_refl (k : KI) : k.le k := .inl rfl
theorem KI.le_trans {a b c : KI} (h : a.le b) (h' : b.le c) : a.le c := by
  rcases h with rfl | ⟨b1, s1, l1, z1, rfl, h1⟩
  · exact h'
  · rcases h' with rfl | ⟨b2, s2, l2, z2, rfl, h2⟩
    · exact .inr ⟨_, _, _, _, rfl, h1⟩
    · refine .inr ⟨_, _, _, _, rfl, ?_⟩
      cases a <;> simp only at h1 h2 ⊢ <;> omega

theorem KLe.refl (κ : Env) : KLe κ κ := fun g k h => ⟨k, h, k.le_refl⟩
theorem KLe.trans {a b c : Env} (h : KLe a b) (h' : KLe b c) : KLe a c := fun g k hk => by
  obtain ⟨k1, h1, l1⟩ := h g k hk
  obtain ⟨k2, h2, l2⟩ := h' g k1 h1
  exact ⟨k2, h2, KI.le_trans l1 l2⟩
theorem KLe.none (κ : Env) : KLe noEnv κ := fun g k h => by cases h

theorem KI.past_le {k k' : KI} {L : Nat} (h : k.le k') (hp : k.past L) : k'.past L := by
  rcases h with rfl | ⟨b, s, l, z, rfl, h1⟩
  · exact hp
  · cases k <;> simp only [KI.past] at hp h1 ⊢
    omega

/-- A value, as a datum has it. -/
inductive Rd (w : World) (F : Fz) : Env → Value → D → Prop
  | undef (κ : Env) (v : Value) : Rd w F κ v .undef
  | bool (κ : Env) (b : Bool) : Rd w F κ (.bool b) (.bool b)
  | int (κ : Env) (k : IntKind) (n : Int) : Rd w F κ (.int k n) (.int k n)
  | str (κ : Env) (b : ByteArray) : Rd w F κ (.string b) (.str b.data.toList)
  | nils (κ : Env) (c : Bool) (s : Nat) : Rd w F κ (.slice none 0 0) (.slc c s [])
  | emp (κ : Env) (a : Addr) (c : Bool) (s : Nat) (hs : 0 < s) : Rd w F κ (.slice (some a) 0 0) (.slc c s [])
  | slc (κ : Env) (b o cap : Nat) (c : Bool) (s : Nat) (es : List D) (vs : Nat → Nat → Value) (hs : 0 < s) (hcap : es.length ≤ cap) (hc : c = true → cap = es.length)
      (hl : ∀ e ∈ es, e.cells.length = s)
      (hv : ∀ i e j d, es[i]? = some e → e.cells[j]? = some d → F b (o + i * s + j) ∧ w.cell? ⟨b, o + i * s + j, none⟩ = some (vs i j) ∧ (vs i j).oneCell' = true)
      (hr : ∀ i e j d, es[i]? = some e → e.cells[j]? = some d → Rd w F noEnv (vs i j) d) : Rd w F κ (.slice (some ⟨b, o, none⟩) es.length cap) (.slc c s es)
  | sl (κ : Env) (g b s L sz lo n o cap : Nat) (hk : κ g = some (.row b s L sz)) (hn : lo + n ≤ L) (hcap : n ≤ cap) (ho : o = lo * s ∨ cap = 0) (hsz : (lo + cap) * s ≤ sz) :
      Rd w F κ (.slice (some ⟨b, o, none⟩) n cap) (.sl g lo n L)
  | slv (κ : Env) (g : Nat) (hk : κ g = some .vrow) : Rd w F κ (.slice none 0 0) (.sl g 0 0 0)
  | slo (κ : Env) (g lo n L : Nat) (k : KI) (a : Option Addr) (cap : Nat) (hk : κ g = some k) (hp : k.past L) (ho : n ≤ cap) : Rd w F κ (.slice a n cap) (.sl g lo n L)
  | fptr (κ : Env) (b o : Nat) (d : D) (vs : Nat → Value)
      (hv : ∀ (j : Nat) (e : D), d.cells[j]? = some e → F b (o + j) ∧ w.cell? ⟨b, o + j, none⟩ = some (vs j) ∧ (vs j).oneCell' = true)
      (hr : ∀ (j : Nat) (e : D), d.cells[j]? = some e → Rd w F noEnv (vs j) e) : Rd w F κ (.pointer (some ⟨b, o, none⟩)) (.fptr d)
  | ptrr (κ : Env) (g b s L sz i off : Nat) (hk : κ g = some (.row b s L sz)) : Rd w F κ (.pointer (some ⟨b, i * s + off, none⟩)) (.ptr g i off L)
  | ptrb (κ : Env) (g b off L : Nat) (hk : κ g = some (.box b)) : Rd w F κ (.pointer (some ⟨b, off, none⟩)) (.ptr g 0 off L)
  | ptro (κ : Env) (g i off L : Nat) (k : KI) (b o : Nat) (hk : κ g = some k) (hp : k.past L) : Rd w F κ (.pointer (some ⟨b, o, none⟩)) (.ptr g i off L)
  | aptr (κ : Env) (g b s L sz : Nat) (hk : κ g = some (.row b s L sz)) : Rd w F κ (.pointer (some ⟨b, 0, none⟩)) (.aptr g L)
  | aptro (κ : Env) (g L : Nat) (k : KI) (b o : Nat) (hk : κ g = some k) (hp : k.past L) : Rd w F κ (.pointer (some ⟨b, o, none⟩)) (.aptr g L)
  | nilptr (κ : Env) : Rd w F κ (.pointer none) .nilptr
  | func (κ : Env) (f : Nat) (a c : List Value) (da dc : List D) (la : a.length = da.length) (lc : c.length = dc.length)
      (ha : ∀ (i : Nat) (v : Value) (d : D), a[i]? = some v → da[i]? = some d → Rd w F κ v d) (hc : ∀ (i : Nat) (v : Value) (d : D), c[i]? = some v → dc[i]? = some d → Rd w F κ v d) : Rd w F κ (.func (.func f) a.toArray c.toArray) (.func f da dc)
  | nilfunc (κ : Env) : Rd w F κ .nilFunc .nilfunc
  | map (κ : Env) (g b : Nat) (hk : κ g = some (.mp b)) : Rd w F κ (.map (some b)) (.map g)
  | nilmap (κ : Env) : Rd w F κ (.map none) .nilmap
  | iface (κ : Env) (t : Nat) (v : Value) (d : D) (h : Rd w F κ v d) : Rd w F κ (.iface t v) (.iface t d)
  | niliface (κ : Env) : Rd w F κ .nilIface .niliface
  | agg (κ : Env) (vs : List Value) (ds : List D) (hl : vs.length = ds.length) (h : ∀ (i : Nat) (v : Value) (d : D), vs[i]? = some v → ds[i]? = some d → Rd w F κ v d) : Rd w F κ (.agg vs.toArray) (.agg ds)
  | tuple (κ : Env) (vs : List Value) (ds : List D) (hl : vs.length = ds.length) (h : ∀ (i : Nat) (v : Value) (d : D), vs[i]? = some v → ds[i]? = some d → Rd w F κ v d) : Rd w F κ (.tuple vs.toArray) (.tuple ds)

/-- Values, as data have them. -/
def RdL (w : World) (F : Fz) (κ : Env) (vs : List Value) (ds : List D) : Prop := vs.length = ds.length ∧ ∀ (i : Nat) (v : Value) (d : D), vs[i]? = some v → ds[i]? = some d → Rd w F κ v d

/-- Frozen cells stay. -/
def FLe (w : World) (F : Fz) (w' : World) (F' : Fz) : Prop := ∀ b o, F b o → F' b o ∧ w'.cell? ⟨b, o, none⟩ = w.cell? ⟨b, o, none⟩

theorem FLe.refl (w : World) (F : Fz) : FLe w F w F := fun b o h => ⟨h, rfl⟩
theorem FLe.trans {w F w' F' w'' F''} (h : FLe w F w' F') (h' : FLe w' F' w'' F'') : FLe w F w'' F'' := fun b o hf => by
  obtain ⟨h1, h2⟩ := h b o hf
  obtain ⟨h3, h4⟩ := h' b o h1
  exact ⟨h3, h4.trans h2⟩

theorem Rd.mono {w F κ v d} (h : Rd w F κ v d) {w' F' κ'} (hf : FLe w F w' F') (hk : KLe κ κ') : Rd w' F' κ' v d := by
  induction h generalizing κ' with
  | undef => exact .undef _ _
  | bool => exact .bool _ _
  | int => exact .int _ _ _
  | str => exact .str _ _
  | nils => exact .nils _ _ _
  | emp κ a c s hs => exact .emp _ a c s hs
  | slc κ b o cap c s es vs hs hcap hc hl hv hr ih =>
    refine .slc _ b o cap c s es vs hs hcap hc hl (fun i e j d h1 h2 => ?_) (fun i e j d h1 h2 => ih i e j d h1 h2 (KLe.refl _))
    obtain ⟨a1, a2, a3⟩ := hv i e j d h1 h2
    obtain ⟨b1, b2⟩ := hf _ _ a1
    exact ⟨b1, b2.trans a2, a3⟩
  | sl κ g b s L sz lo n o cap hk' hn hcap ho hsz =>
    obtain ⟨k1, h1, l1⟩ := hk g _ hk'
    rcases l1 with rfl | ⟨b', s', l', z', rfl, h2⟩
    · exact .sl _ g b s L sz lo n o cap h1 hn hcap ho hsz
    · exact .slo _ g lo n L _ _ _ h1 h2 hcap
  | slv κ g hk' =>
    obtain ⟨k1, h1, l1⟩ := hk g _ hk'
    rcases l1 with rfl | ⟨b', s', l', z', rfl, h2⟩
    · exact .slv _ g h1
    · exact .slo _ g 0 0 0 _ _ _ h1 h2 (Nat.le_refl _)
  | slo κ g lo n L k a cap hk' hp ho =>
    obtain ⟨k1, h1, l1⟩ := hk g _ hk'
    exact .slo _ g lo n L k1 _ _ h1 (KI.past_le l1 hp) ho
  | fptr κ b o d vs hv hr ih =>
    refine .fptr _ b o d vs (fun j e h1 => ?_) (fun j e h1 => ih j e h1 (KLe.refl _))
    obtain ⟨a1, a2, a3⟩ := hv j e h1
    obtain ⟨b1, b2⟩ := hf _ _ a1
    exact ⟨b1, b2.trans a2, a3⟩
  | ptrr κ g b s L sz i off hk' =>
    obtain ⟨k1, h1, l1⟩ := hk g _ hk'
    rcases l1 with rfl | ⟨b', s', l', z', rfl, h2⟩
    · exact .ptrr _ g b s L sz i off h1
    · exact .ptro _ g i off L _ _ _ h1 h2
  | ptrb κ g b off L hk' =>
    obtain ⟨k1, h1, l1⟩ := hk g _ hk'
    rcases l1 with rfl | ⟨b', s', l', z', rfl, h2⟩
    · exact .ptrb _ g b off L h1
    · exact h2.elim
  | ptro κ g i off L k b o hk' hp =>
    obtain ⟨k1, h1, l1⟩ := hk g _ hk'
    exact .ptro _ g i off L k1 _ _ h1 (KI.past_le l1 hp)
  | aptr κ g b s L sz hk' =>
    obtain ⟨k1, h1, l1⟩ := hk g _ hk'
    rcases l1 with rfl | ⟨b', s', l', z', rfl, h2⟩
    · exact .aptr _ g b s L sz h1
    · exact .aptro _ g L _ _ _ h1 h2
  | aptro κ g L k b o hk' hp =>
    obtain ⟨k1, h1, l1⟩ := hk g _ hk'
    exact .aptro _ g L k1 _ _ h1 (KI.past_le l1 hp)
  | nilptr => exact .nilptr _
  | func κ f a c da dc la lc ha hc iha ihc => exact .func _ f a c da dc la lc (fun i v d h1 h2 => iha i v d h1 h2 hk) (fun i v d h1 h2 => ihc i v d h1 h2 hk)
  | nilfunc => exact .nilfunc _
  | map κ g b hk' =>
    obtain ⟨k1, h1, l1⟩ := hk g _ hk'
    rcases l1 with rfl | ⟨b', s', l', z', rfl, h2⟩
    · exact .map _ g b h1
    · exact h2.elim
  | nilmap => exact .nilmap _
  | iface κ t v d _ ih => exact .iface _ t v d (ih hk)
  | niliface => exact .niliface _
  | agg κ vs ds hl h ih => exact .agg _ vs ds hl (fun i v d h1 h2 => ih i v d h1 h2 hk)
  | tuple κ vs ds hl h ih => exact .tuple _ vs ds hl (fun i v d h1 h2 => ih i v d h1 h2 hk)

theorem keysL_mem {ds : List D} {i : Nat} {d : D} {g : Nat} (hd : ds[i]? = some d) (hg : g ∈ d.keys) : g ∈ keysL ds := by
  induction ds generalizing i with
  | nil => simp at hd
  | cons x r ih =>
    rw [show keysL (x :: r) = x.keys ++ keysL r from rfl, List.mem_append]
    cases i with
    | zero => simp at hd; exact .inl (hd ▸ hg)
    | succ i => exact .inr (ih (by simpa using hd))

theorem renL_length (f : Nat → Nat) (ds : List D) : (renL f ds).length = ds.length := by
  induction ds with
  | nil => rfl
  | cons x r ih => simp [renL, D.ren.renL]; exact ih
theorem renL_get (f : Nat → Nat) (ds : List D) (i : Nat) : (renL f ds)[i]? = ds[i]?.map (D.ren f) := by
  induction ds generalizing i with
  | nil => simp [renL, D.ren.renL]
  | cons x r ih =>
    cases i with
    | zero => simp [renL, D.ren.renL]
    | succ i => simp [renL, D.ren.renL]; exact ih i

/-- Under other keys. -/
theorem Rd.ren {w F κ v d} (h : Rd w F κ v d) {κ' : Env} {f : Nat → Nat} (hk : ∀ g ∈ d.keys, κ' (f g) = κ g) : Rd w F κ' v (d.ren f) := by
  induction h generalizing κ' with
  | undef => exact .undef _ _
  | bool => exact .bool _ _
  | int => exact .int _ _ _
  | str => exact .str _ _
  | nils => exact .nils _ _ _
  | emp κ a c s hs => exact .emp _ a c s hs
  | slc κ b o cap c s es vs hs hcap hc hl hv hr ih => exact .slc _ b o cap c s es vs hs hcap hc hl hv hr
  | sl κ g b s L sz lo n o cap hk' hn hcap ho hsz => exact .sl _ (f g) b s L sz lo n o cap ((hk g (by simp [D.keys])).trans hk') hn hcap ho hsz
  | slv κ g hk' => exact .slv _ (f g) ((hk g (by simp [D.keys])).trans hk')
  | slo κ g lo n L k a cap hk' hp ho => exact .slo _ (f g) lo n L k _ _ ((hk g (by simp [D.keys])).trans hk') hp ho
  | fptr κ b o d vs hv hr ih => exact .fptr _ b o d vs hv hr
  | ptrr κ g b s L sz i off hk' => exact .ptrr _ (f g) b s L sz i off ((hk g (by simp [D.keys])).trans hk')
  | ptrb κ g b off L hk' => exact .ptrb _ (f g) b off L ((hk g (by simp [D.keys])).trans hk')
  | ptro κ g i off L k b o hk' hp => exact .ptro _ (f g) i off L k _ _ ((hk g (by simp [D.keys])).trans hk') hp
  | aptr κ g b s L sz hk' => exact .aptr _ (f g) b s L sz ((hk g (by simp [D.keys])).trans hk')
  | aptro κ g L k b o hk' hp => exact .aptro _ (f g) L k _ _ ((hk g (by simp [D.keys])).trans hk') hp
  | nilptr => exact .nilptr _
  | func κ n a c da dc la lc ha hc iha ihc =>
    refine .func _ n a c (renL f da) (renL f dc) (by rw [renL_length]; exact la) (by rw [renL_length]; exact lc) (fun i v d h1 h2 => ?_) (fun i v d h1 h2 => ?_)
    · rw [renL_get] at h2
      obtain ⟨d0, h3, rfl⟩ := Option.map_eq_some_iff.1 h2
      exact iha i v d0 h1 h3 (fun g hg => hk g (List.mem_append.2 (.inl (keysL_mem h3 hg))))
    · rw [renL_get] at h2
      obtain ⟨d0, h3, rfl⟩ := Option.map_eq_some_iff.1 h2
      exact ihc i v d0 h1 h3 (fun g hg => hk g (List.mem_append.2 (.inr (keysL_mem h3 hg))))
  | nilfunc => exact .nilfunc _
  | map κ g b hk' => exact .map _ (f g) b ((hk g (by simp [D.keys])).trans hk')
  | nilmap => exact .nilmap _
  | iface κ t v d _ ih => exact .iface _ t v _ (ih (fun g hg => hk g hg))
  | niliface => exact .niliface _
  | agg κ vs ds hl h ih =>
    refine .agg _ vs (renL f ds) (by rw [renL_length]; exact hl) (fun i v d h1 h2 => ?_)
    rw [renL_get] at h2
    obtain ⟨d0, h3, rfl⟩ := Option.map_eq_some_iff.1 h2
    exact ih i v d0 h1 h3 (fun g hg => hk g (keysL_mem h3 hg))
  | tuple κ vs ds hl h ih =>
    refine .tuple _ vs (renL f ds) (by rw [renL_length]; exact hl) (fun i v d h1 h2 => ?_)
    rw [renL_get] at h2
    obtain ⟨d0, h3, rfl⟩ := Option.map_eq_some_iff.1 h2
    exact ih i v d0 h1 h3 (fun g hg => hk g (keysL_mem h3 hg))

/-- In another environment that tells the same of its keys. -/
theorem Rd.at {w F κ v d} (h : Rd w F κ v d) {κ' : Env} (hk : ∀ g ∈ d.keys, κ' g = κ g) : Rd w F κ' v d := by
  induction h generalizing κ' with
  | undef => exact .undef _ _
  | bool => exact .bool _ _
  | int => exact .int _ _ _
  | str => exact .str _ _
  | nils => exact .nils _ _ _
  | emp κ a c s hs => exact .emp _ a c s hs
  | slc κ b o cap c s es vs hs hcap hc hl hv hr ih => exact .slc _ b o cap c s es vs hs hcap hc hl hv hr
  | sl κ g b s L sz lo n o cap hk' hn hcap ho hsz => exact .sl _ g b s L sz lo n o cap ((hk g (by simp [D.keys])).trans hk') hn hcap ho hsz
  | slv κ g hk' => exact .slv _ g ((hk g (by simp [D.keys])).trans hk')
  | slo κ g lo n L k a cap hk' hp ho => exact .slo _ g lo n L k _ _ ((hk g (by simp [D.keys])).trans hk') hp ho
  | fptr κ b o d vs hv hr ih => exact .fptr _ b o d vs hv hr
  | ptrr κ g b s L sz i off hk' => exact .ptrr _ g b s L sz i off ((hk g (by simp [D.keys])).trans hk')
  | ptrb κ g b off L hk' => exact .ptrb _ g b off L ((hk g (by simp [D.keys])).trans hk')
  | ptro κ g i off L k b o hk' hp => exact .ptro _ g i off L k _ _ ((hk g (by simp [D.keys])).trans hk') hp
  | aptr κ g b s L sz hk' => exact .aptr _ g b s L sz ((hk g (by simp [D.keys])).trans hk')
  | aptro κ g L k b o hk' hp => exact .aptro _ g L k _ _ ((hk g (by simp [D.keys])).trans hk') hp
  | nilptr => exact .nilptr _
  | func κ n a c da dc la lc ha hc iha ihc =>
    exact .func _ n a c da dc la lc (fun i v d h1 h2 => iha i v d h1 h2 (fun g hg => hk g (List.mem_append.2 (.inl (keysL_mem h2 hg)))))
      (fun i v d h1 h2 => ihc i v d h1 h2 (fun g hg => hk g (List.mem_append.2 (.inr (keysL_mem h2 hg)))))
  | nilfunc => exact .nilfunc _
  | map κ g b hk' => exact .map _ g b ((hk g (by simp [D.keys])).trans hk')
  | nilmap => exact .nilmap _
  | iface κ t v d _ ih => exact .iface _ t v _ (ih (fun g hg => hk g hg))
  | niliface => exact .niliface _
  | agg κ vs ds hl h ih => exact .agg _ vs ds hl (fun i v d h1 h2 => ih i v d h1 h2 (fun g hg => hk g (keysL_mem h2 hg)))
  | tuple κ vs ds hl h ih => exact .tuple _ vs ds hl (fun i v d h1 h2 => ih i v d h1 h2 (fun g hg => hk g (keysL_mem h2 hg)))

/-! ### Objects -/

/-- Cells of a block, from o on, as data have them. -/
def CellsOk (w : World) (F : Fz) (κ : Env) (c : Array Value) (o : Nat) (ds : List D) : Prop :=
  ∀ (j : Nat) (d : D), ds[j]? = some d → ∃ v, c[o + j]? = some v ∧ v.oneCell' = true ∧ Rd w F κ v d

structure RowAt (w : World) (F : Fz) (b sz s : Nat) (es : List D) (fz : Nat) (c : Array Value) (el : TypeId) (fr : Nat × Nat) : Prop where
  heap : w.heap[b]? = some (.cells c el fr)
  size : c.size = sz
  froz : ∀ o, o < sz → ¬ (fr.1 ≤ o ∧ o < fr.2)
  pos : 0 < s
  fits : es.length * s ≤ sz
  len : ∀ e ∈ es, e.cells.length = s
  cells : ∀ (i : Nat) (e : D), es[i]? = some e → CellsOk w F noEnv c (i * s) e.cells
  free : ∀ o, F b o → o < fz * s
  fzle : fz ≤ es.length

structure BoxAt (w : World) (F : Fz) (κ : Env) (b sz : Nat) (cs : List D) (c : Array Value) (el : TypeId) (fr : Nat × Nat) : Prop where
  heap : w.heap[b]? = some (.cells c el fr)
  size : c.size = sz
  len : cs.length = sz
  froz : ∀ o, o < sz → ¬ (fr.1 ≤ o ∧ o < fr.2)
  cells : CellsOk w F κ c 0 cs
  free : ∀ o, ¬ F b o

/-- A map: its entries in the order of their making. -/
structure MpAt (w : World) (F : Fz) (b : Nat) (es : List (D × D)) (ms : Array MapEntry) (ck : Nat) : Prop where
  heap : w.heap[b]? = some (.map ms ck)
  len : ms.size = es.length
  ent : ∀ (i : Nat) (e : D × D) (m : MapEntry), es[i]? = some e → ms[i]? = some m → Rd w F noEnv m.key e.1 ∧ Rd w F noEnv m.val e.2
  free : ∀ o, ¬ F b o

inductive ObjOk (w : World) (F : Fz) (κ : Env) : Option (Nat × Nat) → Obj → Prop
  | vrow (s : Nat) : ObjOk w F κ none (.row s [] 0)
  | row (b sz s : Nat) (es : List D) (fz : Nat) (c : Array Value) (el : TypeId) (fr : Nat × Nat) (h : RowAt w F b sz s es fz c el fr) : ObjOk w F κ (some (b, sz)) (.row s es fz)
  | box (b sz : Nat) (cs : List D) (c : Array Value) (el : TypeId) (fr : Nat × Nat) (h : BoxAt w F κ b sz cs c el fr) : ObjOk w F κ (some (b, sz)) (.box cs)
  | mp (b sz : Nat) (es : List (D × D)) (ms : Array MapEntry) (ck : Nat) (h : MpAt w F b es ms ck) : ObjOk w F κ (some (b, sz)) (.mp es)

structure Rel (w : World) (F : Fz) (μ : Mu) (H : Hp) (Pr : Nat → Prop) : Prop where
  ok : ∀ (g : Nat) (o : Obj), H g = some o → ObjOk w F (env μ H) (μ g) o
  inj : ∀ (g g' b z z' : Nat), (H g).isSome = true → (H g').isSome = true → μ g = some (b, z) → μ g' = some (b, z') → g = g'
  pr : ∀ (g b z : Nat), (H g).isSome = true → μ g = some (b, z) → ¬ Pr b
  fc : ∀ (b o : Nat), F b o → (w.cell? ⟨b, o, none⟩).isSome = true
  prlt : ∀ b, Pr b → b < w.heap.size

structure Stp (w : World) (F : Fz) (Pr : Nat → Prop) (w' : World) (F' : Fz) : Prop where
  os : w'.os = w.os
  tape : w'.tape = w.tape
  output : w'.output = w.output
  size : w.heap.size ≤ w'.heap.size
  fle : FLe w F w' F'
  prb : ∀ b, Pr b → w'.heap[b]? = w.heap[b]?
  prf : ∀ b o, Pr b → F' b o → F b o

theorem Stp.refl (w : World) (F : Fz) (Pr : Nat → Prop) : Stp w F Pr w F := ⟨rfl, rfl, rfl, Nat.le_refl _, FLe.refl _ _, fun _ _ => rfl, fun _ _ _ h => h⟩
theorem Stp.trans {w F Pr w' F' w'' F''} (h : Stp w F Pr w' F') (h' : Stp w' F' Pr w'' F'') : Stp w F Pr w'' F'' :=
  ⟨h'.os.trans h.os, h'.tape.trans h.tape, h'.output.trans h.output, Nat.le_trans h.size h'.size, h.fle.trans h'.fle,
    fun b hb => (h'.prb b hb).trans (h.prb b hb), fun b o hb hf => h.prf b o hb (h'.prf b o hb hf)⟩

/-- One state follows from another. -/
structure Nx (Pr : Nat → Prop) (w : World) (F : Fz) (μ : Mu) (H : Hp) (w' : World) (F' : Fz) (μ' : Mu) (H' : Hp) : Prop where
  rel : Rel w' F' μ' H' Pr
  stp : Stp w F Pr w' F'
  kle : KLe (env μ H) (env μ' H')
  own : ∀ (g b z : Nat), (H' g).isSome = true → μ' g = some (b, z) → (∃ g' z', (H g').isSome = true ∧ μ g' = some (b, z')) ∨ w.heap.size ≤ b

theorem Nx.refl {Pr w F μ H} (h : Rel w F μ H Pr) : Nx Pr w F μ H w F μ H :=
  ⟨h, Stp.refl _ _ _, KLe.refl _, fun g b z hg hm => .inl ⟨g, z, hg, hm⟩⟩

theorem Nx.trans {Pr w F μ H w' F' μ' H' w'' F'' μ'' H''} (h : Nx Pr w F μ H w' F' μ' H') (h' : Nx Pr w' F' μ' H' w'' F'' μ'' H'') : Nx Pr w F μ H w'' F'' μ'' H'' :=
  ⟨h'.rel, h.stp.trans h'.stp, h.kle.trans h'.kle, fun g b z hg hm => by
    rcases h'.own g b z hg hm with ⟨g', z', h1, h2⟩ | h1
    · rcases h.own g' b z' h1 h2 with h3 | h3
      · exact .inl h3
      · exact .inr h3
    · exact .inr (Nat.le_trans h.stp.size h1)⟩

theorem Rd.nx {Pr w F μ H w' F' μ' H' v d} (h : Rd w F (env μ H) v d) (n : Nx Pr w F μ H w' F' μ' H') : Rd w' F' (env μ' H') v d := h.mono n.stp.fle n.kle

def upd {α : Type} (f : Nat → α) (g : Nat) (a : α) : Nat → α := fun k => if k = g then a else f k
@[simp] theorem upd_same {α : Type} (f : Nat → α) (g : Nat) (a : α) : upd f g a g = a := by simp [upd]
@[simp] theorem upd_ne {α : Type} (f : Nat → α) {g k : Nat} (a : α) (h : k ≠ g) : upd f g a k = f k := by simp [upd, h]

theorem app_upd (H : Hp) (g : Nat) (o : Obj) (r : Wr) : Hp.app H ((g, o) :: r) = Hp.app (upd H g (some o)) r := rfl
theorem app_nil (H : Hp) : Hp.app H [] = H := rfl
theorem app_append (H : Hp) (a b : Wr) : Hp.app H (a ++ b) = Hp.app (Hp.app H a) b := by
  induction a generalizing H with
  | nil => rfl
  | cons p a ih => obtain ⟨g, o⟩ := p; simp only [List.cons_append, app_upd]; exact ih _

theorem env_upd_ne {μ : Mu} {H : Hp} {g k : Nat} {m : Option (Nat × Nat)} {o : Obj} (h : k ≠ g) : env (upd μ g m) (upd H g (some o)) k = env μ H k := by simp [env, h]
theorem env_upd_same {μ : Mu} {H : Hp} {g : Nat} {m : Option (Nat × Nat)} {o : Obj} : env (upd μ g m) (upd H g (some o)) g = some (kiOf m o) := by simp [env]

theorem ObjOk.mono {w F κ m o} (h : ObjOk w F κ m o) {w' F' κ'} (hf : FLe w F w' F') (hk : KLe κ κ')
    (hb : ∀ b z, m = some (b, z) → w'.heap[b]? = w.heap[b]? ∧ ∀ off, F' b off → F b off) : ObjOk w' F' κ' m o := by
  cases h with
  | vrow s => exact .vrow s
  | row b sz s es fz c el fr h =>
    obtain ⟨h1, h2⟩ := hb b sz rfl
    exact .row b sz s es fz c el fr ⟨by rw [h1]; exact h.heap, h.size, h.froz, h.pos, h.fits, h.len, fun i e he j d hd => by
      obtain ⟨v, a1, a2, a3⟩ := h.cells i e he j d hd
      exact ⟨v, a1, a2, a3.mono hf (KLe.refl _)⟩, fun o ho => h.free o (h2 o ho), h.fzle⟩
  | box b sz cs c el fr h =>
    obtain ⟨h1, h2⟩ := hb b sz rfl
    exact .box b sz cs c el fr ⟨by rw [h1]; exact h.heap, h.size, h.len, h.froz, fun j d hd => by
      obtain ⟨v, a1, a2, a3⟩ := h.cells j d hd
      exact ⟨v, a1, a2, a3.mono hf hk⟩, fun o ho => h.free o (h2 o ho)⟩
  | mp b sz es ms ck h =>
    obtain ⟨h1, h2⟩ := hb b sz rfl
    exact .mp b sz es ms ck ⟨by rw [h1]; exact h.heap, h.len, fun i e m he hm => ⟨(h.ent i e m he hm).1.mono hf (KLe.refl _), (h.ent i e m he hm).2.mono hf (KLe.refl _)⟩, fun o ho => h.free o (h2 o ho)⟩

/-- One object is new, or another one. -/
theorem Nx.one {Pr w F μ H} (R : Rel w F μ H Pr) {w' F'} {g : Nat} {m : Option (Nat × Nat)} {o : Obj} (st : Stp w F Pr w' F')
    (hoth : ∀ (g' b z : Nat), g' ≠ g → (H g').isSome = true → μ g' = some (b, z) → w'.heap[b]? = w.heap[b]? ∧ ∀ off, F' b off → F b off)
    (hk : ∀ o0, H g = some o0 → (kiOf (μ g) o0).le (kiOf m o))
    (hok : KLe (env μ H) (env (upd μ g m) (upd H g (some o))) → ObjOk w' F' (env (upd μ g m) (upd H g (some o))) m o)
    (hb : ∀ b z, m = some (b, z) → ¬ Pr b ∧ (∀ g' z', g' ≠ g → (H g').isSome = true → μ g' ≠ some (b, z')) ∧ ((∃ g' z', (H g').isSome = true ∧ μ g' = some (b, z')) ∨ w.heap.size ≤ b))
    (hfc : ∀ b o, F' b o → (w'.cell? ⟨b, o, none⟩).isSome = true) : Nx Pr w F μ H w' F' (upd μ g m) (upd H g (some o)) := by
  have kle : KLe (env μ H) (env (upd μ g m) (upd H g (some o))) := fun k ki hki => by
    by_cases h : k = g
    · subst h
      rw [env_upd_same]
      unfold env at hki
      cases ho : H k with
      | none => rw [ho] at hki; cases hki
      | some o0 =>
        rw [ho] at hki
        simp only [Option.map_some, Option.some.injEq] at hki
        exact ⟨_, rfl, hki ▸ hk o0 ho⟩
    · rw [env_upd_ne h]
      exact ⟨ki, hki, ki.le_refl⟩
  refine ⟨⟨fun k o' ho' => ?_, fun k k' b z z' h1 h2 h3 h4 => ?_, fun k b z h1 h2 => ?_, hfc, fun b hb' => Nat.lt_of_lt_of_le (R.prlt b hb') st.size⟩, st, kle, fun k b z h1 h2 => ?_⟩
  · by_cases h : k = g
    · subst h
      rw [upd_same] at ho'
      injection ho' with ho'
      subst ho'
      rw [upd_same]
      exact hok kle
    · rw [upd_ne _ _ h] at ho' ⊢
      exact (R.ok k o' ho').mono st.fle kle (fun b z hm => hoth k b z h (by simp [ho']) hm)
  · by_cases h : k = g
    · by_cases h' : k' = g
      · rw [h, h']
      · subst h
        rw [upd_same] at h3
        rw [upd_ne _ _ h'] at h2 h4
        exact absurd h4 ((hb b z h3).2.1 k' z' h' h2)
    · by_cases h' : k' = g
      · subst h'
        rw [upd_same] at h4
        rw [upd_ne _ _ h] at h1 h3
        exact absurd h3 ((hb b z' h4).2.1 k z h h1)
      · rw [upd_ne _ _ h] at h1 h3
        rw [upd_ne _ _ h'] at h2 h4
        exact R.inj k k' b z z' h1 h2 h3 h4
  · by_cases h : k = g
    · subst h
      rw [upd_same] at h2
      exact (hb b z h2).1
    · rw [upd_ne _ _ h] at h1 h2
      exact R.pr k b z h1 h2
  · by_cases h : k = g
    · subst h
      rw [upd_same] at h2
      exact (hb b z h2).2.2
    · rw [upd_ne _ _ h] at h1 h2
      exact .inl ⟨k, z, h1, h2⟩
end Go.Ab
