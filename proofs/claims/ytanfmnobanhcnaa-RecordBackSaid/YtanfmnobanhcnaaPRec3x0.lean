-- Written by hp.py (own driver over print.py) out of the translation, hand-made functions among it. Lean checks it.
import Derived.Test.YtanfmnobanhcnaaProg
import Derived.Below
import Derived.Deep.Draws
import Derived.Deep.AppendLies
import Derived.Maps.AppendAt
import Derived.OwnWalk
import Derived.Laws.BytesArg
import Derived.Laws.MakeOwn
import Derived.Laws.OwnMore
import Derived.Deep.OwnRows
import Derived.Tactics
import Derived.Lib.ConvBytes
import Derived.Laws.Slices
import Derived.WalkKit
import Derived.KernelRfl
import Derived.RowKit3
import Derived.Deep.LoopGhost
import Derived.Deep.QuietTactic
import Derived.BigQuiet
import Derived.WideLaws
import Derived.Deep.DeepCutAuto
import Derived.Deep.CutBlock
import Derived.Deep.RegionHeld3
import Derived.Laws.Rows
import Derived.Lib.AppendStr
import Derived.ArgAppend
import Derived.Laws.IdiomCopy
import Derived.OrdersHeld
import Derived.Laws.BitsLemmas
import Derived.RowKit
import Derived.Lib.SlBytesConst
import Derived.Deep.DeepMust
import Derived.Lib.LazyBuf
import Derived.Lib.BitFns
import Derived.Lib.Small
import Derived.Lib.Walk
import Derived.Lib.Strings
import Derived.Lib.Slices
import Derived.Test.YtanfmnobanhcnaaHArr
import Derived.Test.YtanfmnobanhcnaaHBase
import Derived.Test.YtanfmnobanhcnaaHCrc
import Derived.Test.YtanfmnobanhcnaaHFrame
import Derived.Test.YtanfmnobanhcnaaHLen64
import Derived.Test.YtanfmnobanhcnaaHOpen
import Derived.Test.YtanfmnobanhcnaaHRec
import Derived.Test.YtanfmnobanhcnaaHRound
import Derived.Test.YtanfmnobanhcnaaHVar
import Derived.Test.YtanfmnobanhcnaaWWords
import Derived.Test.YtanfmnobanhcnaaWLast
import Derived.Test.YtanfmnobanhcnaaWTab
import Derived.Test.YtanfmnobanhcnaaWFour
import Derived.Test.YtanfmnobanhcnaaWQPut
import Derived.Test.YtanfmnobanhcnaaWApart
import Derived.Test.YtanfmnobanhcnaaWArr
import Derived.Test.YtanfmnobanhcnaaWZeros
import Derived.Test.YtanfmnobanhcnaaWFoot
import Derived.Test.YtanfmnobanhcnaaWKept
import Derived.Test.YtanfmnobanhcnaaWShare
import Derived.Test.YtanfmnobanhcnaaWN
import Derived.Test.YtanfmnobanhcnaaWFootNe
import Derived.Test.YtanfmnobanhcnaaWAt
import Derived.Test.YtanfmnobanhcnaaWEqStruct
import Derived.Test.YtanfmnobanhcnaaWRepsOne
import Derived.Test.YtanfmnobanhcnaaWInv
import Derived.Test.YtanfmnobanhcnaaWInvWords
import Derived.Test.YtanfmnobanhcnaaWGuard
import Derived.Test.YtanfmnobanhcnaaWNEv
import Derived.Test.YtanfmnobanhcnaaWMore
namespace Go.Proofs.Ytanfmnobanhcnaa.PRec3
open Go.RowKit Go.Proofs.YtanfmnobanhcnaaW.PrintWords Go.Proofs.YtanfmnobanhcnaaW.PrintLast Go.Proofs.YtanfmnobanhcnaaW.PrintMore
attribute [local go_sem] max2_int min2_int max_two min_two max_three min_three max_four min_four   -- for this text's walks alone
set_option linter.unusedVariables false
set_option linter.unusedSimpArgs false



def errW : Option Int → Value
  | none => .nilIface
  | some c => .iface 0 (.int .i64 c)
theorem errW_none : errW none = .nilIface := rfl
theorem errW_some (c : Int) : errW (some c) = .iface 0 (.int .i64 c) := rfl

theorem info3 : (Try.prog.info? 3).map (fun i => (i.zero, i.size, i.bytes)) = some (some (.int .i64 0), 1, 8) := by kernel_rfl
theorem info5 : (Try.prog.info? 5).map (fun i => (i.zero, i.size, i.bytes)) = some (some (.int .u8 0), 1, 1) := by kernel_rfl
theorem info23 : (Try.prog.info? 23).map (fun i => (i.zero, i.size, i.bytes)) = some (some (.slice none 0 0), 1, 24) := by kernel_rfl
theorem info26 : (Try.prog.info? 26).map (fun i => (i.zero, i.size, i.bytes)) = some (some (.slice none 0 0), 1, 24) := by kernel_rfl
-- the values' own types
def rd_L1 (xs : List (List Int)) (i : Int) : (List Int) := xs.getD i.toNat ([] : List Int)
theorem at_L1 {w : World} {A : Option Addr} {n : Nat} {xs : List (List Int)} (h : Kd.C (Kd.slice 5 (Kd.int .u8)) w A n xs) (i : Int) (h0 : 0 ≤ i) (h1 : i < n) : ∃ ad A0 c0, A = some ad ∧ w.cell? (ad.add i.toNat) = some (.slice A0 (rd_L1 xs i).length c0) ∧ (rd_L1 xs i).length ≤ c0 ∧ (Kd.int .u8).C w A0 (rd_L1 xs i).length (rd_L1 xs i) := by
  obtain ⟨ad, c, e, _, hK, hc0⟩ := Kd.C_get h ([] : List Int) i h0 h1
  have hc : ∀ j u, c[j]? = some u → w.cell? (ad.add (i.toNat * 1 + j)) = some u := hc0
  obtain ⟨A0, c0, rfl, l0, g0⟩ := hK
  exact ⟨ad, A0, c0, e, by have hq := hc 0 _ rfl; rwa [Nat.mul_one, Nat.add_zero] at hq, l0, g0⟩

def rd_L3 (xs : List (List (List Int))) (i : Int) : (List (List Int)) := xs.getD i.toNat ([] : List (List Int))
theorem at_L3 {w : World} {A : Option Addr} {n : Nat} {xs : List (List (List Int))} (h : Kd.C (Kd.slice 26 (Kd.slice 5 (Kd.int .u8))) w A n xs) (i : Int) (h0 : 0 ≤ i) (h1 : i < n) : ∃ ad A0 c0, A = some ad ∧ w.cell? (ad.add i.toNat) = some (.slice A0 (rd_L3 xs i).length c0) ∧ (rd_L3 xs i).length ≤ c0 ∧ (Kd.slice 5 (Kd.int .u8)).C w A0 (rd_L3 xs i).length (rd_L3 xs i) := by
  obtain ⟨ad, c, e, _, hK, hc0⟩ := Kd.C_get h ([] : List (List Int)) i h0 h1
  have hc : ∀ j u, c[j]? = some u → w.cell? (ad.add (i.toNat * 1 + j)) = some u := hc0
  obtain ⟨A0, c0, rfl, l0, g0⟩ := hK
  exact ⟨ad, A0, c0, e, by have hq := hc 0 _ rfl; rwa [Nat.mul_one, Nat.add_zero] at hq, l0, g0⟩

def rd_L5 (xs : List (List Int)) (i : Int) : (List Int) := xs.getD i.toNat ([] : List Int)
theorem at_L5 {w : World} {A : Option Addr} {n : Nat} {xs : List (List Int)} (h : Kd.C (Kd.slice 3 (Kd.int .i64)) w A n xs) (i : Int) (h0 : 0 ≤ i) (h1 : i < n) : ∃ ad A0 c0, A = some ad ∧ w.cell? (ad.add i.toNat) = some (.slice A0 (rd_L5 xs i).length c0) ∧ (rd_L5 xs i).length ≤ c0 ∧ (Kd.int .i64).C w A0 (rd_L5 xs i).length (rd_L5 xs i) := by
  obtain ⟨ad, c, e, _, hK, hc0⟩ := Kd.C_get h ([] : List Int) i h0 h1
  have hc : ∀ j u, c[j]? = some u → w.cell? (ad.add (i.toNat * 1 + j)) = some u := hc0
  obtain ⟨A0, c0, rfl, l0, g0⟩ := hK
  exact ⟨ad, A0, c0, e, by have hq := hc 0 _ rfl; rwa [Nat.mul_one, Nat.add_zero] at hq, l0, g0⟩

def rd_L7 (xs : List (List (List Int))) (i : Int) : (List (List Int)) := xs.getD i.toNat ([] : List (List Int))
theorem at_L7 {w : World} {A : Option Addr} {n : Nat} {xs : List (List (List Int))} (h : Kd.C (Kd.slice 23 (Kd.slice 3 (Kd.int .i64))) w A n xs) (i : Int) (h0 : 0 ≤ i) (h1 : i < n) : ∃ ad A0 c0, A = some ad ∧ w.cell? (ad.add i.toNat) = some (.slice A0 (rd_L7 xs i).length c0) ∧ (rd_L7 xs i).length ≤ c0 ∧ (Kd.slice 3 (Kd.int .i64)).C w A0 (rd_L7 xs i).length (rd_L7 xs i) := by
  obtain ⟨ad, c, e, _, hK, hc0⟩ := Kd.C_get h ([] : List (List Int)) i h0 h1
  have hc : ∀ j u, c[j]? = some u → w.cell? (ad.add (i.toNat * 1 + j)) = some u := hc0
  obtain ⟨A0, c0, rfl, l0, g0⟩ := hK
  exact ⟨ad, A0, c0, e, by have hq := hc 0 _ rfl; rwa [Nat.mul_one, Nat.add_zero] at hq, l0, g0⟩

/-! #### struct type 25 -/
structure S25 where
  f0 : (List Int)
  f1 : Int
  f2 : Int
  f3 : Int
def z25 : S25 := ⟨([] : List Int), (0 : Int), (0 : Int), (0 : Int)⟩
def k25 : Kd S25 := Kd.iso (Kd.pair (Kd.slice 3 (Kd.int .i64)) (Kd.pair (Kd.int .i64) (Kd.pair (Kd.int .i64) (Kd.int .i64)))) (fun x : S25 => (x.f0, x.f1, x.f2, x.f3))
theorem k25_open {w : World} {x : S25} {cs : List Value} (h : k25.K w x cs) : ∃ A0 c0, cs = [.slice A0 x.f0.length c0, .int .i64 x.f1, .int .i64 x.f2, .int .i64 x.f3] ∧ x.f0.length ≤ c0 ∧ (Kd.int .i64).C w A0 x.f0.length x.f0 := by
  obtain ⟨_, _, rfl, ⟨A0, c0, rfl, l0, g0⟩, ⟨_, _, rfl, rfl, ⟨_, _, rfl, rfl, rfl⟩⟩⟩ := h
  exact ⟨A0, c0, rfl, l0, g0⟩
theorem k25_openM {w : World} {base : Nat} {ok : Nat → Prop} {x : S25} {cs : List Value} (h : k25.M w base ok x cs) : ∃ v0, cs = [v0, .int .i64 x.f1, .int .i64 x.f2, .int .i64 x.f3] ∧ (Kd.int .i64).R 3 w base ok v0 x.f0 := by
  obtain ⟨_, _, rfl, ⟨v0, rfl, g0⟩, ⟨_, _, rfl, rfl, ⟨_, _, rfl, rfl, rfl⟩⟩⟩ := h
  exact ⟨v0, rfl, g0⟩
theorem k25_mk (w : World) (x : S25) {A0 : Option Addr} {c0 : Nat} (l0 : x.f0.length ≤ c0) (g0 : (Kd.int .i64).C w A0 x.f0.length x.f0) : k25.K w x [.slice A0 x.f0.length c0, .int .i64 x.f1, .int .i64 x.f2, .int .i64 x.f3] := ⟨[.slice A0 x.f0.length c0], [.int .i64 x.f1, .int .i64 x.f2, .int .i64 x.f3], rfl, ⟨A0, c0, rfl, l0, g0⟩, ⟨[.int .i64 x.f1], [.int .i64 x.f2, .int .i64 x.f3], rfl, rfl, ⟨[.int .i64 x.f2], [.int .i64 x.f3], rfl, rfl, rfl⟩⟩⟩
theorem k25_mkM (w : World) (base : Nat) (ok : Nat → Prop) (x : S25) {v0 : Value} (g0 : (Kd.int .i64).R 3 w base ok v0 x.f0) : k25.M w base ok x [v0, .int .i64 x.f1, .int .i64 x.f2, .int .i64 x.f3] := ⟨[v0], [.int .i64 x.f1, .int .i64 x.f2, .int .i64 x.f3], rfl, ⟨v0, rfl, g0⟩, ⟨[.int .i64 x.f1], [.int .i64 x.f2, .int .i64 x.f3], rfl, rfl, ⟨[.int .i64 x.f2], [.int .i64 x.f3], rfl, rfl, rfl⟩⟩⟩
theorem k25_openF {W : World} {ok : Nat → Prop} {x : S25} {cs : List Value} (h : Kd.FK k25 W ok x cs) : ∃ A0 c0, cs = [.slice A0 x.f0.length c0, .int .i64 x.f1, .int .i64 x.f2, .int .i64 x.f3] ∧ x.f0.length ≤ c0 ∧ Kd.F (Kd.int .i64) W ok A0 x.f0.length x.f0 := by
  obtain ⟨A0, c0, rfl, l0, _⟩ := k25_open (Kd.FK_now h)
  exact ⟨A0, c0, rfl, l0, (fun W' hW => by obtain ⟨A0_, c0_, he, l0_, g0_⟩ := k25_open (h W' hW); injection (Option.some.inj (show some (Value.slice A0 x.f0.length c0) = some (Value.slice A0_ x.f0.length c0_) from congrArg (fun l => l[0]?) he)) with ha_ _ _; rw [ha_]; exact g0_)⟩
theorem k25_mkF (W : World) (ok : Nat → Prop) (x : S25) {A0 : Option Addr} {c0 : Nat} (l0 : x.f0.length ≤ c0) (g0 : Kd.F (Kd.int .i64) W ok A0 x.f0.length x.f0) : Kd.FK k25 W ok x [.slice A0 x.f0.length c0, .int .i64 x.f1, .int .i64 x.f2, .int .i64 x.f3] := fun W2 hW => k25_mk W2 x l0 (g0 W2 hW)
def rd_T25 (xs : List S25) (i : Int) : S25 := xs.getD i.toNat z25
theorem at_T25 {w : World} {A : Option Addr} {n : Nat} {xs : List S25} (h : Kd.C k25 w A n xs) (i : Int) (h0 : 0 ≤ i) (h1 : i < n) : ∃ ad A0 c0, A = some ad ∧ w.cell? (ad.add (i.toNat * 4)) = some (.slice A0 (rd_T25 xs i).f0.length c0) ∧ w.cell? ⟨(ad.add (i.toNat * 4)).block, (ad.add (i.toNat * 4)).off + 1, none⟩ = some (.int .i64 (rd_T25 xs i).f1) ∧ w.cell? ⟨(ad.add (i.toNat * 4)).block, (ad.add (i.toNat * 4)).off + 2, none⟩ = some (.int .i64 (rd_T25 xs i).f2) ∧ w.cell? ⟨(ad.add (i.toNat * 4)).block, (ad.add (i.toNat * 4)).off + 3, none⟩ = some (.int .i64 (rd_T25 xs i).f3) ∧ (rd_T25 xs i).f0.length ≤ c0 ∧ (Kd.int .i64).C w A0 (rd_T25 xs i).f0.length (rd_T25 xs i).f0 := by
  obtain ⟨ad, c, e, _, hK, hc0⟩ := Kd.C_get h z25 i h0 h1
  have hc : ∀ j u, c[j]? = some u → w.cell? (ad.add (i.toNat * 4 + j)) = some u := hc0
  obtain ⟨A0, c0, rfl, l0, g0⟩ := k25_open hK
  exact ⟨ad, A0, c0, e, hc 0 _ rfl, by rw [← add_field _ _ 1 (by omega)]; exact hc 1 _ rfl, by rw [← add_field _ _ 2 (by omega)]; exact hc 2 _ rfl, by rw [← add_field _ _ 3 (by omega)]; exact hc 3 _ rfl, l0, g0⟩

/-! #### struct type 30 -/
structure S30 where
  f0 : Int
  f1 : S25
  f2 : (List Int)
  f3 : Int
def z30 : S30 := ⟨(0 : Int), z25, ([] : List Int), (0 : Int)⟩
def k30 : Kd S30 := Kd.iso (Kd.pair (Kd.int .i64) (Kd.pair k25 (Kd.pair (Kd.slice 3 (Kd.int .i64)) (Kd.int .i64)))) (fun x : S30 => (x.f0, x.f1, x.f2, x.f3))
theorem k30_open {w : World} {x : S30} {cs : List Value} (h : k30.K w x cs) : ∃ A1 c1 A5 c5, cs = [.int .i64 x.f0, .slice A1 x.f1.f0.length c1, .int .i64 x.f1.f1, .int .i64 x.f1.f2, .int .i64 x.f1.f3, .slice A5 x.f2.length c5, .int .i64 x.f3] ∧ x.f1.f0.length ≤ c1 ∧ (Kd.int .i64).C w A1 x.f1.f0.length x.f1.f0 ∧ x.f2.length ≤ c5 ∧ (Kd.int .i64).C w A5 x.f2.length x.f2 := by
  obtain ⟨_, _, rfl, rfl, ⟨_, _, rfl, s1, ⟨_, _, rfl, ⟨A5, c5, rfl, l5, g5⟩, rfl⟩⟩⟩ := h
  obtain ⟨A1, c1, rfl, l1, g1⟩ := k25_open s1
  exact ⟨A1, c1, A5, c5, rfl, l1, g1, l5, g5⟩
theorem k30_openM {w : World} {base : Nat} {ok : Nat → Prop} {x : S30} {cs : List Value} (h : k30.M w base ok x cs) : ∃ v1 v5, cs = [.int .i64 x.f0, v1, .int .i64 x.f1.f1, .int .i64 x.f1.f2, .int .i64 x.f1.f3, v5, .int .i64 x.f3] ∧ (Kd.int .i64).R 3 w base ok v1 x.f1.f0 ∧ (Kd.int .i64).R 3 w base ok v5 x.f2 := by
  obtain ⟨_, _, rfl, rfl, ⟨_, _, rfl, s1, ⟨_, _, rfl, ⟨v5, rfl, g5⟩, rfl⟩⟩⟩ := h
  obtain ⟨v1, rfl, g1⟩ := k25_openM s1
  exact ⟨v1, v5, rfl, g1, g5⟩
theorem k30_mk (w : World) (x : S30) {A1 : Option Addr} {c1 : Nat} (l1 : x.f1.f0.length ≤ c1) (g1 : (Kd.int .i64).C w A1 x.f1.f0.length x.f1.f0) {A5 : Option Addr} {c5 : Nat} (l5 : x.f2.length ≤ c5) (g5 : (Kd.int .i64).C w A5 x.f2.length x.f2) : k30.K w x [.int .i64 x.f0, .slice A1 x.f1.f0.length c1, .int .i64 x.f1.f1, .int .i64 x.f1.f2, .int .i64 x.f1.f3, .slice A5 x.f2.length c5, .int .i64 x.f3] := ⟨[.int .i64 x.f0], [.slice A1 x.f1.f0.length c1, .int .i64 x.f1.f1, .int .i64 x.f1.f2, .int .i64 x.f1.f3, .slice A5 x.f2.length c5, .int .i64 x.f3], rfl, rfl, ⟨[.slice A1 x.f1.f0.length c1, .int .i64 x.f1.f1, .int .i64 x.f1.f2, .int .i64 x.f1.f3], [.slice A5 x.f2.length c5, .int .i64 x.f3], rfl, (k25_mk w x.f1 l1 g1), ⟨[.slice A5 x.f2.length c5], [.int .i64 x.f3], rfl, ⟨A5, c5, rfl, l5, g5⟩, rfl⟩⟩⟩
theorem k30_mkM (w : World) (base : Nat) (ok : Nat → Prop) (x : S30) {v1 : Value} (g1 : (Kd.int .i64).R 3 w base ok v1 x.f1.f0) {v5 : Value} (g5 : (Kd.int .i64).R 3 w base ok v5 x.f2) : k30.M w base ok x [.int .i64 x.f0, v1, .int .i64 x.f1.f1, .int .i64 x.f1.f2, .int .i64 x.f1.f3, v5, .int .i64 x.f3] := ⟨[.int .i64 x.f0], [v1, .int .i64 x.f1.f1, .int .i64 x.f1.f2, .int .i64 x.f1.f3, v5, .int .i64 x.f3], rfl, rfl, ⟨[v1, .int .i64 x.f1.f1, .int .i64 x.f1.f2, .int .i64 x.f1.f3], [v5, .int .i64 x.f3], rfl, (k25_mkM w base ok x.f1 g1), ⟨[v5], [.int .i64 x.f3], rfl, ⟨v5, rfl, g5⟩, rfl⟩⟩⟩
theorem k30_openF {W : World} {ok : Nat → Prop} {x : S30} {cs : List Value} (h : Kd.FK k30 W ok x cs) : ∃ A1 c1 A5 c5, cs = [.int .i64 x.f0, .slice A1 x.f1.f0.length c1, .int .i64 x.f1.f1, .int .i64 x.f1.f2, .int .i64 x.f1.f3, .slice A5 x.f2.length c5, .int .i64 x.f3] ∧ x.f1.f0.length ≤ c1 ∧ Kd.F (Kd.int .i64) W ok A1 x.f1.f0.length x.f1.f0 ∧ x.f2.length ≤ c5 ∧ Kd.F (Kd.int .i64) W ok A5 x.f2.length x.f2 := by
  obtain ⟨A1, c1, A5, c5, rfl, l1, _, l5, _⟩ := k30_open (Kd.FK_now h)
  exact ⟨A1, c1, A5, c5, rfl, l1, (fun W' hW => by obtain ⟨A1_, c1_, A5_, c5_, he, l1_, g1_, l5_, g5_⟩ := k30_open (h W' hW); injection (Option.some.inj (show some (Value.slice A1 x.f1.f0.length c1) = some (Value.slice A1_ x.f1.f0.length c1_) from congrArg (fun l => l[1]?) he)) with ha_ _ _; rw [ha_]; exact g1_), l5, (fun W' hW => by obtain ⟨A1_, c1_, A5_, c5_, he, l1_, g1_, l5_, g5_⟩ := k30_open (h W' hW); injection (Option.some.inj (show some (Value.slice A5 x.f2.length c5) = some (Value.slice A5_ x.f2.length c5_) from congrArg (fun l => l[5]?) he)) with ha_ _ _; rw [ha_]; exact g5_)⟩
theorem k30_mkF (W : World) (ok : Nat → Prop) (x : S30) {A1 : Option Addr} {c1 : Nat} (l1 : x.f1.f0.length ≤ c1) (g1 : Kd.F (Kd.int .i64) W ok A1 x.f1.f0.length x.f1.f0) {A5 : Option Addr} {c5 : Nat} (l5 : x.f2.length ≤ c5) (g5 : Kd.F (Kd.int .i64) W ok A5 x.f2.length x.f2) : Kd.FK k30 W ok x [.int .i64 x.f0, .slice A1 x.f1.f0.length c1, .int .i64 x.f1.f1, .int .i64 x.f1.f2, .int .i64 x.f1.f3, .slice A5 x.f2.length c5, .int .i64 x.f3] := fun W2 hW => k30_mk W2 x l1 (g1 W2 hW) l5 (g5 W2 hW)
def rd_T30 (xs : List S30) (i : Int) : S30 := xs.getD i.toNat z30
theorem at_T30 {w : World} {A : Option Addr} {n : Nat} {xs : List S30} (h : Kd.C k30 w A n xs) (i : Int) (h0 : 0 ≤ i) (h1 : i < n) : ∃ ad A1 c1 A5 c5, A = some ad ∧ w.cell? (ad.add (i.toNat * 7)) = some (.int .i64 (rd_T30 xs i).f0) ∧ w.cell? ⟨(ad.add (i.toNat * 7)).block, (ad.add (i.toNat * 7)).off + 1, none⟩ = some (.slice A1 (rd_T30 xs i).f1.f0.length c1) ∧ w.cell? ⟨(ad.add (i.toNat * 7)).block, (ad.add (i.toNat * 7)).off + 2, none⟩ = some (.int .i64 (rd_T30 xs i).f1.f1) ∧ w.cell? ⟨(ad.add (i.toNat * 7)).block, (ad.add (i.toNat * 7)).off + 3, none⟩ = some (.int .i64 (rd_T30 xs i).f1.f2) ∧ w.cell? ⟨(ad.add (i.toNat * 7)).block, (ad.add (i.toNat * 7)).off + 4, none⟩ = some (.int .i64 (rd_T30 xs i).f1.f3) ∧ w.cell? ⟨(ad.add (i.toNat * 7)).block, (ad.add (i.toNat * 7)).off + 5, none⟩ = some (.slice A5 (rd_T30 xs i).f2.length c5) ∧ w.cell? ⟨(ad.add (i.toNat * 7)).block, (ad.add (i.toNat * 7)).off + 6, none⟩ = some (.int .i64 (rd_T30 xs i).f3) ∧ (rd_T30 xs i).f1.f0.length ≤ c1 ∧ (Kd.int .i64).C w A1 (rd_T30 xs i).f1.f0.length (rd_T30 xs i).f1.f0 ∧ (rd_T30 xs i).f2.length ≤ c5 ∧ (Kd.int .i64).C w A5 (rd_T30 xs i).f2.length (rd_T30 xs i).f2 := by
  obtain ⟨ad, c, e, _, hK, hc0⟩ := Kd.C_get h z30 i h0 h1
  have hc : ∀ j u, c[j]? = some u → w.cell? (ad.add (i.toNat * 7 + j)) = some u := hc0
  obtain ⟨A1, c1, A5, c5, rfl, l1, g1, l5, g5⟩ := k30_open hK
  exact ⟨ad, A1, c1, A5, c5, e, hc 0 _ rfl, by rw [← add_field _ _ 1 (by omega)]; exact hc 1 _ rfl, by rw [← add_field _ _ 2 (by omega)]; exact hc 2 _ rfl, by rw [← add_field _ _ 3 (by omega)]; exact hc 3 _ rfl, by rw [← add_field _ _ 4 (by omega)]; exact hc 4 _ rfl, by rw [← add_field _ _ 5 (by omega)]; exact hc 5 _ rfl, by rw [← add_field _ _ 6 (by omega)]; exact hc 6 _ rfl, l1, g1, l5, g5⟩

def rd_L11 (xs : List (List Int)) (i : Int) : (List Int) := xs.getD i.toNat ([] : List Int)
theorem at_L11 {w : World} {A : Option Addr} {n : Nat} {xs : List (List Int)} (h : Kd.C (Kd.slice 41 (Kd.int .u16)) w A n xs) (i : Int) (h0 : 0 ≤ i) (h1 : i < n) : ∃ ad A0 c0, A = some ad ∧ w.cell? (ad.add i.toNat) = some (.slice A0 (rd_L11 xs i).length c0) ∧ (rd_L11 xs i).length ≤ c0 ∧ (Kd.int .u16).C w A0 (rd_L11 xs i).length (rd_L11 xs i) := by
  obtain ⟨ad, c, e, _, hK, hc0⟩ := Kd.C_get h ([] : List Int) i h0 h1
  have hc : ∀ j u, c[j]? = some u → w.cell? (ad.add (i.toNat * 1 + j)) = some u := hc0
  obtain ⟨A0, c0, rfl, l0, g0⟩ := hK
  exact ⟨ad, A0, c0, e, by have hq := hc 0 _ rfl; rwa [Nat.mul_one, Nat.add_zero] at hq, l0, g0⟩

end Go.Proofs.Ytanfmnobanhcnaa.PRec3
