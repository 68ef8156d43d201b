/-
The statement SnapNames of the given program: each part has a name of its own, that it is told back, and that no other text is one; of every input; of the library's five listed variables it is read that they are as the program's text lays them (tied in the card).
-/
import Derived.Test.YthfkegkjnhebcaaDoorRows
import Derived.Test.YthfkegkjnhebcaaDoorCards
import Derived.Test.YthfkegkjnhebcaaDoorTie
import Derived.Test.YthfkegkjnhebcaaDoorLaw0
import Derived.Lib.LaidTab
import Derived.Stop.LaidErr
import Derived.SizedLaws
import Derived.ChangeSame
import Derived.ChangeVars
import Derived.ChangeMaps5
import Derived.JoinedOf
import Derived.JoinedAt
import Derived.RowKit
import Derived.RowKit3
import Derived.RowKitTokens
import Derived.LaidLaws
import Derived.SevenTiedAt
import Derived.Deep.DeepLaidRun
import Derived.WalkKit
import Derived.ProofKit
import Derived.OpenShut
import Derived.ShutString
set_option linter.unusedVariables false
set_option linter.unusedSimpArgs false
namespace Go.Proofs.YthfkegkjnhebcaaDoor
open Go Go.ChangeShapes Go.WideShapes Go.ChangeAt Go.RowKit
open Go.ChangeMaps (open_string shut_string)

theorem ownKnobIs : ownKnob Tryd.prog.godebug = none := by kernel_rfl
theorem gPType : (Tryd.prog.globals[2]?).map (·.type) = some 59 := by kernel_rfl
theorem gSType : (Tryd.prog.globals[0]?).map (·.type) = some 31 := by kernel_rfl
theorem gRType : (Tryd.prog.globals[1]?).map (·.type) = some 31 := by kernel_rfl
theorem starIs : "*" ++ "errors.errorString" = "*errors.errorString" := by decide
theorem row66 (u : TypeId) (h : Tryd.prog.typeName? 3 u = some "*errors.errorString") : u = 66 :=
  typeName_ptr_named (nm := "errors.errorString") (by rw [starIs]; kernel_rfl) (by kernel_rfl) (by decide) u (by rw [starIs]; exact h)
theorem vars_of {W : World} (h : laidMet Tryd.prog Rows.snapNamesRow.laid W) : Vars W := by
  have hL : laidMet Tryd.prog [("math/bits.deBruijn32tab", Rows.laid_math_bits_deBruijn32tab), ("math/bits.deBruijn64tab", Rows.laid_math_bits_deBruijn64tab), ("internal/strconv.uint64pow10", Rows.laid_internal_strconv_uint64pow10), ("strconv.ErrRange", Rows.laid_strconv_ErrRange), ("strconv.ErrSyntax", Rows.laid_strconv_ErrSyntax)] W := h
  have h3 : laidMet Tryd.prog [("internal/strconv.uint64pow10", Lib.tabData .u64 Lib.pow10Tab), ("strconv.ErrRange", Rows.laid_strconv_ErrRange), ("strconv.ErrSyntax", Rows.laid_strconv_ErrSyntax)] W := hL.tail.tail
  obtain ⟨a0, s0, hv0, -, -, -⟩ := laid_sentinel h3.tail gR gRType Tryd.underlying31 row66 Tryd.underlying66 Tryd.underlying68 rfl rfl Tryd.underlying9 (by kernel_rfl) (by kernel_rfl)
  obtain ⟨a1, s1, hv1, -, -, -⟩ := laid_sentinel h3.tail.tail gS gSType Tryd.underlying31 row66 Tryd.underlying66 Tryd.underlying68 rfl rfl Tryd.underlying9 (by kernel_rfl) (by kernel_rfl)
  exact ⟨Lib.tabIs_of_head gP gPType Tryd.underlying59 Tryd.underlying45 (by kernel_rfl) (by kernel_rfl) h3, ⟨_, _, hv1⟩, ⟨_, _, hv0⟩⟩

/-! ### One start that fits: the tables and the two sentinels as their initialisers lay them -/
abbrev synS : ByteArray := { data := #[105, 110, 118, 97, 108, 105, 100, 32, 115, 121, 110, 116, 97, 120] }
abbrev rngS : ByteArray := { data := #[118, 97, 108, 117, 101, 32, 111, 117, 116, 32, 111, 102, 32, 114, 97, 110, 103, 101] }
def tabOf : DataW Unit → List Value
  | .agg ds => ds.filterMap fun | .lit (.int k n) => some (.int k n) | _ => none
  | _ => []
noncomputable def laidWorld (os : Os) : World :=
  let M := (World.settled Tryd.prog os).heap.size
  let w0 := World.holding Tryd.prog os ⟨#[.cells #[.string synS] 68, .cells #[.string rngS] 68], #[], []⟩
  let put (h : Array Obj) (g : Nat) (cs : Array Value) : Array Obj := h.modify g fun
    | .cells _ t frozen => .cells cs t frozen
    | o => o
  { w0 with heap := put (put (put (put (put w0.heap 0 #[.iface 66 (.pointer (some ⟨M, 0, none⟩))]) 1 #[.iface 66 (.pointer (some ⟨M + 1, 0, none⟩))])
      2 (tabOf Rows.laid_internal_strconv_uint64pow10).toArray) 3 (tabOf Rows.laid_math_bits_deBruijn32tab).toArray) 4 (tabOf Rows.laid_math_bits_deBruijn64tab).toArray }
theorem laidWorld_met (os : Os) (args : Array Value) : laidMet Tryd.prog Rows.snapNamesRow.laid ((laidWorld os).forCall (fun _ _ => 0) ⟨#[], args, []⟩).memory :=
  laidMet_of_run3 10 (by kernel_rfl) (by kernel_rfl) (by kernel_rfl)

set_option maxRecDepth 100000 in
theorem lifted (os : Os) (started : os.Started) (H : Type) (enc : TypeId × Value → H) :
    ReturnsInHanded {} Tryd.checked os 3 .any (fun w args => (Rows.snapNamesSpec.pre enc Tryd.prog Tryd.f3 Rows.snapNamesRow.domain false w args ∧ laidMet Tryd.prog Rows.snapNamesRow.laid w) ∧ sizedMet enc Tryd.prog Tryd.f3 (OpenSpec.ofChange Rows.snapNamesSpec) false w args)
      (Rows.snapNamesSpec.post enc Tryd.prog Tryd.f3 false true false false) := by
  refine returnsInHanded_of_change_and (C := Tryd.checked) (X := fun w _ => laidMet Tryd.prog Rows.snapNamesRow.laid w) (fun _ _ _ hh h => h.of_heap hh) ownKnobIs started (by kernel_rfl) Tryd.func3
    (ChangeSpec.witness_at (enc := enc) (C := Tryd.checked) (os := os) (X := fun w _ => laidMet Tryd.prog Rows.snapNamesRow.laid w) false (laidWorld os) #[.int .u32 0, .int .u32 0, .string ⟨#[]⟩] 8 rfl (by kernel_rfl) (by kernel_rfl) (by kernel_rfl) (by kernel_rfl) (by kernel_rfl) (laidWorld_met os _)) ?_
  intro W base args ds gs before hval0 hW _ hsz0 hL _
  have hsz : (DataW.weightsEach Tryd.prog (Tryd.f3.params.toList ++ Rows.snapNamesSpec.plain.varTypes Tryd.prog) (ds ++ gs)).all (· ≤ reachBytes) = true := hsz0
  clear hsz0
  have hval : ∀ (j : Nat) t v, Tryd.f3.params[j]? = some t → args[j]? = some v → Value.okWide Tryd.prog W .any base t v := hval0
  have hW' := hW
  obtain ⟨p, q, hA0, hV, rfl, _, _⟩ := hW
  have hA : DataW.TrodAll enc Tryd.prog W 0 (fun _ => true) true Tryd.f3.params.toList args.toList ds p := hA0
  rw [Tryd.params3] at hA hval hsz
  obtain ⟨v0, vs0, d0, ds0, p0, q0, hargs, rfl, rfl, h0, r0⟩ := trodAll_cons hA
  obtain ⟨v1, vs1, d1, ds1, p1, q1, rfl, rfl, rfl, h1, r1⟩ := trodAll_cons r0
  obtain ⟨v2, vs2, d2, ds2, p2, q2, rfl, rfl, rfl, h2, r2⟩ := trodAll_cons r1
  obtain ⟨rfl, rfl, rfl⟩ := trodAll_nil r2
  obtain rfl : args = #[v0, v1, v2] := by cases args; simp_all
  obtain ⟨rfl, rfl⟩ := trodVars_none hV
  obtain ⟨a, rfl, rfl, rfl, w0⟩ := open_int Tryd.underlying22 (hval 0 22 v0 rfl rfl) h0
  obtain ⟨b, rfl, rfl, rfl, w1⟩ := open_int Tryd.underlying22 (hval 1 22 v1 rfl rfl) h1
  obtain ⟨s, rfl, rfl, rfl, hs⟩ := open_string Tryd.underlying9 (hval 2 9 v2 rfl rfl) h2
  clear hA0 hval0
  have hlim : s.size ≤ 140737488351232 := by
    have z := sized_string hsz (j := 2) (t := 9) rfl rfl
    rw [Array.length_toList] at z
    exact z
  have wf32 : ∀ x : Int, (Lit.int .u32 x).wf = true → 0 ≤ x ∧ x < 4294967296 := by
    intro x hx
    have e1 : IntKind.u32.min = 0 := rfl
    have e2 : IntKind.u32.max = 4294967295 := rfl
    simp [Lit.wf, e1, e2] at hx
    omega
  have b0 := wf32 a w0
  have b1 := wf32 b w1
  obtain ⟨m, rfl⟩ := Int.eq_ofNat_of_zero_le b0.1
  obtain ⟨n, rfl⟩ := Int.eq_ofNat_of_zero_le b1.1
  refine (law_calls m n s (by omega) (by omega) hlim W (vars_of hL)).mono fun e W' ⟨he, bel⟩ => ?_
  subst he
  exact ⟨_, rfl, _, _, _, [], _, [], hW', trodAll_mk1 (shut_bool Tryd.underlying4 _), (trodAll_cons_mk (shut_int Tryd.underlying22 w0) (trodAll_cons_mk (shut_int Tryd.underlying22 w1) (trodAll_cons_mk (shut_string Tryd.underlying9 hs) trodAll_mk0))), rfl, bel.frame _, fun h => by cases h⟩
theorem over : Rows.SnapNamesSaid :=
  OpenClaim.holds_of_wide 3 Tryd.f3 rfl rfl rfl rfl rfl rfl rfl ⟨rfl, rfl, rfl, rfl, rfl⟩ rfl rfl rfl rfl rfl (by kernel_rfl) Tryd.func3 (by kernel_rfl)
    (of_decide_eq_true (by kernel_rfl)) (by unfold Func.isWrapper; first | (rw [if_pos (by decide +kernel)]; kernel_rfl) | (rw [if_neg (by decide +kernel)]; exact ⟨rfl, rfl⟩))
    (fun os started H enc _ => lifted os started H enc)
/-- The tied card of the law. -/
theorem snapNames_holds : Rows.SnapNamesCardSaid :=
  Claim7.holds_tied_plain_at .later [] [.data, .data, .data, .sentinel, .sentinel] true (true, "502714aa6ac82cae91fb725d97b9b4387f728359178569093e37418943104029") true
    over (fun _ h => by cases h) (by kernel_rfl) (fun _ h => by cases h) snapNames_row_tie rfl ⟨rfl, rfl⟩ (by kernel_rfl) rfl
    (fun f fn hf hfn => by
      obtain rfl : f = 3 := Option.some.inj ((show Tryd.prog.funcNamed "thresher/thresherlaw18.SnapNames" = some 3 by kernel_rfl).symm.trans hf) |>.symm
      obtain rfl : fn = Tryd.f3 := (Option.some.inj (Tryd.func3.symm.trans hfn)).symm
      exact ⟨by kernel_rfl, fun j t ht => by
        rw [Tryd.params3] at ht
        have h3 : t = 22 ∨ t = 9 := by
          rcases j with _ | _ | _ | j
          · left; simpa using ht.symm
          · left; simpa using ht.symm
          · right; simpa using ht.symm
          · simp at ht
        rcases h3 with rfl | rfl
        · exact (show Tryd.prog.wantsStandIn 22 = false by kernel_rfl)
        · exact (show Tryd.prog.wantsStandIn 9 = false by kernel_rfl)⟩)
    (by kernel_rfl)
#print axioms snapNames_holds
end Go.Proofs.YthfkegkjnhebcaaDoor
