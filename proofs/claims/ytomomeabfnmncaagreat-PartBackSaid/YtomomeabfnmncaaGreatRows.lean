/-
  No cell of these rows narrows 'for every input' (looked for: loops, veiled, ifaces, maps, wideKeys, modest, calm, conditions, laid).
  DERIVED. THE GIVEN ROWS OF THIS SEAT. 3 by the template 'for every input the law returns true; each argument reads behind the call as it read before'; 0 by the template 'total and deterministic' (their statements: YtomomeabfnmncaaGreatTotals.lean).
  GIVEN WITH THE SEED: the statements are not yours to turn. If you find one false, say at which input.
  Laid BY PROGRAM, IN A SANDBOX (cutbox-rows.mjs): the forced cells as the released guide's own fill.sh prints them over the translation 43a548a8d16268a6… (all of the seat's roots in one cut). By AI agents, Wed Nov 11 2026. No macro, syntax, notation, axiom, sorry.
-/
import Derived.Test.YtomomeabfnmncaaGreatChecked
import GoSem.Claim
import GoSem.ClaimJoined
import GoSem.ClaimMapViews
import Derived.JoinedTies
import Derived.KernelRfl
namespace Go.Proofs.YtomomeabfnmncaaGreat
/- THE CELL 'sum', in the pinned program and in every row, IS THE sha256 OF THE DUMP (.gsa) THAT YtomomeabfnmncaaGreatProg.lean LOADS. Nothing in Lean hashes anything: it is a label: what it is worth is what the hold of that sum in a sandbox is worth. -/
noncomputable def Tryz.pinned : Pinned := { name := "ytomomeabfnmncaagreat", sum := "43a548a8d16268a603d5c9165ff5e3660d6eb3652ef846e96b64edfff365e98e", checked := Tryz.checked }
namespace Rows
def none {H : Type} : Left H := { results := [], args := [] }

/-- 'thresherlaw11.PartBack': WHATEVER THE INPUT: true; the input reads as it did. -/
def partBackSpec : ChangeSpec := { name := "partBack", fn := fun _ => fun
  | [d1, d2, d3] => { results := [.lit (.bool true)], args := [d1, d2, d3] }
  | _ => none }
def partBackRow : OpenClaim := { program := "ytomomeabfnmncaagreat", sum := "43a548a8d16268a603d5c9165ff5e3660d6eb3652ef846e96b64edfff365e98e", func := "thresher/thresherlaw11.PartBack", spec := "partBack", inPlace := ["internal/bytealg.abigen_runtime_cmpstring"], unfollowed := true, recurses := true, plainKeys := false, apart := false }
def PartBackSaid : Prop := partBackRow.holds Tryz.pinned (OpenSpec.ofChange partBackSpec)

/-- ITS FALSE NEIGHBOUR: 'it returns false'. Refute it at one input. -/
def partBackWrong : ChangeSpec := { name := "partBack", fn := fun _ => fun
  | [d1, d2, d3] => { results := [.lit (.bool false)], args := [d1, d2, d3] }
  | _ => none }
def PartBackWrongFalsely : Prop := partBackRow.holds Tryz.pinned (OpenSpec.ofChange partBackWrong)

/-- 'thresherlaw11.PartOwn': WHATEVER THE INPUT: true; the input reads as it did. -/
def partOwnSpec : ChangeSpec := { name := "partOwn", fn := fun _ => fun
  | [d1, d2] => { results := [.lit (.bool true)], args := [d1, d2] }
  | _ => none }
def partOwnRow : OpenClaim := { program := "ytomomeabfnmncaagreat", sum := "43a548a8d16268a603d5c9165ff5e3660d6eb3652ef846e96b64edfff365e98e", func := "thresher/thresherlaw11.PartOwn", spec := "partOwn", inPlace := ["internal/bytealg.abigen_runtime_cmpstring"], unfollowed := true, recurses := true, plainKeys := false, apart := false }
def PartOwnSaid : Prop := partOwnRow.holds Tryz.pinned (OpenSpec.ofChange partOwnSpec)

/-- ITS FALSE NEIGHBOUR: 'it returns false'. Refute it at one input. -/
def partOwnWrong : ChangeSpec := { name := "partOwn", fn := fun _ => fun
  | [d1, d2] => { results := [.lit (.bool false)], args := [d1, d2] }
  | _ => none }
def PartOwnWrongFalsely : Prop := partOwnRow.holds Tryz.pinned (OpenSpec.ofChange partOwnWrong)

/-- 'thresherlaw11.PartAll': WHATEVER THE INPUT: true; the input reads as it did. -/
def partAllSpec : ChangeSpec := { name := "partAll", fn := fun _ => fun
  | [d1, d2, d3] => { results := [.lit (.bool true)], args := [d1, d2, d3] }
  | _ => none }
def partAllRow : OpenClaim := { program := "ytomomeabfnmncaagreat", sum := "43a548a8d16268a603d5c9165ff5e3660d6eb3652ef846e96b64edfff365e98e", func := "thresher/thresherlaw11.PartAll", spec := "partAll", inPlace := ["internal/bytealg.abigen_runtime_cmpstring"], unfollowed := true, recurses := true, plainKeys := false, apart := false }
def PartAllSaid : Prop := partAllRow.holds Tryz.pinned (OpenSpec.ofChange partAllSpec)

/-- ITS FALSE NEIGHBOUR: 'it returns false'. Refute it at one input. -/
def partAllWrong : ChangeSpec := { name := "partAll", fn := fun _ => fun
  | [d1, d2, d3] => { results := [.lit (.bool false)], args := [d1, d2, d3] }
  | _ => none }
def PartAllWrongFalsely : Prop := partAllRow.holds Tryz.pinned (OpenSpec.ofChange partAllWrong)

/- THE SECOND FORM. 'bulk': how many values and letters a reading holds, each counted each time it is reached (what is shared counts as often as it is met; a slice's spare places count too). A statement '..UptoSaid' is the law's where the arguments, and the package variables that the reading takes, are together of bulk at most 1048576: NARROWER than '..Said'. Prove '..Said' where nothing that the law and all that it calls make is longer than what came in: it says more and counts as full. Else prove '..UptoSaid'. A law counts once. -/
mutual
def uptoBulk {H : Type} : DataW H → Nat
  | .lit (.string bytes) => bytes.length + 1
  | .lit _ => 1
  | .nil => 1
  | .ptr d => uptoBulk d + 1
  | .slice elems spare => uptoBulkAll elems + uptoBulkAll spare + 1
  | .agg parts => uptoBulkAll parts + 1
  | .iface _ d => uptoBulk d + 1
  | .map entries => uptoBulkEntries entries + 1
  | .held _ => 1
def uptoBulkAll {H : Type} : List (DataW H) → Nat
  | [] => 0
  | d :: r => uptoBulk d + uptoBulkAll r
def uptoBulkEntries {H : Type} : List (Lit × DataW H) → Nat
  | [] => 0
  | x :: r => uptoBulkEntry x + uptoBulkEntries r
def uptoBulkEntry {H : Type} : Lit × DataW H → Nat
  | (.string bytes, d) => bytes.length + uptoBulk d + 1
  | (_, d) => uptoBulk d + 1
 end
def uptoSmall : (H : Type) → List (DataW H) → Bool := fun _ ds => decide (uptoBulkAll ds ≤ 1048576)
def OpenSpec.upto (s : _root_.Go.ChangeSpec) : _root_.Go.OpenSpec := { _root_.Go.OpenSpec.ofChange s with cond := some uptoSmall }

/-- 'thresherlaw11.PartBack', WHERE WHAT IT READS IS OF BULK AT MOST 1048576: true; the input reads as it did. -/
def partBackUptoRow : OpenClaim := { program := "ytomomeabfnmncaagreat", sum := "43a548a8d16268a603d5c9165ff5e3660d6eb3652ef846e96b64edfff365e98e", func := "thresher/thresherlaw11.PartBack", spec := "partBack", inPlace := ["internal/bytealg.abigen_runtime_cmpstring"], unfollowed := true, recurses := true, plainKeys := false, apart := false, narrowed := true }
def PartBackUptoSaid : Prop := partBackUptoRow.holds Tryz.pinned (OpenSpec.upto partBackSpec)

/-- 'thresherlaw11.PartOwn', WHERE WHAT IT READS IS OF BULK AT MOST 1048576: true; the input reads as it did. -/
def partOwnUptoRow : OpenClaim := { program := "ytomomeabfnmncaagreat", sum := "43a548a8d16268a603d5c9165ff5e3660d6eb3652ef846e96b64edfff365e98e", func := "thresher/thresherlaw11.PartOwn", spec := "partOwn", inPlace := ["internal/bytealg.abigen_runtime_cmpstring"], unfollowed := true, recurses := true, plainKeys := false, apart := false, narrowed := true }
def PartOwnUptoSaid : Prop := partOwnUptoRow.holds Tryz.pinned (OpenSpec.upto partOwnSpec)

/-- 'thresherlaw11.PartAll', WHERE WHAT IT READS IS OF BULK AT MOST 1048576: true; the input reads as it did. -/
def partAllUptoRow : OpenClaim := { program := "ytomomeabfnmncaagreat", sum := "43a548a8d16268a603d5c9165ff5e3660d6eb3652ef846e96b64edfff365e98e", func := "thresher/thresherlaw11.PartAll", spec := "partAll", inPlace := ["internal/bytealg.abigen_runtime_cmpstring"], unfollowed := true, recurses := true, plainKeys := false, apart := false, narrowed := true }
def PartAllUptoSaid : Prop := partAllUptoRow.holds Tryz.pinned (OpenSpec.upto partAllSpec)

end Rows
end Go.Proofs.YtomomeabfnmncaaGreat
