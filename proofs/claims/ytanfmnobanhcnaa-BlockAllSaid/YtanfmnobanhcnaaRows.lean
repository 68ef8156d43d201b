/-
  No cell of these rows narrows 'for every input' (looked for: loops, veiled, ifaces, maps, wideKeys, modest, calm, conditions, laid).
  DERIVED. THE GIVEN ROWS OF THIS SEAT. 12 by the template 'for every input the law returns true; each argument reads behind the call as it read before'; 0 by the template 'total and deterministic' (their statements: YtanfmnobanhcnaaTotals.lean).
  GIVEN WITH THE SEED: the statements are not yours to turn. If you find one false, say at which input.
  Laid BY PROGRAM, IN A SANDBOX (cutbox-rows.mjs): the forced cells as the released guide's own fill.sh prints them over the translation 7ddda63f9215ac86… (all of the seat's roots in one cut). By AI agents, Wed Nov 11 2026. No macro, syntax, notation, axiom, sorry.
-/
import Derived.Test.YtanfmnobanhcnaaChecked
import GoSem.Claim
import GoSem.ClaimJoined
import GoSem.ClaimMapViews
import Derived.JoinedTies
import Derived.KernelRfl
namespace Go.Proofs.Ytanfmnobanhcnaa
/- THE CELL 'sum', in the pinned program and in every row, IS THE sha256 OF THE DUMP (.gsa) THAT YtanfmnobanhcnaaProg.lean LOADS. Nothing in Lean hashes anything: it is a label: what it is worth is what the hold of that sum in a sandbox is worth. -/
noncomputable def Try.pinned : Pinned := { name := "ytanfmnobanhcnaa", sum := "7ddda63f9215ac868195a7e4eab481798e9a79388d6fd8d058ba60567a73838a", checked := Try.checked }
namespace Rows
def none {H : Type} : Left H := { results := [], args := [] }

/-- 'thresherlaw16.RecordRefuses': WHATEVER THE INPUT: true; the input reads as it did. -/
def recordRefusesSpec : ChangeSpec := { name := "recordRefuses", fn := fun _ => fun
  | [d1, d2, d3] => { results := [.lit (.bool true)], args := [d1, d2, d3] }
  | _ => none }
def recordRefusesRow : OpenClaim := { program := "ytanfmnobanhcnaa", sum := "7ddda63f9215ac868195a7e4eab481798e9a79388d6fd8d058ba60567a73838a", func := "thresher/thresherlaw16.RecordRefuses", spec := "recordRefuses", unfollowed := true, recurses := true, plainKeys := false, apart := false }
def RecordRefusesSaid : Prop := recordRefusesRow.holds Try.pinned (OpenSpec.ofChange recordRefusesSpec)

/-- ITS FALSE NEIGHBOUR: 'it returns false'. Refute it at one input. -/
def recordRefusesWrong : ChangeSpec := { name := "recordRefuses", fn := fun _ => fun
  | [d1, d2, d3] => { results := [.lit (.bool false)], args := [d1, d2, d3] }
  | _ => none }
def RecordRefusesWrongFalsely : Prop := recordRefusesRow.holds Try.pinned (OpenSpec.ofChange recordRefusesWrong)

/-- 'thresherlaw16.RecordAll': WHATEVER THE INPUT: true; the input reads as it did. -/
def recordAllSpec : ChangeSpec := { name := "recordAll", fn := fun _ => fun
  | [d1, d2] => { results := [.lit (.bool true)], args := [d1, d2] }
  | _ => none }
def recordAllRow : OpenClaim := { program := "ytanfmnobanhcnaa", sum := "7ddda63f9215ac868195a7e4eab481798e9a79388d6fd8d058ba60567a73838a", func := "thresher/thresherlaw16.RecordAll", spec := "recordAll", unfollowed := true, recurses := true, plainKeys := false, apart := false }
def RecordAllSaid : Prop := recordAllRow.holds Try.pinned (OpenSpec.ofChange recordAllSpec)

/-- ITS FALSE NEIGHBOUR: 'it returns false'. Refute it at one input. -/
def recordAllWrong : ChangeSpec := { name := "recordAll", fn := fun _ => fun
  | [d1, d2] => { results := [.lit (.bool false)], args := [d1, d2] }
  | _ => none }
def RecordAllWrongFalsely : Prop := recordAllRow.holds Try.pinned (OpenSpec.ofChange recordAllWrong)

/-- 'thresherlaw16.RecordBack': WHATEVER THE INPUT: true; the input reads as it did. -/
def recordBackSpec : ChangeSpec := { name := "recordBack", fn := fun _ => fun
  | [d1, d2, d3] => { results := [.lit (.bool true)], args := [d1, d2, d3] }
  | _ => none }
def recordBackRow : OpenClaim := { program := "ytanfmnobanhcnaa", sum := "7ddda63f9215ac868195a7e4eab481798e9a79388d6fd8d058ba60567a73838a", func := "thresher/thresherlaw16.RecordBack", spec := "recordBack", unfollowed := true, recurses := true, plainKeys := false, apart := false }
def RecordBackSaid : Prop := recordBackRow.holds Try.pinned (OpenSpec.ofChange recordBackSpec)

/-- ITS FALSE NEIGHBOUR: 'it returns false'. Refute it at one input. -/
def recordBackWrong : ChangeSpec := { name := "recordBack", fn := fun _ => fun
  | [d1, d2, d3] => { results := [.lit (.bool false)], args := [d1, d2, d3] }
  | _ => none }
def RecordBackWrongFalsely : Prop := recordBackRow.holds Try.pinned (OpenSpec.ofChange recordBackWrong)

/-- 'thresherlaw16.RecordOne': WHATEVER THE INPUT: true; the input reads as it did. -/
def recordOneSpec : ChangeSpec := { name := "recordOne", fn := fun _ => fun
  | [d] => { results := [.lit (.bool true)], args := [d] }
  | _ => none }
def recordOneRow : OpenClaim := { program := "ytanfmnobanhcnaa", sum := "7ddda63f9215ac868195a7e4eab481798e9a79388d6fd8d058ba60567a73838a", func := "thresher/thresherlaw16.RecordOne", spec := "recordOne", unfollowed := true, recurses := true, plainKeys := false, apart := false }
def RecordOneSaid : Prop := recordOneRow.holds Try.pinned (OpenSpec.ofChange recordOneSpec)

/-- ITS FALSE NEIGHBOUR: 'it returns false'. Refute it at one input. -/
def recordOneWrong : ChangeSpec := { name := "recordOne", fn := fun _ => fun
  | [d] => { results := [.lit (.bool false)], args := [d] }
  | _ => none }
def RecordOneWrongFalsely : Prop := recordOneRow.holds Try.pinned (OpenSpec.ofChange recordOneWrong)

/-- 'thresherlaw16.RecordTurns': WHATEVER THE INPUT: true; the input reads as it did. -/
def recordTurnsSpec : ChangeSpec := { name := "recordTurns", fn := fun _ => fun
  | [d1, d2] => { results := [.lit (.bool true)], args := [d1, d2] }
  | _ => none }
def recordTurnsRow : OpenClaim := { program := "ytanfmnobanhcnaa", sum := "7ddda63f9215ac868195a7e4eab481798e9a79388d6fd8d058ba60567a73838a", func := "thresher/thresherlaw16.RecordTurns", spec := "recordTurns", unfollowed := true, recurses := true, plainKeys := false, apart := false }
def RecordTurnsSaid : Prop := recordTurnsRow.holds Try.pinned (OpenSpec.ofChange recordTurnsSpec)

/-- ITS FALSE NEIGHBOUR: 'it returns false'. Refute it at one input. -/
def recordTurnsWrong : ChangeSpec := { name := "recordTurns", fn := fun _ => fun
  | [d1, d2] => { results := [.lit (.bool false)], args := [d1, d2] }
  | _ => none }
def RecordTurnsWrongFalsely : Prop := recordTurnsRow.holds Try.pinned (OpenSpec.ofChange recordTurnsWrong)

/-- 'thresherlaw16.RecordJoins': WHATEVER THE INPUT: true; the input reads as it did. -/
def recordJoinsSpec : ChangeSpec := { name := "recordJoins", fn := fun _ => fun
  | [d] => { results := [.lit (.bool true)], args := [d] }
  | _ => none }
def recordJoinsRow : OpenClaim := { program := "ytanfmnobanhcnaa", sum := "7ddda63f9215ac868195a7e4eab481798e9a79388d6fd8d058ba60567a73838a", func := "thresher/thresherlaw16.RecordJoins", spec := "recordJoins", unfollowed := true, recurses := true, plainKeys := false, apart := false }
def RecordJoinsSaid : Prop := recordJoinsRow.holds Try.pinned (OpenSpec.ofChange recordJoinsSpec)

/-- ITS FALSE NEIGHBOUR: 'it returns false'. Refute it at one input. -/
def recordJoinsWrong : ChangeSpec := { name := "recordJoins", fn := fun _ => fun
  | [d] => { results := [.lit (.bool false)], args := [d] }
  | _ => none }
def RecordJoinsWrongFalsely : Prop := recordJoinsRow.holds Try.pinned (OpenSpec.ofChange recordJoinsWrong)

/-- 'thresherlaw07.BlockAll': WHATEVER THE INPUT: true; the input reads as it did. -/
def blockAllSpec : ChangeSpec := { name := "blockAll", fn := fun _ => fun
  | [d1, d2, d3] => { results := [.lit (.bool true)], args := [d1, d2, d3] }
  | _ => none }
def blockAllRow : OpenClaim := { program := "ytanfmnobanhcnaa", sum := "7ddda63f9215ac868195a7e4eab481798e9a79388d6fd8d058ba60567a73838a", func := "thresher/thresherlaw07.BlockAll", spec := "blockAll", unfollowed := true, recurses := true, plainKeys := false, apart := false }
def BlockAllSaid : Prop := blockAllRow.holds Try.pinned (OpenSpec.ofChange blockAllSpec)

/-- ITS FALSE NEIGHBOUR: 'it returns false'. Refute it at one input. -/
def blockAllWrong : ChangeSpec := { name := "blockAll", fn := fun _ => fun
  | [d1, d2, d3] => { results := [.lit (.bool false)], args := [d1, d2, d3] }
  | _ => none }
def BlockAllWrongFalsely : Prop := blockAllRow.holds Try.pinned (OpenSpec.ofChange blockAllWrong)

/-- 'thresherlaw07.BlockBack': WHATEVER THE INPUT: true; the input reads as it did. -/
def blockBackSpec : ChangeSpec := { name := "blockBack", fn := fun _ => fun
  | [d1, d2, d3] => { results := [.lit (.bool true)], args := [d1, d2, d3] }
  | _ => none }
def blockBackRow : OpenClaim := { program := "ytanfmnobanhcnaa", sum := "7ddda63f9215ac868195a7e4eab481798e9a79388d6fd8d058ba60567a73838a", func := "thresher/thresherlaw07.BlockBack", spec := "blockBack", unfollowed := true, recurses := true, plainKeys := false, apart := false }
def BlockBackSaid : Prop := blockBackRow.holds Try.pinned (OpenSpec.ofChange blockBackSpec)

/-- ITS FALSE NEIGHBOUR: 'it returns false'. Refute it at one input. -/
def blockBackWrong : ChangeSpec := { name := "blockBack", fn := fun _ => fun
  | [d1, d2, d3] => { results := [.lit (.bool false)], args := [d1, d2, d3] }
  | _ => none }
def BlockBackWrongFalsely : Prop := blockBackRow.holds Try.pinned (OpenSpec.ofChange blockBackWrong)

/-- 'thresherlaw07.BlockTurns': WHATEVER THE INPUT: true; the input reads as it did. -/
def blockTurnsSpec : ChangeSpec := { name := "blockTurns", fn := fun _ => fun
  | [d1, d2, d3] => { results := [.lit (.bool true)], args := [d1, d2, d3] }
  | _ => none }
def blockTurnsRow : OpenClaim := { program := "ytanfmnobanhcnaa", sum := "7ddda63f9215ac868195a7e4eab481798e9a79388d6fd8d058ba60567a73838a", func := "thresher/thresherlaw07.BlockTurns", spec := "blockTurns", unfollowed := true, recurses := true, plainKeys := false, apart := false }
def BlockTurnsSaid : Prop := blockTurnsRow.holds Try.pinned (OpenSpec.ofChange blockTurnsSpec)

/-- ITS FALSE NEIGHBOUR: 'it returns false'. Refute it at one input. -/
def blockTurnsWrong : ChangeSpec := { name := "blockTurns", fn := fun _ => fun
  | [d1, d2, d3] => { results := [.lit (.bool false)], args := [d1, d2, d3] }
  | _ => none }
def BlockTurnsWrongFalsely : Prop := blockTurnsRow.holds Try.pinned (OpenSpec.ofChange blockTurnsWrong)

/-- 'thresherlaw07.BlockNext': WHATEVER THE INPUT: true; the input reads as it did. -/
def blockNextSpec : ChangeSpec := { name := "blockNext", fn := fun _ => fun
  | [d] => { results := [.lit (.bool true)], args := [d] }
  | _ => none }
def blockNextRow : OpenClaim := { program := "ytanfmnobanhcnaa", sum := "7ddda63f9215ac868195a7e4eab481798e9a79388d6fd8d058ba60567a73838a", func := "thresher/thresherlaw07.BlockNext", spec := "blockNext", unfollowed := true, recurses := true, plainKeys := false, apart := false }
def BlockNextSaid : Prop := blockNextRow.holds Try.pinned (OpenSpec.ofChange blockNextSpec)

/-- ITS FALSE NEIGHBOUR: 'it returns false'. Refute it at one input. -/
def blockNextWrong : ChangeSpec := { name := "blockNext", fn := fun _ => fun
  | [d] => { results := [.lit (.bool false)], args := [d] }
  | _ => none }
def BlockNextWrongFalsely : Prop := blockNextRow.holds Try.pinned (OpenSpec.ofChange blockNextWrong)

/-- 'thresherlaw07.BlockRefuses': WHATEVER THE INPUT: true; the input reads as it did. -/
def blockRefusesSpec : ChangeSpec := { name := "blockRefuses", fn := fun _ => fun
  | [d1, d2, d3] => { results := [.lit (.bool true)], args := [d1, d2, d3] }
  | _ => none }
def blockRefusesRow : OpenClaim := { program := "ytanfmnobanhcnaa", sum := "7ddda63f9215ac868195a7e4eab481798e9a79388d6fd8d058ba60567a73838a", func := "thresher/thresherlaw07.BlockRefuses", spec := "blockRefuses", unfollowed := true, recurses := true, plainKeys := false, apart := false }
def BlockRefusesSaid : Prop := blockRefusesRow.holds Try.pinned (OpenSpec.ofChange blockRefusesSpec)

/-- ITS FALSE NEIGHBOUR: 'it returns false'. Refute it at one input. -/
def blockRefusesWrong : ChangeSpec := { name := "blockRefuses", fn := fun _ => fun
  | [d1, d2, d3] => { results := [.lit (.bool false)], args := [d1, d2, d3] }
  | _ => none }
def BlockRefusesWrongFalsely : Prop := blockRefusesRow.holds Try.pinned (OpenSpec.ofChange blockRefusesWrong)

/-- 'thresherlaw07.BlockOne': WHATEVER THE INPUT: true; the input reads as it did. -/
def blockOneSpec : ChangeSpec := { name := "blockOne", fn := fun _ => fun
  | [d1, d2] => { results := [.lit (.bool true)], args := [d1, d2] }
  | _ => none }
def blockOneRow : OpenClaim := { program := "ytanfmnobanhcnaa", sum := "7ddda63f9215ac868195a7e4eab481798e9a79388d6fd8d058ba60567a73838a", func := "thresher/thresherlaw07.BlockOne", spec := "blockOne", unfollowed := true, recurses := true, plainKeys := false, apart := false }
def BlockOneSaid : Prop := blockOneRow.holds Try.pinned (OpenSpec.ofChange blockOneSpec)

/-- ITS FALSE NEIGHBOUR: 'it returns false'. Refute it at one input. -/
def blockOneWrong : ChangeSpec := { name := "blockOne", fn := fun _ => fun
  | [d1, d2] => { results := [.lit (.bool false)], args := [d1, d2] }
  | _ => none }
def BlockOneWrongFalsely : Prop := blockOneRow.holds Try.pinned (OpenSpec.ofChange blockOneWrong)

/- THE SECOND FORM. 'bulk': how many values and letters a reading holds, each counted each time it is reached (what is shared counts as often as it is met; a slice's spare places count too). A statement '..UptoSaid' is the law's where the arguments, and the package variables that the reading takes, are together of bulk at most 1048576: NARROWER than '..Said'. Prove '..Said' where nothing that the law and all that it calls make is longer than what came in: it says more and counts as full. Else prove '..UptoSaid'. A law counts once. -/
mutual
def uptoBulk {H : Type} : DataW H → Nat
  | .lit (.string bytes) => bytes.length + 1
  | .lit _ => 1
  | .nil => 1
  | .ptr d => uptoBulk d + 1
  | .slice elems spare => uptoBulkAll elems + uptoBulkAll spare + 1
  | .agg parts => uptoBulkAll parts + 1
  | .iface _ d => uptoBulk d + 1
  | .map entries => uptoBulkEntries entries + 1
  | .held _ => 1
def uptoBulkAll {H : Type} : List (DataW H) → Nat
  | [] => 0
  | d :: r => uptoBulk d + uptoBulkAll r
def uptoBulkEntries {H : Type} : List (Lit × DataW H) → Nat
  | [] => 0
  | x :: r => uptoBulkEntry x + uptoBulkEntries r
def uptoBulkEntry {H : Type} : Lit × DataW H → Nat
  | (.string bytes, d) => bytes.length + uptoBulk d + 1
  | (_, d) => uptoBulk d + 1
 end
def uptoSmall : (H : Type) → List (DataW H) → Bool := fun _ ds => decide (uptoBulkAll ds ≤ 1048576)
def OpenSpec.upto (s : _root_.Go.ChangeSpec) : _root_.Go.OpenSpec := { _root_.Go.OpenSpec.ofChange s with cond := some uptoSmall }

/-- 'thresherlaw16.RecordRefuses', WHERE WHAT IT READS IS OF BULK AT MOST 1048576: true; the input reads as it did. -/
def recordRefusesUptoRow : OpenClaim := { program := "ytanfmnobanhcnaa", sum := "7ddda63f9215ac868195a7e4eab481798e9a79388d6fd8d058ba60567a73838a", func := "thresher/thresherlaw16.RecordRefuses", spec := "recordRefuses", unfollowed := true, recurses := true, plainKeys := false, apart := false, narrowed := true }
def RecordRefusesUptoSaid : Prop := recordRefusesUptoRow.holds Try.pinned (OpenSpec.upto recordRefusesSpec)

/-- 'thresherlaw16.RecordAll', WHERE WHAT IT READS IS OF BULK AT MOST 1048576: true; the input reads as it did. -/
def recordAllUptoRow : OpenClaim := { program := "ytanfmnobanhcnaa", sum := "7ddda63f9215ac868195a7e4eab481798e9a79388d6fd8d058ba60567a73838a", func := "thresher/thresherlaw16.RecordAll", spec := "recordAll", unfollowed := true, recurses := true, plainKeys := false, apart := false, narrowed := true }
def RecordAllUptoSaid : Prop := recordAllUptoRow.holds Try.pinned (OpenSpec.upto recordAllSpec)

/-- 'thresherlaw16.RecordBack', WHERE WHAT IT READS IS OF BULK AT MOST 1048576: true; the input reads as it did. -/
def recordBackUptoRow : OpenClaim := { program := "ytanfmnobanhcnaa", sum := "7ddda63f9215ac868195a7e4eab481798e9a79388d6fd8d058ba60567a73838a", func := "thresher/thresherlaw16.RecordBack", spec := "recordBack", unfollowed := true, recurses := true, plainKeys := false, apart := false, narrowed := true }
def RecordBackUptoSaid : Prop := recordBackUptoRow.holds Try.pinned (OpenSpec.upto recordBackSpec)

/-- 'thresherlaw16.RecordOne', WHERE WHAT IT READS IS OF BULK AT MOST 1048576: true; the input reads as it did. -/
def recordOneUptoRow : OpenClaim := { program := "ytanfmnobanhcnaa", sum := "7ddda63f9215ac868195a7e4eab481798e9a79388d6fd8d058ba60567a73838a", func := "thresher/thresherlaw16.RecordOne", spec := "recordOne", unfollowed := true, recurses := true, plainKeys := false, apart := false, narrowed := true }
def RecordOneUptoSaid : Prop := recordOneUptoRow.holds Try.pinned (OpenSpec.upto recordOneSpec)

/-- 'thresherlaw16.RecordTurns', WHERE WHAT IT READS IS OF BULK AT MOST 1048576: true; the input reads as it did. -/
def recordTurnsUptoRow : OpenClaim := { program := "ytanfmnobanhcnaa", sum := "7ddda63f9215ac868195a7e4eab481798e9a79388d6fd8d058ba60567a73838a", func := "thresher/thresherlaw16.RecordTurns", spec := "recordTurns", unfollowed := true, recurses := true, plainKeys := false, apart := false, narrowed := true }
def RecordTurnsUptoSaid : Prop := recordTurnsUptoRow.holds Try.pinned (OpenSpec.upto recordTurnsSpec)

/-- 'thresherlaw16.RecordJoins', WHERE WHAT IT READS IS OF BULK AT MOST 1048576: true; the input reads as it did. -/
def recordJoinsUptoRow : OpenClaim := { program := "ytanfmnobanhcnaa", sum := "7ddda63f9215ac868195a7e4eab481798e9a79388d6fd8d058ba60567a73838a", func := "thresher/thresherlaw16.RecordJoins", spec := "recordJoins", unfollowed := true, recurses := true, plainKeys := false, apart := false, narrowed := true }
def RecordJoinsUptoSaid : Prop := recordJoinsUptoRow.holds Try.pinned (OpenSpec.upto recordJoinsSpec)

/-- 'thresherlaw07.BlockAll', WHERE WHAT IT READS IS OF BULK AT MOST 1048576: true; the input reads as it did. -/
def blockAllUptoRow : OpenClaim := { program := "ytanfmnobanhcnaa", sum := "7ddda63f9215ac868195a7e4eab481798e9a79388d6fd8d058ba60567a73838a", func := "thresher/thresherlaw07.BlockAll", spec := "blockAll", unfollowed := true, recurses := true, plainKeys := false, apart := false, narrowed := true }
def BlockAllUptoSaid : Prop := blockAllUptoRow.holds Try.pinned (OpenSpec.upto blockAllSpec)

/-- 'thresherlaw07.BlockBack', WHERE WHAT IT READS IS OF BULK AT MOST 1048576: true; the input reads as it did. -/
def blockBackUptoRow : OpenClaim := { program := "ytanfmnobanhcnaa", sum := "7ddda63f9215ac868195a7e4eab481798e9a79388d6fd8d058ba60567a73838a", func := "thresher/thresherlaw07.BlockBack", spec := "blockBack", unfollowed := true, recurses := true, plainKeys := false, apart := false, narrowed := true }
def BlockBackUptoSaid : Prop := blockBackUptoRow.holds Try.pinned (OpenSpec.upto blockBackSpec)

/-- 'thresherlaw07.BlockTurns', WHERE WHAT IT READS IS OF BULK AT MOST 1048576: true; the input reads as it did. -/
def blockTurnsUptoRow : OpenClaim := { program := "ytanfmnobanhcnaa", sum := "7ddda63f9215ac868195a7e4eab481798e9a79388d6fd8d058ba60567a73838a", func := "thresher/thresherlaw07.BlockTurns", spec := "blockTurns", unfollowed := true, recurses := true, plainKeys := false, apart := false, narrowed := true }
def BlockTurnsUptoSaid : Prop := blockTurnsUptoRow.holds Try.pinned (OpenSpec.upto blockTurnsSpec)

/-- 'thresherlaw07.BlockNext', WHERE WHAT IT READS IS OF BULK AT MOST 1048576: true; the input reads as it did. -/
def blockNextUptoRow : OpenClaim := { program := "ytanfmnobanhcnaa", sum := "7ddda63f9215ac868195a7e4eab481798e9a79388d6fd8d058ba60567a73838a", func := "thresher/thresherlaw07.BlockNext", spec := "blockNext", unfollowed := true, recurses := true, plainKeys := false, apart := false, narrowed := true }
def BlockNextUptoSaid : Prop := blockNextUptoRow.holds Try.pinned (OpenSpec.upto blockNextSpec)

/-- 'thresherlaw07.BlockRefuses', WHERE WHAT IT READS IS OF BULK AT MOST 1048576: true; the input reads as it did. -/
def blockRefusesUptoRow : OpenClaim := { program := "ytanfmnobanhcnaa", sum := "7ddda63f9215ac868195a7e4eab481798e9a79388d6fd8d058ba60567a73838a", func := "thresher/thresherlaw07.BlockRefuses", spec := "blockRefuses", unfollowed := true, recurses := true, plainKeys := false, apart := false, narrowed := true }
def BlockRefusesUptoSaid : Prop := blockRefusesUptoRow.holds Try.pinned (OpenSpec.upto blockRefusesSpec)

/-- 'thresherlaw07.BlockOne', WHERE WHAT IT READS IS OF BULK AT MOST 1048576: true; the input reads as it did. -/
def blockOneUptoRow : OpenClaim := { program := "ytanfmnobanhcnaa", sum := "7ddda63f9215ac868195a7e4eab481798e9a79388d6fd8d058ba60567a73838a", func := "thresher/thresherlaw07.BlockOne", spec := "blockOne", unfollowed := true, recurses := true, plainKeys := false, apart := false, narrowed := true }
def BlockOneUptoSaid : Prop := blockOneUptoRow.holds Try.pinned (OpenSpec.upto blockOneSpec)

end Rows
end Go.Proofs.Ytanfmnobanhcnaa
