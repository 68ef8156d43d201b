/-
  No cell of these rows narrows 'for every input' (looked for: loops, veiled, ifaces, maps, wideKeys, modest, calm, conditions, laid).
  DERIVED. THE GIVEN ROWS OF THIS SEAT. 5 by the template 'for every input the law returns true; each argument reads behind the call as it read before'; 0 by the template 'total and deterministic' (their statements: YtdopbfjebjnpkaaTotals.lean).
  GIVEN WITH THE SEED: the statements are not yours to turn. If you find one false, say at which input.
  Laid BY PROGRAM, IN A SANDBOX (cutbox-rows.mjs): the forced cells as the released guide's own fill.sh prints them over the translation 097d6b926d96467d… (all of the seat's roots in one cut). By AI agents, Wed Nov 11 2026. No macro, syntax, notation, axiom, sorry.
-/
import Derived.Test.YtdopbfjebjnpkaaChecked
import GoSem.Claim
import GoSem.ClaimJoined
import GoSem.ClaimMapViews
import Derived.JoinedTies
import Derived.KernelRfl
namespace Go.Proofs.Ytdopbfjebjnpkaa
/- THE CELL 'sum', in the pinned program and in every row, IS THE sha256 OF THE DUMP (.gsa) THAT YtdopbfjebjnpkaaProg.lean LOADS. Nothing in Lean hashes anything: it is a label: what it is worth is what the hold of that sum in a sandbox is worth. -/
noncomputable def Try.pinned : Pinned := { name := "ytdopbfjebjnpkaa", sum := "097d6b926d96467db102a7a866802ad69faeaa01edd4dd0d90744b267f91b99b", checked := Try.checked }
namespace Rows
def none {H : Type} : Left H := { results := [], args := [] }

/-- 'thresherlaw17.ReplayTorn': WHATEVER THE INPUT: true; the input reads as it did. -/
def replayTornSpec : ChangeSpec := { name := "replayTorn", fn := fun _ => fun
  | [d1, d2, d3] => { results := [.lit (.bool true)], args := [d1, d2, d3] }
  | _ => none }
def replayTornRow : OpenClaim := { program := "ytdopbfjebjnpkaa", sum := "097d6b926d96467db102a7a866802ad69faeaa01edd4dd0d90744b267f91b99b", func := "thresher/thresherlaw17.ReplayTorn", spec := "replayTorn", unfollowed := true, recurses := true, apart := false }
def ReplayTornSaid : Prop := replayTornRow.holds Try.pinned (OpenSpec.ofChange replayTornSpec)

/-- ITS FALSE NEIGHBOUR: 'it returns false'. Refute it at one input. -/
def replayTornWrong : ChangeSpec := { name := "replayTorn", fn := fun _ => fun
  | [d1, d2, d3] => { results := [.lit (.bool false)], args := [d1, d2, d3] }
  | _ => none }
def ReplayTornWrongFalsely : Prop := replayTornRow.holds Try.pinned (OpenSpec.ofChange replayTornWrong)

/-- 'thresherlaw17.ReplayUnlike': WHATEVER THE INPUT: true; the input reads as it did. -/
def replayUnlikeSpec : ChangeSpec := { name := "replayUnlike", fn := fun _ => fun
  | [d1, d2, d3] => { results := [.lit (.bool true)], args := [d1, d2, d3] }
  | _ => none }
def replayUnlikeRow : OpenClaim := { program := "ytdopbfjebjnpkaa", sum := "097d6b926d96467db102a7a866802ad69faeaa01edd4dd0d90744b267f91b99b", func := "thresher/thresherlaw17.ReplayUnlike", spec := "replayUnlike", unfollowed := true, recurses := true, apart := false }
def ReplayUnlikeSaid : Prop := replayUnlikeRow.holds Try.pinned (OpenSpec.ofChange replayUnlikeSpec)

/-- ITS FALSE NEIGHBOUR: 'it returns false'. Refute it at one input. -/
def replayUnlikeWrong : ChangeSpec := { name := "replayUnlike", fn := fun _ => fun
  | [d1, d2, d3] => { results := [.lit (.bool false)], args := [d1, d2, d3] }
  | _ => none }
def ReplayUnlikeWrongFalsely : Prop := replayUnlikeRow.holds Try.pinned (OpenSpec.ofChange replayUnlikeWrong)

/-- 'thresherlaw17.ReplayCounts': WHATEVER THE INPUT: true; the input reads as it did. -/
def replayCountsSpec : ChangeSpec := { name := "replayCounts", fn := fun _ => fun
  | [d1, d2] => { results := [.lit (.bool true)], args := [d1, d2] }
  | _ => none }
def replayCountsRow : OpenClaim := { program := "ytdopbfjebjnpkaa", sum := "097d6b926d96467db102a7a866802ad69faeaa01edd4dd0d90744b267f91b99b", func := "thresher/thresherlaw17.ReplayCounts", spec := "replayCounts", unfollowed := true, recurses := true, apart := false }
def ReplayCountsSaid : Prop := replayCountsRow.holds Try.pinned (OpenSpec.ofChange replayCountsSpec)

/-- ITS FALSE NEIGHBOUR: 'it returns false'. Refute it at one input. -/
def replayCountsWrong : ChangeSpec := { name := "replayCounts", fn := fun _ => fun
  | [d1, d2] => { results := [.lit (.bool false)], args := [d1, d2] }
  | _ => none }
def ReplayCountsWrongFalsely : Prop := replayCountsRow.holds Try.pinned (OpenSpec.ofChange replayCountsWrong)

/-- 'thresherlaw17.ReplayAll': WHATEVER THE INPUT: true; the input reads as it did. -/
def replayAllSpec : ChangeSpec := { name := "replayAll", fn := fun _ => fun
  | [d1, d2, d3] => { results := [.lit (.bool true)], args := [d1, d2, d3] }
  | _ => none }
def replayAllRow : OpenClaim := { program := "ytdopbfjebjnpkaa", sum := "097d6b926d96467db102a7a866802ad69faeaa01edd4dd0d90744b267f91b99b", func := "thresher/thresherlaw17.ReplayAll", spec := "replayAll", unfollowed := true, recurses := true, apart := false }
def ReplayAllSaid : Prop := replayAllRow.holds Try.pinned (OpenSpec.ofChange replayAllSpec)

/-- ITS FALSE NEIGHBOUR: 'it returns false'. Refute it at one input. -/
def replayAllWrong : ChangeSpec := { name := "replayAll", fn := fun _ => fun
  | [d1, d2, d3] => { results := [.lit (.bool false)], args := [d1, d2, d3] }
  | _ => none }
def ReplayAllWrongFalsely : Prop := replayAllRow.holds Try.pinned (OpenSpec.ofChange replayAllWrong)

/-- 'thresherlaw17.ReplayHeads': WHATEVER THE INPUT: true; the input reads as it did. -/
def replayHeadsSpec : ChangeSpec := { name := "replayHeads", fn := fun _ => fun
  | [d1, d2] => { results := [.lit (.bool true)], args := [d1, d2] }
  | _ => none }
def replayHeadsRow : OpenClaim := { program := "ytdopbfjebjnpkaa", sum := "097d6b926d96467db102a7a866802ad69faeaa01edd4dd0d90744b267f91b99b", func := "thresher/thresherlaw17.ReplayHeads", spec := "replayHeads", unfollowed := true, recurses := true, apart := false }
def ReplayHeadsSaid : Prop := replayHeadsRow.holds Try.pinned (OpenSpec.ofChange replayHeadsSpec)

/-- ITS FALSE NEIGHBOUR: 'it returns false'. Refute it at one input. -/
def replayHeadsWrong : ChangeSpec := { name := "replayHeads", fn := fun _ => fun
  | [d1, d2] => { results := [.lit (.bool false)], args := [d1, d2] }
  | _ => none }
def ReplayHeadsWrongFalsely : Prop := replayHeadsRow.holds Try.pinned (OpenSpec.ofChange replayHeadsWrong)

/- THE SECOND FORM. 'bulk': how many values and letters a reading holds, each counted each time it is reached (what is shared counts as often as it is met; a slice's spare places count too). A statement '..UptoSaid' is the law's where the arguments, and the package variables that the reading takes, are together of bulk at most 1048576: NARROWER than '..Said'. Prove '..Said' where nothing that the law and all that it calls make is longer than what came in: it says more and counts as full. Else prove '..UptoSaid'. A law counts once. -/
mutual
def uptoBulk {H : Type} : DataW H → Nat
  | .lit (.string bytes) => bytes.length + 1
  | .lit _ => 1
  | .nil => 1
  | .ptr d => uptoBulk d + 1
  | .slice elems spare => uptoBulkAll elems + uptoBulkAll spare + 1
  | .agg parts => uptoBulkAll parts + 1
  | .iface _ d => uptoBulk d + 1
  | .map entries => uptoBulkEntries entries + 1
  | .held _ => 1
def uptoBulkAll {H : Type} : List (DataW H) → Nat
  | [] => 0
  | d :: r => uptoBulk d + uptoBulkAll r
def uptoBulkEntries {H : Type} : List (Lit × DataW H) → Nat
  | [] => 0
  | x :: r => uptoBulkEntry x + uptoBulkEntries r
def uptoBulkEntry {H : Type} : Lit × DataW H → Nat
  | (.string bytes, d) => bytes.length + uptoBulk d + 1
  | (_, d) => uptoBulk d + 1
 end
def uptoSmall : (H : Type) → List (DataW H) → Bool := fun _ ds => decide (uptoBulkAll ds ≤ 1048576)
def OpenSpec.upto (s : _root_.Go.ChangeSpec) : _root_.Go.OpenSpec := { _root_.Go.OpenSpec.ofChange s with cond := some uptoSmall }

/-- 'thresherlaw17.ReplayTorn', WHERE WHAT IT READS IS OF BULK AT MOST 1048576: true; the input reads as it did. -/
def replayTornUptoRow : OpenClaim := { program := "ytdopbfjebjnpkaa", sum := "097d6b926d96467db102a7a866802ad69faeaa01edd4dd0d90744b267f91b99b", func := "thresher/thresherlaw17.ReplayTorn", spec := "replayTorn", unfollowed := true, recurses := true, apart := false, narrowed := true }
def ReplayTornUptoSaid : Prop := replayTornUptoRow.holds Try.pinned (OpenSpec.upto replayTornSpec)

/-- 'thresherlaw17.ReplayUnlike', WHERE WHAT IT READS IS OF BULK AT MOST 1048576: true; the input reads as it did. -/
def replayUnlikeUptoRow : OpenClaim := { program := "ytdopbfjebjnpkaa", sum := "097d6b926d96467db102a7a866802ad69faeaa01edd4dd0d90744b267f91b99b", func := "thresher/thresherlaw17.ReplayUnlike", spec := "replayUnlike", unfollowed := true, recurses := true, apart := false, narrowed := true }
def ReplayUnlikeUptoSaid : Prop := replayUnlikeUptoRow.holds Try.pinned (OpenSpec.upto replayUnlikeSpec)

/-- 'thresherlaw17.ReplayCounts', WHERE WHAT IT READS IS OF BULK AT MOST 1048576: true; the input reads as it did. -/
def replayCountsUptoRow : OpenClaim := { program := "ytdopbfjebjnpkaa", sum := "097d6b926d96467db102a7a866802ad69faeaa01edd4dd0d90744b267f91b99b", func := "thresher/thresherlaw17.ReplayCounts", spec := "replayCounts", unfollowed := true, recurses := true, apart := false, narrowed := true }
def ReplayCountsUptoSaid : Prop := replayCountsUptoRow.holds Try.pinned (OpenSpec.upto replayCountsSpec)

/-- 'thresherlaw17.ReplayAll', WHERE WHAT IT READS IS OF BULK AT MOST 1048576: true; the input reads as it did. -/
def replayAllUptoRow : OpenClaim := { program := "ytdopbfjebjnpkaa", sum := "097d6b926d96467db102a7a866802ad69faeaa01edd4dd0d90744b267f91b99b", func := "thresher/thresherlaw17.ReplayAll", spec := "replayAll", unfollowed := true, recurses := true, apart := false, narrowed := true }
def ReplayAllUptoSaid : Prop := replayAllUptoRow.holds Try.pinned (OpenSpec.upto replayAllSpec)

/-- 'thresherlaw17.ReplayHeads', WHERE WHAT IT READS IS OF BULK AT MOST 1048576: true; the input reads as it did. -/
def replayHeadsUptoRow : OpenClaim := { program := "ytdopbfjebjnpkaa", sum := "097d6b926d96467db102a7a866802ad69faeaa01edd4dd0d90744b267f91b99b", func := "thresher/thresherlaw17.ReplayHeads", spec := "replayHeads", unfollowed := true, recurses := true, apart := false, narrowed := true }
def ReplayHeadsUptoSaid : Prop := replayHeadsUptoRow.holds Try.pinned (OpenSpec.upto replayHeadsSpec)

end Rows
end Go.Proofs.Ytdopbfjebjnpkaa
