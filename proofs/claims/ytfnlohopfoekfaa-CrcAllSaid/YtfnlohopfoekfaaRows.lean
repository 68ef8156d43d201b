/-
  No cell of these rows narrows 'for every input' (looked for: loops, veiled, ifaces, maps, wideKeys, modest, calm, conditions, laid).
  DERIVED. THE GIVEN ROWS OF THIS SEAT. 6 by the template 'for every input the law returns true; each argument reads behind the call as it read before'; 0 by the template 'total and deterministic' (their statements: YtfnlohopfoekfaaTotals.lean).
  GIVEN WITH THE SEED: the statements are not yours to turn. If you find one false, say at which input.
  Laid BY PROGRAM, IN A SANDBOX (cutbox-rows.mjs): the forced cells as the released guide's own fill.sh prints them over the translation f5ceced26fc6f33f… (all of the seat's roots in one cut). By AI agents, Wed Nov 11 2026. No macro, syntax, notation, axiom, sorry.
-/
import Derived.Test.YtfnlohopfoekfaaChecked
import GoSem.Claim
import GoSem.ClaimJoined
import GoSem.ClaimMapViews
import Derived.JoinedTies
import Derived.KernelRfl
namespace Go.Proofs.Ytfnlohopfoekfaa
/- THE CELL 'sum', in the pinned program and in every row, IS THE sha256 OF THE DUMP (.gsa) THAT YtfnlohopfoekfaaProg.lean LOADS. Nothing in Lean hashes anything: it is a label: what it is worth is what the hold of that sum in a sandbox is worth. -/
noncomputable def Try.pinned : Pinned := { name := "ytfnlohopfoekfaa", sum := "f5ceced26fc6f33fdb777c5e9bc47a77337cc9fcefcc65878ffdb5210ec58a84", checked := Try.checked }
namespace Rows
def none {H : Type} : Left H := { results := [], args := [] }

/-- 'thresherlaw02.CrcLinear': WHATEVER THE INPUT: true; the input reads as it did. -/
def crcLinearSpec : ChangeSpec := { name := "crcLinear", fn := fun _ => fun
  | [d1, d2, d3] => { results := [.lit (.bool true)], args := [d1, d2, d3] }
  | _ => none }
def crcLinearRow : OpenClaim := { program := "ytfnlohopfoekfaa", sum := "f5ceced26fc6f33fdb777c5e9bc47a77337cc9fcefcc65878ffdb5210ec58a84", func := "thresher/thresherlaw02.CrcLinear", spec := "crcLinear", apart := false }
def CrcLinearSaid : Prop := crcLinearRow.holds Try.pinned (OpenSpec.ofChange crcLinearSpec)

/-- ITS FALSE NEIGHBOUR: 'it returns false'. Refute it at one input. -/
def crcLinearWrong : ChangeSpec := { name := "crcLinear", fn := fun _ => fun
  | [d1, d2, d3] => { results := [.lit (.bool false)], args := [d1, d2, d3] }
  | _ => none }
def CrcLinearWrongFalsely : Prop := crcLinearRow.holds Try.pinned (OpenSpec.ofChange crcLinearWrong)

/-- 'thresherlaw02.CrcSwaps': WHATEVER THE INPUT: true; the input reads as it did. -/
def crcSwapsSpec : ChangeSpec := { name := "crcSwaps", fn := fun _ => fun
  | [d1, d2, d3] => { results := [.lit (.bool true)], args := [d1, d2, d3] }
  | _ => none }
def crcSwapsRow : OpenClaim := { program := "ytfnlohopfoekfaa", sum := "f5ceced26fc6f33fdb777c5e9bc47a77337cc9fcefcc65878ffdb5210ec58a84", func := "thresher/thresherlaw02.CrcSwaps", spec := "crcSwaps", apart := false }
def CrcSwapsSaid : Prop := crcSwapsRow.holds Try.pinned (OpenSpec.ofChange crcSwapsSpec)

/-- ITS FALSE NEIGHBOUR: 'it returns false'. Refute it at one input. -/
def crcSwapsWrong : ChangeSpec := { name := "crcSwaps", fn := fun _ => fun
  | [d1, d2, d3] => { results := [.lit (.bool false)], args := [d1, d2, d3] }
  | _ => none }
def CrcSwapsWrongFalsely : Prop := crcSwapsRow.holds Try.pinned (OpenSpec.ofChange crcSwapsWrong)

/-- 'thresherlaw02.CrcAll': WHATEVER THE INPUT: true; the input reads as it did. -/
def crcAllSpec : ChangeSpec := { name := "crcAll", fn := fun _ => fun
  | [d1, d2] => { results := [.lit (.bool true)], args := [d1, d2] }
  | _ => none }
def crcAllRow : OpenClaim := { program := "ytfnlohopfoekfaa", sum := "f5ceced26fc6f33fdb777c5e9bc47a77337cc9fcefcc65878ffdb5210ec58a84", func := "thresher/thresherlaw02.CrcAll", spec := "crcAll", apart := false }
def CrcAllSaid : Prop := crcAllRow.holds Try.pinned (OpenSpec.ofChange crcAllSpec)

/-- ITS FALSE NEIGHBOUR: 'it returns false'. Refute it at one input. -/
def crcAllWrong : ChangeSpec := { name := "crcAll", fn := fun _ => fun
  | [d1, d2] => { results := [.lit (.bool false)], args := [d1, d2] }
  | _ => none }
def CrcAllWrongFalsely : Prop := crcAllRow.holds Try.pinned (OpenSpec.ofChange crcAllWrong)

/-- 'thresherlaw02.CrcBack': WHATEVER THE INPUT: true; the input reads as it did. -/
def crcBackSpec : ChangeSpec := { name := "crcBack", fn := fun _ => fun
  | [d1, d2, d3] => { results := [.lit (.bool true)], args := [d1, d2, d3] }
  | _ => none }
def crcBackRow : OpenClaim := { program := "ytfnlohopfoekfaa", sum := "f5ceced26fc6f33fdb777c5e9bc47a77337cc9fcefcc65878ffdb5210ec58a84", func := "thresher/thresherlaw02.CrcBack", spec := "crcBack", apart := false }
def CrcBackSaid : Prop := crcBackRow.holds Try.pinned (OpenSpec.ofChange crcBackSpec)

/-- ITS FALSE NEIGHBOUR: 'it returns false'. Refute it at one input. -/
def crcBackWrong : ChangeSpec := { name := "crcBack", fn := fun _ => fun
  | [d1, d2, d3] => { results := [.lit (.bool false)], args := [d1, d2, d3] }
  | _ => none }
def CrcBackWrongFalsely : Prop := crcBackRow.holds Try.pinned (OpenSpec.ofChange crcBackWrong)

/-- 'thresherlaw02.CrcTurns': WHATEVER THE INPUT: true; the input reads as it did. -/
def crcTurnsSpec : ChangeSpec := { name := "crcTurns", fn := fun _ => fun
  | [d1, d2, d3] => { results := [.lit (.bool true)], args := [d1, d2, d3] }
  | _ => none }
def crcTurnsRow : OpenClaim := { program := "ytfnlohopfoekfaa", sum := "f5ceced26fc6f33fdb777c5e9bc47a77337cc9fcefcc65878ffdb5210ec58a84", func := "thresher/thresherlaw02.CrcTurns", spec := "crcTurns", apart := false }
def CrcTurnsSaid : Prop := crcTurnsRow.holds Try.pinned (OpenSpec.ofChange crcTurnsSpec)

/-- ITS FALSE NEIGHBOUR: 'it returns false'. Refute it at one input. -/
def crcTurnsWrong : ChangeSpec := { name := "crcTurns", fn := fun _ => fun
  | [d1, d2, d3] => { results := [.lit (.bool false)], args := [d1, d2, d3] }
  | _ => none }
def CrcTurnsWrongFalsely : Prop := crcTurnsRow.holds Try.pinned (OpenSpec.ofChange crcTurnsWrong)

/-- 'thresherlaw02.CrcNext': WHATEVER THE INPUT: true; the input reads as it did. -/
def crcNextSpec : ChangeSpec := { name := "crcNext", fn := fun _ => fun
  | [d] => { results := [.lit (.bool true)], args := [d] }
  | _ => none }
def crcNextRow : OpenClaim := { program := "ytfnlohopfoekfaa", sum := "f5ceced26fc6f33fdb777c5e9bc47a77337cc9fcefcc65878ffdb5210ec58a84", func := "thresher/thresherlaw02.CrcNext", spec := "crcNext", apart := false }
def CrcNextSaid : Prop := crcNextRow.holds Try.pinned (OpenSpec.ofChange crcNextSpec)

/-- ITS FALSE NEIGHBOUR: 'it returns false'. Refute it at one input. -/
def crcNextWrong : ChangeSpec := { name := "crcNext", fn := fun _ => fun
  | [d] => { results := [.lit (.bool false)], args := [d] }
  | _ => none }
def CrcNextWrongFalsely : Prop := crcNextRow.holds Try.pinned (OpenSpec.ofChange crcNextWrong)

/- THE SECOND FORM. 'bulk': how many values and letters a reading holds, each counted each time it is reached (what is shared counts as often as it is met; a slice's spare places count too). A statement '..UptoSaid' is the law's where the arguments, and the package variables that the reading takes, are together of bulk at most 1048576: NARROWER than '..Said'. Prove '..Said' where nothing that the law and all that it calls make is longer than what came in: it says more and counts as full. Else prove '..UptoSaid'. A law counts once. -/
mutual
def uptoBulk {H : Type} : DataW H → Nat
  | .lit (.string bytes) => bytes.length + 1
  | .lit _ => 1
  | .nil => 1
  | .ptr d => uptoBulk d + 1
  | .slice elems spare => uptoBulkAll elems + uptoBulkAll spare + 1
  | .agg parts => uptoBulkAll parts + 1
  | .iface _ d => uptoBulk d + 1
  | .map entries => uptoBulkEntries entries + 1
  | .held _ => 1
def uptoBulkAll {H : Type} : List (DataW H) → Nat
  | [] => 0
  | d :: r => uptoBulk d + uptoBulkAll r
def uptoBulkEntries {H : Type} : List (Lit × DataW H) → Nat
  | [] => 0
  | x :: r => uptoBulkEntry x + uptoBulkEntries r
def uptoBulkEntry {H : Type} : Lit × DataW H → Nat
  | (.string bytes, d) => bytes.length + uptoBulk d + 1
  | (_, d) => uptoBulk d + 1
 end
def uptoSmall : (H : Type) → List (DataW H) → Bool := fun _ ds => decide (uptoBulkAll ds ≤ 1048576)
def OpenSpec.upto (s : _root_.Go.ChangeSpec) : _root_.Go.OpenSpec := { _root_.Go.OpenSpec.ofChange s with cond := some uptoSmall }

/-- 'thresherlaw02.CrcLinear', WHERE WHAT IT READS IS OF BULK AT MOST 1048576: true; the input reads as it did. -/
def crcLinearUptoRow : OpenClaim := { program := "ytfnlohopfoekfaa", sum := "f5ceced26fc6f33fdb777c5e9bc47a77337cc9fcefcc65878ffdb5210ec58a84", func := "thresher/thresherlaw02.CrcLinear", spec := "crcLinear", apart := false, narrowed := true }
def CrcLinearUptoSaid : Prop := crcLinearUptoRow.holds Try.pinned (OpenSpec.upto crcLinearSpec)

/-- 'thresherlaw02.CrcSwaps', WHERE WHAT IT READS IS OF BULK AT MOST 1048576: true; the input reads as it did. -/
def crcSwapsUptoRow : OpenClaim := { program := "ytfnlohopfoekfaa", sum := "f5ceced26fc6f33fdb777c5e9bc47a77337cc9fcefcc65878ffdb5210ec58a84", func := "thresher/thresherlaw02.CrcSwaps", spec := "crcSwaps", apart := false, narrowed := true }
def CrcSwapsUptoSaid : Prop := crcSwapsUptoRow.holds Try.pinned (OpenSpec.upto crcSwapsSpec)

/-- 'thresherlaw02.CrcAll', WHERE WHAT IT READS IS OF BULK AT MOST 1048576: true; the input reads as it did. -/
def crcAllUptoRow : OpenClaim := { program := "ytfnlohopfoekfaa", sum := "f5ceced26fc6f33fdb777c5e9bc47a77337cc9fcefcc65878ffdb5210ec58a84", func := "thresher/thresherlaw02.CrcAll", spec := "crcAll", apart := false, narrowed := true }
def CrcAllUptoSaid : Prop := crcAllUptoRow.holds Try.pinned (OpenSpec.upto crcAllSpec)

/-- 'thresherlaw02.CrcBack', WHERE WHAT IT READS IS OF BULK AT MOST 1048576: true; the input reads as it did. -/
def crcBackUptoRow : OpenClaim := { program := "ytfnlohopfoekfaa", sum := "f5ceced26fc6f33fdb777c5e9bc47a77337cc9fcefcc65878ffdb5210ec58a84", func := "thresher/thresherlaw02.CrcBack", spec := "crcBack", apart := false, narrowed := true }
def CrcBackUptoSaid : Prop := crcBackUptoRow.holds Try.pinned (OpenSpec.upto crcBackSpec)

/-- 'thresherlaw02.CrcTurns', WHERE WHAT IT READS IS OF BULK AT MOST 1048576: true; the input reads as it did. -/
def crcTurnsUptoRow : OpenClaim := { program := "ytfnlohopfoekfaa", sum := "f5ceced26fc6f33fdb777c5e9bc47a77337cc9fcefcc65878ffdb5210ec58a84", func := "thresher/thresherlaw02.CrcTurns", spec := "crcTurns", apart := false, narrowed := true }
def CrcTurnsUptoSaid : Prop := crcTurnsUptoRow.holds Try.pinned (OpenSpec.upto crcTurnsSpec)

/-- 'thresherlaw02.CrcNext', WHERE WHAT IT READS IS OF BULK AT MOST 1048576: true; the input reads as it did. -/
def crcNextUptoRow : OpenClaim := { program := "ytfnlohopfoekfaa", sum := "f5ceced26fc6f33fdb777c5e9bc47a77337cc9fcefcc65878ffdb5210ec58a84", func := "thresher/thresherlaw02.CrcNext", spec := "crcNext", apart := false, narrowed := true }
def CrcNextUptoSaid : Prop := crcNextUptoRow.holds Try.pinned (OpenSpec.upto crcNextSpec)

end Rows
end Go.Proofs.Ytfnlohopfoekfaa
