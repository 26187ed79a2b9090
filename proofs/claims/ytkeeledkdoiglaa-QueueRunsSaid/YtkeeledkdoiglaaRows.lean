/-
  No cell of these rows narrows 'for every input' (looked for: loops, veiled, ifaces, maps, wideKeys, modest, calm, conditions, laid).
  DERIVED. THE GIVEN ROWS OF THIS SEAT. 6 by the template 'for every input the law returns true; each argument reads behind the call as it read before'; 0 by the template 'total and deterministic' (their statements: YtkeeledkdoiglaaTotals.lean).
  GIVEN WITH THE SEED: the statements are not yours to turn. If you find one false, say at which input.
  Laid BY PROGRAM, IN A SANDBOX (cutbox-rows.mjs): the forced cells as the released guide's own fill.sh prints them over the translation fe247bbf73d362c2… (all of the seat's roots in one cut). By AI agents, Wed Nov 11 2026. No macro, syntax, notation, axiom, sorry.
-/
import Derived.Test.YtkeeledkdoiglaaChecked
import GoSem.Claim
import GoSem.ClaimJoined
import GoSem.ClaimMapViews
import Derived.JoinedTies
import Derived.KernelRfl
namespace Go.Proofs.Ytkeeledkdoiglaa
/- THE CELL 'sum', in the pinned program and in every row, IS THE sha256 OF THE DUMP (.gsa) THAT YtkeeledkdoiglaaProg.lean LOADS. Nothing in Lean hashes anything: it is a label: what it is worth is what the hold of that sum in a sandbox is worth. -/
noncomputable def Try.pinned : Pinned := { name := "ytkeeledkdoiglaa", sum := "fe247bbf73d362c225800ebb91e7405a498ec1b796c8eb522f78d34e00cafcdf", checked := Try.checked }
namespace Rows
def none {H : Type} : Left H := { results := [], args := [] }

/-- 'fuglemanlaw27.PhasorTurns': WHATEVER THE INPUT: true; the input reads as it did. -/
def phasorTurnsSpec : ChangeSpec := { name := "phasorTurns", fn := fun _ => fun
  | [d1, d2, d3] => { results := [.lit (.bool true)], args := [d1, d2, d3] }
  | _ => none }
def phasorTurnsRow : OpenClaim := { program := "ytkeeledkdoiglaa", sum := "fe247bbf73d362c225800ebb91e7405a498ec1b796c8eb522f78d34e00cafcdf", func := "fugleman/fuglemanlaw27.PhasorTurns", spec := "phasorTurns", apart := false }
def PhasorTurnsSaid : Prop := phasorTurnsRow.holds Try.pinned (OpenSpec.ofChange phasorTurnsSpec)

/-- ITS FALSE NEIGHBOUR: 'it returns false'. Refute it at one input. -/
def phasorTurnsWrong : ChangeSpec := { name := "phasorTurns", fn := fun _ => fun
  | [d1, d2, d3] => { results := [.lit (.bool false)], args := [d1, d2, d3] }
  | _ => none }
def PhasorTurnsWrongFalsely : Prop := phasorTurnsRow.holds Try.pinned (OpenSpec.ofChange phasorTurnsWrong)

/-- 'fuglemanlaw27.PhasorSums': WHATEVER THE INPUT: true; the input reads as it did. -/
def phasorSumsSpec : ChangeSpec := { name := "phasorSums", fn := fun _ => fun
  | [d1, d2, d3] => { results := [.lit (.bool true)], args := [d1, d2, d3] }
  | _ => none }
def phasorSumsRow : OpenClaim := { program := "ytkeeledkdoiglaa", sum := "fe247bbf73d362c225800ebb91e7405a498ec1b796c8eb522f78d34e00cafcdf", func := "fugleman/fuglemanlaw27.PhasorSums", spec := "phasorSums", apart := false }
def PhasorSumsSaid : Prop := phasorSumsRow.holds Try.pinned (OpenSpec.ofChange phasorSumsSpec)

/-- ITS FALSE NEIGHBOUR: 'it returns false'. Refute it at one input. -/
def phasorSumsWrong : ChangeSpec := { name := "phasorSums", fn := fun _ => fun
  | [d1, d2, d3] => { results := [.lit (.bool false)], args := [d1, d2, d3] }
  | _ => none }
def PhasorSumsWrongFalsely : Prop := phasorSumsRow.holds Try.pinned (OpenSpec.ofChange phasorSumsWrong)

/-- 'fuglemanlaw27.PhasorBins': WHATEVER THE INPUT: true; the input reads as it did. -/
def phasorBinsSpec : ChangeSpec := { name := "phasorBins", fn := fun _ => fun
  | [d1, d2] => { results := [.lit (.bool true)], args := [d1, d2] }
  | _ => none }
def phasorBinsRow : OpenClaim := { program := "ytkeeledkdoiglaa", sum := "fe247bbf73d362c225800ebb91e7405a498ec1b796c8eb522f78d34e00cafcdf", func := "fugleman/fuglemanlaw27.PhasorBins", spec := "phasorBins", apart := false }
def PhasorBinsSaid : Prop := phasorBinsRow.holds Try.pinned (OpenSpec.ofChange phasorBinsSpec)

/-- ITS FALSE NEIGHBOUR: 'it returns false'. Refute it at one input. -/
def phasorBinsWrong : ChangeSpec := { name := "phasorBins", fn := fun _ => fun
  | [d1, d2] => { results := [.lit (.bool false)], args := [d1, d2] }
  | _ => none }
def PhasorBinsWrongFalsely : Prop := phasorBinsRow.holds Try.pinned (OpenSpec.ofChange phasorBinsWrong)

/-- 'fuglemanlaw27.PhasorBack': WHATEVER THE INPUT: true; the input reads as it did. -/
def phasorBackSpec : ChangeSpec := { name := "phasorBack", fn := fun _ => fun
  | [d] => { results := [.lit (.bool true)], args := [d] }
  | _ => none }
def phasorBackRow : OpenClaim := { program := "ytkeeledkdoiglaa", sum := "fe247bbf73d362c225800ebb91e7405a498ec1b796c8eb522f78d34e00cafcdf", func := "fugleman/fuglemanlaw27.PhasorBack", spec := "phasorBack", apart := false }
def PhasorBackSaid : Prop := phasorBackRow.holds Try.pinned (OpenSpec.ofChange phasorBackSpec)

/-- ITS FALSE NEIGHBOUR: 'it returns false'. Refute it at one input. -/
def phasorBackWrong : ChangeSpec := { name := "phasorBack", fn := fun _ => fun
  | [d] => { results := [.lit (.bool false)], args := [d] }
  | _ => none }
def PhasorBackWrongFalsely : Prop := phasorBackRow.holds Try.pinned (OpenSpec.ofChange phasorBackWrong)

/-- 'fuglemanlaw10.QueueRuns': WHATEVER THE INPUT: true; the input reads as it did. -/
def queueRunsSpec : ChangeSpec := { name := "queueRuns", fn := fun _ => fun
  | [d1, d2] => { results := [.lit (.bool true)], args := [d1, d2] }
  | _ => none }
def queueRunsRow : OpenClaim := { program := "ytkeeledkdoiglaa", sum := "fe247bbf73d362c225800ebb91e7405a498ec1b796c8eb522f78d34e00cafcdf", func := "fugleman/fuglemanlaw10.QueueRuns", spec := "queueRuns", apart := false }
def QueueRunsSaid : Prop := queueRunsRow.holds Try.pinned (OpenSpec.ofChange queueRunsSpec)

/-- ITS FALSE NEIGHBOUR: 'it returns false'. Refute it at one input. -/
def queueRunsWrong : ChangeSpec := { name := "queueRuns", fn := fun _ => fun
  | [d1, d2] => { results := [.lit (.bool false)], args := [d1, d2] }
  | _ => none }
def QueueRunsWrongFalsely : Prop := queueRunsRow.holds Try.pinned (OpenSpec.ofChange queueRunsWrong)

/-- 'fuglemanlaw10.QueueOrder': WHATEVER THE INPUT: true; the input reads as it did. -/
def queueOrderSpec : ChangeSpec := { name := "queueOrder", fn := fun _ => fun
  | [d1, d2, d3] => { results := [.lit (.bool true)], args := [d1, d2, d3] }
  | _ => none }
def queueOrderRow : OpenClaim := { program := "ytkeeledkdoiglaa", sum := "fe247bbf73d362c225800ebb91e7405a498ec1b796c8eb522f78d34e00cafcdf", func := "fugleman/fuglemanlaw10.QueueOrder", spec := "queueOrder", unfollowed := true, recurses := true, apart := false }
def QueueOrderSaid : Prop := queueOrderRow.holds Try.pinned (OpenSpec.ofChange queueOrderSpec)

/-- ITS FALSE NEIGHBOUR: 'it returns false'. Refute it at one input. -/
def queueOrderWrong : ChangeSpec := { name := "queueOrder", fn := fun _ => fun
  | [d1, d2, d3] => { results := [.lit (.bool false)], args := [d1, d2, d3] }
  | _ => none }
def QueueOrderWrongFalsely : Prop := queueOrderRow.holds Try.pinned (OpenSpec.ofChange queueOrderWrong)

/- THE SECOND FORM. 'bulk': how many values and letters a reading holds, each counted each time it is reached (what is shared counts as often as it is met; a slice's spare places count too). A statement '..UptoSaid' is the law's where the arguments, and the package variables that the reading takes, are together of bulk at most 1048576: NARROWER than '..Said'. Prove '..Said' where nothing that the law and all that it calls make is longer than what came in: it says more and counts as full. Else prove '..UptoSaid'. A law counts once. -/
mutual
def uptoBulk {H : Type} : DataW H → Nat
  | .lit (.string bytes) => bytes.length + 1
  | .lit _ => 1
  | .nil => 1
  | .ptr d => uptoBulk d + 1
  | .slice elems spare => uptoBulkAll elems + uptoBulkAll spare + 1
  | .agg parts => uptoBulkAll parts + 1
  | .iface _ d => uptoBulk d + 1
  | .map entries => uptoBulkEntries entries + 1
  | .held _ => 1
def uptoBulkAll {H : Type} : List (DataW H) → Nat
  | [] => 0
  | d :: r => uptoBulk d + uptoBulkAll r
def uptoBulkEntries {H : Type} : List (Lit × DataW H) → Nat
  | [] => 0
  | x :: r => uptoBulkEntry x + uptoBulkEntries r
def uptoBulkEntry {H : Type} : Lit × DataW H → Nat
  | (.string bytes, d) => bytes.length + uptoBulk d + 1
  | (_, d) => uptoBulk d + 1
 end
def uptoSmall : (H : Type) → List (DataW H) → Bool := fun _ ds => decide (uptoBulkAll ds ≤ 1048576)
def OpenSpec.upto (s : _root_.Go.ChangeSpec) : _root_.Go.OpenSpec := { _root_.Go.OpenSpec.ofChange s with cond := some uptoSmall }

/-- 'fuglemanlaw27.PhasorTurns', WHERE WHAT IT READS IS OF BULK AT MOST 1048576: true; the input reads as it did. -/
def phasorTurnsUptoRow : OpenClaim := { program := "ytkeeledkdoiglaa", sum := "fe247bbf73d362c225800ebb91e7405a498ec1b796c8eb522f78d34e00cafcdf", func := "fugleman/fuglemanlaw27.PhasorTurns", spec := "phasorTurns", apart := false, narrowed := true }
def PhasorTurnsUptoSaid : Prop := phasorTurnsUptoRow.holds Try.pinned (OpenSpec.upto phasorTurnsSpec)

/-- 'fuglemanlaw27.PhasorSums', WHERE WHAT IT READS IS OF BULK AT MOST 1048576: true; the input reads as it did. -/
def phasorSumsUptoRow : OpenClaim := { program := "ytkeeledkdoiglaa", sum := "fe247bbf73d362c225800ebb91e7405a498ec1b796c8eb522f78d34e00cafcdf", func := "fugleman/fuglemanlaw27.PhasorSums", spec := "phasorSums", apart := false, narrowed := true }
def PhasorSumsUptoSaid : Prop := phasorSumsUptoRow.holds Try.pinned (OpenSpec.upto phasorSumsSpec)

/-- 'fuglemanlaw27.PhasorBins', WHERE WHAT IT READS IS OF BULK AT MOST 1048576: true; the input reads as it did. -/
def phasorBinsUptoRow : OpenClaim := { program := "ytkeeledkdoiglaa", sum := "fe247bbf73d362c225800ebb91e7405a498ec1b796c8eb522f78d34e00cafcdf", func := "fugleman/fuglemanlaw27.PhasorBins", spec := "phasorBins", apart := false, narrowed := true }
def PhasorBinsUptoSaid : Prop := phasorBinsUptoRow.holds Try.pinned (OpenSpec.upto phasorBinsSpec)

/-- 'fuglemanlaw27.PhasorBack', WHERE WHAT IT READS IS OF BULK AT MOST 1048576: true; the input reads as it did. -/
def phasorBackUptoRow : OpenClaim := { program := "ytkeeledkdoiglaa", sum := "fe247bbf73d362c225800ebb91e7405a498ec1b796c8eb522f78d34e00cafcdf", func := "fugleman/fuglemanlaw27.PhasorBack", spec := "phasorBack", apart := false, narrowed := true }
def PhasorBackUptoSaid : Prop := phasorBackUptoRow.holds Try.pinned (OpenSpec.upto phasorBackSpec)

/-- 'fuglemanlaw10.QueueRuns', WHERE WHAT IT READS IS OF BULK AT MOST 1048576: true; the input reads as it did. -/
def queueRunsUptoRow : OpenClaim := { program := "ytkeeledkdoiglaa", sum := "fe247bbf73d362c225800ebb91e7405a498ec1b796c8eb522f78d34e00cafcdf", func := "fugleman/fuglemanlaw10.QueueRuns", spec := "queueRuns", apart := false, narrowed := true }
def QueueRunsUptoSaid : Prop := queueRunsUptoRow.holds Try.pinned (OpenSpec.upto queueRunsSpec)

/-- 'fuglemanlaw10.QueueOrder', WHERE WHAT IT READS IS OF BULK AT MOST 1048576: true; the input reads as it did. -/
def queueOrderUptoRow : OpenClaim := { program := "ytkeeledkdoiglaa", sum := "fe247bbf73d362c225800ebb91e7405a498ec1b796c8eb522f78d34e00cafcdf", func := "fugleman/fuglemanlaw10.QueueOrder", spec := "queueOrder", unfollowed := true, recurses := true, apart := false, narrowed := true }
def QueueOrderUptoSaid : Prop := queueOrderUptoRow.holds Try.pinned (OpenSpec.upto queueOrderSpec)

end Rows
end Go.Proofs.Ytkeeledkdoiglaa
