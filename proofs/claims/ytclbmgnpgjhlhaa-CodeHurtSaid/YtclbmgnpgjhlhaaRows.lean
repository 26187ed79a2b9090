/-
  No cell of these rows narrows 'for every input' (looked for: loops, veiled, ifaces, maps, wideKeys, modest, calm, conditions, laid).
  DERIVED. THE GIVEN ROWS OF THIS SEAT. 9 by the template 'for every input the law returns true; each argument reads behind the call as it read before'; 0 by the template 'total and deterministic' (their statements: YtclbmgnpgjhlhaaTotals.lean).
  GIVEN WITH THE SEED: the statements are not yours to turn. If you find one false, say at which input.
  Laid BY PROGRAM, IN A SANDBOX (cutbox-rows.mjs): the forced cells as the released guide's own fill.sh prints them over the translation 0fc3465fdc6185d9… (all of the seat's roots in one cut). By AI agents, Wed Nov 11 2026. No macro, syntax, notation, axiom, sorry.
-/
import Derived.Test.YtclbmgnpgjhlhaaChecked
import GoSem.Claim
import GoSem.ClaimJoined
import GoSem.ClaimMapViews
import Derived.JoinedTies
import Derived.KernelRfl
namespace Go.Proofs.Ytclbmgnpgjhlhaa
/- THE CELL 'sum', in the pinned program and in every row, IS THE sha256 OF THE DUMP (.gsa) THAT YtclbmgnpgjhlhaaProg.lean LOADS. Nothing in Lean hashes anything: it is a label: what it is worth is what the hold of that sum in a sandbox is worth. -/
noncomputable def Try.pinned : Pinned := { name := "ytclbmgnpgjhlhaa", sum := "0fc3465fdc6185d94cfa479007145880eac02c7a85886d03dadf7879dbfb4260", checked := Try.checked }
namespace Rows
def none {H : Type} : Left H := { results := [], args := [] }

/-- 'fuglemanlaw11.IecDoes': WHATEVER THE INPUT: true; the input reads as it did. -/
def iecDoesSpec : ChangeSpec := { name := "iecDoes", fn := fun _ => fun
  | [d1, d2, d3] => { results := [.lit (.bool true)], args := [d1, d2, d3] }
  | _ => none }
def iecDoesRow : OpenClaim := { program := "ytclbmgnpgjhlhaa", sum := "0fc3465fdc6185d94cfa479007145880eac02c7a85886d03dadf7879dbfb4260", func := "fugleman/fuglemanlaw11.IecDoes", spec := "iecDoes", apart := false }
def IecDoesSaid : Prop := iecDoesRow.holds Try.pinned (OpenSpec.ofChange iecDoesSpec)

/-- ITS FALSE NEIGHBOUR: 'it returns false'. Refute it at one input. -/
def iecDoesWrong : ChangeSpec := { name := "iecDoes", fn := fun _ => fun
  | [d1, d2, d3] => { results := [.lit (.bool false)], args := [d1, d2, d3] }
  | _ => none }
def IecDoesWrongFalsely : Prop := iecDoesRow.holds Try.pinned (OpenSpec.ofChange iecDoesWrong)

/-- 'fuglemanlaw11.IecBytes': WHATEVER THE INPUT: true; the input reads as it did. -/
def iecBytesSpec : ChangeSpec := { name := "iecBytes", fn := fun _ => fun
  | [d1, d2, d3] => { results := [.lit (.bool true)], args := [d1, d2, d3] }
  | _ => none }
def iecBytesRow : OpenClaim := { program := "ytclbmgnpgjhlhaa", sum := "0fc3465fdc6185d94cfa479007145880eac02c7a85886d03dadf7879dbfb4260", func := "fugleman/fuglemanlaw11.IecBytes", spec := "iecBytes", apart := false }
def IecBytesSaid : Prop := iecBytesRow.holds Try.pinned (OpenSpec.ofChange iecBytesSpec)

/-- ITS FALSE NEIGHBOUR: 'it returns false'. Refute it at one input. -/
def iecBytesWrong : ChangeSpec := { name := "iecBytes", fn := fun _ => fun
  | [d1, d2, d3] => { results := [.lit (.bool false)], args := [d1, d2, d3] }
  | _ => none }
def IecBytesWrongFalsely : Prop := iecBytesRow.holds Try.pinned (OpenSpec.ofChange iecBytesWrong)

/-- 'fuglemanlaw11.IecBack': WHATEVER THE INPUT: true; the input reads as it did. -/
def iecBackSpec : ChangeSpec := { name := "iecBack", fn := fun _ => fun
  | [d1, d2, d3] => { results := [.lit (.bool true)], args := [d1, d2, d3] }
  | _ => none }
def iecBackRow : OpenClaim := { program := "ytclbmgnpgjhlhaa", sum := "0fc3465fdc6185d94cfa479007145880eac02c7a85886d03dadf7879dbfb4260", func := "fugleman/fuglemanlaw11.IecBack", spec := "iecBack", apart := false }
def IecBackSaid : Prop := iecBackRow.holds Try.pinned (OpenSpec.ofChange iecBackSpec)

/-- ITS FALSE NEIGHBOUR: 'it returns false'. Refute it at one input. -/
def iecBackWrong : ChangeSpec := { name := "iecBack", fn := fun _ => fun
  | [d1, d2, d3] => { results := [.lit (.bool false)], args := [d1, d2, d3] }
  | _ => none }
def IecBackWrongFalsely : Prop := iecBackRow.holds Try.pinned (OpenSpec.ofChange iecBackWrong)

/-- 'fuglemanlaw11.IecRings': WHATEVER THE INPUT: true; the input reads as it did. -/
def iecRingsSpec : ChangeSpec := { name := "iecRings", fn := fun _ => fun
  | [d1, d2] => { results := [.lit (.bool true)], args := [d1, d2] }
  | _ => none }
def iecRingsRow : OpenClaim := { program := "ytclbmgnpgjhlhaa", sum := "0fc3465fdc6185d94cfa479007145880eac02c7a85886d03dadf7879dbfb4260", func := "fugleman/fuglemanlaw11.IecRings", spec := "iecRings", unfollowed := true, recurses := true, apart := false }
def IecRingsSaid : Prop := iecRingsRow.holds Try.pinned (OpenSpec.ofChange iecRingsSpec)

/-- ITS FALSE NEIGHBOUR: 'it returns false'. Refute it at one input. -/
def iecRingsWrong : ChangeSpec := { name := "iecRings", fn := fun _ => fun
  | [d1, d2] => { results := [.lit (.bool false)], args := [d1, d2] }
  | _ => none }
def IecRingsWrongFalsely : Prop := iecRingsRow.holds Try.pinned (OpenSpec.ofChange iecRingsWrong)

/-- 'fuglemanlaw11.IecLogic': WHATEVER THE INPUT: true; the input reads as it did. -/
def iecLogicSpec : ChangeSpec := { name := "iecLogic", fn := fun _ => fun
  | [d1, d2, d3] => { results := [.lit (.bool true)], args := [d1, d2, d3] }
  | _ => none }
def iecLogicRow : OpenClaim := { program := "ytclbmgnpgjhlhaa", sum := "0fc3465fdc6185d94cfa479007145880eac02c7a85886d03dadf7879dbfb4260", func := "fugleman/fuglemanlaw11.IecLogic", spec := "iecLogic", unfollowed := true, recurses := true, apart := false }
def IecLogicSaid : Prop := iecLogicRow.holds Try.pinned (OpenSpec.ofChange iecLogicSpec)

/-- ITS FALSE NEIGHBOUR: 'it returns false'. Refute it at one input. -/
def iecLogicWrong : ChangeSpec := { name := "iecLogic", fn := fun _ => fun
  | [d1, d2, d3] => { results := [.lit (.bool false)], args := [d1, d2, d3] }
  | _ => none }
def IecLogicWrongFalsely : Prop := iecLogicRow.holds Try.pinned (OpenSpec.ofChange iecLogicWrong)

/-- 'fuglemanlaw11.IecKinds': WHATEVER THE INPUT: true; the input reads as it did. -/
def iecKindsSpec : ChangeSpec := { name := "iecKinds", fn := fun _ => fun
  | [d1, d2, d3] => { results := [.lit (.bool true)], args := [d1, d2, d3] }
  | _ => none }
def iecKindsRow : OpenClaim := { program := "ytclbmgnpgjhlhaa", sum := "0fc3465fdc6185d94cfa479007145880eac02c7a85886d03dadf7879dbfb4260", func := "fugleman/fuglemanlaw11.IecKinds", spec := "iecKinds", unfollowed := true, recurses := true, apart := false }
def IecKindsSaid : Prop := iecKindsRow.holds Try.pinned (OpenSpec.ofChange iecKindsSpec)

/-- ITS FALSE NEIGHBOUR: 'it returns false'. Refute it at one input. -/
def iecKindsWrong : ChangeSpec := { name := "iecKinds", fn := fun _ => fun
  | [d1, d2, d3] => { results := [.lit (.bool false)], args := [d1, d2, d3] }
  | _ => none }
def IecKindsWrongFalsely : Prop := iecKindsRow.holds Try.pinned (OpenSpec.ofChange iecKindsWrong)

/-- 'fuglemanlaw13.CodeReads': WHATEVER THE INPUT: true; the input reads as it did. -/
def codeReadsSpec : ChangeSpec := { name := "codeReads", fn := fun _ => fun
  | [d] => { results := [.lit (.bool true)], args := [d] }
  | _ => none }
def codeReadsRow : OpenClaim := { program := "ytclbmgnpgjhlhaa", sum := "0fc3465fdc6185d94cfa479007145880eac02c7a85886d03dadf7879dbfb4260", func := "fugleman/fuglemanlaw13.CodeReads", spec := "codeReads", unfollowed := true, recurses := true, apart := false }
def CodeReadsSaid : Prop := codeReadsRow.holds Try.pinned (OpenSpec.ofChange codeReadsSpec)

/-- ITS FALSE NEIGHBOUR: 'it returns false'. Refute it at one input. -/
def codeReadsWrong : ChangeSpec := { name := "codeReads", fn := fun _ => fun
  | [d] => { results := [.lit (.bool false)], args := [d] }
  | _ => none }
def CodeReadsWrongFalsely : Prop := codeReadsRow.holds Try.pinned (OpenSpec.ofChange codeReadsWrong)

/-- 'fuglemanlaw13.CodeMakes': WHATEVER THE INPUT: true; the input reads as it did. -/
def codeMakesSpec : ChangeSpec := { name := "codeMakes", fn := fun _ => fun
  | [d] => { results := [.lit (.bool true)], args := [d] }
  | _ => none }
def codeMakesRow : OpenClaim := { program := "ytclbmgnpgjhlhaa", sum := "0fc3465fdc6185d94cfa479007145880eac02c7a85886d03dadf7879dbfb4260", func := "fugleman/fuglemanlaw13.CodeMakes", spec := "codeMakes", unfollowed := true, recurses := true, apart := false }
def CodeMakesSaid : Prop := codeMakesRow.holds Try.pinned (OpenSpec.ofChange codeMakesSpec)

/-- ITS FALSE NEIGHBOUR: 'it returns false'. Refute it at one input. -/
def codeMakesWrong : ChangeSpec := { name := "codeMakes", fn := fun _ => fun
  | [d] => { results := [.lit (.bool false)], args := [d] }
  | _ => none }
def CodeMakesWrongFalsely : Prop := codeMakesRow.holds Try.pinned (OpenSpec.ofChange codeMakesWrong)

/-- 'fuglemanlaw13.CodeHurt': WHATEVER THE INPUT: true; the input reads as it did. -/
def codeHurtSpec : ChangeSpec := { name := "codeHurt", fn := fun _ => fun
  | [d1, d2, d3] => { results := [.lit (.bool true)], args := [d1, d2, d3] }
  | _ => none }
def codeHurtRow : OpenClaim := { program := "ytclbmgnpgjhlhaa", sum := "0fc3465fdc6185d94cfa479007145880eac02c7a85886d03dadf7879dbfb4260", func := "fugleman/fuglemanlaw13.CodeHurt", spec := "codeHurt", unfollowed := true, recurses := true, apart := false }
def CodeHurtSaid : Prop := codeHurtRow.holds Try.pinned (OpenSpec.ofChange codeHurtSpec)

/-- ITS FALSE NEIGHBOUR: 'it returns false'. Refute it at one input. -/
def codeHurtWrong : ChangeSpec := { name := "codeHurt", fn := fun _ => fun
  | [d1, d2, d3] => { results := [.lit (.bool false)], args := [d1, d2, d3] }
  | _ => none }
def CodeHurtWrongFalsely : Prop := codeHurtRow.holds Try.pinned (OpenSpec.ofChange codeHurtWrong)

/- THE SECOND FORM. 'bulk': how many values and letters a reading holds, each counted each time it is reached (what is shared counts as often as it is met; a slice's spare places count too). A statement '..UptoSaid' is the law's where the arguments, and the package variables that the reading takes, are together of bulk at most 1048576: NARROWER than '..Said'. Prove '..Said' where nothing that the law and all that it calls make is longer than what came in: it says more and counts as full. Else prove '..UptoSaid'. A law counts once. -/
mutual
def uptoBulk {H : Type} : DataW H → Nat
  | .lit (.string bytes) => bytes.length + 1
  | .lit _ => 1
  | .nil => 1
  | .ptr d => uptoBulk d + 1
  | .slice elems spare => uptoBulkAll elems + uptoBulkAll spare + 1
  | .agg parts => uptoBulkAll parts + 1
  | .iface _ d => uptoBulk d + 1
  | .map entries => uptoBulkEntries entries + 1
  | .held _ => 1
def uptoBulkAll {H : Type} : List (DataW H) → Nat
  | [] => 0
  | d :: r => uptoBulk d + uptoBulkAll r
def uptoBulkEntries {H : Type} : List (Lit × DataW H) → Nat
  | [] => 0
  | x :: r => uptoBulkEntry x + uptoBulkEntries r
def uptoBulkEntry {H : Type} : Lit × DataW H → Nat
  | (.string bytes, d) => bytes.length + uptoBulk d + 1
  | (_, d) => uptoBulk d + 1
 end
def uptoSmall : (H : Type) → List (DataW H) → Bool := fun _ ds => decide (uptoBulkAll ds ≤ 1048576)
def OpenSpec.upto (s : _root_.Go.ChangeSpec) : _root_.Go.OpenSpec := { _root_.Go.OpenSpec.ofChange s with cond := some uptoSmall }

/-- 'fuglemanlaw11.IecDoes', WHERE WHAT IT READS IS OF BULK AT MOST 1048576: true; the input reads as it did. -/
def iecDoesUptoRow : OpenClaim := { program := "ytclbmgnpgjhlhaa", sum := "0fc3465fdc6185d94cfa479007145880eac02c7a85886d03dadf7879dbfb4260", func := "fugleman/fuglemanlaw11.IecDoes", spec := "iecDoes", apart := false, narrowed := true }
def IecDoesUptoSaid : Prop := iecDoesUptoRow.holds Try.pinned (OpenSpec.upto iecDoesSpec)

/-- 'fuglemanlaw11.IecBytes', WHERE WHAT IT READS IS OF BULK AT MOST 1048576: true; the input reads as it did. -/
def iecBytesUptoRow : OpenClaim := { program := "ytclbmgnpgjhlhaa", sum := "0fc3465fdc6185d94cfa479007145880eac02c7a85886d03dadf7879dbfb4260", func := "fugleman/fuglemanlaw11.IecBytes", spec := "iecBytes", apart := false, narrowed := true }
def IecBytesUptoSaid : Prop := iecBytesUptoRow.holds Try.pinned (OpenSpec.upto iecBytesSpec)

/-- 'fuglemanlaw11.IecBack', WHERE WHAT IT READS IS OF BULK AT MOST 1048576: true; the input reads as it did. -/
def iecBackUptoRow : OpenClaim := { program := "ytclbmgnpgjhlhaa", sum := "0fc3465fdc6185d94cfa479007145880eac02c7a85886d03dadf7879dbfb4260", func := "fugleman/fuglemanlaw11.IecBack", spec := "iecBack", apart := false, narrowed := true }
def IecBackUptoSaid : Prop := iecBackUptoRow.holds Try.pinned (OpenSpec.upto iecBackSpec)

/-- 'fuglemanlaw11.IecRings', WHERE WHAT IT READS IS OF BULK AT MOST 1048576: true; the input reads as it did. -/
def iecRingsUptoRow : OpenClaim := { program := "ytclbmgnpgjhlhaa", sum := "0fc3465fdc6185d94cfa479007145880eac02c7a85886d03dadf7879dbfb4260", func := "fugleman/fuglemanlaw11.IecRings", spec := "iecRings", unfollowed := true, recurses := true, apart := false, narrowed := true }
def IecRingsUptoSaid : Prop := iecRingsUptoRow.holds Try.pinned (OpenSpec.upto iecRingsSpec)

/-- 'fuglemanlaw11.IecLogic', WHERE WHAT IT READS IS OF BULK AT MOST 1048576: true; the input reads as it did. -/
def iecLogicUptoRow : OpenClaim := { program := "ytclbmgnpgjhlhaa", sum := "0fc3465fdc6185d94cfa479007145880eac02c7a85886d03dadf7879dbfb4260", func := "fugleman/fuglemanlaw11.IecLogic", spec := "iecLogic", unfollowed := true, recurses := true, apart := false, narrowed := true }
def IecLogicUptoSaid : Prop := iecLogicUptoRow.holds Try.pinned (OpenSpec.upto iecLogicSpec)

/-- 'fuglemanlaw11.IecKinds', WHERE WHAT IT READS IS OF BULK AT MOST 1048576: true; the input reads as it did. -/
def iecKindsUptoRow : OpenClaim := { program := "ytclbmgnpgjhlhaa", sum := "0fc3465fdc6185d94cfa479007145880eac02c7a85886d03dadf7879dbfb4260", func := "fugleman/fuglemanlaw11.IecKinds", spec := "iecKinds", unfollowed := true, recurses := true, apart := false, narrowed := true }
def IecKindsUptoSaid : Prop := iecKindsUptoRow.holds Try.pinned (OpenSpec.upto iecKindsSpec)

/-- 'fuglemanlaw13.CodeReads', WHERE WHAT IT READS IS OF BULK AT MOST 1048576: true; the input reads as it did. -/
def codeReadsUptoRow : OpenClaim := { program := "ytclbmgnpgjhlhaa", sum := "0fc3465fdc6185d94cfa479007145880eac02c7a85886d03dadf7879dbfb4260", func := "fugleman/fuglemanlaw13.CodeReads", spec := "codeReads", unfollowed := true, recurses := true, apart := false, narrowed := true }
def CodeReadsUptoSaid : Prop := codeReadsUptoRow.holds Try.pinned (OpenSpec.upto codeReadsSpec)

/-- 'fuglemanlaw13.CodeMakes', WHERE WHAT IT READS IS OF BULK AT MOST 1048576: true; the input reads as it did. -/
def codeMakesUptoRow : OpenClaim := { program := "ytclbmgnpgjhlhaa", sum := "0fc3465fdc6185d94cfa479007145880eac02c7a85886d03dadf7879dbfb4260", func := "fugleman/fuglemanlaw13.CodeMakes", spec := "codeMakes", unfollowed := true, recurses := true, apart := false, narrowed := true }
def CodeMakesUptoSaid : Prop := codeMakesUptoRow.holds Try.pinned (OpenSpec.upto codeMakesSpec)

/-- 'fuglemanlaw13.CodeHurt', WHERE WHAT IT READS IS OF BULK AT MOST 1048576: true; the input reads as it did. -/
def codeHurtUptoRow : OpenClaim := { program := "ytclbmgnpgjhlhaa", sum := "0fc3465fdc6185d94cfa479007145880eac02c7a85886d03dadf7879dbfb4260", func := "fugleman/fuglemanlaw13.CodeHurt", spec := "codeHurt", unfollowed := true, recurses := true, apart := false, narrowed := true }
def CodeHurtUptoSaid : Prop := codeHurtUptoRow.holds Try.pinned (OpenSpec.upto codeHurtSpec)

end Rows
end Go.Proofs.Ytclbmgnpgjhlhaa
