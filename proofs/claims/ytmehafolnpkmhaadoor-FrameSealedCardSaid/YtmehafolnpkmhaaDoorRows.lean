/-
  NARROWER THAN 'FOR EVERY INPUT', by the rows' own cells (each row's printed sentence says how): MembersNext: laid · MembersSets: laid · MembersRound: laid · MembersBetween: laid · MembersParts: laid · FrameMakes: laid · FrameReads: laid · FrameSealed: laid · FrameCuts: laid · FrameBursts: laid.
  DERIVED. THE GIVEN ROWS OF THIS SEAT. 10 by the template 'for every input the law returns true; each argument reads behind the call as it read before'; 0 by the template 'total and deterministic' (their statements: YtmehafolnpkmhaaDoorTotals.lean).
  GIVEN WITH THE SEED: the statements are not yours to turn. If you find one false, say at which input.
  Laid BY PROGRAM, IN A SANDBOX (cutbox-rows.mjs): the forced cells as the released guide's own fill.sh prints them over the translation 6adca20ef04812d6… (all of the seat's roots in one cut). By AI agents, Wed Nov 11 2026. No macro, syntax, notation, axiom, sorry.
-/
import Derived.Test.YtmehafolnpkmhaaDoorChecked
import GoSem.Claim
import GoSem.ClaimJoined
import GoSem.ClaimMapViews
import Derived.JoinedTies
import Derived.KernelRfl
namespace Go.Proofs.YtmehafolnpkmhaaDoor
/- THE CELL 'sum', in the pinned program and in every row, IS THE sha256 OF THE DUMP (.gsa) THAT YtmehafolnpkmhaaDoorProg.lean LOADS. Nothing in Lean hashes anything: it is a label: what it is worth is what the hold of that sum in a sandbox is worth. -/
noncomputable def Tryd.pinned : Pinned := { name := "ytmehafolnpkmhaadoor", sum := "6adca20ef04812d6cf6de3262906e4a6f8e0f9eafeea9ad2564c19a0cc47c8b3", checked := Tryd.checked }
namespace Rows
def none {H : Type} : Left H := { results := [], args := [] }

/- WHAT THE LISTED PACKAGE-LEVEL VARIABLES READ AS WHEN THE CALL BEGINS. Each datum BY PROGRAM (the guide's laid-datum.mjs) off the statement by which the dump's own 'gosem.cut.vars' lays the variable. In a bare row this is a premise. The card (YtmehafolnpkmhaaDoorCards.lean) ties it to the program's text. -/
def laid_math_bits_deBruijn32tab {H : Type} : DataW H := .agg [.lit (.int .u8 0), .lit (.int .u8 1), .lit (.int .u8 28), .lit (.int .u8 2), .lit (.int .u8 29), .lit (.int .u8 14), .lit (.int .u8 24), .lit (.int .u8 3), .lit (.int .u8 30), .lit (.int .u8 22), .lit (.int .u8 20), .lit (.int .u8 15), .lit (.int .u8 25), .lit (.int .u8 17), .lit (.int .u8 4), .lit (.int .u8 8), .lit (.int .u8 31), .lit (.int .u8 27), .lit (.int .u8 13), .lit (.int .u8 23), .lit (.int .u8 21), .lit (.int .u8 19), .lit (.int .u8 16), .lit (.int .u8 7), .lit (.int .u8 26), .lit (.int .u8 12), .lit (.int .u8 18), .lit (.int .u8 6), .lit (.int .u8 11), .lit (.int .u8 5), .lit (.int .u8 10), .lit (.int .u8 9)]
def laid_math_bits_deBruijn64tab {H : Type} : DataW H := .agg [.lit (.int .u8 0), .lit (.int .u8 1), .lit (.int .u8 56), .lit (.int .u8 2), .lit (.int .u8 57), .lit (.int .u8 49), .lit (.int .u8 28), .lit (.int .u8 3), .lit (.int .u8 61), .lit (.int .u8 58), .lit (.int .u8 42), .lit (.int .u8 50), .lit (.int .u8 38), .lit (.int .u8 29), .lit (.int .u8 17), .lit (.int .u8 4), .lit (.int .u8 62), .lit (.int .u8 47), .lit (.int .u8 59), .lit (.int .u8 36), .lit (.int .u8 45), .lit (.int .u8 43), .lit (.int .u8 51), .lit (.int .u8 22), .lit (.int .u8 53), .lit (.int .u8 39), .lit (.int .u8 33), .lit (.int .u8 30), .lit (.int .u8 24), .lit (.int .u8 18), .lit (.int .u8 12), .lit (.int .u8 5), .lit (.int .u8 63), .lit (.int .u8 55), .lit (.int .u8 48), .lit (.int .u8 27), .lit (.int .u8 60), .lit (.int .u8 41), .lit (.int .u8 37), .lit (.int .u8 16), .lit (.int .u8 46), .lit (.int .u8 35), .lit (.int .u8 44), .lit (.int .u8 21), .lit (.int .u8 52), .lit (.int .u8 32), .lit (.int .u8 23), .lit (.int .u8 11), .lit (.int .u8 54), .lit (.int .u8 26), .lit (.int .u8 40), .lit (.int .u8 15), .lit (.int .u8 34), .lit (.int .u8 20), .lit (.int .u8 31), .lit (.int .u8 10), .lit (.int .u8 25), .lit (.int .u8 14), .lit (.int .u8 19), .lit (.int .u8 9), .lit (.int .u8 13), .lit (.int .u8 8), .lit (.int .u8 7), .lit (.int .u8 6)]
def laid_internal_strconv_uint64pow10 {H : Type} : DataW H := .agg [.lit (.int .u64 1), .lit (.int .u64 10), .lit (.int .u64 100), .lit (.int .u64 1000), .lit (.int .u64 10000), .lit (.int .u64 100000), .lit (.int .u64 1000000), .lit (.int .u64 10000000), .lit (.int .u64 100000000), .lit (.int .u64 1000000000), .lit (.int .u64 10000000000), .lit (.int .u64 100000000000), .lit (.int .u64 1000000000000), .lit (.int .u64 10000000000000), .lit (.int .u64 100000000000000), .lit (.int .u64 1000000000000000), .lit (.int .u64 10000000000000000), .lit (.int .u64 100000000000000000), .lit (.int .u64 1000000000000000000), .lit (.int .u64 10000000000000000000)]

/-- 'fuglemanlaw05.MembersNext': WHATEVER THE INPUT: true; the input reads as it did. -/
def membersNextSpec : ChangeSpec := { name := "membersNext", fn := fun _ => fun
  | [d1, d2] => { results := [.lit (.bool true)], args := [d1, d2] }
  | _ => none }
def membersNextRow : OpenClaim := { program := "ytmehafolnpkmhaadoor", sum := "6adca20ef04812d6cf6de3262906e4a6f8e0f9eafeea9ad2564c19a0cc47c8b3", func := "fugleman/fuglemanlaw05.MembersNext", spec := "membersNext", inPlace := ["internal/abi.NoEscape", "internal/bytealg.MakeNoZero"], named := ["math/bits.deBruijn32tab", "internal/strconv.uint64pow10", "math/bits.deBruijn64tab"], apart := false, laid := [("math/bits.deBruijn32tab", laid_math_bits_deBruijn32tab), ("math/bits.deBruijn64tab", laid_math_bits_deBruijn64tab), ("internal/strconv.uint64pow10", laid_internal_strconv_uint64pow10)] }
def MembersNextSaid : Prop := membersNextRow.holds Tryd.pinned (OpenSpec.ofChange membersNextSpec)

/-- ITS FALSE NEIGHBOUR: 'it returns false'. Refute it at one input. -/
def membersNextWrong : ChangeSpec := { name := "membersNext", fn := fun _ => fun
  | [d1, d2] => { results := [.lit (.bool false)], args := [d1, d2] }
  | _ => none }
def MembersNextWrongFalsely : Prop := membersNextRow.holds Tryd.pinned (OpenSpec.ofChange membersNextWrong)

/-- 'fuglemanlaw05.MembersSets': WHATEVER THE INPUT: true; the input reads as it did. -/
def membersSetsSpec : ChangeSpec := { name := "membersSets", fn := fun _ => fun
  | [d1, d2] => { results := [.lit (.bool true)], args := [d1, d2] }
  | _ => none }
def membersSetsRow : OpenClaim := { program := "ytmehafolnpkmhaadoor", sum := "6adca20ef04812d6cf6de3262906e4a6f8e0f9eafeea9ad2564c19a0cc47c8b3", func := "fugleman/fuglemanlaw05.MembersSets", spec := "membersSets", inPlace := ["internal/abi.NoEscape", "internal/bytealg.MakeNoZero"], named := ["math/bits.deBruijn32tab", "internal/strconv.uint64pow10", "math/bits.deBruijn64tab"], apart := false, laid := [("math/bits.deBruijn32tab", laid_math_bits_deBruijn32tab), ("math/bits.deBruijn64tab", laid_math_bits_deBruijn64tab), ("internal/strconv.uint64pow10", laid_internal_strconv_uint64pow10)] }
def MembersSetsSaid : Prop := membersSetsRow.holds Tryd.pinned (OpenSpec.ofChange membersSetsSpec)

/-- ITS FALSE NEIGHBOUR: 'it returns false'. Refute it at one input. -/
def membersSetsWrong : ChangeSpec := { name := "membersSets", fn := fun _ => fun
  | [d1, d2] => { results := [.lit (.bool false)], args := [d1, d2] }
  | _ => none }
def MembersSetsWrongFalsely : Prop := membersSetsRow.holds Tryd.pinned (OpenSpec.ofChange membersSetsWrong)

/-- 'fuglemanlaw05.MembersRound': WHATEVER THE INPUT: true; the input reads as it did. -/
def membersRoundSpec : ChangeSpec := { name := "membersRound", fn := fun _ => fun
  | [d1, d2] => { results := [.lit (.bool true)], args := [d1, d2] }
  | _ => none }
def membersRoundRow : OpenClaim := { program := "ytmehafolnpkmhaadoor", sum := "6adca20ef04812d6cf6de3262906e4a6f8e0f9eafeea9ad2564c19a0cc47c8b3", func := "fugleman/fuglemanlaw05.MembersRound", spec := "membersRound", inPlace := ["internal/abi.NoEscape", "internal/bytealg.MakeNoZero"], named := ["math/bits.deBruijn32tab", "internal/strconv.uint64pow10", "math/bits.deBruijn64tab"], apart := false, laid := [("math/bits.deBruijn32tab", laid_math_bits_deBruijn32tab), ("math/bits.deBruijn64tab", laid_math_bits_deBruijn64tab), ("internal/strconv.uint64pow10", laid_internal_strconv_uint64pow10)] }
def MembersRoundSaid : Prop := membersRoundRow.holds Tryd.pinned (OpenSpec.ofChange membersRoundSpec)

/-- ITS FALSE NEIGHBOUR: 'it returns false'. Refute it at one input. -/
def membersRoundWrong : ChangeSpec := { name := "membersRound", fn := fun _ => fun
  | [d1, d2] => { results := [.lit (.bool false)], args := [d1, d2] }
  | _ => none }
def MembersRoundWrongFalsely : Prop := membersRoundRow.holds Tryd.pinned (OpenSpec.ofChange membersRoundWrong)

/-- 'fuglemanlaw05.MembersBetween': WHATEVER THE INPUT: true; the input reads as it did. -/
def membersBetweenSpec : ChangeSpec := { name := "membersBetween", fn := fun _ => fun
  | [d1, d2, d3] => { results := [.lit (.bool true)], args := [d1, d2, d3] }
  | _ => none }
def membersBetweenRow : OpenClaim := { program := "ytmehafolnpkmhaadoor", sum := "6adca20ef04812d6cf6de3262906e4a6f8e0f9eafeea9ad2564c19a0cc47c8b3", func := "fugleman/fuglemanlaw05.MembersBetween", spec := "membersBetween", inPlace := ["internal/abi.NoEscape", "internal/bytealg.MakeNoZero"], named := ["math/bits.deBruijn32tab", "internal/strconv.uint64pow10", "math/bits.deBruijn64tab"], apart := false, laid := [("math/bits.deBruijn32tab", laid_math_bits_deBruijn32tab), ("math/bits.deBruijn64tab", laid_math_bits_deBruijn64tab), ("internal/strconv.uint64pow10", laid_internal_strconv_uint64pow10)] }
def MembersBetweenSaid : Prop := membersBetweenRow.holds Tryd.pinned (OpenSpec.ofChange membersBetweenSpec)

/-- ITS FALSE NEIGHBOUR: 'it returns false'. Refute it at one input. -/
def membersBetweenWrong : ChangeSpec := { name := "membersBetween", fn := fun _ => fun
  | [d1, d2, d3] => { results := [.lit (.bool false)], args := [d1, d2, d3] }
  | _ => none }
def MembersBetweenWrongFalsely : Prop := membersBetweenRow.holds Tryd.pinned (OpenSpec.ofChange membersBetweenWrong)

/-- 'fuglemanlaw05.MembersParts': WHATEVER THE INPUT: true; the input reads as it did. -/
def membersPartsSpec : ChangeSpec := { name := "membersParts", fn := fun _ => fun
  | [d1, d2] => { results := [.lit (.bool true)], args := [d1, d2] }
  | _ => none }
def membersPartsRow : OpenClaim := { program := "ytmehafolnpkmhaadoor", sum := "6adca20ef04812d6cf6de3262906e4a6f8e0f9eafeea9ad2564c19a0cc47c8b3", func := "fugleman/fuglemanlaw05.MembersParts", spec := "membersParts", inPlace := ["internal/abi.NoEscape", "internal/bytealg.MakeNoZero"], named := ["math/bits.deBruijn32tab", "internal/strconv.uint64pow10", "math/bits.deBruijn64tab"], apart := false, laid := [("math/bits.deBruijn32tab", laid_math_bits_deBruijn32tab), ("math/bits.deBruijn64tab", laid_math_bits_deBruijn64tab), ("internal/strconv.uint64pow10", laid_internal_strconv_uint64pow10)] }
def MembersPartsSaid : Prop := membersPartsRow.holds Tryd.pinned (OpenSpec.ofChange membersPartsSpec)

/-- ITS FALSE NEIGHBOUR: 'it returns false'. Refute it at one input. -/
def membersPartsWrong : ChangeSpec := { name := "membersParts", fn := fun _ => fun
  | [d1, d2] => { results := [.lit (.bool false)], args := [d1, d2] }
  | _ => none }
def MembersPartsWrongFalsely : Prop := membersPartsRow.holds Tryd.pinned (OpenSpec.ofChange membersPartsWrong)

/-- 'fuglemanlaw04.FrameMakes': WHATEVER THE INPUT: true; the input reads as it did. -/
def frameMakesSpec : ChangeSpec := { name := "frameMakes", fn := fun _ => fun
  | [d] => { results := [.lit (.bool true)], args := [d] }
  | _ => none }
def frameMakesRow : OpenClaim := { program := "ytmehafolnpkmhaadoor", sum := "6adca20ef04812d6cf6de3262906e4a6f8e0f9eafeea9ad2564c19a0cc47c8b3", func := "fugleman/fuglemanlaw04.FrameMakes", spec := "frameMakes", inPlace := ["internal/abi.NoEscape", "internal/bytealg.MakeNoZero"], named := ["internal/strconv.uint64pow10", "math/bits.deBruijn32tab", "math/bits.deBruijn64tab"], apart := false, laid := [("math/bits.deBruijn32tab", laid_math_bits_deBruijn32tab), ("math/bits.deBruijn64tab", laid_math_bits_deBruijn64tab), ("internal/strconv.uint64pow10", laid_internal_strconv_uint64pow10)] }
def FrameMakesSaid : Prop := frameMakesRow.holds Tryd.pinned (OpenSpec.ofChange frameMakesSpec)

/-- ITS FALSE NEIGHBOUR: 'it returns false'. Refute it at one input. -/
def frameMakesWrong : ChangeSpec := { name := "frameMakes", fn := fun _ => fun
  | [d] => { results := [.lit (.bool false)], args := [d] }
  | _ => none }
def FrameMakesWrongFalsely : Prop := frameMakesRow.holds Tryd.pinned (OpenSpec.ofChange frameMakesWrong)

/-- 'fuglemanlaw04.FrameReads': WHATEVER THE INPUT: true; the input reads as it did. -/
def frameReadsSpec : ChangeSpec := { name := "frameReads", fn := fun _ => fun
  | [d] => { results := [.lit (.bool true)], args := [d] }
  | _ => none }
def frameReadsRow : OpenClaim := { program := "ytmehafolnpkmhaadoor", sum := "6adca20ef04812d6cf6de3262906e4a6f8e0f9eafeea9ad2564c19a0cc47c8b3", func := "fugleman/fuglemanlaw04.FrameReads", spec := "frameReads", inPlace := ["internal/abi.NoEscape", "internal/bytealg.MakeNoZero"], named := ["internal/strconv.uint64pow10", "math/bits.deBruijn32tab", "math/bits.deBruijn64tab"], apart := false, laid := [("math/bits.deBruijn32tab", laid_math_bits_deBruijn32tab), ("math/bits.deBruijn64tab", laid_math_bits_deBruijn64tab), ("internal/strconv.uint64pow10", laid_internal_strconv_uint64pow10)] }
def FrameReadsSaid : Prop := frameReadsRow.holds Tryd.pinned (OpenSpec.ofChange frameReadsSpec)

/-- ITS FALSE NEIGHBOUR: 'it returns false'. Refute it at one input. -/
def frameReadsWrong : ChangeSpec := { name := "frameReads", fn := fun _ => fun
  | [d] => { results := [.lit (.bool false)], args := [d] }
  | _ => none }
def FrameReadsWrongFalsely : Prop := frameReadsRow.holds Tryd.pinned (OpenSpec.ofChange frameReadsWrong)

/-- 'fuglemanlaw04.FrameSealed': WHATEVER THE INPUT: true; the input reads as it did. -/
def frameSealedSpec : ChangeSpec := { name := "frameSealed", fn := fun _ => fun
  | [d] => { results := [.lit (.bool true)], args := [d] }
  | _ => none }
def frameSealedRow : OpenClaim := { program := "ytmehafolnpkmhaadoor", sum := "6adca20ef04812d6cf6de3262906e4a6f8e0f9eafeea9ad2564c19a0cc47c8b3", func := "fugleman/fuglemanlaw04.FrameSealed", spec := "frameSealed", inPlace := ["internal/abi.NoEscape", "internal/bytealg.MakeNoZero"], named := ["internal/strconv.uint64pow10", "math/bits.deBruijn32tab", "math/bits.deBruijn64tab"], apart := false, laid := [("math/bits.deBruijn32tab", laid_math_bits_deBruijn32tab), ("math/bits.deBruijn64tab", laid_math_bits_deBruijn64tab), ("internal/strconv.uint64pow10", laid_internal_strconv_uint64pow10)] }
def FrameSealedSaid : Prop := frameSealedRow.holds Tryd.pinned (OpenSpec.ofChange frameSealedSpec)

/-- ITS FALSE NEIGHBOUR: 'it returns false'. Refute it at one input. -/
def frameSealedWrong : ChangeSpec := { name := "frameSealed", fn := fun _ => fun
  | [d] => { results := [.lit (.bool false)], args := [d] }
  | _ => none }
def FrameSealedWrongFalsely : Prop := frameSealedRow.holds Tryd.pinned (OpenSpec.ofChange frameSealedWrong)

/-- 'fuglemanlaw04.FrameCuts': WHATEVER THE INPUT: true; the input reads as it did. -/
def frameCutsSpec : ChangeSpec := { name := "frameCuts", fn := fun _ => fun
  | [d1, d2, d3] => { results := [.lit (.bool true)], args := [d1, d2, d3] }
  | _ => none }
def frameCutsRow : OpenClaim := { program := "ytmehafolnpkmhaadoor", sum := "6adca20ef04812d6cf6de3262906e4a6f8e0f9eafeea9ad2564c19a0cc47c8b3", func := "fugleman/fuglemanlaw04.FrameCuts", spec := "frameCuts", inPlace := ["internal/abi.NoEscape", "internal/bytealg.MakeNoZero"], named := ["internal/strconv.uint64pow10", "math/bits.deBruijn32tab", "math/bits.deBruijn64tab"], apart := false, laid := [("math/bits.deBruijn32tab", laid_math_bits_deBruijn32tab), ("math/bits.deBruijn64tab", laid_math_bits_deBruijn64tab), ("internal/strconv.uint64pow10", laid_internal_strconv_uint64pow10)] }
def FrameCutsSaid : Prop := frameCutsRow.holds Tryd.pinned (OpenSpec.ofChange frameCutsSpec)

/-- ITS FALSE NEIGHBOUR: 'it returns false'. Refute it at one input. -/
def frameCutsWrong : ChangeSpec := { name := "frameCuts", fn := fun _ => fun
  | [d1, d2, d3] => { results := [.lit (.bool false)], args := [d1, d2, d3] }
  | _ => none }
def FrameCutsWrongFalsely : Prop := frameCutsRow.holds Tryd.pinned (OpenSpec.ofChange frameCutsWrong)

/-- 'fuglemanlaw04.FrameBursts': WHATEVER THE INPUT: true; the input reads as it did. -/
def frameBurstsSpec : ChangeSpec := { name := "frameBursts", fn := fun _ => fun
  | [d1, d2, d3] => { results := [.lit (.bool true)], args := [d1, d2, d3] }
  | _ => none }
def frameBurstsRow : OpenClaim := { program := "ytmehafolnpkmhaadoor", sum := "6adca20ef04812d6cf6de3262906e4a6f8e0f9eafeea9ad2564c19a0cc47c8b3", func := "fugleman/fuglemanlaw04.FrameBursts", spec := "frameBursts", inPlace := ["internal/abi.NoEscape", "internal/bytealg.MakeNoZero"], named := ["internal/strconv.uint64pow10", "math/bits.deBruijn32tab", "math/bits.deBruijn64tab"], apart := false, laid := [("math/bits.deBruijn32tab", laid_math_bits_deBruijn32tab), ("math/bits.deBruijn64tab", laid_math_bits_deBruijn64tab), ("internal/strconv.uint64pow10", laid_internal_strconv_uint64pow10)] }
def FrameBurstsSaid : Prop := frameBurstsRow.holds Tryd.pinned (OpenSpec.ofChange frameBurstsSpec)

/-- ITS FALSE NEIGHBOUR: 'it returns false'. Refute it at one input. -/
def frameBurstsWrong : ChangeSpec := { name := "frameBursts", fn := fun _ => fun
  | [d1, d2, d3] => { results := [.lit (.bool false)], args := [d1, d2, d3] }
  | _ => none }
def FrameBurstsWrongFalsely : Prop := frameBurstsRow.holds Tryd.pinned (OpenSpec.ofChange frameBurstsWrong)

/- THE SECOND FORM. 'bulk': how many values and letters a reading holds, each counted each time it is reached (what is shared counts as often as it is met; a slice's spare places count too). A statement '..UptoSaid' is the law's where the arguments, and the package variables that the reading takes, are together of bulk at most 1048576: NARROWER than '..Said'. Prove '..Said' where nothing that the law and all that it calls make is longer than what came in: it says more and counts as full. Else prove '..UptoSaid'. A law counts once. -/
mutual
def uptoBulk {H : Type} : DataW H → Nat
  | .lit (.string bytes) => bytes.length + 1
  | .lit _ => 1
  | .nil => 1
  | .ptr d => uptoBulk d + 1
  | .slice elems spare => uptoBulkAll elems + uptoBulkAll spare + 1
  | .agg parts => uptoBulkAll parts + 1
  | .iface _ d => uptoBulk d + 1
  | .map entries => uptoBulkEntries entries + 1
  | .held _ => 1
def uptoBulkAll {H : Type} : List (DataW H) → Nat
  | [] => 0
  | d :: r => uptoBulk d + uptoBulkAll r
def uptoBulkEntries {H : Type} : List (Lit × DataW H) → Nat
  | [] => 0
  | x :: r => uptoBulkEntry x + uptoBulkEntries r
def uptoBulkEntry {H : Type} : Lit × DataW H → Nat
  | (.string bytes, d) => bytes.length + uptoBulk d + 1
  | (_, d) => uptoBulk d + 1
 end
def uptoSmall : (H : Type) → List (DataW H) → Bool := fun _ ds => decide (uptoBulkAll ds ≤ 1048576)
def OpenSpec.upto (s : _root_.Go.ChangeSpec) : _root_.Go.OpenSpec := { _root_.Go.OpenSpec.ofChange s with cond := some uptoSmall }

/-- 'fuglemanlaw05.MembersNext', WHERE WHAT IT READS IS OF BULK AT MOST 1048576: true; the input reads as it did. -/
def membersNextUptoRow : OpenClaim := { program := "ytmehafolnpkmhaadoor", sum := "6adca20ef04812d6cf6de3262906e4a6f8e0f9eafeea9ad2564c19a0cc47c8b3", func := "fugleman/fuglemanlaw05.MembersNext", spec := "membersNext", inPlace := ["internal/abi.NoEscape", "internal/bytealg.MakeNoZero"], named := ["math/bits.deBruijn32tab", "internal/strconv.uint64pow10", "math/bits.deBruijn64tab"], apart := false, laid := [("math/bits.deBruijn32tab", laid_math_bits_deBruijn32tab), ("math/bits.deBruijn64tab", laid_math_bits_deBruijn64tab), ("internal/strconv.uint64pow10", laid_internal_strconv_uint64pow10)], narrowed := true }
def MembersNextUptoSaid : Prop := membersNextUptoRow.holds Tryd.pinned (OpenSpec.upto membersNextSpec)

/-- 'fuglemanlaw05.MembersSets', WHERE WHAT IT READS IS OF BULK AT MOST 1048576: true; the input reads as it did. -/
def membersSetsUptoRow : OpenClaim := { program := "ytmehafolnpkmhaadoor", sum := "6adca20ef04812d6cf6de3262906e4a6f8e0f9eafeea9ad2564c19a0cc47c8b3", func := "fugleman/fuglemanlaw05.MembersSets", spec := "membersSets", inPlace := ["internal/abi.NoEscape", "internal/bytealg.MakeNoZero"], named := ["math/bits.deBruijn32tab", "internal/strconv.uint64pow10", "math/bits.deBruijn64tab"], apart := false, laid := [("math/bits.deBruijn32tab", laid_math_bits_deBruijn32tab), ("math/bits.deBruijn64tab", laid_math_bits_deBruijn64tab), ("internal/strconv.uint64pow10", laid_internal_strconv_uint64pow10)], narrowed := true }
def MembersSetsUptoSaid : Prop := membersSetsUptoRow.holds Tryd.pinned (OpenSpec.upto membersSetsSpec)

/-- 'fuglemanlaw05.MembersRound', WHERE WHAT IT READS IS OF BULK AT MOST 1048576: true; the input reads as it did. -/
def membersRoundUptoRow : OpenClaim := { program := "ytmehafolnpkmhaadoor", sum := "6adca20ef04812d6cf6de3262906e4a6f8e0f9eafeea9ad2564c19a0cc47c8b3", func := "fugleman/fuglemanlaw05.MembersRound", spec := "membersRound", inPlace := ["internal/abi.NoEscape", "internal/bytealg.MakeNoZero"], named := ["math/bits.deBruijn32tab", "internal/strconv.uint64pow10", "math/bits.deBruijn64tab"], apart := false, laid := [("math/bits.deBruijn32tab", laid_math_bits_deBruijn32tab), ("math/bits.deBruijn64tab", laid_math_bits_deBruijn64tab), ("internal/strconv.uint64pow10", laid_internal_strconv_uint64pow10)], narrowed := true }
def MembersRoundUptoSaid : Prop := membersRoundUptoRow.holds Tryd.pinned (OpenSpec.upto membersRoundSpec)

/-- 'fuglemanlaw05.MembersBetween', WHERE WHAT IT READS IS OF BULK AT MOST 1048576: true; the input reads as it did. -/
def membersBetweenUptoRow : OpenClaim := { program := "ytmehafolnpkmhaadoor", sum := "6adca20ef04812d6cf6de3262906e4a6f8e0f9eafeea9ad2564c19a0cc47c8b3", func := "fugleman/fuglemanlaw05.MembersBetween", spec := "membersBetween", inPlace := ["internal/abi.NoEscape", "internal/bytealg.MakeNoZero"], named := ["math/bits.deBruijn32tab", "internal/strconv.uint64pow10", "math/bits.deBruijn64tab"], apart := false, laid := [("math/bits.deBruijn32tab", laid_math_bits_deBruijn32tab), ("math/bits.deBruijn64tab", laid_math_bits_deBruijn64tab), ("internal/strconv.uint64pow10", laid_internal_strconv_uint64pow10)], narrowed := true }
def MembersBetweenUptoSaid : Prop := membersBetweenUptoRow.holds Tryd.pinned (OpenSpec.upto membersBetweenSpec)

/-- 'fuglemanlaw05.MembersParts', WHERE WHAT IT READS IS OF BULK AT MOST 1048576: true; the input reads as it did. -/
def membersPartsUptoRow : OpenClaim := { program := "ytmehafolnpkmhaadoor", sum := "6adca20ef04812d6cf6de3262906e4a6f8e0f9eafeea9ad2564c19a0cc47c8b3", func := "fugleman/fuglemanlaw05.MembersParts", spec := "membersParts", inPlace := ["internal/abi.NoEscape", "internal/bytealg.MakeNoZero"], named := ["math/bits.deBruijn32tab", "internal/strconv.uint64pow10", "math/bits.deBruijn64tab"], apart := false, laid := [("math/bits.deBruijn32tab", laid_math_bits_deBruijn32tab), ("math/bits.deBruijn64tab", laid_math_bits_deBruijn64tab), ("internal/strconv.uint64pow10", laid_internal_strconv_uint64pow10)], narrowed := true }
def MembersPartsUptoSaid : Prop := membersPartsUptoRow.holds Tryd.pinned (OpenSpec.upto membersPartsSpec)

/-- 'fuglemanlaw04.FrameMakes', WHERE WHAT IT READS IS OF BULK AT MOST 1048576: true; the input reads as it did. -/
def frameMakesUptoRow : OpenClaim := { program := "ytmehafolnpkmhaadoor", sum := "6adca20ef04812d6cf6de3262906e4a6f8e0f9eafeea9ad2564c19a0cc47c8b3", func := "fugleman/fuglemanlaw04.FrameMakes", spec := "frameMakes", inPlace := ["internal/abi.NoEscape", "internal/bytealg.MakeNoZero"], named := ["internal/strconv.uint64pow10", "math/bits.deBruijn32tab", "math/bits.deBruijn64tab"], apart := false, laid := [("math/bits.deBruijn32tab", laid_math_bits_deBruijn32tab), ("math/bits.deBruijn64tab", laid_math_bits_deBruijn64tab), ("internal/strconv.uint64pow10", laid_internal_strconv_uint64pow10)], narrowed := true }
def FrameMakesUptoSaid : Prop := frameMakesUptoRow.holds Tryd.pinned (OpenSpec.upto frameMakesSpec)

/-- 'fuglemanlaw04.FrameReads', WHERE WHAT IT READS IS OF BULK AT MOST 1048576: true; the input reads as it did. -/
def frameReadsUptoRow : OpenClaim := { program := "ytmehafolnpkmhaadoor", sum := "6adca20ef04812d6cf6de3262906e4a6f8e0f9eafeea9ad2564c19a0cc47c8b3", func := "fugleman/fuglemanlaw04.FrameReads", spec := "frameReads", inPlace := ["internal/abi.NoEscape", "internal/bytealg.MakeNoZero"], named := ["internal/strconv.uint64pow10", "math/bits.deBruijn32tab", "math/bits.deBruijn64tab"], apart := false, laid := [("math/bits.deBruijn32tab", laid_math_bits_deBruijn32tab), ("math/bits.deBruijn64tab", laid_math_bits_deBruijn64tab), ("internal/strconv.uint64pow10", laid_internal_strconv_uint64pow10)], narrowed := true }
def FrameReadsUptoSaid : Prop := frameReadsUptoRow.holds Tryd.pinned (OpenSpec.upto frameReadsSpec)

/-- 'fuglemanlaw04.FrameSealed', WHERE WHAT IT READS IS OF BULK AT MOST 1048576: true; the input reads as it did. -/
def frameSealedUptoRow : OpenClaim := { program := "ytmehafolnpkmhaadoor", sum := "6adca20ef04812d6cf6de3262906e4a6f8e0f9eafeea9ad2564c19a0cc47c8b3", func := "fugleman/fuglemanlaw04.FrameSealed", spec := "frameSealed", inPlace := ["internal/abi.NoEscape", "internal/bytealg.MakeNoZero"], named := ["internal/strconv.uint64pow10", "math/bits.deBruijn32tab", "math/bits.deBruijn64tab"], apart := false, laid := [("math/bits.deBruijn32tab", laid_math_bits_deBruijn32tab), ("math/bits.deBruijn64tab", laid_math_bits_deBruijn64tab), ("internal/strconv.uint64pow10", laid_internal_strconv_uint64pow10)], narrowed := true }
def FrameSealedUptoSaid : Prop := frameSealedUptoRow.holds Tryd.pinned (OpenSpec.upto frameSealedSpec)

/-- 'fuglemanlaw04.FrameCuts', WHERE WHAT IT READS IS OF BULK AT MOST 1048576: true; the input reads as it did. -/
def frameCutsUptoRow : OpenClaim := { program := "ytmehafolnpkmhaadoor", sum := "6adca20ef04812d6cf6de3262906e4a6f8e0f9eafeea9ad2564c19a0cc47c8b3", func := "fugleman/fuglemanlaw04.FrameCuts", spec := "frameCuts", inPlace := ["internal/abi.NoEscape", "internal/bytealg.MakeNoZero"], named := ["internal/strconv.uint64pow10", "math/bits.deBruijn32tab", "math/bits.deBruijn64tab"], apart := false, laid := [("math/bits.deBruijn32tab", laid_math_bits_deBruijn32tab), ("math/bits.deBruijn64tab", laid_math_bits_deBruijn64tab), ("internal/strconv.uint64pow10", laid_internal_strconv_uint64pow10)], narrowed := true }
def FrameCutsUptoSaid : Prop := frameCutsUptoRow.holds Tryd.pinned (OpenSpec.upto frameCutsSpec)

/-- 'fuglemanlaw04.FrameBursts', WHERE WHAT IT READS IS OF BULK AT MOST 1048576: true; the input reads as it did. -/
def frameBurstsUptoRow : OpenClaim := { program := "ytmehafolnpkmhaadoor", sum := "6adca20ef04812d6cf6de3262906e4a6f8e0f9eafeea9ad2564c19a0cc47c8b3", func := "fugleman/fuglemanlaw04.FrameBursts", spec := "frameBursts", inPlace := ["internal/abi.NoEscape", "internal/bytealg.MakeNoZero"], named := ["internal/strconv.uint64pow10", "math/bits.deBruijn32tab", "math/bits.deBruijn64tab"], apart := false, laid := [("math/bits.deBruijn32tab", laid_math_bits_deBruijn32tab), ("math/bits.deBruijn64tab", laid_math_bits_deBruijn64tab), ("internal/strconv.uint64pow10", laid_internal_strconv_uint64pow10)], narrowed := true }
def FrameBurstsUptoSaid : Prop := frameBurstsUptoRow.holds Tryd.pinned (OpenSpec.upto frameBurstsSpec)

end Rows
end Go.Proofs.YtmehafolnpkmhaaDoor
