/- Functions of the program as plain Lean functions, and that the machine's calls do what these say (written by a program of mine, wip/myprint.py, over the kit's print). -/
import Derived.Test.YthjdepipmghbbaaDoorProg
import Derived.Below
import Derived.Deep.Draws
import Derived.Deep.AppendLies
import Derived.Maps.AppendAt
import Derived.OwnWalk
import Derived.Laws.BytesArg
import Derived.Laws.MakeOwn
import Derived.Laws.OwnMore
import Derived.Deep.OwnRows
import Derived.Tactics
import Derived.Lib.ConvBytes
import Derived.Laws.Slices
import Derived.WalkKit
import Derived.KernelRfl
import Derived.RowKit3
import Derived.Deep.LoopGhost
import Derived.Deep.QuietTactic
import Derived.BigQuiet
import Derived.WideLaws
import Derived.Deep.DeepCutAuto
import Derived.Deep.CutBlock
import Derived.Deep.RegionHeld3
import Derived.Laws.Rows
import Derived.Lib.AppendStr
import Derived.ArgAppend
import Derived.Laws.IdiomCopy
import Derived.OrdersHeld
import Derived.Laws.BitsLemmas
import Derived.RowKit
import Derived.Test.YthjdepipmghbbaaDoorEpo5
import Derived.Test.YthjdepipmghbbaaDoorEpoRead
import Derived.Test.YthjdepipmghbbaaDoorWWords
import Derived.Test.YthjdepipmghbbaaDoorWLast
import Derived.Test.YthjdepipmghbbaaDoorWTab
import Derived.Test.YthjdepipmghbbaaDoorWFour
import Derived.Test.YthjdepipmghbbaaDoorWQPut
import Derived.Test.YthjdepipmghbbaaDoorWApart
import Derived.Test.YthjdepipmghbbaaDoorWArr
import Derived.Test.YthjdepipmghbbaaDoorWZeros
import Derived.Test.YthjdepipmghbbaaDoorWFoot
import Derived.Test.YthjdepipmghbbaaDoorWKept
import Derived.Test.YthjdepipmghbbaaDoorWShare
import Derived.Test.YthjdepipmghbbaaDoorWN
import Derived.Test.YthjdepipmghbbaaDoorWFootNe
import Derived.Test.YthjdepipmghbbaaDoorWAt
import Derived.Test.YthjdepipmghbbaaDoorWEqStruct
import Derived.Test.YthjdepipmghbbaaDoorWRepsOne
import Derived.Test.YthjdepipmghbbaaDoorWInv
import Derived.Test.YthjdepipmghbbaaDoorWInvWords
import Derived.Test.YthjdepipmghbbaaDoorWGuard
import Derived.Test.YthjdepipmghbbaaDoorWNEv
import Derived.Test.YthjdepipmghbbaaDoorWMore
namespace Go.Proofs.YthjdepipmghbbaaDoor.PEpq
open Go.RowKit Go.Proofs.YthjdepipmghbbaaDoorW.PrintWords Go.Proofs.YthjdepipmghbbaaDoorW.PrintLast Go.Proofs.YthjdepipmghbbaaDoorW.PrintMore
attribute [-go_sem] Go.Lib.fold_len8tab Go.Lib.fold_pop8tab Go.Lib.fold_ntz8tab Go.Lib.fold_rev8tab
attribute [local go_sem] max2_int min2_int max_two min_two max_three min_three max_four min_four   -- for this text's walks alone
set_option linter.unusedVariables false
set_option linter.unusedSimpArgs false



def errW : Option Int → Value
  | none => .nilIface
  | some c => .iface 0 (.int .i64 c)
theorem errW_none : errW none = .nilIface := rfl
theorem errW_some (c : Int) : errW (some c) = .iface 0 (.int .i64 c) := rfl

theorem info3 : (Tryd.prog.info? 3).map (fun i => (i.zero, i.size, i.bytes)) = some (some (.int .i64 0), 1, 8) := by kernel_rfl
theorem info5 : (Tryd.prog.info? 5).map (fun i => (i.zero, i.size, i.bytes)) = some (some (.int .u8 0), 1, 1) := by kernel_rfl
-- the values' own types
/-! #### struct type 24 -/
structure S24 where
  f0 : Int
  f1 : Int
  f2 : Int
def z24 : S24 := ⟨(0 : Int), (0 : Int), (0 : Int)⟩
def k24 : Kd S24 := Kd.iso (Kd.pair (Kd.int .u16) (Kd.pair (Kd.int .u8) (Kd.int .u16))) (fun x : S24 => (x.f0, x.f1, x.f2))
theorem k24_open {w : World} {x : S24} {cs : List Value} (h : k24.K w x cs) : cs = [.int .u16 x.f0, .int .u8 x.f1, .int .u16 x.f2] := by
  obtain ⟨_, _, rfl, rfl, ⟨_, _, rfl, rfl, rfl⟩⟩ := h
  exact rfl
theorem k24_openM {w : World} {base : Nat} {ok : Nat → Prop} {x : S24} {cs : List Value} (h : k24.M w base ok x cs) : cs = [.int .u16 x.f0, .int .u8 x.f1, .int .u16 x.f2] := by
  obtain ⟨_, _, rfl, rfl, ⟨_, _, rfl, rfl, rfl⟩⟩ := h
  exact rfl
theorem k24_mk (w : World) (x : S24)  : k24.K w x [.int .u16 x.f0, .int .u8 x.f1, .int .u16 x.f2] := ⟨[.int .u16 x.f0], [.int .u8 x.f1, .int .u16 x.f2], rfl, rfl, ⟨[.int .u8 x.f1], [.int .u16 x.f2], rfl, rfl, rfl⟩⟩
theorem k24_mkM (w : World) (base : Nat) (ok : Nat → Prop) (x : S24)  : k24.M w base ok x [.int .u16 x.f0, .int .u8 x.f1, .int .u16 x.f2] := ⟨[.int .u16 x.f0], [.int .u8 x.f1, .int .u16 x.f2], rfl, rfl, ⟨[.int .u8 x.f1], [.int .u16 x.f2], rfl, rfl, rfl⟩⟩
def rd_T24 (xs : List S24) (i : Int) : S24 := xs.getD i.toNat z24
theorem at_T24 {w : World} {A : Option Addr} {n : Nat} {xs : List S24} (h : Kd.C k24 w A n xs) (i : Int) (h0 : 0 ≤ i) (h1 : i < n) : ∃ ad , A = some ad ∧ w.cell? (ad.add (i.toNat * 3)) = some (.int .u16 (rd_T24 xs i).f0) ∧ w.cell? ⟨(ad.add (i.toNat * 3)).block, (ad.add (i.toNat * 3)).off + 1, none⟩ = some (.int .u8 (rd_T24 xs i).f1) ∧ w.cell? ⟨(ad.add (i.toNat * 3)).block, (ad.add (i.toNat * 3)).off + 2, none⟩ = some (.int .u16 (rd_T24 xs i).f2) := by
  obtain ⟨ad, c, e, _, hK, hc0⟩ := Kd.C_get h z24 i h0 h1
  have hc : ∀ j u, c[j]? = some u → w.cell? (ad.add (i.toNat * 3 + j)) = some u := hc0
  obtain rfl := k24_open hK
  exact ⟨ad, e, hc 0 _ rfl, by rw [← add_field _ _ 1 (by omega)]; exact hc 1 _ rfl, by rw [← add_field _ _ 2 (by omega)]; exact hc 2 _ rfl⟩

end Go.Proofs.YthjdepipmghbbaaDoor.PEpq
