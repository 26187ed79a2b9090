/- The tables that a seat's rows list as laid: what the walks ask of a world. -/
import Derived.Test.YtmehafolnpkmhaaDoorRows
import Derived.WalkKit
import Derived.LaidMore
import Derived.Lib.LaidTab
import Derived.Below
namespace Go.Proofs.YtmehafolnpkmhaaDoor
open Go.RowKit
theorem tabIs_of_vars {P : Program} {W : World} {name : String} {k : IntKind} {zs : List Int} {g : Nat} {t e : TypeId} {n : Nat}
    (hg : P.globalNamed name = some g) (hty : (P.globals[g]?).map (·.type) = some t) (ht : P.underlying t = some (.array n e)) (he : P.underlying e = some (.int k)) (hce : P.cellsOf e = 1) (hct : P.cellsOf t = n) :
    ∀ (laid : List (String × DataW Unit)) (ps : List MemPlace), DataW.LaidVars P W laid ps → (name, Lib.tabData k zs) ∈ laid → Lib.TabIs P W name k zs
  | [], _, _, hm => by cases hm
  | (m, d) :: r, ps, h, hm => by
    obtain ⟨g', t', cs, fuel, p, q, hg', ht', hvar, hd, hr, _⟩ := h
    rcases List.mem_cons.1 hm with he1 | hm
    · obtain ⟨rfl, rfl⟩ := Prod.mk.inj he1
      obtain rfl := Option.some.inj (hg.symm.trans hg')
      obtain rfl := Option.some.inj (hty.symm.trans ht')
      unfold Lib.TabIs
      rw [hvar, ← Lib.cells_of_tab ht he hce hct hd]
    · exact tabIs_of_vars hg hty ht he hce hct r q hr hm
def tab32 : List Int := [0, 1, 28, 2, 29, 14, 24, 3, 30, 22, 20, 15, 25, 17, 4, 8, 31, 27, 13, 23, 21, 19, 16, 7, 26, 12, 18, 6, 11, 5, 10, 9]
/-- What every walk asks of the world: the table of TrailingZeros32. -/
def LaidW (w : World) : Prop := Lib.TabIs Tryd.prog w "math/bits.deBruijn32tab" .u8 tab32
theorem g32 : Tryd.prog.globalNamed "math/bits.deBruijn32tab" = some 0 := by kernel_rfl
theorem laidW_of {w : World} (h : laidMetH Tryd.prog Rows.membersNextRow.laid w) : LaidW w := by
  rw [MakeChecks.laidMetH_plain _ _ _ (by kernel_rfl)] at h
  obtain ⟨ps, hv, _, _⟩ := h
  exact tabIs_of_vars g32 (t := 115) (by kernel_rfl) Tryd.underlying115 Tryd.underlying5 (by kernel_rfl) (by kernel_rfl) _ ps hv (.head _)
end Go.Proofs.YtmehafolnpkmhaaDoor
