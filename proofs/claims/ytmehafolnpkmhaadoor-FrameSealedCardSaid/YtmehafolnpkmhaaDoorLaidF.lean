/- What the walks of frames ask of a world: the table of powers of ten; Itoa, FormatUint. -/
import Derived.Test.YtmehafolnpkmhaaDoorRows
import Derived.WalkKit
import Derived.LaidMore
import Derived.Lib.LaidTab
import Derived.Below
import Derived.Lib.ItoaNum
import Derived.Lib.ItoaMem
import Derived.Lib.SmallJoins
import Derived.Lib.Walk
import Derived.BigCall
import Derived.BigGuard
import Derived.Test.YtmehafolnpkmhaaDoorPFraLibx
namespace Go.Proofs.YtmehafolnpkmhaaDoor
open Go.RowKit
theorem tabIs_of_vars {P : Program} {W : World} {name : String} {k : IntKind} {zs : List Int} {g : Nat} {t e : TypeId} {n : Nat}
    (hg : P.globalNamed name = some g) (hty : (P.globals[g]?).map (·.type) = some t) (ht : P.underlying t = some (.array n e)) (he : P.underlying e = some (.int k)) (hce : P.cellsOf e = 1) (hct : P.cellsOf t = n) :
    ∀ (laid : List (String × DataW Unit)) (ps : List MemPlace), DataW.LaidVars P W laid ps → (name, Lib.tabData k zs) ∈ laid → Lib.TabIs P W name k zs
  | [], _, _, hm => by cases hm
  | (m, d) :: r, ps, h, hm => by
    obtain ⟨g', t', cs, fuel, p, q, hg', ht', hvar, hd, hr, _⟩ := h
    rcases List.mem_cons.1 hm with he1 | hm
    · obtain ⟨rfl, rfl⟩ := Prod.mk.inj he1
      obtain rfl := Option.some.inj (hg.symm.trans hg')
      obtain rfl := Option.some.inj (hty.symm.trans ht')
      unfold Lib.TabIs
      rw [hvar, ← Lib.cells_of_tab ht he hce hct hd]
    · exact tabIs_of_vars hg hty ht he hce hct r q hr hm
/-- What every walk asks of the world. -/
def LaidW (w : World) : Prop := Lib.TabIs Tryd.prog w "internal/strconv.uint64pow10" .u64 Lib.pow10Tab
theorem gPow : Tryd.prog.globalNamed "internal/strconv.uint64pow10" = some 1 := by kernel_rfl
theorem laidW_of {w : World} (h : laidMetH Tryd.prog Rows.frameMakesRow.laid w) : LaidW w := by
  rw [MakeChecks.laidMetH_plain _ _ _ (by kernel_rfl)] at h
  obtain ⟨ps, hv, _, _⟩ := h
  exact tabIs_of_vars gPow (t := 135) (by kernel_rfl) Tryd.underlying135 Tryd.underlying87 (by kernel_rfl) (by kernel_rfl) _ ps hv (.tail _ (.tail _ (.head _)))
theorem laidW_below {w w' : World} {B : Nat} (h : LaidW w) (hb : Below B w w') (hB : w.heap.size ≤ B) : LaidW w' := Go.Joins.tab_stays gPow h hb hB
theorem laidW_heap {w w' : World} (h : LaidW w) (he : w'.heap = w.heap) : LaidW w' := by
  unfold LaidW Lib.TabIs World.var? at *
  rw [he]
  exact h
theorem below_grow5 (B : Nat) (w : World) (hB : B ≤ w.heap.size) (k : Nat) (os : Array Obj) : Below B w (Sort.grow (w.drewN k) os) :=
  ⟨rfl, rfl, rfl, by simp [Sort.grow], fun i hi => by
    show (w.heap ++ os)[i]? = w.heap[i]?
    rw [Array.getElem?_append_left (by omega)]⟩
theorem itoa_any (n : Int) (h0 : 0 ≤ n) (h1 : n ≤ 9223372036854775807) (w : World) (hG : LaidW w) :
    Calls Tryd.prog 59 #[.int .i64 n] w fun e w' => e = .returned (.string ⟨(Lib.itoa n).toArray⟩) ∧ Below w.heap.size w w' := by
  refine (Tryd.strconv_Itoa n (by omega) h1 w hG).mono ?_
  rintro e w' ⟨he, k, os, rfl⟩
  exact ⟨he, below_grow5 _ _ (Nat.le_refl _) k os⟩
end Go.Proofs.YtmehafolnpkmhaaDoor
