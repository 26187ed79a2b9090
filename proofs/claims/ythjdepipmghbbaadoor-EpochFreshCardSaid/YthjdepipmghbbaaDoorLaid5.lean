/- What the walks ask of a world: the table of powers of ten, the two errors of strconv, the bound of bytealg. -/
import Derived.Test.YthjdepipmghbbaaDoorRows
import Derived.WalkKit
import Derived.LaidMore
import Derived.Lib.LaidTab
import Derived.Below
import Derived.HandedShaped
import Derived.Shelf.Vars
import Derived.Lib.ItoaNum
import Derived.Test.YthjdepipmghbbaaDoorPEpoLibx
namespace Go.Proofs.YthjdepipmghbbaaDoor
open Go.RowKit
theorem tabIs_of_vars {P : Program} {W : World} {name : String} {k : IntKind} {zs : List Int} {g : Nat} {t e : TypeId} {n : Nat}
    (hg : P.globalNamed name = some g) (hty : (P.globals[g]?).map (·.type) = some t) (ht : P.underlying t = some (.array n e)) (he : P.underlying e = some (.int k)) (hce : P.cellsOf e = 1) (hct : P.cellsOf t = n) :
    ∀ (laid : List (String × DataW Unit)) (ps : List MemPlace), DataW.LaidVars P W laid ps → (name, Lib.tabData k zs) ∈ laid → Lib.TabIs P W name k zs
  | [], _, _, hm => by cases hm
  | (m, d) :: r, ps, h, hm => by
    obtain ⟨g', t', cs, fuel, p, q, hg', ht', hvar, hd, hr, _⟩ := h
    rcases List.mem_cons.1 hm with he1 | hm
    · obtain ⟨rfl, rfl⟩ := Prod.mk.inj he1
      obtain rfl := Option.some.inj (hg.symm.trans hg')
      obtain rfl := Option.some.inj (hty.symm.trans ht')
      unfold Lib.TabIs
      rw [hvar, ← Lib.cells_of_tab ht he hce hct hd]
    · exact tabIs_of_vars hg hty ht he hce hct r q hr hm
theorem trod_is_iface {P : Program} {W : World} {t : TypeId} {ms : Array (String × TypeId)} {fuel : Nat} {cs : List Value} {nm : String} {d : DataW Unit} {p : List MemPlace} {enc : TypeId × Value → Unit} {b : Nat} {sp : Nat → Bool}
    (hu : P.underlying t = some (.interface ms)) (h : DataW.trod enc P W b sp false fuel t cs = some (.iface nm d, p)) : ∃ u v, cs = [.iface u v] := by
  cases fuel with
  | zero => simp [DataW.trod] at h
  | succ f =>
    unfold DataW.trod at h
    rw [hu] at h
    split at h <;> first | exact ⟨_, _, rfl⟩ | (rename_i hh; first | (cases hh; done) | skip) | skip
    all_goals first | exact ⟨_, _, rfl⟩ | (simp_all; done) | (cases h; done)
theorem iface_of_vars {P : Program} {W : World} {name : String} {nm : String} {d : DataW Unit} {g : Nat} {t : TypeId} {ms : Array (String × TypeId)}
    (hg : P.globalNamed name = some g) (hty : (P.globals[g]?).map (·.type) = some t) (ht : P.underlying t = some (.interface ms)) :
    ∀ (laid : List (String × DataW Unit)) (ps : List MemPlace), DataW.LaidVars P W laid ps → (name, .iface nm d) ∈ laid → ∃ u v, W.cell? ⟨g, 0, none⟩ = some (.iface u v)
  | [], _, _, hm => by cases hm
  | (m, d') :: r, ps, h, hm => by
    obtain ⟨g', t', cs, fuel, p, q, hg', ht', hvar, hd, hr, _⟩ := h
    rcases List.mem_cons.1 hm with he1 | hm
    · obtain ⟨rfl, rfl⟩ := Prod.mk.inj he1
      obtain rfl := Option.some.inj (hg.symm.trans hg')
      obtain rfl := Option.some.inj (hty.symm.trans ht')
      obtain ⟨u, v, hcs⟩ := trod_is_iface ht hd
      refine ⟨u, v, ?_⟩
      unfold World.var? at hvar
      rw [hg, Option.bind_some] at hvar
      unfold World.cell?
      split at hvar
      · next h1 =>
        have e := Option.some.inj hvar
        have e2 : cs = #[.iface u v] := by rw [← hcs]
        simp only [h1]
        rw [e, e2]
        simp
      · cases hvar
    · exact iface_of_vars hg hty ht r q hr hm
/-- What every walk asks of the world. -/
structure LaidW (w : World) : Prop where
  tab : Lib.TabIs Tryd.prog w "internal/strconv.uint64pow10" .u64 Lib.pow10Tab
  max : ∃ m, w.cell? ⟨2, 0, none⟩ = some (.int .i64 m)
  syn : ∃ u v, w.cell? ⟨0, 0, none⟩ = some (.iface u v)
  rng : ∃ u v, w.cell? ⟨1, 0, none⟩ = some (.iface u v)
theorem gPow : Tryd.prog.globalNamed "internal/strconv.uint64pow10" = some 3 := by kernel_rfl
theorem gSyn : Tryd.prog.globalNamed "strconv.ErrSyntax" = some 0 := by kernel_rfl
theorem gRng : Tryd.prog.globalNamed "strconv.ErrRange" = some 1 := by kernel_rfl
theorem laidW_of {w : World} (h : laidMetH Tryd.prog Rows.epochFreshRow.laid w) (hsh : w.ShapedOpen Tryd.prog) : LaidW w := by
  rw [MakeChecks.laidMetH_plain _ _ _ (by kernel_rfl)] at h
  obtain ⟨ps, hv, _, _⟩ := h
  exact ⟨tabIs_of_vars gPow (by kernel_rfl) Tryd.underlying91 Tryd.underlying41 (by kernel_rfl) (by kernel_rfl) _ ps hv (.tail _ (.tail _ (.head _))),
    cell_of_shapedOpen_int (P := Tryd.prog) (g := 2) (t := 3) (zero := #[.int .i64 0]) hsh (of_decide_eq_true (by kernel_rfl)) (by kernel_rfl) rfl (by kernel_rfl) (by kernel_rfl) Tryd.underlying3,
    iface_of_vars gSyn (by kernel_rfl) Tryd.underlying52 _ ps hv (.tail _ (.tail _ (.tail _ (.tail _ (.tail _ (.head _)))))),
    iface_of_vars gRng (by kernel_rfl) Tryd.underlying52 _ ps hv (.tail _ (.tail _ (.tail _ (.tail _ (.head _)))))⟩
theorem laidW_block {w w' : World} (h : LaidW w) (hb : ∀ k, k < 4 → w'.heap[k]? = w.heap[k]?) : LaidW w' := by
  have hc : ∀ k o, k < 4 → w'.cell? ⟨k, o, none⟩ = w.cell? ⟨k, o, none⟩ := fun k o hk => by unfold World.cell?; simp only [hb k hk]
  refine ⟨?_, ?_, ?_, ?_⟩
  · have h1 := h.tab
    unfold Lib.TabIs World.var? at *
    rw [gPow] at *
    simpa only [Option.bind_some, hb 3 (by decide)] using h1
  · obtain ⟨m, hm⟩ := h.max; exact ⟨m, (hc 2 0 (by decide)).trans hm⟩
  · obtain ⟨u, v, hm⟩ := h.syn; exact ⟨u, v, (hc 0 0 (by decide)).trans hm⟩
  · obtain ⟨u, v, hm⟩ := h.rng; exact ⟨u, v, (hc 1 0 (by decide)).trans hm⟩
theorem laidW_size {w : World} (h : LaidW w) : 3 < w.heap.size := by
  have h1 := h.tab
  unfold Lib.TabIs World.var? at h1
  rw [gPow, Option.bind_some] at h1
  rcases Nat.lt_or_ge 3 w.heap.size with h2 | h2
  · exact h2
  · rw [Array.getElem?_eq_none h2] at h1; cases h1
theorem laidW_below {w w' : World} {B : Nat} (h : LaidW w) (hb : Below B w w') (hB : w.heap.size ≤ B) : LaidW w' := by
  have := laidW_size h
  exact laidW_block h fun k hk => hb.block k (by omega)
theorem laidW_heap {w w' : World} (h : LaidW w) (he : w'.heap = w.heap) : LaidW w' := laidW_block h fun k _ => by rw [he]
end Go.Proofs.YthjdepipmghbbaaDoor
