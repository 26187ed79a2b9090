/- Slices of whole numbers that are there, as lists; how a law's argument is opened as one. -/
import Derived.Test.YtkeeledkdoiglaaObj
import Derived.SizedLaws
import Derived.ChangeSlices
namespace Go.Proofs.Ytkeeledkdoiglaa
open Go.RowKit Go.ChangeShapes Go.WideShapes
/-- A slice of whole numbers that is there. -/
def RowV (k : IntKind) (w : World) (s : Value) (l : List Int) : Prop :=
  (s = .slice none 0 0 ∧ l = []) ∨ (∃ x cap, s = .slice (some x) 0 cap ∧ cap ≤ maxLen ∧ l = []) ∨
  ∃ b o cap, s = .slice (some ⟨b, o, none⟩) l.length cap ∧ l.length ≤ cap ∧ cap ≤ maxLen ∧ b < w.heap.size ∧ ∀ i, i < l.length → w.cell? ⟨b, o + i, none⟩ = some (.int k (l.getD i 0))
theorem RowV.below {k : IntKind} {w w' : World} {s : Value} {l : List Int} (h : RowV k w s l) (hb : Below w.heap.size w w') : RowV k w' s l := by
  rcases h with h | h | ⟨b, o, cap, h1, h2, h3, h4, h5⟩
  · exact .inl h
  · exact .inr (.inl h)
  · exact .inr (.inr ⟨b, o, cap, h1, h2, h3, Nat.lt_of_lt_of_le h4 hb.size, fun i hi => (hb.cell (p := ⟨b, o + i, none⟩) h4).trans (h5 i hi)⟩)
theorem RowV.keep {k : IntKind} {w w' : World} {s : Value} {l : List Int} (h : RowV k w s l) {B : Nat} (hB : ∀ b o cap n, s = .slice (some ⟨b, o, none⟩) n cap → b < B) (hb : Below B w w') : RowV k w' s l := by
  rcases h with h | h | ⟨b, o, cap, h1, h2, h3, h4, h5⟩
  · exact .inl h
  · exact .inr (.inl h)
  · exact .inr (.inr ⟨b, o, cap, h1, h2, h3, Nat.lt_of_lt_of_le h4 hb.size, fun i hi => (hb.cell (p := ⟨b, o + i, none⟩) (hB _ _ _ _ h1)).trans (h5 i hi)⟩)
/-- The same with its parts, as a law's row hands it over. -/
def IsRow (k : IntKind) (w : World) (a : Option Addr) (len cap : Nat) (z : List Int) : Prop := RowV k w (.slice a len cap) z ∧ len = z.length ∧ ∀ n ∈ z, (Lit.int k n).wf = true
theorem isRow_of {H : Type} {enc : TypeId × Value → H} {P : Program} {W : World} {base : Nat} {spare : Nat → Bool} {held : Bool} {t e : TypeId} {k : IntKind} {a : Option Addr} {len cap : Nat} {d : DataW H} {ps : List MemPlace}
    (hu : P.underlying t = some (.slice e)) (he : P.underlying e = some (.int k)) (hc : P.cellsOf e = 1) (h : DataW.Trod enc P W base spare held t (.slice a len cap) d ps) : ∃ z, IsRow k W a len cap z := by
  obtain ⟨fuel, hf⟩ := h
  rcases open_ints hu he hc hf with ⟨hcs, _⟩ | ⟨x, l, c, zs, hcs, _, hl, hm, hz, hx, hcell, hwf⟩
  · simp [Value.cells] at hcs
    obtain ⟨rfl, rfl, rfl⟩ := hcs
    exact ⟨[], .inl ⟨rfl, rfl⟩, rfl, fun _ h => by cases h⟩
  · simp [Value.cells] at hcs
    obtain ⟨rfl, rfl, rfl⟩ := hcs
    have hl2 : len ≤ zs.length := by
      rw [hz]
      split
      · exact hl
      · exact Nat.le_refl _
    have hlen : (zs.take len).length = len := by simp; omega
    refine ⟨zs.take len, ?_, hlen.symm, fun n hn => hwf n (List.mem_of_mem_take hn)⟩
    by_cases h0 : len = 0
    · subst h0
      exact .inr (.inl ⟨_, _, rfl, hm, by simp⟩)
    · obtain ⟨b, o, spot⟩ := x
      have c0 := hcell 0 (by omega)
      have hspot : spot = none := by simpa [Addr.add] using World.cell?_spot c0
      subst hspot
      have e : ∀ i, (⟨b, o, none⟩ : Addr).add i = ⟨b, o + i, none⟩ := fun i => by
        unfold Addr.add
        split
        · rename_i hi; simp [hi]
        · rfl
      refine .inr (.inr ⟨b, o, cap, by rw [hlen], by rw [hlen]; exact hl, hm, ?_, fun i hi => ?_⟩)
      · rw [e] at c0
        exact World.block_lt_of_cell? W _ c0
      · rw [hlen] at hi
        rw [← e, hcell i (by omega)]
        congr 2
        rw [List.getD_eq_getElem?_getD, List.getD_eq_getElem?_getD, List.getElem?_take_of_lt hi]
theorem sized_ints_row {H : Type} {enc : TypeId × Value → H} {P : Program} {W : World} {base : Nat} {spare : Nat → Bool} {held : Bool} {t e : TypeId} {k : IntKind} {a : Option Addr} {len cap : Nat} {d : DataW H} {ps : List MemPlace} {ts : List TypeId} {ds : List (DataW H)} {j : Nat}
    (hsz : (DataW.weightsEach P ts ds).all (· ≤ reachBytes) = true) (ht : ts[j]? = some t) (hd : ds[j]? = some d) (hu : P.underlying t = some (.slice e)) (he : P.underlying e = some (.int k)) (hc : P.cellsOf e = 1) {B : Nat} (hB : P.bytesOf e = B)
    (h : DataW.Trod enc P W base spare held t (.slice a len cap) d ps) : len * B ≤ 140737488351232 := by
  obtain ⟨fuel, hf⟩ := h
  rcases open_ints hu he hc hf with ⟨hcs, _⟩ | ⟨x, l, c, zs, hcs, _, hl, _, hz, hx, _, _⟩
  · simp [Value.cells] at hcs
    obtain ⟨rfl, rfl, rfl⟩ := hcs
    simp
  · simp [Value.cells] at hcs
    obtain ⟨rfl, rfl, rfl⟩ := hcs
    have hx1 := (Prod.mk.inj hx).1
    rw [hx1] at hd
    have z := sized_slice hsz ht hd hu
    have h1 : len ≤ (lits (H := H) k (zs.take len)).length + (lits (H := H) k (zs.drop len)).length := by
      simp only [lits, List.length_map, List.length_take, List.length_drop]
      split at hz <;> omega
    rw [hB] at z
    exact Nat.le_trans (Nat.mul_le_mul_right _ h1) z
end Go.Proofs.Ytkeeledkdoiglaa
