/- A slice of structs whose fields are one cell each, opened at every index and field. -/
import Derived.Test.YtpkgpffodkfncaaBase
import Derived.Deep.Fields
namespace Go.Proofs.Ytpkgpffodkfncaa
open Go.RowKit Go.Deep Go.ChangeShapes Go.WideShapes
theorem open_slice_fields {H : Type} {enc : TypeId × Value → H} {P : Program} {w : World} {base : Nat} {spare : Nat → Bool} {held : Bool} {t e : TypeId} {fs : Array Field} {fuel : Nat} {cs : List Value} {x : DataW H × List MemPlace}
    (ht : P.underlying t = some (.slice e)) (hs : P.underlying e = some (.struct fs)) (hone : oneCellFields P fs = true) (hC : P.cellsOf e = fs.size) (hpos : 0 < fs.size)
    (h : DataW.trod enc P w base spare held fuel t cs = some x) :
    (cs = [.slice none 0 0]) ∨
    ∃ (a : Addr) (len cap n : Nat) (V : Nat → Nat → Value) (Y : Nat → Nat → DataW H × List MemPlace), cs = [.slice (some a) len cap] ∧ len ≤ cap ∧ cap ≤ maxLen ∧
      ∀ i, i < len → a = ⟨a.block, a.off, none⟩ ∧ a.block < w.heap.size ∧ ∀ (j : Nat) (f : Field), fs[j]? = some f → w.cell? ⟨a.block, a.off + i * fs.size + j, none⟩ = some (V i j) ∧ DataW.trod enc P w base spare held n f.type [V i j] = some (Y i j) := by
  rcases open_slice ht h with ⟨h0, _⟩ | ⟨a, len, cap, m, n, D, Pl, rfl, hb, hl, hm, hmm, -, hx⟩
  · exact Or.inl h0
  right
  have hlm : len ≤ m := by rw [hmm]; split <;> omega
  obtain ⟨VY, hVY⟩ := choose_lt (α := (Nat → Value) × (Nat → DataW H × List MemPlace)) (n := len)
    (p := fun i v => a = ⟨a.block, a.off, none⟩ ∧ a.block < w.heap.size ∧ ∀ (j : Nat) (f : Field), fs[j]? = some f → w.cell? ⟨a.block, a.off + i * fs.size + j, none⟩ = some (v.1 j) ∧ DataW.trod enc P w base spare held (n - 1) f.type [v.1 j] = some (v.2 j)) (fun i hi => by
    obtain ⟨cs', h1, h2⟩ := hx i (by omega)
    obtain ⟨hb', hlen, hcell⟩ := World.cells?_some h1
    rw [hC] at hlen hcell
    obtain ⟨xs, n', hn', -, -, hxl, hf⟩ := DataW.trod_struct hs h2
    obtain ⟨b, o, spot⟩ := a
    have h0 := hcell 0 hpos
    rw [List.getElem?_eq_getElem (by omega)] at h0
    have hspot : spot = none := by
      obtain ⟨cs0, k1, k2⟩ := hx 0 (by omega)
      obtain ⟨-, hlen0, hcell0⟩ := World.cells?_some k1
      rw [hC] at hlen0 hcell0
      have k0 := hcell0 0 hpos
      rw [List.getElem?_eq_getElem (by omega), Nat.zero_mul] at k0
      simpa [Addr.add] using World.cell?_spot k0
    subst hspot
    have hblk : b < w.heap.size := by
      have := h0
      unfold World.cell? at this
      by_cases hbb : b < w.heap.size
      · exact hbb
      · exfalso
        rw [add_add] at this
        have e1 : ((⟨b, o, none⟩ : Addr).add (i * fs.size + 0)).block = b := by unfold Addr.add; split <;> rfl
        rw [show w.heap[((⟨b, o, none⟩ : Addr).add (i * fs.size + 0)).block]? = none from by rw [e1, Array.getElem?_eq_none]; omega] at this
        simp at this
    refine ⟨(fun j => cs'.getD j undef, fun j => xs.getD j (.nil, [])), rfl, hblk, fun j f hj => ?_⟩
    have hlt : j < fs.size := (Array.getElem?_eq_some_iff.1 hj).1
    obtain ⟨ho, hc1⟩ := hone_of hone j f hj
    have g := hf j f hj
    rw [ho, hc1, take1_drop cs' j undef (by omega), List.getElem?_eq_getElem (by omega)] at g
    have gc := hcell j hlt
    rw [List.getElem?_eq_getElem (by omega), add_add] at gc
    have e2 : (⟨b, o, none⟩ : Addr).add (i * fs.size + j) = ⟨b, o + i * fs.size + j, none⟩ := by
      unfold Addr.add
      split
      · rename_i hz
        have : i * fs.size + j = 0 := by simpa using hz
        simp [Nat.add_assoc, this]
      · simp [Nat.add_assoc]
    rw [e2] at gc
    refine ⟨?_, ?_⟩
    · rw [gc]; simp [List.getD_eq_getElem?_getD, List.getElem?_eq_getElem (show j < cs'.length by omega)]
    · rw [show n - 1 = n' from by omega]
      rw [g]; simp [List.getD_eq_getElem?_getD, List.getElem?_eq_getElem (show j < xs.length by omega)])
  exact ⟨a, len, cap, n - 1, fun i => (VY i).1, fun i => (VY i).2, rfl, hl, hm, hVY⟩
end Go.Proofs.Ytpkgpffodkfncaa
