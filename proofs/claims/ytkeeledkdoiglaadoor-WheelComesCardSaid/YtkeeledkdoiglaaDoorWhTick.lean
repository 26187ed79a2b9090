/- Wheel: the reference's Tick. -/
import Derived.Test.YtkeeledkdoiglaaDoorWhDo
import Derived.Test.YtkeeledkdoiglaaDoorApp
import Derived.Deep.AppendLies
namespace Go.Proofs.YtkeeledkdoiglaaDoor.Wh
open Go.RowKit Go.Proofs.YtkeeledkdoiglaaDoor
/-- Those of the first k that come. -/
def comes (f : Nat → Int) : Nat → List Int
  | 0 => []
  | k + 1 => if f k = 1 then comes f k ++ [(k : Int)] else comes f k
theorem comes_len (f : Nat → Int) : ∀ k, (comes f k).length ≤ k
  | 0 => Nat.le_refl _
  | k + 1 => by
    have := comes_len f k
    unfold comes
    split
    · simp; omega
    · omega
/-- The first k are one tick further. -/
def down (f : Nat → Int) (k : Nat) : Nat → Int := fun i => if i < k ∧ 0 < f i then f i - 1 else f i
def ints (l : List Int) : List Value := l.map (Value.int .i64)
abbrev Own (w : World) (base : Nat) (v : Value) (l : List Int) : Prop := w.ownsRow base 3 1 v l.length (ints l)
theorem own_block {w w' : World} {base : Nat} {v : Value} {l : List Int} (h : Own w base v l) (hb : ∀ k, base ≤ k → k < w.heap.size → w'.heap[k]? = w.heap[k]?) : Own w' base v l := by
  obtain ⟨h1, h2⟩ := h
  refine ⟨h1, ?_⟩
  rcases h2 with h2 | ⟨g, cap, cur, rfl, hg, hh, r⟩
  · exact .inl h2
  · exact .inr ⟨g, cap, cur, rfl, hg, (hb g hg (Array.getElem?_eq_some_iff.1 hh).1).trans hh, r⟩
theorem int_info : ∃ i, Tryd.prog.info? 3 = some i ∧ i.zero = some (.int .i64 0) ∧ i.size = 1 ∧ i.bytes = 8 := by
  have h : (Tryd.prog.info? 3).map (fun i => (i.zero, i.size, i.bytes)) = some (some (.int .i64 0), 1, 8) := by kernel_rfl
  obtain ⟨i, hi, hzz⟩ := Option.map_eq_some_iff.1 h
  simp only [Prod.mk.injEq] at hzz
  exact ⟨i, hi, hzz.1, hzz.2.1, hzz.2.2⟩
end Go.Proofs.YtkeeledkdoiglaaDoor.Wh
