/- An array of whole numbers by value, opened as a list. -/
import Derived.Test.YtclbmgnpgjhlhaaBase
import Derived.OpenShut
namespace Go.Proofs.Ytclbmgnpgjhlhaa
open Go.RowKit Go.ChangeShapes Go.WideShapes
theorem arr_of {H : Type} {enc : TypeId × Value → H} {P : Program} {W : World} {t e n : Nat} {k : IntKind} {v : Value} {d : DataW H} {p : List MemPlace}
    (hu : P.underlying t = some (.array n e)) (he : P.underlying e = some (.int k)) (hc : P.cellsOf e = 1) (hn : P.cellsOf t = n)
    (h : DataW.Trod enc P W 0 (fun _ => true) true t v d p) (o : Value.okWide P W .any 0 t v) :
    ∃ l : List Int, l.length = n ∧ v = .agg (l.map (Value.int k)).toArray ∧ ∀ x ∈ l, (Lit.int k x).wf = true := by
  have hv : ∃ cs, v = .agg cs := by
    simp only [Value.okWide, hu] at o
    obtain ⟨cs, h1, -⟩ := o
    exact ⟨cs, h1⟩
  obtain ⟨cs, rfl⟩ := hv
  obtain ⟨m, hm⟩ := h
  obtain ⟨xs, m', -, -, hl, hx, hi⟩ := DataW.trod_array hu hm
  have hcs : cs.toList.length = n := by rw [← hn]; simpa [Value.cells] using hl
  have key : ∀ i, i < n → ∃ x, cs.toList[i]? = some (.int k x) ∧ (Lit.int k x).wf = true := fun i hlt => by
    have i0 := hi i hlt
    rw [hc, Nat.mul_one] at i0
    rw [List.getElem?_eq_getElem (by omega)] at i0
    obtain ⟨z0, e0, -, w0⟩ := DataW.trod_int he i0
    refine ⟨z0, ?_, w0⟩
    simp only [Value.cells] at e0
    have := congrArg (·[0]?) e0
    simp only [List.getElem?_take, List.getElem?_drop] at this
    simpa using this
  refine ⟨cs.toList.map fun v => match v with | .int _ x => x | _ => 0, by simpa using hcs, ?_, ?_⟩
  · congr 1
    rw [List.map_map]
    apply Array.toList_inj.1
    apply List.ext_getElem?
    intro i
    by_cases hlt : i < n
    · obtain ⟨x, hx1, _⟩ := key i hlt
      simp [hx1] at hx1 ⊢
    · rw [List.getElem?_eq_none (by omega), List.getElem?_eq_none (by simp at hcs ⊢; omega)]
  · intro x hx
    rw [List.mem_map] at hx
    obtain ⟨v, hv, rfl⟩ := hx
    obtain ⟨i, hi1⟩ := List.getElem?_of_mem hv
    have hlt : i < n := by have := (List.getElem?_eq_some_iff.1 hi1).1; omega
    obtain ⟨y, hy1, hy2⟩ := key i hlt
    rw [hi1] at hy1
    injection hy1 with hy1
    subst hy1
    exact hy2
end Go.Proofs.Ytclbmgnpgjhlhaa
