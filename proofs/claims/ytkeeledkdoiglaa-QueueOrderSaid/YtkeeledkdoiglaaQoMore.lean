/- QueueOrder: small words for its loops. -/
import Derived.Test.YtkeeledkdoiglaaQoState
import Derived.IntWalk
namespace Go.Proofs.Ytkeeledkdoiglaa.Qo
open Go.RowKit Go.Proofs.Ytkeeledkdoiglaa
theorem len1 (qb cb n : Nat) (fl : Bool) (l0 l1 : List Int) (w : World) (h : Qi.QIs w qb cb n fl l0 l1) :
    Calls Try.prog 42 #[.pointer (some ⟨qb, 0, none⟩), .bool true] w fun e w' => e = .returned (.int .i64 (l1.length : Int)) ∧ w' = w := Qi.lenQ qb cb n fl true l0 l1 w h
theorem len0 (qb cb n : Nat) (fl : Bool) (l0 l1 : List Int) (w : World) (h : Qi.QIs w qb cb n fl l0 l1) :
    Calls Try.prog 42 #[.pointer (some ⟨qb, 0, none⟩), .bool false] w fun e w' => e = .returned (.int .i64 (l0.length : Int)) ∧ w' = w := Qi.lenQ qb cb n fl false l0 l1 w h
/-- How many wait, as the memory has it. -/
def cntW (w : World) (qb : Nat) : Nat :=
  (match w.cell? ⟨qb, 4, none⟩ with | some (.int _ k) => k.toNat | _ => 0) + (match w.cell? ⟨qb, 7, none⟩ with | some (.int _ k) => k.toNat | _ => 0)
theorem cnt_eq {w : World} {qb cb n : Nat} {fl : Bool} {l0 l1 : List Int} (h : Qi.QIs w qb cb n fl l0 l1) : cntW w qb = l0.length + l1.length := by
  obtain ⟨s, F, A0, A1, h, R, rfl, rfl, _, _⟩ := h
  have c4 : w.cell? ⟨qb, 4, none⟩ = some (.int .i64 s.n0) := h.cell 4
  have c7 : w.cell? ⟨qb, 7, none⟩ = some (.int .i64 s.n1) := h.cell 7
  unfold cntW
  rw [c4, c7, R.c0, R.c1]
  simp
/-- A row of one's own: as a slice that reads as a list. -/
theorem own_form {w : World} {base : Nat} {v : Value} {l : List Int} (h : Own w base v l) :
    ∃ A c, v = .slice A l.length c ∧ (0 < l.length → ∃ g, A = some ⟨g, 0, none⟩ ∧ ∀ j, j < l.length → w.cell? ⟨g, j, none⟩ = some (.int .i64 (l.getD j 0))) := by
  obtain ⟨h1, h2⟩ := h
  rcases h2 with ⟨rfl, h0⟩ | ⟨g, cap, cur, rfl, hb, hg, hc, hm, hs, ht⟩
  · exact ⟨none, 0, by rw [h0], fun hp => by omega⟩
  · refine ⟨_, cap, rfl, fun _ => ⟨g, rfl, fun j hj => ?_⟩⟩
    rw [cell_of_row w g j cur 3 (0, 0) hg]
    have e : (ints l)[j]? = some (.int .i64 (l.getD j 0)) := by simp [ints, List.getD_eq_getElem?_getD, hj]
    rw [← ht, List.getElem?_take_of_lt (by omega)] at e
    simpa using e
theorem SQ.drew {w0 w : World} {b8 b9 b10 qb cb n base : Nat} {fl : Bool} {l0 l1 i0 i1 : List Int} (h : SQ w0 w b8 b9 b10 qb cb n base fl l0 l1 i0 i1) : SQ w0 w.drew b8 b9 b10 qb cb n base fl l0 l1 i0 i1 := h.drewN 1
end Go.Proofs.Ytkeeledkdoiglaa.Qo
