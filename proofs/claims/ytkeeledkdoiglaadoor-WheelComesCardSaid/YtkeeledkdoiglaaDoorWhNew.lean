/- Wheel: Len, New. -/
import Derived.Test.YtkeeledkdoiglaaDoorWhLen
namespace Go.Proofs.YtkeeledkdoiglaaDoor.Wh
open Go.RowKit Go.Proofs.YtkeeledkdoiglaaDoor
set_option maxRecDepth 100000 in
theorem len_any (wb : Nat) (s : WS) (hM : s.M < 65536) (w : World) (h : WAt w wb s) :
    Calls Tryd.prog 19 #[.pointer (some ⟨wb, 0, none⟩)] w fun e w' => e = .returned (.int .i64 (pc s.M 16 : Nat)) ∧ ∃ k, w' = w.drewN k := by
  have c := h.set
  clear h
  go_enter Tryd.func19, Tryd.ntmps19
  go_wp2_with fail
  refine (ones16 s.M hM w).mono ?_
  rintro e w' ⟨rfl, k, rfl⟩
  go_wp2
  go_ret
  exact ⟨rfl, _, rfl⟩
def WS.zero : WS := ⟨0, fun _ => 0, 0, fun _ => 0⟩
set_option maxRecDepth 100000 in
theorem new_any (w : World) : Calls Tryd.prog 8 #[] w fun e w' => e = .returned (.pointer (some ⟨w.heap.size, 0, none⟩)) ∧ Below w.heap.size w w' ∧ WAt w' w.heap.size WS.zero := by
  go_enter Tryd.func8, Tryd.ntmps8
  go_wp2
  go_ret
  refine ⟨rfl, (Below.refl _ w).alloc (Nat.le_refl _) _, by simp, (ObjAt.new w _ _).cell 0, fun i hi => ?_, (ObjAt.new w _ _).cell 17, fun j hj => ?_, fun j => (ObjAt.new w _ _).free j⟩
  · refine ((ObjAt.new w _ _).cell (1 + i)).trans ?_
    rcases i with _|_|_|_|_|_|_|_|_|_|_|_|_|_|_|_|i
    all_goals first | rfl | omega
  · refine ((ObjAt.new w _ _).cell (18 + j)).trans ?_
    rcases j with _|_|_|_|_|_|_|_|_|_|_|_|_|_|_|_|_|_|_|_|_|_|_|_|_|_|_|_|_|_|_|_|j
    all_goals first | rfl | omega
end Go.Proofs.YtkeeledkdoiglaaDoor.Wh
