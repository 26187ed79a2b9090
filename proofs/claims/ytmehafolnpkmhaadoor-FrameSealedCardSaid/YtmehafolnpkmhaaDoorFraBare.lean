/- frame.bare. -/
import Derived.Test.YtmehafolnpkmhaaDoorFraFr
import Derived.BigQuiet
namespace Go.Proofs.YtmehafolnpkmhaaDoor
open Go.RowKit
/-- Is it without what only another kind has? -/
def bareP (f : Fr) : Prop :=
  (f.k ≠ 3 → f.hc = 0 ∧ f.ha = 0 ∧ f.hi = 0 ∧ f.w = false) ∧
    (if f.k = 4 then f.b < 16 ∧ 1 ≤ f.q ∧ f.q ≤ 4 ∧ f.p < f.q ∧ 1 ≤ (f.t.size : Int) ∧ (f.t.size : Int) ≤ 16 else f.b = 0 ∧ f.vi = 0 ∧ f.vs = 0 ∧ f.p = 0 ∧ f.q = 0 ∧ f.t.toList = [])
instance (f : Fr) : Decidable (bareP f) := by unfold bareP; infer_instance
set_option maxRecDepth 100000 in
set_option maxHeartbeats 4000000 in
theorem bare_any (C : Array Value) (f : Fr) (h : C = f.cells) (w : World) : Calls Tryd.prog 71 #[.agg C] w fun e w' => e = .returned (.bool (decide (bareP f))) ∧ Below w.heap.size w w' := by
  have hC := Fr.size h
  have c0 : C[0] = _ := Fr.a0 h
  have c9 : C[9] = _ := Fr.a9 h
  have c10 : C[10] = _ := Fr.a10 h
  have c11 : C[11] = _ := Fr.a11 h
  have c12 : C[12] = _ := Fr.a12 h
  have c13 : C[13] = _ := Fr.a13 h
  have c14 : C[14] = _ := Fr.a14 h
  have c15 : C[15] = _ := Fr.a15 h
  have c16 : C[16] = _ := Fr.a16 h
  have c17 : C[17] = _ := Fr.a17 h
  have c18 : C[18] = _ := Fr.a18 h
  have HF := Lib.hid h
  have hb : Below w.heap.size w (w.alloc (.cells C 49)) := (Below.refl _ w).alloc (Nat.le_refl _) _
  clear h
  go_enter Tryd.func71, Tryd.ntmps71
  by_cases h3 : f.k = 3
  · have h4 : ¬ f.k = 4 := by omega
    go_wp2_with fail
    all_goals go_ret
    all_goals refine ⟨congrArg (fun b => Ending.returned (Value.bool b)) ?_, hb⟩
    all_goals clear c0 c9 c10 c11 c12 c13 c14 c15 c16 c17 c18 HF hb hC
    all_goals unfold bareP
    all_goals first | (simp_all; done) | (simp_all; intros; omega) | (simp_all; generalize f.t.toList = l; cases l <;> rfl)
  · by_cases h4 : f.k = 4
    · go_wp2_with fail
      all_goals go_ret
      all_goals refine ⟨congrArg (fun b => Ending.returned (Value.bool b)) ?_, hb⟩
      all_goals clear c0 c9 c10 c11 c12 c13 c14 c15 c16 c17 c18 HF hb hC
      all_goals unfold bareP
      all_goals first | (simp_all; done) | (simp_all; intros; omega) | (simp_all; generalize f.t.toList = l; cases l <;> rfl)
    · go_wp2_with fail
      all_goals go_ret
      all_goals refine ⟨congrArg (fun b => Ending.returned (Value.bool b)) ?_, hb⟩
      all_goals clear c0 c9 c10 c11 c12 c13 c14 c15 c16 c17 c18 HF hb hC
      all_goals unfold bareP
      all_goals first | (simp_all; done) | (simp_all; intros; omega) | (simp_all; generalize f.t.toList = l; cases l <;> rfl)
end Go.Proofs.YtmehafolnpkmhaaDoor
