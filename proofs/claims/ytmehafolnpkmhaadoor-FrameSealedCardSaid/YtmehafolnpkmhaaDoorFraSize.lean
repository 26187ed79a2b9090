/- frame.Size. -/
import Derived.Test.YtmehafolnpkmhaaDoorFraRight
namespace Go.Proofs.YtmehafolnpkmhaaDoor
open Go.RowKit
/-- How many bytes a frame has. -/
def sizeF (f : Fr) : Int := if rightP f then (shapeF f.k).2.2.1 + max ((f.t.size : Int) - 1) 0 else 0
set_option maxRecDepth 100000 in
set_option maxHeartbeats 4000000 in
theorem size_any (C : Array Value) (f : Fr) (h : C = f.cells) (hts : f.t.size ≤ 140737488355328) (w : World) : Calls Tryd.prog 46 #[.agg C] w fun e w' => e = .returned (.int .i64 (sizeF f)) ∧ Below w.heap.size w w' := by
  have hC := Fr.size h
  have HF := Lib.hid h
  have HB0 := Lib.hid (show Below w.heap.size w (w.alloc (.cells C 49)) from (Below.refl _ w).alloc (Nat.le_refl _) _)
  have hob := ObjAt.new w C 49
  clear h
  go_enter Tryd.func46, Tryd.ntmps46
  go_wp2_with ((with_reducible refine wpList_frame (.tmp 1) ?ho ?hw w.heap.size C ?hx hC ?hg ?h); (case ho => rfl); (case hw => kernel_rfl); (case hx => rfl); (case hg => exact ObjAt.new w C _))
  refine (right_any C f HF.out _).mono ?_
  rintro e w1 ⟨rfl, hb1⟩
  have ho1 := (Keep.of_below (S := fun _ => False) hb1).obj hob (fun h => h)
  have hbx := HB0.out.trans (hb1.mono (by simp))
  have HB1 := Lib.hid hbx
  have hg : w.heap.size < w1.heap.size := ho1.lt
  clear hob hb1 HB0 hbx
  generalize hgg : w.heap.size = g at *
  obtain ⟨r, hr⟩ : ∃ r, r = decide (rightP f) := ⟨_, rfl⟩
  rw [← hr]
  have d0 := Fr.m0 HF.out ho1
  have d18 := Fr.m18 HF.out ho1
  obtain ⟨n0, hn0⟩ : ∃ x, x = (shapeF f.k).1 := ⟨_, rfl⟩
  obtain ⟨to, hto⟩ : ∃ x, x = (shapeF f.k).2.1 := ⟨_, rfl⟩
  obtain ⟨l0, hl0⟩ : ∃ x, x = (shapeF f.k).2.2.1 := ⟨_, rfl⟩
  obtain ⟨m0, hm0⟩ : ∃ x, x = (shapeF f.k).2.2.2.1 := ⟨_, rfl⟩
  obtain ⟨ok, hok⟩ : ∃ x, x = (shapeF f.k).2.2.2.2 := ⟨_, rfl⟩
  have hsh := shapes_any f.k w1
  rw [← hn0, ← hto, ← hl0, ← hm0, ← hok] at hsh
  have hlb : 0 ≤ l0 ∧ l0 ≤ 27 := by rw [hl0]; unfold shapeF; repeat' split
                                    all_goals decide
  have HSH := Lib.hid hsh
  have HE := Lib.hid (And.intro hr hl0)
  clear hr hn0 hto hl0 hm0 hok hsh
  cases r
  · go_wp2
    go_ret
    refine ⟨?_, by rw [hgg] <;> exact HB1.out⟩
    have hn : ¬ rightP f := of_decide_eq_false HE.out.1.symm
    unfold sizeF
    rw [if_neg hn]
    rfl
  · go_wp2_with fail
    refine HSH.out.mono ?_
    rintro e w2 ⟨rfl, hb2⟩
    have ho2 := (Keep.of_below (S := fun _ => False) hb2).obj ho1 (fun h => h)
    have HB2 := Lib.hid (HB1.out.trans (hb2.mono (Nat.le_of_lt hg)))
    have hg2 : g < w2.heap.size := ho2.lt
    have e18 := Fr.m18 HF.out ho2
    have HB3 := Lib.hid (show Below g w (w2.alloc (.cells #[.string n0, .bool to, .int .i64 l0, .int .i64 m0] 82)) from HB2.out.alloc (Nat.le_of_lt hg2) _)
    clear HSH hb2 d0 d18 ho1 HB2
    go_wp2
    go_ret
    refine ⟨?_, by rw [hgg] <;> exact HB3.out⟩
    have hn : rightP f := of_decide_eq_true HE.out.1.symm
    have hl := HE.out.2
    unfold sizeF
    rw [if_pos hn, ← hl]
    first | rfl | (congr 2; omega)
end Go.Proofs.YtmehafolnpkmhaaDoor
