/- Words for the laws of frames. -/
import Derived.Test.YtmehafolnpkmhaaDoorFraAwk
import Derived.Test.YtmehafolnpkmhaaDoorFraArg
namespace Go.Proofs.YtmehafolnpkmhaaDoor
open Go.RowKit
/-- A whole value out of its parts, at a guarded operation. -/
theorem wpList_buildg {ops : Array Oper} {Q : Exit → Act → World → Prop} {a : Act} {w : World} {rest : List Oper} {o : Oper} (hw : Region.wanted o (yielded ops a.tmps) = true) (t : TypeId) (parts : Array (Nat × Operand)) (ho : o.op = .build t parts) (C : Array Value)
    (hc : Tryd.prog.built t (parts.map fun (i, x) => (i, a.eval x)).toList = some C) (h : wpList Tryd.prog ops Q rest (a.put o.dst (.agg C)) w) : wpList Tryd.prog ops Q (o :: rest) a w := by
  refine wpList_wanted hw ?_
  unfold Oper.wp execOp
  simp only [ho, run_build w t _ C hc, Sem.run_bind, Sem.run_pure, Result.andThen_ok]
  exact h
end Go.Proofs.YtmehafolnpkmhaaDoor
