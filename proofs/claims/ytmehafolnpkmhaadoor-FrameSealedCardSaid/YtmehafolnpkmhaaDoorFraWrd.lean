/- Words for the laws of frames. -/
import Derived.Test.YtmehafolnpkmhaaDoorFraAwk
import Derived.Test.YtmehafolnpkmhaaDoorFraArg
namespace Go.Proofs.YtmehafolnpkmhaaDoor
open Go.RowKit
/-- A whole value out of its parts, at a guarded operation. -/
theorem wpList_buildg {ops : Array Oper} {Q : Exit → Act → World → Prop} {a : Act} {w : World} {rest : List Oper} {o : Oper} (hw : Region.wanted o (yielded ops a.tmps) = true) (t : TypeId) (parts : Array (Nat × Operand)) (ho : o.op = .build t parts) (C : Array Value)
    (hc : Tryd.prog.built t (parts.map fun (i, x) => (i, a.eval x)).toList = some C) (h : wpList Tryd.prog ops Q rest (a.put o.dst (.agg C)) w) : wpList Tryd.prog ops Q (o :: rest) a w := by
  refine wpList_wanted hw ?_
  unfold Oper.wp execOp
  simp only [ho, run_build w t _ C hc, Sem.run_bind, Sem.run_pure, Result.andThen_ok]
  exact h
/-- A whole frame out of its block, at a place. -/
theorem wpList_frameD (n : Nat) {ops : Array Oper} {Q : Exit → Act → World → Prop} {a : Act} {w : World} {rest : List Oper} {o : Oper} (x : Operand) (_hd : o.dst = some n) (ho : o.op = .load 49 x) (hw : Region.wanted o (yielded ops a.tmps) = true) (g : Nat) (C : Array Value)
    (hx : a.eval x = .pointer (some ⟨g, 0, none⟩)) (hs : C.size = 19) (hg : ObjAt w g C 49) (h : wpList Tryd.prog ops Q rest (a.put o.dst (.agg C)) w) : wpList Tryd.prog ops Q (o :: rest) a w :=
  wpList_frame x ho hw g C hx hs hg h
theorem fr_self (f : Fr) : decide (f = f) = true := decide_eq_true rfl
theorem fr_self_ne (f : Fr) : (!decide (f = f)) = false := by rw [fr_self]; rfl
theorem fr_neq (f g : Fr) (w : World) : (binOp .neq 49 (.agg f.cells) (.agg g.cells)).run Tryd.prog w = .ok (.bool (!decide (f = g))) w := by
  have h := fr_eql f g w
  simp only [binOp, Sem.run_bind, Sem.run_pure] at h ⊢
  cases hr : (Op.equal 49 (.agg f.cells) (.agg g.cells)).run Tryd.prog w with
  | ok b w' =>
    rw [hr] at h
    simp only [Result.andThen_ok, Result.ok.injEq, Value.bool.injEq] at h
    obtain ⟨h1, h2⟩ := h
    simp only [Result.andThen_ok, h1, h2]
  | halt x w' =>
    rw [hr] at h
    simp [Result.andThen] at h
/-- Two frames compared, as an operation: unlike. -/
theorem wpList_neFr2 {ops : Array Oper} {Q : Exit → Act → World → Prop} {a : Act} {w : World} {rest : List Oper} {o : Oper} (x y : Operand) (ty : TypeId) (ho : o.op = .binOp .neq 49 x y ty) (hw : Region.wanted o (yielded ops a.tmps) = true) (f g : Fr) (b : Bool) (hb : (!decide (f = g)) = b)
    (hx : a.eval x = .agg f.cells) (hy : a.eval y = .agg g.cells) (h : wpList Tryd.prog ops Q rest (a.put o.dst (.bool b)) w) : wpList Tryd.prog ops Q (o :: rest) a w := by
  refine wpList_wanted hw ?_
  have hq := run_eqGuard_agg (P := Tryd.prog) w .neq 49 x y f.cells g.cells Tryd.eqGuardType49
  unfold Oper.wp execOp
  simp only [ho, hx, hy, hq, fr_neq, hb, Sem.run_bind, Sem.run_pure, Result.andThen_ok]
  exact h
end Go.Proofs.YtmehafolnpkmhaaDoor
