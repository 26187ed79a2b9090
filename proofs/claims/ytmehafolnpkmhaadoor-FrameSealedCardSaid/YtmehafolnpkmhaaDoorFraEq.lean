/- Two frames compared. -/
import Derived.Test.YtmehafolnpkmhaaDoorFraFr
import Derived.Laws.StructEq
import Derived.BigQuiet
namespace Go.Proofs.YtmehafolnpkmhaaDoor
open Go.RowKit
instance : DecidableEq Fr := fun f g => by
  obtain ⟨a_k, a_s, a_d, a_si, a_di, a_ec, a_ea, a_ei, a_h, a_hc, a_ha, a_hi, a_w, a_b, a_vi, a_vs, a_p, a_q, a_t⟩ := f
  obtain ⟨b_k, b_s, b_d, b_si, b_di, b_ec, b_ea, b_ei, b_h, b_hc, b_ha, b_hi, b_w, b_b, b_vi, b_vs, b_p, b_q, b_t⟩ := g
  rw [Fr.mk.injEq]
  infer_instance
set_option maxRecDepth 100000 in
set_option maxHeartbeats 8000000 in
theorem fr_eql (f g : Fr) (w : World) : (binOp .eql 49 (.agg f.cells) (.agg g.cells)).run Tryd.prog w = .ok (.bool (decide (f = g))) w := by
  obtain ⟨a_k, a_s, a_d, a_si, a_di, a_ec, a_ea, a_ei, a_h, a_hc, a_ha, a_hi, a_w, a_b, a_vi, a_vs, a_p, a_q, a_t⟩ := f
  obtain ⟨b_k, b_s, b_d, b_si, b_di, b_ec, b_ea, b_ei, b_h, b_hc, b_ha, b_hi, b_w, b_b, b_vi, b_vs, b_p, b_q, b_t⟩ := g
  show (binOp .eql 49 (.agg #[.int .i64 a_k, .int .u8 a_s, .int .u8 a_d, .int .u16 a_si, .int .u16 a_di, .int .u16 a_ec, .int .u8 a_ea, .int .u16 a_ei, .int .u16 a_h, .int .u16 a_hc, .int .u8 a_ha, .int .u16 a_hi, .bool a_w, .int .u8 a_b, .int .u16 a_vi, .int .u32 a_vs, .int .u8 a_p, .int .u8 a_q, .string a_t]) (.agg #[.int .i64 b_k, .int .u8 b_s, .int .u8 b_d, .int .u16 b_si, .int .u16 b_di, .int .u16 b_ec, .int .u8 b_ea, .int .u16 b_ei, .int .u16 b_h, .int .u16 b_hc, .int .u8 b_ha, .int .u16 b_hi, .bool b_w, .int .u8 b_b, .int .u16 b_vi, .int .u32 b_vs, .int .u8 b_p, .int .u8 b_q, .string b_t])).run Tryd.prog w = .ok (.bool (decide ((⟨a_k, a_s, a_d, a_si, a_di, a_ec, a_ea, a_ei, a_h, a_hc, a_ha, a_hi, a_w, a_b, a_vi, a_vs, a_p, a_q, a_t⟩ : Fr) = ⟨b_k, b_s, b_d, b_si, b_di, b_ec, b_ea, b_ei, b_h, b_hc, b_ha, b_hi, b_w, b_b, b_vi, b_vs, b_p, b_q, b_t⟩))) w
  simp only [Fr.mk.injEq]
  go_simp
  have ht : (a_t.toList = b_t.toList) = (a_t = b_t) := by
    rw [ByteArray.toList_eq, ByteArray.toList_eq]
    obtain ⟨⟨x⟩⟩ := a_t
    obtain ⟨⟨y⟩⟩ := b_t
    simp
  have key : ∀ (p : Prop) [Decidable p] (x : Bool), (if p then (Result.ok (Value.bool x) w : Result Value) else Result.ok (Value.bool false) w) = Result.ok (Value.bool (decide p && x)) w := by
    intro p _ x
    by_cases h : p
    · simp [h]
    · simp [h]
  simp only [ht, key, Bool.and_true]
/-- Two frames compared, as an operation. -/
theorem wpList_eqFr {ops : Array Oper} {Q : Exit → Act → World → Prop} {a : Act} {w : World} {rest : List Oper} {o : Oper} (x y : Operand) (ty : TypeId) (ho : o.op = .binOp .eql 49 x y ty) (hw : Region.wanted o (yielded ops a.tmps) = true) (f g : Fr)
    (hx : a.eval x = .agg f.cells) (hy : a.eval y = .agg g.cells) (h : wpList Tryd.prog ops Q rest (a.put o.dst (.bool (decide (f = g)))) w) : wpList Tryd.prog ops Q (o :: rest) a w := by
  refine wpList_wanted hw ?_
  have hq := run_eqGuard_agg (P := Tryd.prog) w .eql 49 x y f.cells g.cells Tryd.eqGuardType49
  unfold Oper.wp execOp
  simp only [ho, hx, hy, hq, fr_eql, Sem.run_bind, Sem.run_pure, Result.andThen_ok]
  exact h
end Go.Proofs.YtmehafolnpkmhaaDoor
