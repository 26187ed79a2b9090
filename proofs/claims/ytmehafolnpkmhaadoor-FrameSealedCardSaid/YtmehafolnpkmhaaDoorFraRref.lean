/- The reference's Right. -/
import Derived.Test.YtmehafolnpkmhaaDoorFraEq
import Derived.Test.YtmehafolnpkmhaaDoorFraRight
namespace Go.Proofs.YtmehafolnpkmhaaDoor
open Go.RowKit
/-- The same, its answer known. -/
theorem wpList_eqFr2 {ops : Array Oper} {Q : Exit → Act → World → Prop} {a : Act} {w : World} {rest : List Oper} {o : Oper} (x y : Operand) (ty : TypeId) (ho : o.op = .binOp .eql 49 x y ty) (hw : Region.wanted o (yielded ops a.tmps) = true) (f g : Fr) (b : Bool) (hb : decide (f = g) = b)
    (hx : a.eval x = .agg f.cells) (hy : a.eval y = .agg g.cells) (h : wpList Tryd.prog ops Q rest (a.put o.dst (.bool b)) w) : wpList Tryd.prog ops Q (o :: rest) a w :=
  wpList_eqFr x y ty ho hw f g hx hy (by rw [hb]; exact h)
def Halt (p : Prop) : Prop := p
theorem unhalt {p : Prop} (h : Halt p) : p := h
theorem halt {p : Prop} (h : p) : Halt p := h
/-- A place to halt at: the operation that writes this slot. -/
theorem wpList_at (n : Nat) {P : Program} {ops : Array Oper} {Q : Exit → Act → World → Prop} {a : Act} {w : World} {rest : List Oper} {o : Oper} (_ho : o.dst = some n) (h : wpList P ops Q (o :: rest) a w) : wpList P ops Q (o :: rest) a w := h
theorem toList_none (t : ByteArray) : t.toList = [] ↔ t = ⟨#[]⟩ := by
  rw [ByteArray.toList_eq]
  obtain ⟨⟨x⟩⟩ := t
  simp
theorem rr_plain (f : Fr) (hk : f.k = 1 ∨ f.k = 2 ∨ f.k = 5) : rightP f ↔ (f = (⟨f.k, f.s, f.d, f.si, f.di, f.ec, f.ea, f.ei, f.h, 0, 0, 0, false, 0, 0, 0, 0, 0, ⟨#[]⟩⟩ : Fr) ∧ f.s < 32 ∧ f.d < 32 ∧ f.ea < 32 ∧ f.ha < 32) := by
  obtain ⟨k, s, d, si, di, ec, ea, ei, h, hc, ha, hi, w, b, vi, vs, p, q, t⟩ := f
  have h3 : ¬ k = 3 := by simp at hk; omega
  have h4 : ¬ k = 4 := by simp at hk; omega
  simp only [rightP, bareP, Fr.mk.injEq, toList_none, true_and, if_neg h4]
  simp only at hk
  constructor
  · rintro ⟨_, _, ⟨a1, a2, a3, a4⟩, b1, b2⟩
    obtain ⟨c1, c2, c3, c4⟩ := b1 h3
    obtain ⟨d1, d2, d3, d4, d5, d6⟩ := b2
    exact ⟨⟨c1, c2, c3, c4, d1, d2, d3, d4, d5, d6⟩, a1, a2, a3, a4⟩
  · rintro ⟨⟨c1, c2, c3, c4, d1, d2, d3, d4, d5, d6⟩, a1, a2, a3, a4⟩
    exact ⟨⟨by omega, by omega⟩, fun e => absurd e h4, ⟨a1, a2, a3, a4⟩, fun _ => ⟨c1, c2, c3, c4⟩, d1, d2, d3, d4, d5, d6⟩
theorem rr_status (f : Fr) (hk : f.k = 3) : rightP f ↔ (f = (⟨f.k, f.s, f.d, f.si, f.di, f.ec, f.ea, f.ei, f.h, f.hc, f.ha, f.hi, f.w, 0, 0, 0, 0, 0, ⟨#[]⟩⟩ : Fr) ∧ f.s < 32 ∧ f.d < 32 ∧ f.ea < 32 ∧ f.ha < 32) := by
  obtain ⟨k, s, d, si, di, ec, ea, ei, h, hc, ha, hi, w, b, vi, vs, p, q, t⟩ := f
  simp only at hk
  subst hk
  have h4 : ¬ (3 : Int) = 4 := by omega
  simp only [rightP, bareP, Fr.mk.injEq, toList_none, true_and, if_neg h4]
  constructor
  · rintro ⟨_, _, ⟨a1, a2, a3, a4⟩, b1, d1, d2, d3, d4, d5, d6⟩
    exact ⟨⟨d1, d2, d3, d4, d5, d6⟩, a1, a2, a3, a4⟩
  · rintro ⟨⟨d1, d2, d3, d4, d5, d6⟩, a1, a2, a3, a4⟩
    exact ⟨⟨by omega, by omega⟩, fun e => absurd e h4, ⟨a1, a2, a3, a4⟩, fun e => absurd rfl e, d1, d2, d3, d4, d5, d6⟩
theorem rr_data (f : Fr) (hk : f.k = 4) : rightP f ↔ (f = (⟨f.k, f.s, 0, f.si, 0, f.ec, f.ea, f.ei, f.h, 0, 0, 0, false, f.b, f.vi, f.vs, f.p, f.q, f.t⟩ : Fr) ∧ f.s < 32 ∧ f.d < 32 ∧ f.ea < 32 ∧ f.ha < 32) ∧ f.b < 16 ∧ 1 ≤ f.q ∧ f.q ≤ 4 ∧ f.p < f.q ∧ 1 ≤ (f.t.size : Int) ∧ (f.t.size : Int) ≤ 16 := by
  obtain ⟨k, s, d, si, di, ec, ea, ei, h, hc, ha, hi, w, b, vi, vs, p, q, t⟩ := f
  simp only at hk
  subst hk
  have h3 : ¬ (4 : Int) = 3 := by omega
  simp only [rightP, bareP, Fr.mk.injEq, true_and, and_true, if_true]
  constructor
  · rintro ⟨_, c, ⟨a1, a2, a3, a4⟩, b1, d⟩
    obtain ⟨c1, c2, c3, c4⟩ := b1 h3
    obtain ⟨e1, e2⟩ := c trivial
    exact ⟨⟨⟨e1, e2, c1, c2, c3, c4⟩, a1, a2, a3, a4⟩, d⟩
  · rintro ⟨⟨⟨e1, e2, c1, c2, c3, c4⟩, a1, a2, a3, a4⟩, d⟩
    exact ⟨⟨by omega, by omega⟩, fun _ => ⟨e1, e2⟩, ⟨a1, a2, a3, a4⟩, fun _ => ⟨c1, c2, c3, c4⟩, d⟩
theorem rr_none (f : Fr) (hk : ¬ (1 ≤ f.k ∧ f.k ≤ 5)) : rightP f ↔ (f = (⟨f.k, f.s, 0, f.si, 0, f.ec, f.ea, f.ei, f.h, 0, 0, 0, false, 0, 0, 0, 0, 0, ⟨#[]⟩⟩ : Fr) ∧ 1 ≤ f.k ∧ f.k ≤ 5) := ⟨fun h => absurd h.1 hk, fun h => absurd h.2 hk⟩
/-- What every kind has. -/
def g0F (f : Fr) : Array Value := ((⟨f.k, f.s, 0, f.si, 0, f.ec, f.ea, f.ei, f.h, 0, 0, 0, false, 0, 0, 0, 0, 0, ⟨#[]⟩⟩ : Fr)).cells
set_option maxRecDepth 100000 in
set_option maxHeartbeats 8000000 in
theorem rright_any (C : Array Value) (f : Fr) (h : C = f.cells) (w : World) : Calls Tryd.prog 42 #[.agg C] w fun e w' => e = .returned (.bool (decide (rightP f))) ∧ Below w.heap.size w w' := by
  have hC := Fr.size h
  have HF := Lib.hid h
  have HC0 := Lib.hid (ObjAt.new w C 49)
  have HB0 := Lib.hid ((Below.refl w.heap.size w).alloc (Nat.le_refl _) (.cells C 49))
  clear h
  go_enter Tryd.func42, Tryd.ntmps42
  have e0 := Fr.m0 HF.out HC0.out
  have e1 := Fr.m1 HF.out HC0.out
  have e3 := Fr.m3 HF.out HC0.out
  have e5 := Fr.m5 HF.out HC0.out
  have e6 := Fr.m6 HF.out HC0.out
  have e7 := Fr.m7 HF.out HC0.out
  have e8 := Fr.m8 HF.out HC0.out
  have c0 : C[0] = _ := Fr.a0 HF.out
  have c1 : C[1] = _ := Fr.a1 HF.out
  have c3 : C[3] = _ := Fr.a3 HF.out
  have c5 : C[5] = _ := Fr.a5 HF.out
  have c6 : C[6] = _ := Fr.a6 HF.out
  have c7 : C[7] = _ := Fr.a7 HF.out
  have c8 : C[8] = _ := Fr.a8 HF.out
  go_wp2_with (first
      | ((with_reducible refine wpList_build_to ?hgd_p 49 ?parts_p ?ho_p (g0F f) ?hc_p ?h_p); (case ho_p => rfl); (case hgd_p => rfl); (case hc_p => kernel_rfl))
      | ((with_reducible refine wpList_store_new ?hgd_s 49 ?x_s ?y_s ?ho_s (w.heap.size + 1) ?c_s (g0F f) ?hg_s ?hx_s ?hy_s ?hi_s ?hs_s ?h1_s ?h_s); (case ho_s => rfl); (case hgd_s => rfl); (case hg_s => simp); (case hx_s => rfl); (case hy_s => rfl); (case hi_s => kernel_rfl); (case hs_s => kernel_rfl); (case h1_s => kernel_rfl); refine unhalt ?_))
  have hs1 : (w.alloc (.cells C 49)).heap.size = w.heap.size + 1 := World.size_alloc _ _
  have ho := ObjAt.new (w.alloc (.cells C 49)) (g0F f) 49
  rw [hs1] at ho
  have HNW := Lib.hid (show ObjAt _ _ ((⟨f.k, f.s, 0, f.si, 0, f.ec, f.ea, f.ei, f.h, 0, 0, 0, false, 0, 0, 0, 0, 0, ⟨#[]⟩⟩ : Fr)).cells _ from ho)
  have HCW := Lib.hid (HC0.out.alloc (.cells (g0F f) 49))
  have HBW := Lib.hid (HB0.out.alloc HB0.out.size (.cells (g0F f) 49))
  have HNE := Lib.hid (show w.heap.size ≠ w.heap.size + 1 by omega)
  have HGB := Lib.hid (show w.heap.size ≤ w.heap.size + 1 by omega)
  have hgg := HNE.out
  clear ho hs1 HC0 HB0 e0 e1 e3 e5 e6 e7 e8 c0 c1 c3 c5 c6 c7 c8
  generalize (w.alloc (.cells C 49)).alloc (.cells (g0F f) 49) = w2 at *
  generalize w.heap.size + 1 = g2 at *
  generalize hg0 : w.heap.size = g at *
  have HWS := Lib.hid hg0
  clear hg0
  rcases (by omega : f.k = 1 ∨ f.k = 2 ∨ f.k = 3 ∨ f.k = 5 ∨ f.k = 4 ∨ ¬ (1 ≤ f.k ∧ f.k ≤ 5)) with hk | hk | hk | hk | hk | hk
  · refine halt ?_
    have d0 := Fr.m0 HF.out HCW.out
    have d2 := Fr.m2 HF.out HCW.out
    have d4 := Fr.m4 HF.out HCW.out
    have z2 := Fr.m2 rfl HNW.out
    have y2 := HNW.out.free 2
    have z4 := Fr.m4 rfl HNW.out
    have y4 := HNW.out.free 4
    rw [hk] at d0
    have HBX := Lib.hid (show Below g w ((w2.setCell ⟨g2, 2, none⟩ (.int .u8 f.d)).setCell ⟨g2, 4, none⟩ (.int .u16 f.di)) from ((HBW.out.setCell HGB.out _).setCell HGB.out _))
    have HCX := Lib.hid (show ObjAt ((w2.setCell ⟨g2, 2, none⟩ (.int .u8 f.d)).setCell ⟨g2, 4, none⟩ (.int .u16 f.di)) g C 49 from ((HCW.out.set_other ⟨g2, 2, none⟩ HNE.out _).set_other ⟨g2, 4, none⟩ HNE.out _))
    have HNX := Lib.hid (show ObjAt ((w2.setCell ⟨g2, 2, none⟩ (.int .u8 f.d)).setCell ⟨g2, 4, none⟩ (.int .u16 f.di)) g2 (⟨f.k, f.s, f.d, f.si, f.di, f.ec, f.ea, f.ei, f.h, 0, 0, 0, false, 0, 0, 0, 0, 0, ⟨#[]⟩⟩ : Fr).cells 49 from (Fr.st_di (Fr.st_d HNW.out f.d) f.di))
    go_wp2_with ((with_reducible refine wpList_frame (.tmp 1) ?ho_a1 ?hw_a1 g C ?hx_a1 hC ?hg_a1 ?h_a1); (case ho_a1 => rfl); (case hw_a1 => kernel_rfl); (case hx_a1 => rfl); (case hg_a1 => exact HCX.out); refine unhalt ?_)
    clear d0 d2 d4 z2 y2 z4 y4 HCW HNW HBW
    generalize ((w2.setCell ⟨g2, 2, none⟩ (.int .u8 f.d)).setCell ⟨g2, 4, none⟩ (.int .u16 f.di)) = w3 at *
    have d0 := Fr.m0 HF.out HCX.out
    have d1 := Fr.m1 HF.out HCX.out
    have d2 := Fr.m2 HF.out HCX.out
    have d6 := Fr.m6 HF.out HCX.out
    have d10 := Fr.m10 HF.out HCX.out
    rw [hk] at d0
    refine halt ?_
    by_cases hfg : f = (⟨f.k, f.s, f.d, f.si, f.di, f.ec, f.ea, f.ei, f.h, 0, 0, 0, false, 0, 0, 0, 0, 0, ⟨#[]⟩⟩ : Fr)
    · have HQ := Lib.hid (show decide (f = (⟨f.k, f.s, f.d, f.si, f.di, f.ec, f.ea, f.ei, f.h, 0, 0, 0, false, 0, 0, 0, 0, 0, ⟨#[]⟩⟩ : Fr)) = true by simpa using hfg)
      clear hfg
      go_wp2_with (first
        | ((with_reducible refine wpList_frame (.tmp 3) ?ho_b1t ?hw_b1t g2 (⟨f.k, f.s, f.d, f.si, f.di, f.ec, f.ea, f.ei, f.h, 0, 0, 0, false, 0, 0, 0, 0, 0, ⟨#[]⟩⟩ : Fr).cells ?hx_b1t (Fr.size rfl) ?hg_b1t ?h_b1t); (case ho_b1t => rfl); (case hw_b1t => kernel_rfl); (case hx_b1t => rfl); (case hg_b1t => exact HNX.out))
        | ((with_reducible refine wpList_eqFr2 (.tmp 98) (.tmp 99) 49 ?ho_c1t ?hw_c1t f (⟨f.k, f.s, f.d, f.si, f.di, f.ec, f.ea, f.ei, f.h, 0, 0, 0, false, 0, 0, 0, 0, 0, ⟨#[]⟩⟩ : Fr) true HQ.out ?hx_c1t ?hy_c1t ?h_c1t); (case ho_c1t => rfl); (case hw_c1t => kernel_rfl); (case hx_c1t => rw [← HF.out]; rfl); (case hy_c1t => rfl)))
      all_goals go_ret
      all_goals refine ⟨congrArg (fun b => Ending.returned (Value.bool b)) ?_, by rw [HWS.out]; exact HBX.out⟩
      all_goals have hq := HQ.out
      all_goals simp only [decide_eq_true_eq] at hq
      all_goals rw [decide_eq_decide.mpr (rr_plain f (by omega))]
      all_goals simp only [eq_true hq, true_and]
      all_goals clear hq HNX HQ
      all_goals first
        | (apply decide_eq_decide.mpr; omega)
        | (symm; apply decide_eq_false; omega)
        | infer_instance
    · have HQ := Lib.hid (show decide (f = (⟨f.k, f.s, f.d, f.si, f.di, f.ec, f.ea, f.ei, f.h, 0, 0, 0, false, 0, 0, 0, 0, 0, ⟨#[]⟩⟩ : Fr)) = false by simpa using hfg)
      clear hfg
      go_wp2_with (first
        | ((with_reducible refine wpList_frame (.tmp 3) ?ho_b1f ?hw_b1f g2 (⟨f.k, f.s, f.d, f.si, f.di, f.ec, f.ea, f.ei, f.h, 0, 0, 0, false, 0, 0, 0, 0, 0, ⟨#[]⟩⟩ : Fr).cells ?hx_b1f (Fr.size rfl) ?hg_b1f ?h_b1f); (case ho_b1f => rfl); (case hw_b1f => kernel_rfl); (case hx_b1f => rfl); (case hg_b1f => exact HNX.out))
        | ((with_reducible refine wpList_eqFr2 (.tmp 98) (.tmp 99) 49 ?ho_c1f ?hw_c1f f (⟨f.k, f.s, f.d, f.si, f.di, f.ec, f.ea, f.ei, f.h, 0, 0, 0, false, 0, 0, 0, 0, 0, ⟨#[]⟩⟩ : Fr) false HQ.out ?hx_c1f ?hy_c1f ?h_c1f); (case ho_c1f => rfl); (case hw_c1f => kernel_rfl); (case hx_c1f => rw [← HF.out]; rfl); (case hy_c1f => rfl)))
      all_goals go_ret
      all_goals refine ⟨congrArg (fun b => Ending.returned (Value.bool b)) ?_, by rw [HWS.out]; exact HBX.out⟩
      all_goals have hq := HQ.out
      all_goals simp only [decide_eq_false_iff_not] at hq
      all_goals rw [decide_eq_decide.mpr (rr_plain f (by omega))]
      all_goals simp only [eq_false hq, false_and, decide_false]
      all_goals clear hq HNX HQ
      all_goals first
        | (apply decide_eq_decide.mpr; omega)
        | (symm; apply decide_eq_false; omega)
        | infer_instance
  · refine halt ?_
    have d0 := Fr.m0 HF.out HCW.out
    have d2 := Fr.m2 HF.out HCW.out
    have d4 := Fr.m4 HF.out HCW.out
    have z2 := Fr.m2 rfl HNW.out
    have y2 := HNW.out.free 2
    have z4 := Fr.m4 rfl HNW.out
    have y4 := HNW.out.free 4
    rw [hk] at d0
    have HBX := Lib.hid (show Below g w ((w2.setCell ⟨g2, 2, none⟩ (.int .u8 f.d)).setCell ⟨g2, 4, none⟩ (.int .u16 f.di)) from ((HBW.out.setCell HGB.out _).setCell HGB.out _))
    have HCX := Lib.hid (show ObjAt ((w2.setCell ⟨g2, 2, none⟩ (.int .u8 f.d)).setCell ⟨g2, 4, none⟩ (.int .u16 f.di)) g C 49 from ((HCW.out.set_other ⟨g2, 2, none⟩ HNE.out _).set_other ⟨g2, 4, none⟩ HNE.out _))
    have HNX := Lib.hid (show ObjAt ((w2.setCell ⟨g2, 2, none⟩ (.int .u8 f.d)).setCell ⟨g2, 4, none⟩ (.int .u16 f.di)) g2 (⟨f.k, f.s, f.d, f.si, f.di, f.ec, f.ea, f.ei, f.h, 0, 0, 0, false, 0, 0, 0, 0, 0, ⟨#[]⟩⟩ : Fr).cells 49 from (Fr.st_di (Fr.st_d HNW.out f.d) f.di))
    go_wp2_with ((with_reducible refine wpList_frame (.tmp 1) ?ho_a2 ?hw_a2 g C ?hx_a2 hC ?hg_a2 ?h_a2); (case ho_a2 => rfl); (case hw_a2 => kernel_rfl); (case hx_a2 => rfl); (case hg_a2 => exact HCX.out); refine unhalt ?_)
    clear d0 d2 d4 z2 y2 z4 y4 HCW HNW HBW
    generalize ((w2.setCell ⟨g2, 2, none⟩ (.int .u8 f.d)).setCell ⟨g2, 4, none⟩ (.int .u16 f.di)) = w3 at *
    have d0 := Fr.m0 HF.out HCX.out
    have d1 := Fr.m1 HF.out HCX.out
    have d2 := Fr.m2 HF.out HCX.out
    have d6 := Fr.m6 HF.out HCX.out
    have d10 := Fr.m10 HF.out HCX.out
    rw [hk] at d0
    refine halt ?_
    by_cases hfg : f = (⟨f.k, f.s, f.d, f.si, f.di, f.ec, f.ea, f.ei, f.h, 0, 0, 0, false, 0, 0, 0, 0, 0, ⟨#[]⟩⟩ : Fr)
    · have HQ := Lib.hid (show decide (f = (⟨f.k, f.s, f.d, f.si, f.di, f.ec, f.ea, f.ei, f.h, 0, 0, 0, false, 0, 0, 0, 0, 0, ⟨#[]⟩⟩ : Fr)) = true by simpa using hfg)
      clear hfg
      go_wp2_with (first
        | ((with_reducible refine wpList_frame (.tmp 3) ?ho_b2t ?hw_b2t g2 (⟨f.k, f.s, f.d, f.si, f.di, f.ec, f.ea, f.ei, f.h, 0, 0, 0, false, 0, 0, 0, 0, 0, ⟨#[]⟩⟩ : Fr).cells ?hx_b2t (Fr.size rfl) ?hg_b2t ?h_b2t); (case ho_b2t => rfl); (case hw_b2t => kernel_rfl); (case hx_b2t => rfl); (case hg_b2t => exact HNX.out))
        | ((with_reducible refine wpList_eqFr2 (.tmp 98) (.tmp 99) 49 ?ho_c2t ?hw_c2t f (⟨f.k, f.s, f.d, f.si, f.di, f.ec, f.ea, f.ei, f.h, 0, 0, 0, false, 0, 0, 0, 0, 0, ⟨#[]⟩⟩ : Fr) true HQ.out ?hx_c2t ?hy_c2t ?h_c2t); (case ho_c2t => rfl); (case hw_c2t => kernel_rfl); (case hx_c2t => rw [← HF.out]; rfl); (case hy_c2t => rfl)))
      all_goals go_ret
      all_goals refine ⟨congrArg (fun b => Ending.returned (Value.bool b)) ?_, by rw [HWS.out]; exact HBX.out⟩
      all_goals have hq := HQ.out
      all_goals simp only [decide_eq_true_eq] at hq
      all_goals rw [decide_eq_decide.mpr (rr_plain f (by omega))]
      all_goals simp only [eq_true hq, true_and]
      all_goals clear hq HNX HQ
      all_goals first
        | (apply decide_eq_decide.mpr; omega)
        | (symm; apply decide_eq_false; omega)
        | infer_instance
    · have HQ := Lib.hid (show decide (f = (⟨f.k, f.s, f.d, f.si, f.di, f.ec, f.ea, f.ei, f.h, 0, 0, 0, false, 0, 0, 0, 0, 0, ⟨#[]⟩⟩ : Fr)) = false by simpa using hfg)
      clear hfg
      go_wp2_with (first
        | ((with_reducible refine wpList_frame (.tmp 3) ?ho_b2f ?hw_b2f g2 (⟨f.k, f.s, f.d, f.si, f.di, f.ec, f.ea, f.ei, f.h, 0, 0, 0, false, 0, 0, 0, 0, 0, ⟨#[]⟩⟩ : Fr).cells ?hx_b2f (Fr.size rfl) ?hg_b2f ?h_b2f); (case ho_b2f => rfl); (case hw_b2f => kernel_rfl); (case hx_b2f => rfl); (case hg_b2f => exact HNX.out))
        | ((with_reducible refine wpList_eqFr2 (.tmp 98) (.tmp 99) 49 ?ho_c2f ?hw_c2f f (⟨f.k, f.s, f.d, f.si, f.di, f.ec, f.ea, f.ei, f.h, 0, 0, 0, false, 0, 0, 0, 0, 0, ⟨#[]⟩⟩ : Fr) false HQ.out ?hx_c2f ?hy_c2f ?h_c2f); (case ho_c2f => rfl); (case hw_c2f => kernel_rfl); (case hx_c2f => rw [← HF.out]; rfl); (case hy_c2f => rfl)))
      all_goals go_ret
      all_goals refine ⟨congrArg (fun b => Ending.returned (Value.bool b)) ?_, by rw [HWS.out]; exact HBX.out⟩
      all_goals have hq := HQ.out
      all_goals simp only [decide_eq_false_iff_not] at hq
      all_goals rw [decide_eq_decide.mpr (rr_plain f (by omega))]
      all_goals simp only [eq_false hq, false_and, decide_false]
      all_goals clear hq HNX HQ
      all_goals first
        | (apply decide_eq_decide.mpr; omega)
        | (symm; apply decide_eq_false; omega)
        | infer_instance
  · refine halt ?_
    have d0 := Fr.m0 HF.out HCW.out
    have d2 := Fr.m2 HF.out HCW.out
    have d4 := Fr.m4 HF.out HCW.out
    have d9 := Fr.m9 HF.out HCW.out
    have d10 := Fr.m10 HF.out HCW.out
    have d11 := Fr.m11 HF.out HCW.out
    have d12 := Fr.m12 HF.out HCW.out
    have z2 := Fr.m2 rfl HNW.out
    have y2 := HNW.out.free 2
    have z4 := Fr.m4 rfl HNW.out
    have y4 := HNW.out.free 4
    have z9 := Fr.m9 rfl HNW.out
    have y9 := HNW.out.free 9
    have z10 := Fr.m10 rfl HNW.out
    have y10 := HNW.out.free 10
    have z11 := Fr.m11 rfl HNW.out
    have y11 := HNW.out.free 11
    have z12 := Fr.m12 rfl HNW.out
    have y12 := HNW.out.free 12
    rw [hk] at d0
    have HBX := Lib.hid (show Below g w ((((((w2.setCell ⟨g2, 2, none⟩ (.int .u8 f.d)).setCell ⟨g2, 4, none⟩ (.int .u16 f.di)).setCell ⟨g2, 9, none⟩ (.int .u16 f.hc)).setCell ⟨g2, 10, none⟩ (.int .u8 f.ha)).setCell ⟨g2, 11, none⟩ (.int .u16 f.hi)).setCell ⟨g2, 12, none⟩ (.bool f.w)) from ((((((HBW.out.setCell HGB.out _).setCell HGB.out _).setCell HGB.out _).setCell HGB.out _).setCell HGB.out _).setCell HGB.out _))
    have HCX := Lib.hid (show ObjAt ((((((w2.setCell ⟨g2, 2, none⟩ (.int .u8 f.d)).setCell ⟨g2, 4, none⟩ (.int .u16 f.di)).setCell ⟨g2, 9, none⟩ (.int .u16 f.hc)).setCell ⟨g2, 10, none⟩ (.int .u8 f.ha)).setCell ⟨g2, 11, none⟩ (.int .u16 f.hi)).setCell ⟨g2, 12, none⟩ (.bool f.w)) g C 49 from ((((((HCW.out.set_other ⟨g2, 2, none⟩ HNE.out _).set_other ⟨g2, 4, none⟩ HNE.out _).set_other ⟨g2, 9, none⟩ HNE.out _).set_other ⟨g2, 10, none⟩ HNE.out _).set_other ⟨g2, 11, none⟩ HNE.out _).set_other ⟨g2, 12, none⟩ HNE.out _))
    have HNX := Lib.hid (show ObjAt ((((((w2.setCell ⟨g2, 2, none⟩ (.int .u8 f.d)).setCell ⟨g2, 4, none⟩ (.int .u16 f.di)).setCell ⟨g2, 9, none⟩ (.int .u16 f.hc)).setCell ⟨g2, 10, none⟩ (.int .u8 f.ha)).setCell ⟨g2, 11, none⟩ (.int .u16 f.hi)).setCell ⟨g2, 12, none⟩ (.bool f.w)) g2 (⟨f.k, f.s, f.d, f.si, f.di, f.ec, f.ea, f.ei, f.h, f.hc, f.ha, f.hi, f.w, 0, 0, 0, 0, 0, ⟨#[]⟩⟩ : Fr).cells 49 from (Fr.st_w (Fr.st_hi (Fr.st_ha (Fr.st_hc (Fr.st_di (Fr.st_d HNW.out f.d) f.di) f.hc) f.ha) f.hi) f.w))
    go_wp2_with ((with_reducible refine wpList_frame (.tmp 1) ?ho_a3 ?hw_a3 g C ?hx_a3 hC ?hg_a3 ?h_a3); (case ho_a3 => rfl); (case hw_a3 => kernel_rfl); (case hx_a3 => rfl); (case hg_a3 => exact HCX.out); refine unhalt ?_)
    clear d0 d2 d4 d9 d10 d11 d12 z2 y2 z4 y4 z9 y9 z10 y10 z11 y11 z12 y12 HCW HNW HBW
    generalize ((((((w2.setCell ⟨g2, 2, none⟩ (.int .u8 f.d)).setCell ⟨g2, 4, none⟩ (.int .u16 f.di)).setCell ⟨g2, 9, none⟩ (.int .u16 f.hc)).setCell ⟨g2, 10, none⟩ (.int .u8 f.ha)).setCell ⟨g2, 11, none⟩ (.int .u16 f.hi)).setCell ⟨g2, 12, none⟩ (.bool f.w)) = w3 at *
    have d0 := Fr.m0 HF.out HCX.out
    have d1 := Fr.m1 HF.out HCX.out
    have d2 := Fr.m2 HF.out HCX.out
    have d6 := Fr.m6 HF.out HCX.out
    have d10 := Fr.m10 HF.out HCX.out
    rw [hk] at d0
    refine halt ?_
    by_cases hfg : f = (⟨f.k, f.s, f.d, f.si, f.di, f.ec, f.ea, f.ei, f.h, f.hc, f.ha, f.hi, f.w, 0, 0, 0, 0, 0, ⟨#[]⟩⟩ : Fr)
    · have HQ := Lib.hid (show decide (f = (⟨f.k, f.s, f.d, f.si, f.di, f.ec, f.ea, f.ei, f.h, f.hc, f.ha, f.hi, f.w, 0, 0, 0, 0, 0, ⟨#[]⟩⟩ : Fr)) = true by simpa using hfg)
      clear hfg
      go_wp2_with (first
        | ((with_reducible refine wpList_frame (.tmp 3) ?ho_b3t ?hw_b3t g2 (⟨f.k, f.s, f.d, f.si, f.di, f.ec, f.ea, f.ei, f.h, f.hc, f.ha, f.hi, f.w, 0, 0, 0, 0, 0, ⟨#[]⟩⟩ : Fr).cells ?hx_b3t (Fr.size rfl) ?hg_b3t ?h_b3t); (case ho_b3t => rfl); (case hw_b3t => kernel_rfl); (case hx_b3t => rfl); (case hg_b3t => exact HNX.out))
        | ((with_reducible refine wpList_eqFr2 (.tmp 98) (.tmp 99) 49 ?ho_c3t ?hw_c3t f (⟨f.k, f.s, f.d, f.si, f.di, f.ec, f.ea, f.ei, f.h, f.hc, f.ha, f.hi, f.w, 0, 0, 0, 0, 0, ⟨#[]⟩⟩ : Fr) true HQ.out ?hx_c3t ?hy_c3t ?h_c3t); (case ho_c3t => rfl); (case hw_c3t => kernel_rfl); (case hx_c3t => rw [← HF.out]; rfl); (case hy_c3t => rfl)))
      all_goals go_ret
      all_goals refine ⟨congrArg (fun b => Ending.returned (Value.bool b)) ?_, by rw [HWS.out]; exact HBX.out⟩
      all_goals have hq := HQ.out
      all_goals simp only [decide_eq_true_eq] at hq
      all_goals rw [decide_eq_decide.mpr (rr_status f hk)]
      all_goals simp only [eq_true hq, true_and]
      all_goals clear hq HNX HQ
      all_goals first
        | (apply decide_eq_decide.mpr; omega)
        | (symm; apply decide_eq_false; omega)
        | infer_instance
    · have HQ := Lib.hid (show decide (f = (⟨f.k, f.s, f.d, f.si, f.di, f.ec, f.ea, f.ei, f.h, f.hc, f.ha, f.hi, f.w, 0, 0, 0, 0, 0, ⟨#[]⟩⟩ : Fr)) = false by simpa using hfg)
      clear hfg
      go_wp2_with (first
        | ((with_reducible refine wpList_frame (.tmp 3) ?ho_b3f ?hw_b3f g2 (⟨f.k, f.s, f.d, f.si, f.di, f.ec, f.ea, f.ei, f.h, f.hc, f.ha, f.hi, f.w, 0, 0, 0, 0, 0, ⟨#[]⟩⟩ : Fr).cells ?hx_b3f (Fr.size rfl) ?hg_b3f ?h_b3f); (case ho_b3f => rfl); (case hw_b3f => kernel_rfl); (case hx_b3f => rfl); (case hg_b3f => exact HNX.out))
        | ((with_reducible refine wpList_eqFr2 (.tmp 98) (.tmp 99) 49 ?ho_c3f ?hw_c3f f (⟨f.k, f.s, f.d, f.si, f.di, f.ec, f.ea, f.ei, f.h, f.hc, f.ha, f.hi, f.w, 0, 0, 0, 0, 0, ⟨#[]⟩⟩ : Fr) false HQ.out ?hx_c3f ?hy_c3f ?h_c3f); (case ho_c3f => rfl); (case hw_c3f => kernel_rfl); (case hx_c3f => rw [← HF.out]; rfl); (case hy_c3f => rfl)))
      all_goals go_ret
      all_goals refine ⟨congrArg (fun b => Ending.returned (Value.bool b)) ?_, by rw [HWS.out]; exact HBX.out⟩
      all_goals have hq := HQ.out
      all_goals simp only [decide_eq_false_iff_not] at hq
      all_goals rw [decide_eq_decide.mpr (rr_status f hk)]
      all_goals simp only [eq_false hq, false_and, decide_false]
      all_goals clear hq HNX HQ
      all_goals first
        | (apply decide_eq_decide.mpr; omega)
        | (symm; apply decide_eq_false; omega)
        | infer_instance
  · refine halt ?_
    have d0 := Fr.m0 HF.out HCW.out
    have d2 := Fr.m2 HF.out HCW.out
    have d4 := Fr.m4 HF.out HCW.out
    have z2 := Fr.m2 rfl HNW.out
    have y2 := HNW.out.free 2
    have z4 := Fr.m4 rfl HNW.out
    have y4 := HNW.out.free 4
    rw [hk] at d0
    have HBX := Lib.hid (show Below g w ((w2.setCell ⟨g2, 2, none⟩ (.int .u8 f.d)).setCell ⟨g2, 4, none⟩ (.int .u16 f.di)) from ((HBW.out.setCell HGB.out _).setCell HGB.out _))
    have HCX := Lib.hid (show ObjAt ((w2.setCell ⟨g2, 2, none⟩ (.int .u8 f.d)).setCell ⟨g2, 4, none⟩ (.int .u16 f.di)) g C 49 from ((HCW.out.set_other ⟨g2, 2, none⟩ HNE.out _).set_other ⟨g2, 4, none⟩ HNE.out _))
    have HNX := Lib.hid (show ObjAt ((w2.setCell ⟨g2, 2, none⟩ (.int .u8 f.d)).setCell ⟨g2, 4, none⟩ (.int .u16 f.di)) g2 (⟨f.k, f.s, f.d, f.si, f.di, f.ec, f.ea, f.ei, f.h, 0, 0, 0, false, 0, 0, 0, 0, 0, ⟨#[]⟩⟩ : Fr).cells 49 from (Fr.st_di (Fr.st_d HNW.out f.d) f.di))
    go_wp2_with ((with_reducible refine wpList_frame (.tmp 1) ?ho_a4 ?hw_a4 g C ?hx_a4 hC ?hg_a4 ?h_a4); (case ho_a4 => rfl); (case hw_a4 => kernel_rfl); (case hx_a4 => rfl); (case hg_a4 => exact HCX.out); refine unhalt ?_)
    clear d0 d2 d4 z2 y2 z4 y4 HCW HNW HBW
    generalize ((w2.setCell ⟨g2, 2, none⟩ (.int .u8 f.d)).setCell ⟨g2, 4, none⟩ (.int .u16 f.di)) = w3 at *
    have d0 := Fr.m0 HF.out HCX.out
    have d1 := Fr.m1 HF.out HCX.out
    have d2 := Fr.m2 HF.out HCX.out
    have d6 := Fr.m6 HF.out HCX.out
    have d10 := Fr.m10 HF.out HCX.out
    rw [hk] at d0
    refine halt ?_
    by_cases hfg : f = (⟨f.k, f.s, f.d, f.si, f.di, f.ec, f.ea, f.ei, f.h, 0, 0, 0, false, 0, 0, 0, 0, 0, ⟨#[]⟩⟩ : Fr)
    · have HQ := Lib.hid (show decide (f = (⟨f.k, f.s, f.d, f.si, f.di, f.ec, f.ea, f.ei, f.h, 0, 0, 0, false, 0, 0, 0, 0, 0, ⟨#[]⟩⟩ : Fr)) = true by simpa using hfg)
      clear hfg
      go_wp2_with (first
        | ((with_reducible refine wpList_frame (.tmp 3) ?ho_b4t ?hw_b4t g2 (⟨f.k, f.s, f.d, f.si, f.di, f.ec, f.ea, f.ei, f.h, 0, 0, 0, false, 0, 0, 0, 0, 0, ⟨#[]⟩⟩ : Fr).cells ?hx_b4t (Fr.size rfl) ?hg_b4t ?h_b4t); (case ho_b4t => rfl); (case hw_b4t => kernel_rfl); (case hx_b4t => rfl); (case hg_b4t => exact HNX.out))
        | ((with_reducible refine wpList_eqFr2 (.tmp 98) (.tmp 99) 49 ?ho_c4t ?hw_c4t f (⟨f.k, f.s, f.d, f.si, f.di, f.ec, f.ea, f.ei, f.h, 0, 0, 0, false, 0, 0, 0, 0, 0, ⟨#[]⟩⟩ : Fr) true HQ.out ?hx_c4t ?hy_c4t ?h_c4t); (case ho_c4t => rfl); (case hw_c4t => kernel_rfl); (case hx_c4t => rw [← HF.out]; rfl); (case hy_c4t => rfl)))
      all_goals go_ret
      all_goals refine ⟨congrArg (fun b => Ending.returned (Value.bool b)) ?_, by rw [HWS.out]; exact HBX.out⟩
      all_goals have hq := HQ.out
      all_goals simp only [decide_eq_true_eq] at hq
      all_goals rw [decide_eq_decide.mpr (rr_plain f (by omega))]
      all_goals simp only [eq_true hq, true_and]
      all_goals clear hq HNX HQ
      all_goals first
        | (apply decide_eq_decide.mpr; omega)
        | (symm; apply decide_eq_false; omega)
        | infer_instance
    · have HQ := Lib.hid (show decide (f = (⟨f.k, f.s, f.d, f.si, f.di, f.ec, f.ea, f.ei, f.h, 0, 0, 0, false, 0, 0, 0, 0, 0, ⟨#[]⟩⟩ : Fr)) = false by simpa using hfg)
      clear hfg
      go_wp2_with (first
        | ((with_reducible refine wpList_frame (.tmp 3) ?ho_b4f ?hw_b4f g2 (⟨f.k, f.s, f.d, f.si, f.di, f.ec, f.ea, f.ei, f.h, 0, 0, 0, false, 0, 0, 0, 0, 0, ⟨#[]⟩⟩ : Fr).cells ?hx_b4f (Fr.size rfl) ?hg_b4f ?h_b4f); (case ho_b4f => rfl); (case hw_b4f => kernel_rfl); (case hx_b4f => rfl); (case hg_b4f => exact HNX.out))
        | ((with_reducible refine wpList_eqFr2 (.tmp 98) (.tmp 99) 49 ?ho_c4f ?hw_c4f f (⟨f.k, f.s, f.d, f.si, f.di, f.ec, f.ea, f.ei, f.h, 0, 0, 0, false, 0, 0, 0, 0, 0, ⟨#[]⟩⟩ : Fr) false HQ.out ?hx_c4f ?hy_c4f ?h_c4f); (case ho_c4f => rfl); (case hw_c4f => kernel_rfl); (case hx_c4f => rw [← HF.out]; rfl); (case hy_c4f => rfl)))
      all_goals go_ret
      all_goals refine ⟨congrArg (fun b => Ending.returned (Value.bool b)) ?_, by rw [HWS.out]; exact HBX.out⟩
      all_goals have hq := HQ.out
      all_goals simp only [decide_eq_false_iff_not] at hq
      all_goals rw [decide_eq_decide.mpr (rr_plain f (by omega))]
      all_goals simp only [eq_false hq, false_and, decide_false]
      all_goals clear hq HNX HQ
      all_goals first
        | (apply decide_eq_decide.mpr; omega)
        | (symm; apply decide_eq_false; omega)
        | infer_instance
  · refine halt ?_
    have d0 := Fr.m0 HF.out HCW.out
    rw [hk] at d0
    have d13 := Fr.m13 HF.out HCW.out
    have z13 := Fr.m13 rfl HNW.out
    have y13 := HNW.out.free 13
    go_wp2_with ((with_reducible refine wpList_at 54 ?ho_k54 ?h_k54); (case ho_k54 => rfl); refine unhalt ?_)
    have HB0 := Lib.hid (show Below g w (w2.setCell ⟨g2, 13, none⟩ (.int .u8 f.b)) from (HBW.out.setCell HGB.out _))
    have HC0 := Lib.hid (show ObjAt (w2.setCell ⟨g2, 13, none⟩ (.int .u8 f.b)) g C 49 from (HCW.out.set_other ⟨g2, 13, none⟩ HNE.out _))
    have HN0 := Lib.hid (show ObjAt (w2.setCell ⟨g2, 13, none⟩ (.int .u8 f.b)) g2 (⟨f.k, f.s, 0, f.si, 0, f.ec, f.ea, f.ei, f.h, 0, 0, 0, false, f.b, 0, 0, 0, 0, ⟨#[]⟩⟩ : Fr).cells 49 from (Fr.st_b HNW.out f.b))
    clear d0 d13 z13 y13 HBW HCW HNW
    generalize (w2.setCell ⟨g2, 13, none⟩ (.int .u8 f.b)) = v0 at *
    refine halt ?_
    have d14 := Fr.m14 HF.out HC0.out
    have z14 := Fr.m14 rfl HN0.out
    have y14 := HN0.out.free 14
    have d15 := Fr.m15 HF.out HC0.out
    have z15 := Fr.m15 rfl HN0.out
    have y15 := HN0.out.free 15
    go_wp2_with ((with_reducible refine wpList_at 57 ?ho_k57 ?h_k57); (case ho_k57 => rfl); refine unhalt ?_)
    have HB1 := Lib.hid (show Below g w ((v0.setCell ⟨g2, 14, none⟩ (.int .u16 f.vi)).setCell ⟨g2, 15, none⟩ (.int .u32 f.vs)) from ((HB0.out.setCell HGB.out _).setCell HGB.out _))
    have HC1 := Lib.hid (show ObjAt ((v0.setCell ⟨g2, 14, none⟩ (.int .u16 f.vi)).setCell ⟨g2, 15, none⟩ (.int .u32 f.vs)) g C 49 from ((HC0.out.set_other ⟨g2, 14, none⟩ HNE.out _).set_other ⟨g2, 15, none⟩ HNE.out _))
    have HN1 := Lib.hid (show ObjAt ((v0.setCell ⟨g2, 14, none⟩ (.int .u16 f.vi)).setCell ⟨g2, 15, none⟩ (.int .u32 f.vs)) g2 (⟨f.k, f.s, 0, f.si, 0, f.ec, f.ea, f.ei, f.h, 0, 0, 0, false, f.b, f.vi, f.vs, 0, 0, ⟨#[]⟩⟩ : Fr).cells 49 from (Fr.st_vs (Fr.st_vi HN0.out f.vi) f.vs))
    clear  d14 z14 y14 d15 z15 y15 HB0 HC0 HN0
    generalize ((v0.setCell ⟨g2, 14, none⟩ (.int .u16 f.vi)).setCell ⟨g2, 15, none⟩ (.int .u32 f.vs)) = v1 at *
    refine halt ?_
    have d16 := Fr.m16 HF.out HC1.out
    have z16 := Fr.m16 rfl HN1.out
    have y16 := HN1.out.free 16
    go_wp2_with ((with_reducible refine wpList_at 60 ?ho_k60 ?h_k60); (case ho_k60 => rfl); refine unhalt ?_)
    have HB2 := Lib.hid (show Below g w (v1.setCell ⟨g2, 16, none⟩ (.int .u8 f.p)) from (HB1.out.setCell HGB.out _))
    have HC2 := Lib.hid (show ObjAt (v1.setCell ⟨g2, 16, none⟩ (.int .u8 f.p)) g C 49 from (HC1.out.set_other ⟨g2, 16, none⟩ HNE.out _))
    have HN2 := Lib.hid (show ObjAt (v1.setCell ⟨g2, 16, none⟩ (.int .u8 f.p)) g2 (⟨f.k, f.s, 0, f.si, 0, f.ec, f.ea, f.ei, f.h, 0, 0, 0, false, f.b, f.vi, f.vs, f.p, 0, ⟨#[]⟩⟩ : Fr).cells 49 from (Fr.st_p HN1.out f.p))
    clear  d16 z16 y16 HB1 HC1 HN1
    generalize (v1.setCell ⟨g2, 16, none⟩ (.int .u8 f.p)) = v2 at *
    refine halt ?_
    have d17 := Fr.m17 HF.out HC2.out
    have z17 := Fr.m17 rfl HN2.out
    have y17 := HN2.out.free 17
    go_wp2_with ((with_reducible refine wpList_at 63 ?ho_k63 ?h_k63); (case ho_k63 => rfl); refine unhalt ?_)
    have HB3 := Lib.hid (show Below g w (v2.setCell ⟨g2, 17, none⟩ (.int .u8 f.q)) from (HB2.out.setCell HGB.out _))
    have HC3 := Lib.hid (show ObjAt (v2.setCell ⟨g2, 17, none⟩ (.int .u8 f.q)) g C 49 from (HC2.out.set_other ⟨g2, 17, none⟩ HNE.out _))
    have HN3 := Lib.hid (show ObjAt (v2.setCell ⟨g2, 17, none⟩ (.int .u8 f.q)) g2 (⟨f.k, f.s, 0, f.si, 0, f.ec, f.ea, f.ei, f.h, 0, 0, 0, false, f.b, f.vi, f.vs, f.p, f.q, ⟨#[]⟩⟩ : Fr).cells 49 from (Fr.st_q HN2.out f.q))
    clear  d17 z17 y17 HB2 HC2 HN2
    generalize (v2.setCell ⟨g2, 17, none⟩ (.int .u8 f.q)) = v3 at *
    refine halt ?_
    have d18 := Fr.m18 HF.out HC3.out
    have z18 := Fr.m18 rfl HN3.out
    have y18 := HN3.out.free 18
    go_wp2_with ((with_reducible refine wpList_at 66 ?ho_k66 ?h_k66); (case ho_k66 => rfl); refine unhalt ?_)
    have HBX := Lib.hid (show Below g w (v3.setCell ⟨g2, 18, none⟩ (.string f.t)) from (HB3.out.setCell HGB.out _))
    have HCX := Lib.hid (show ObjAt (v3.setCell ⟨g2, 18, none⟩ (.string f.t)) g C 49 from (HC3.out.set_other ⟨g2, 18, none⟩ HNE.out _))
    have HNX := Lib.hid (show ObjAt (v3.setCell ⟨g2, 18, none⟩ (.string f.t)) g2 (⟨f.k, f.s, 0, f.si, 0, f.ec, f.ea, f.ei, f.h, 0, 0, 0, false, f.b, f.vi, f.vs, f.p, f.q, f.t⟩ : Fr).cells 49 from (Fr.st_t HN3.out f.t))
    clear  d18 z18 y18 HB3 HC3 HN3
    generalize (v3.setCell ⟨g2, 18, none⟩ (.string f.t)) = v4 at *
    refine halt ?_
    have d9 := Fr.m13 HF.out HCX.out
    have d11 := Fr.m16 HF.out HCX.out
    have d12 := Fr.m17 HF.out HCX.out
    have d13 := Fr.m18 HF.out HCX.out
    by_cases hbd : f.b < 16 ∧ 1 ≤ f.q ∧ f.q ≤ 4 ∧ f.p < f.q ∧ 1 ≤ (f.t.size : Int) ∧ (f.t.size : Int) ≤ 16
    · obtain ⟨j1, j2, j3, j4, j5, j6⟩ := hbd
      go_wp2_with ((with_reducible refine wpList_frame (.tmp 1) ?ho_a9 ?hw_a9 g C ?hx_a9 hC ?hg_a9 ?h_a9); (case ho_a9 => rfl); (case hw_a9 => kernel_rfl); (case hx_a9 => rfl); (case hg_a9 => exact HCX.out); refine unhalt ?_)
      clear d9 d11 d12 d13
      have d0 := Fr.m0 HF.out HCX.out
      have d1 := Fr.m1 HF.out HCX.out
      have d2 := Fr.m2 HF.out HCX.out
      have d6 := Fr.m6 HF.out HCX.out
      have d10 := Fr.m10 HF.out HCX.out
      rw [hk] at d0
      refine halt ?_
      by_cases hfg : f = (⟨f.k, f.s, 0, f.si, 0, f.ec, f.ea, f.ei, f.h, 0, 0, 0, false, f.b, f.vi, f.vs, f.p, f.q, f.t⟩ : Fr)
      · have HQ := Lib.hid (show decide (f = (⟨f.k, f.s, 0, f.si, 0, f.ec, f.ea, f.ei, f.h, 0, 0, 0, false, f.b, f.vi, f.vs, f.p, f.q, f.t⟩ : Fr)) = true by simpa using hfg)
        clear hfg
        go_wp2_with (first
          | ((with_reducible refine wpList_frame (.tmp 3) ?ho_b9t ?hw_b9t g2 (⟨f.k, f.s, 0, f.si, 0, f.ec, f.ea, f.ei, f.h, 0, 0, 0, false, f.b, f.vi, f.vs, f.p, f.q, f.t⟩ : Fr).cells ?hx_b9t (Fr.size rfl) ?hg_b9t ?h_b9t); (case ho_b9t => rfl); (case hw_b9t => kernel_rfl); (case hx_b9t => rfl); (case hg_b9t => exact HNX.out))
          | ((with_reducible refine wpList_eqFr2 (.tmp 98) (.tmp 99) 49 ?ho_c9t ?hw_c9t f (⟨f.k, f.s, 0, f.si, 0, f.ec, f.ea, f.ei, f.h, 0, 0, 0, false, f.b, f.vi, f.vs, f.p, f.q, f.t⟩ : Fr) true HQ.out ?hx_c9t ?hy_c9t ?h_c9t); (case ho_c9t => rfl); (case hw_c9t => kernel_rfl); (case hx_c9t => rw [← HF.out]; rfl); (case hy_c9t => rfl)))
        all_goals go_ret
        all_goals refine ⟨congrArg (fun b => Ending.returned (Value.bool b)) ?_, by rw [HWS.out]; exact HBX.out⟩
        all_goals have hq := HQ.out
        all_goals simp only [decide_eq_true_eq] at hq
        all_goals rw [decide_eq_decide.mpr (rr_data f hk)]
        all_goals simp only [eq_true hq, true_and]
        all_goals clear hq HNX HQ
        all_goals first
          | (apply decide_eq_decide.mpr; omega)
          | (symm; apply decide_eq_false; omega)
          | infer_instance
      · have HQ := Lib.hid (show decide (f = (⟨f.k, f.s, 0, f.si, 0, f.ec, f.ea, f.ei, f.h, 0, 0, 0, false, f.b, f.vi, f.vs, f.p, f.q, f.t⟩ : Fr)) = false by simpa using hfg)
        clear hfg
        go_wp2_with (first
          | ((with_reducible refine wpList_frame (.tmp 3) ?ho_b9f ?hw_b9f g2 (⟨f.k, f.s, 0, f.si, 0, f.ec, f.ea, f.ei, f.h, 0, 0, 0, false, f.b, f.vi, f.vs, f.p, f.q, f.t⟩ : Fr).cells ?hx_b9f (Fr.size rfl) ?hg_b9f ?h_b9f); (case ho_b9f => rfl); (case hw_b9f => kernel_rfl); (case hx_b9f => rfl); (case hg_b9f => exact HNX.out))
          | ((with_reducible refine wpList_eqFr2 (.tmp 98) (.tmp 99) 49 ?ho_c9f ?hw_c9f f (⟨f.k, f.s, 0, f.si, 0, f.ec, f.ea, f.ei, f.h, 0, 0, 0, false, f.b, f.vi, f.vs, f.p, f.q, f.t⟩ : Fr) false HQ.out ?hx_c9f ?hy_c9f ?h_c9f); (case ho_c9f => rfl); (case hw_c9f => kernel_rfl); (case hx_c9f => rw [← HF.out]; rfl); (case hy_c9f => rfl)))
        all_goals go_ret
        all_goals refine ⟨congrArg (fun b => Ending.returned (Value.bool b)) ?_, by rw [HWS.out]; exact HBX.out⟩
        all_goals have hq := HQ.out
        all_goals simp only [decide_eq_false_iff_not] at hq
        all_goals rw [decide_eq_decide.mpr (rr_data f hk)]
        all_goals simp only [eq_false hq, false_and, decide_false]
        all_goals clear hq HNX HQ
        all_goals first
          | (apply decide_eq_decide.mpr; omega)
          | (symm; apply decide_eq_false; omega)
          | infer_instance
    · go_wp2_with fail
      all_goals go_ret
      all_goals refine ⟨congrArg (fun b => Ending.returned (Value.bool b)) ?_, by rw [HWS.out]; exact HBX.out⟩
      all_goals symm
      all_goals refine decide_eq_false fun hr => ?_
      all_goals exact hbd ((rr_data f hk).1 hr).2
  · refine halt ?_
    have d0 := Fr.m0 HF.out HCW.out
    have hn1 : (f.k == 1) = false := by simp; omega
    have hn2 : (f.k == 2) = false := by simp; omega
    have hn3 : (f.k == 3) = false := by simp; omega
    have hn4 : (f.k == 4) = false := by simp; omega
    have hn5 : (f.k == 5) = false := by simp; omega
    have HBX := Lib.hid (show Below g w w2 from HBW.out)
    have HCX := Lib.hid (show ObjAt w2 g C 49 from HCW.out)
    have HNX := Lib.hid (show ObjAt w2 g2 (⟨f.k, f.s, 0, f.si, 0, f.ec, f.ea, f.ei, f.h, 0, 0, 0, false, 0, 0, 0, 0, 0, ⟨#[]⟩⟩ : Fr).cells 49 from HNW.out)
    go_wp2_with ((with_reducible refine wpList_frame (.tmp 1) ?ho_a6 ?hw_a6 g C ?hx_a6 hC ?hg_a6 ?h_a6); (case ho_a6 => rfl); (case hw_a6 => kernel_rfl); (case hx_a6 => rfl); (case hg_a6 => exact HCX.out); refine unhalt ?_)
    clear d0 HCW HNW HBW
    have d0 := Fr.m0 HF.out HCX.out
    have d1 := Fr.m1 HF.out HCX.out
    have d2 := Fr.m2 HF.out HCX.out
    have d6 := Fr.m6 HF.out HCX.out
    have d10 := Fr.m10 HF.out HCX.out
    refine halt ?_
    by_cases hfg : f = (⟨f.k, f.s, 0, f.si, 0, f.ec, f.ea, f.ei, f.h, 0, 0, 0, false, 0, 0, 0, 0, 0, ⟨#[]⟩⟩ : Fr)
    · have HQ := Lib.hid (show decide (f = (⟨f.k, f.s, 0, f.si, 0, f.ec, f.ea, f.ei, f.h, 0, 0, 0, false, 0, 0, 0, 0, 0, ⟨#[]⟩⟩ : Fr)) = true by simpa using hfg)
      clear hfg
      go_wp2_with (first
        | ((with_reducible refine wpList_frame (.tmp 3) ?ho_b6t ?hw_b6t g2 (⟨f.k, f.s, 0, f.si, 0, f.ec, f.ea, f.ei, f.h, 0, 0, 0, false, 0, 0, 0, 0, 0, ⟨#[]⟩⟩ : Fr).cells ?hx_b6t (Fr.size rfl) ?hg_b6t ?h_b6t); (case ho_b6t => rfl); (case hw_b6t => kernel_rfl); (case hx_b6t => rfl); (case hg_b6t => exact HNX.out))
        | ((with_reducible refine wpList_eqFr2 (.tmp 98) (.tmp 99) 49 ?ho_c6t ?hw_c6t f (⟨f.k, f.s, 0, f.si, 0, f.ec, f.ea, f.ei, f.h, 0, 0, 0, false, 0, 0, 0, 0, 0, ⟨#[]⟩⟩ : Fr) true HQ.out ?hx_c6t ?hy_c6t ?h_c6t); (case ho_c6t => rfl); (case hw_c6t => kernel_rfl); (case hx_c6t => rw [← HF.out]; rfl); (case hy_c6t => rfl)))
      all_goals go_ret
      all_goals refine ⟨congrArg (fun b => Ending.returned (Value.bool b)) ?_, by rw [HWS.out]; exact HBX.out⟩
      all_goals have hq := HQ.out
      all_goals simp only [decide_eq_true_eq] at hq
      all_goals rw [decide_eq_decide.mpr (rr_none f hk)]
      all_goals simp only [eq_true hq, true_and]
      all_goals clear hq HNX HQ
      all_goals first
        | (apply decide_eq_decide.mpr; omega)
        | (symm; apply decide_eq_false; omega)
        | infer_instance
    · have HQ := Lib.hid (show decide (f = (⟨f.k, f.s, 0, f.si, 0, f.ec, f.ea, f.ei, f.h, 0, 0, 0, false, 0, 0, 0, 0, 0, ⟨#[]⟩⟩ : Fr)) = false by simpa using hfg)
      clear hfg
      go_wp2_with (first
        | ((with_reducible refine wpList_frame (.tmp 3) ?ho_b6f ?hw_b6f g2 (⟨f.k, f.s, 0, f.si, 0, f.ec, f.ea, f.ei, f.h, 0, 0, 0, false, 0, 0, 0, 0, 0, ⟨#[]⟩⟩ : Fr).cells ?hx_b6f (Fr.size rfl) ?hg_b6f ?h_b6f); (case ho_b6f => rfl); (case hw_b6f => kernel_rfl); (case hx_b6f => rfl); (case hg_b6f => exact HNX.out))
        | ((with_reducible refine wpList_eqFr2 (.tmp 98) (.tmp 99) 49 ?ho_c6f ?hw_c6f f (⟨f.k, f.s, 0, f.si, 0, f.ec, f.ea, f.ei, f.h, 0, 0, 0, false, 0, 0, 0, 0, 0, ⟨#[]⟩⟩ : Fr) false HQ.out ?hx_c6f ?hy_c6f ?h_c6f); (case ho_c6f => rfl); (case hw_c6f => kernel_rfl); (case hx_c6f => rw [← HF.out]; rfl); (case hy_c6f => rfl)))
      all_goals go_ret
      all_goals refine ⟨congrArg (fun b => Ending.returned (Value.bool b)) ?_, by rw [HWS.out]; exact HBX.out⟩
      all_goals have hq := HQ.out
      all_goals simp only [decide_eq_false_iff_not] at hq
      all_goals rw [decide_eq_decide.mpr (rr_none f hk)]
      all_goals simp only [eq_false hq, false_and, decide_false]
      all_goals clear hq HNX HQ
      all_goals first
        | (apply decide_eq_decide.mpr; omega)
        | (symm; apply decide_eq_false; omega)
        | infer_instance
end Go.Proofs.YtmehafolnpkmhaaDoor
