/- Epochs and marks as arguments, by value. -/
import Derived.Test.YthjdepipmghbbaaDoorEpoPure
import Derived.OpenShut
import Derived.Carry
import Derived.SizedLaws
namespace Go.Proofs.YthjdepipmghbbaaDoor
open Go.RowKit Go.ChangeShapes Go.WideShapes
abbrev In16 (n : Int) : Prop := 0 ≤ n ∧ n ≤ 65535
abbrev In8 (n : Int) : Prop := 0 ≤ n ∧ n ≤ 255
theorem in16_of {n : Int} (w : (Lit.int .u16 n).wf = true) : In16 n := by
  have h : IntKind.u16.min ≤ n ∧ n ≤ IntKind.u16.max := by simpa [Lit.wf] using w
  have h1 : IntKind.u16.min = 0 := rfl
  have h2 : IntKind.u16.max = 65535 := rfl
  omega
theorem in8_of {n : Int} (w : (Lit.int .u8 n).wf = true) : In8 n := by
  have h : IntKind.u8.min ≤ n ∧ n ≤ IntKind.u8.max := by simpa [Lit.wf] using w
  have h1 : IntKind.u8.min = 0 := rfl
  have h2 : IntKind.u8.max = 255 := rfl
  omega
theorem some_at {α : Type} {xs : List α} {n i : Nat} (h : xs.length = n) (hi : i < n) : ∃ y, xs[i]? = some y := ⟨xs[i], List.getElem?_eq_getElem (by omega)⟩
section
variable {H : Type} {enc : TypeId × Value → H} {w : World} {base : Nat} {spare : Nat → Bool} {held : Bool} {fuel : Nat} {cs : List Value} {x : DataW H × List MemPlace}
set_option maxRecDepth 100000 in
theorem epoch_cells (h : DataW.trod enc Tryd.prog w base spare held fuel 24 cs = some x) :
    ∃ c a i : Int, cs = [.int .u16 c, .int .u8 a, .int .u16 i] ∧ In16 c ∧ In8 a ∧ In16 i := by
  obtain ⟨xs, n, -, -, hl, hx, hf⟩ := DataW.trod_struct Tryd.underlying24 h
  have hx3 : xs.length = 3 := hx
  have hl3 : cs.length = 3 := hl.trans (by kernel_rfl)
  match cs, hl3 with
  | [x0, x1, x2], _ =>
  have e0 : Tryd.prog.cellsOf 22 = 1 := by kernel_rfl
  have e1 : Tryd.prog.cellsOf 5 = 1 := by kernel_rfl
  have h0 : DataW.trod enc Tryd.prog w base spare held n 22 ((List.drop 0 [x0, x1, x2]).take (Tryd.prog.cellsOf 22)) = xs[0]? := hf 0 _ rfl
  have h1 : DataW.trod enc Tryd.prog w base spare held n 5 ((List.drop 1 [x0, x1, x2]).take (Tryd.prog.cellsOf 5)) = xs[1]? := hf 1 _ rfl
  have h2 : DataW.trod enc Tryd.prog w base spare held n 22 ((List.drop 2 [x0, x1, x2]).take (Tryd.prog.cellsOf 22)) = xs[2]? := hf 2 _ rfl
  obtain ⟨y0, k0⟩ := some_at hx3 (i := 0) (by decide)
  obtain ⟨y1, k1⟩ := some_at hx3 (i := 1) (by decide)
  obtain ⟨y2, k2⟩ := some_at hx3 (i := 2) (by decide)
  rw [e0, k0] at h0
  rw [e1, k1] at h1
  rw [e0, k2] at h2
  obtain ⟨c, q0, -, w0⟩ := DataW.trod_int Tryd.underlying22 h0
  obtain ⟨a, q1, -, w1⟩ := DataW.trod_int Tryd.underlying5 h1
  obtain ⟨i, q2, -, w2⟩ := DataW.trod_int Tryd.underlying22 h2
  have r0 : x0 = .int .u16 c := by simpa using q0
  have r1 : x1 = .int .u8 a := by simpa using q1
  have r2 : x2 = .int .u16 i := by simpa using q2
  exact ⟨c, a, i, by rw [r0, r1, r2], in16_of w0, in8_of w1, in16_of w2⟩
set_option maxRecDepth 100000 in
theorem mark_cells (h : DataW.trod enc Tryd.prog w base spare held fuel 35 cs = some x) :
    ∃ c a i g : Int, cs = [.int .u16 c, .int .u8 a, .int .u16 i, .int .u16 g] ∧ In16 c ∧ In8 a ∧ In16 i ∧ In16 g := by
  obtain ⟨xs, n, -, -, hl, hx, hf⟩ := DataW.trod_struct Tryd.underlying35 h
  have hx3 : xs.length = 2 := hx
  have hl3 : cs.length = 4 := hl.trans (by kernel_rfl)
  match cs, hl3 with
  | [x0, x1, x2, x3], _ =>
  have e0 : Tryd.prog.cellsOf 22 = 1 := by kernel_rfl
  have e1 : Tryd.prog.cellsOf 24 = 3 := by kernel_rfl
  have h0 : DataW.trod enc Tryd.prog w base spare held n 24 ((List.drop 0 [x0, x1, x2, x3]).take (Tryd.prog.cellsOf 24)) = xs[0]? := hf 0 _ rfl
  have h1 : DataW.trod enc Tryd.prog w base spare held n 22 ((List.drop 3 [x0, x1, x2, x3]).take (Tryd.prog.cellsOf 22)) = xs[1]? := hf 1 _ rfl
  obtain ⟨y0, k0⟩ := some_at hx3 (i := 0) (by decide)
  obtain ⟨y1, k1⟩ := some_at hx3 (i := 1) (by decide)
  rw [e1, k0] at h0
  rw [e0, k1] at h1
  obtain ⟨c, a, i, q, bc, ba, bi⟩ := epoch_cells h0
  obtain ⟨g, q1, -, w1⟩ := DataW.trod_int Tryd.underlying22 h1
  have r : [x0, x1, x2] = [.int .u16 c, .int .u8 a, .int .u16 i] := q
  have r3 : x3 = .int .u16 g := by simpa using q1
  simp only [List.cons.injEq, and_true] at r
  obtain ⟨r0, r1, r2⟩ := r
  exact ⟨c, a, i, g, by rw [r0, r1, r2, r3], bc, ba, bi, in16_of w1⟩
set_option maxRecDepth 100000 in
theorem two_cells (h : DataW.trod enc Tryd.prog w base spare held fuel 25 cs = some x) :
    ∃ c a i d b j : Int, cs = [.int .u16 c, .int .u8 a, .int .u16 i, .int .u16 d, .int .u8 b, .int .u16 j] ∧ (In16 c ∧ In8 a ∧ In16 i) ∧ In16 d ∧ In8 b ∧ In16 j := by
  obtain ⟨xs, n, -, -, hl, hx, hf⟩ := DataW.trod_array Tryd.underlying25 h
  have hl3 : cs.length = 6 := hl.trans (by kernel_rfl)
  match cs, hl3 with
  | [x0, x1, x2, x3, x4, x5], _ =>
  have e1 : Tryd.prog.cellsOf 24 = 3 := by kernel_rfl
  have h0 := hf 0 (by decide)
  have h1 := hf 1 (by decide)
  rw [e1] at h0 h1
  rw [List.getElem?_eq_getElem (by omega)] at h0 h1
  obtain ⟨c, a, i, q, bc, ba, bi⟩ := epoch_cells h0
  obtain ⟨d, b, j, q', bd, bb, bj⟩ := epoch_cells h1
  have r : [x0, x1, x2] = [.int .u16 c, .int .u8 a, .int .u16 i] := q
  have r' : [x3, x4, x5] = [.int .u16 d, .int .u8 b, .int .u16 j] := q'
  simp only [List.cons.injEq, and_true] at r r'
  obtain ⟨r0, r1, r2⟩ := r
  obtain ⟨r3, r4, r5⟩ := r'
  exact ⟨c, a, i, d, b, j, by rw [r0, r1, r2, r3, r4, r5], ⟨bc, ba, bi⟩, bd, bb, bj⟩
end
section
variable {H : Type} {enc : TypeId × Value → H} {w : World} {v : Value} {d : DataW H} {p : List MemPlace}
theorem agg_struct {T : TypeId} {fs : Array Field} (hT : Tryd.prog.underlying T = some (.struct fs)) (o : Value.okWide Tryd.prog w .any 0 T v) : ∃ cs, v = .agg cs := by
  simp only [Value.okWide, hT] at o
  obtain ⟨cs, h1, -⟩ := o
  exact ⟨cs, h1⟩
theorem agg_array {T e : TypeId} {n : Nat} (hT : Tryd.prog.underlying T = some (.array n e)) (o : Value.okWide Tryd.prog w .any 0 T v) : ∃ cs, v = .agg cs := by
  simp only [Value.okWide, hT] at o
  obtain ⟨cs, h1, -⟩ := o
  exact ⟨cs, h1⟩
theorem epoch_arg (h : DataW.Trod enc Tryd.prog w 0 (fun _ => true) true 24 v d p) (o : Value.okWide Tryd.prog w .any 0 24 v) :
    ∃ c a i : Int, v = .agg #[.int .u16 c, .int .u8 a, .int .u16 i] ∧ In16 c ∧ In8 a ∧ In16 i := by
  obtain ⟨cs, rfl⟩ := agg_struct Tryd.underlying24 o
  obtain ⟨m, hm⟩ := h
  obtain ⟨c, a, i, e, r⟩ := epoch_cells hm
  refine ⟨c, a, i, ?_, r⟩
  have e' : cs.toList = _ := e
  rw [show cs = cs.toList.toArray from (Array.toArray_toList).symm, e']
theorem mark_arg (h : DataW.Trod enc Tryd.prog w 0 (fun _ => true) true 35 v d p) (o : Value.okWide Tryd.prog w .any 0 35 v) :
    ∃ c a i g : Int, v = .agg #[.int .u16 c, .int .u8 a, .int .u16 i, .int .u16 g] ∧ In16 c ∧ In8 a ∧ In16 i ∧ In16 g := by
  obtain ⟨cs, rfl⟩ := agg_struct Tryd.underlying35 o
  obtain ⟨m, hm⟩ := h
  obtain ⟨c, a, i, g, e, r⟩ := mark_cells hm
  refine ⟨c, a, i, g, ?_, r⟩
  have e' : cs.toList = _ := e
  rw [show cs = cs.toList.toArray from (Array.toArray_toList).symm, e']
theorem two_arg (h : DataW.Trod enc Tryd.prog w 0 (fun _ => true) true 25 v d p) (o : Value.okWide Tryd.prog w .any 0 25 v) :
    ∃ c a i d b j : Int, v = .agg #[.int .u16 c, .int .u8 a, .int .u16 i, .int .u16 d, .int .u8 b, .int .u16 j] ∧ (In16 c ∧ In8 a ∧ In16 i) ∧ In16 d ∧ In8 b ∧ In16 j := by
  obtain ⟨cs, rfl⟩ := agg_array Tryd.underlying25 o
  obtain ⟨m, hm⟩ := h
  obtain ⟨c, a, i, d, b, j, e, r⟩ := two_cells hm
  refine ⟨c, a, i, d, b, j, ?_, r⟩
  have e' : cs.toList = _ := e
  rw [show cs = cs.toList.toArray from (Array.toArray_toList).symm, e']
end
end Go.Proofs.YthjdepipmghbbaaDoor
