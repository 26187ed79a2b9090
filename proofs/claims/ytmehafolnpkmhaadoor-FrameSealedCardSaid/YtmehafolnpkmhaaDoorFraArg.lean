/- A frame as an argument, by value. -/
import Derived.Test.YtmehafolnpkmhaaDoorFraFr
import Derived.OpenShut
import Derived.Carry
import Derived.SizedLaws
set_option maxRecDepth 100000
namespace Go.Proofs.YtmehafolnpkmhaaDoor
open Go.RowKit Go.ChangeShapes Go.WideShapes
theorem in_u16 {n : Int} (w : (Lit.int .u16 n).wf = true) : 0 ≤ n ∧ n < 65536 := by
  have h : IntKind.u16.min ≤ n ∧ n ≤ IntKind.u16.max := by simpa [Lit.wf] using w
  have h1 : IntKind.u16.min = 0 := rfl
  have h2 : IntKind.u16.max = 65535 := rfl
  omega
theorem in_u8 {n : Int} (w : (Lit.int .u8 n).wf = true) : 0 ≤ n ∧ n < 256 := by
  have h : IntKind.u8.min ≤ n ∧ n ≤ IntKind.u8.max := by simpa [Lit.wf] using w
  have h1 : IntKind.u8.min = 0 := rfl
  have h2 : IntKind.u8.max = 255 := rfl
  omega
theorem in_u32 {n : Int} (w : (Lit.int .u32 n).wf = true) : 0 ≤ n ∧ n < 4294967296 := by
  have h : IntKind.u32.min ≤ n ∧ n ≤ IntKind.u32.max := by simpa [Lit.wf] using w
  have h1 : IntKind.u32.min = 0 := rfl
  have h2 : IntKind.u32.max = 4294967295 := rfl
  omega
theorem in_i64 {n : Int} (w : (Lit.int .i64 n).wf = true) : -9223372036854775808 ≤ n ∧ n ≤ 9223372036854775807 := by
  have h : IntKind.i64.min ≤ n ∧ n ≤ IntKind.i64.max := by simpa [Lit.wf] using w
  have h1 : IntKind.i64.min = -9223372036854775808 := rfl
  have h2 : IntKind.i64.max = 9223372036854775807 := rfl
  omega
theorem some_at {α : Type} {xs : List α} {n i : Nat} (h : xs.length = n) (hi : i < n) : ∃ y, xs[i]? = some y := ⟨xs[i], List.getElem?_eq_getElem (by omega)⟩
section
variable {H : Type} {enc : TypeId × Value → H} {w : World} {base : Nat} {spare : Nat → Bool} {held : Bool} {fuel : Nat} {cs : List Value} {x : DataW H × List MemPlace}
set_option maxRecDepth 100000 in
theorem epoch_cells (h : DataW.trod enc Tryd.prog w base spare held fuel 45 cs = some x) :
    ∃ c a i : Int, cs = [.int .u16 c, .int .u8 a, .int .u16 i] ∧ (0 ≤ c ∧ c < 65536) ∧ (0 ≤ a ∧ a < 256) ∧ (0 ≤ i ∧ i < 65536) := by
  obtain ⟨xs, n, -, hxx, hl, hx, hf⟩ := DataW.trod_struct Tryd.underlying45 h
  have hxn : xs.length = 3 := hx
  have hln : cs.length = 3 := hl.trans (by kernel_rfl)
  match cs, hln with
  | [x0, x1, x2], _ =>
  have ce_uint16 : Tryd.prog.cellsOf 43 = 1 := by kernel_rfl
  have ce_uint8 : Tryd.prog.cellsOf 5 = 1 := by kernel_rfl
  have h0 : DataW.trod enc Tryd.prog w base spare held n 43 ((List.drop 0 [x0, x1, x2]).take (Tryd.prog.cellsOf 43)) = xs[0]? := hf 0 _ rfl
  obtain ⟨y0, k0⟩ := some_at hxn (i := 0) (by decide)
  rw [ce_uint16, k0] at h0
  have h1 : DataW.trod enc Tryd.prog w base spare held n 5 ((List.drop 1 [x0, x1, x2]).take (Tryd.prog.cellsOf 5)) = xs[1]? := hf 1 _ rfl
  obtain ⟨y1, k1⟩ := some_at hxn (i := 1) (by decide)
  rw [ce_uint8, k1] at h1
  have h2 : DataW.trod enc Tryd.prog w base spare held n 43 ((List.drop 2 [x0, x1, x2]).take (Tryd.prog.cellsOf 43)) = xs[2]? := hf 2 _ rfl
  obtain ⟨y2, k2⟩ := some_at hxn (i := 2) (by decide)
  rw [ce_uint16, k2] at h2
  obtain ⟨vc, q0, -, b0⟩ := DataW.trod_int Tryd.underlying43 h0
  have r0 : x0 = .int .u16 vc := by simpa using q0
  have b0 := in_u16 b0
  obtain ⟨va, q1, -, b1⟩ := DataW.trod_int Tryd.underlying5 h1
  have r1 : x1 = .int .u8 va := by simpa using q1
  have b1 := in_u8 b1
  obtain ⟨vi, q2, -, b2⟩ := DataW.trod_int Tryd.underlying43 h2
  have r2 : x2 = .int .u16 vi := by simpa using q2
  have b2 := in_u16 b2
  exact ⟨vc, va, vi, by rw [r0, r1, r2], b0, b1, b2⟩
set_option maxRecDepth 100000 in
theorem version_cells (h : DataW.trod enc Tryd.prog w base spare held fuel 47 cs = some x) :
    ∃ i s : Int, cs = [.int .u16 i, .int .u32 s] ∧ (0 ≤ i ∧ i < 65536) ∧ (0 ≤ s ∧ s < 4294967296) := by
  obtain ⟨xs, n, -, hxx, hl, hx, hf⟩ := DataW.trod_struct Tryd.underlying47 h
  have hxn : xs.length = 2 := hx
  have hln : cs.length = 2 := hl.trans (by kernel_rfl)
  match cs, hln with
  | [x0, x1], _ =>
  have ce_uint16 : Tryd.prog.cellsOf 43 = 1 := by kernel_rfl
  have ce_uint32 : Tryd.prog.cellsOf 22 = 1 := by kernel_rfl
  have h0 : DataW.trod enc Tryd.prog w base spare held n 43 ((List.drop 0 [x0, x1]).take (Tryd.prog.cellsOf 43)) = xs[0]? := hf 0 _ rfl
  obtain ⟨y0, k0⟩ := some_at hxn (i := 0) (by decide)
  rw [ce_uint16, k0] at h0
  have h1 : DataW.trod enc Tryd.prog w base spare held n 22 ((List.drop 1 [x0, x1]).take (Tryd.prog.cellsOf 22)) = xs[1]? := hf 1 _ rfl
  obtain ⟨y1, k1⟩ := some_at hxn (i := 1) (by decide)
  rw [ce_uint32, k1] at h1
  obtain ⟨vi, q0, -, b0⟩ := DataW.trod_int Tryd.underlying43 h0
  have r0 : x0 = .int .u16 vi := by simpa using q0
  have b0 := in_u16 b0
  obtain ⟨vs, q1, -, b1⟩ := DataW.trod_int Tryd.underlying22 h1
  have r1 : x1 = .int .u32 vs := by simpa using q1
  have b1 := in_u32 b1
  exact ⟨vi, vs, by rw [r0, r1], b0, b1⟩
set_option maxRecDepth 100000 in
set_option maxHeartbeats 1000000 in
theorem frame_cells (h : DataW.trod enc Tryd.prog w base spare held fuel 49 cs = some x) :
    ∃ f : Fr, cs = f.cells.toList ∧ f.ok ∧ ∃ ds : List (DataW H), x.1 = .agg ds ∧ ds[13]? = some (.lit (.string f.t.data.toList)) := by
  obtain ⟨xs, n, -, hxx, hl, hx, hf⟩ := DataW.trod_struct Tryd.underlying49 h
  have hxn : xs.length = 14 := hx
  have hln : cs.length = 19 := hl.trans (by kernel_rfl)
  match cs, hln with
  | [x0, x1, x2, x3, x4, x5, x6, x7, x8, x9, x10, x11, x12, x13, x14, x15, x16, x17, x18], _ =>
  have ce_Epoch : Tryd.prog.cellsOf 45 = 3 := by kernel_rfl
  have ce_Version : Tryd.prog.cellsOf 47 = 2 := by kernel_rfl
  have ce_bool : Tryd.prog.cellsOf 4 = 1 := by kernel_rfl
  have ce_int : Tryd.prog.cellsOf 3 = 1 := by kernel_rfl
  have ce_string : Tryd.prog.cellsOf 9 = 1 := by kernel_rfl
  have ce_uint16 : Tryd.prog.cellsOf 43 = 1 := by kernel_rfl
  have ce_uint8 : Tryd.prog.cellsOf 5 = 1 := by kernel_rfl
  have h0 : DataW.trod enc Tryd.prog w base spare held n 3 ((List.drop 0 [x0, x1, x2, x3, x4, x5, x6, x7, x8, x9, x10, x11, x12, x13, x14, x15, x16, x17, x18]).take (Tryd.prog.cellsOf 3)) = xs[0]? := hf 0 _ rfl
  obtain ⟨y0, k0⟩ := some_at hxn (i := 0) (by decide)
  rw [ce_int, k0] at h0
  have h1 : DataW.trod enc Tryd.prog w base spare held n 5 ((List.drop 1 [x0, x1, x2, x3, x4, x5, x6, x7, x8, x9, x10, x11, x12, x13, x14, x15, x16, x17, x18]).take (Tryd.prog.cellsOf 5)) = xs[1]? := hf 1 _ rfl
  obtain ⟨y1, k1⟩ := some_at hxn (i := 1) (by decide)
  rw [ce_uint8, k1] at h1
  have h2 : DataW.trod enc Tryd.prog w base spare held n 5 ((List.drop 2 [x0, x1, x2, x3, x4, x5, x6, x7, x8, x9, x10, x11, x12, x13, x14, x15, x16, x17, x18]).take (Tryd.prog.cellsOf 5)) = xs[2]? := hf 2 _ rfl
  obtain ⟨y2, k2⟩ := some_at hxn (i := 2) (by decide)
  rw [ce_uint8, k2] at h2
  have h3 : DataW.trod enc Tryd.prog w base spare held n 43 ((List.drop 3 [x0, x1, x2, x3, x4, x5, x6, x7, x8, x9, x10, x11, x12, x13, x14, x15, x16, x17, x18]).take (Tryd.prog.cellsOf 43)) = xs[3]? := hf 3 _ rfl
  obtain ⟨y3, k3⟩ := some_at hxn (i := 3) (by decide)
  rw [ce_uint16, k3] at h3
  have h4 : DataW.trod enc Tryd.prog w base spare held n 43 ((List.drop 4 [x0, x1, x2, x3, x4, x5, x6, x7, x8, x9, x10, x11, x12, x13, x14, x15, x16, x17, x18]).take (Tryd.prog.cellsOf 43)) = xs[4]? := hf 4 _ rfl
  obtain ⟨y4, k4⟩ := some_at hxn (i := 4) (by decide)
  rw [ce_uint16, k4] at h4
  have h5 : DataW.trod enc Tryd.prog w base spare held n 45 ((List.drop 5 [x0, x1, x2, x3, x4, x5, x6, x7, x8, x9, x10, x11, x12, x13, x14, x15, x16, x17, x18]).take (Tryd.prog.cellsOf 45)) = xs[5]? := hf 5 _ rfl
  obtain ⟨y5, k5⟩ := some_at hxn (i := 5) (by decide)
  rw [ce_Epoch, k5] at h5
  have h6 : DataW.trod enc Tryd.prog w base spare held n 43 ((List.drop 8 [x0, x1, x2, x3, x4, x5, x6, x7, x8, x9, x10, x11, x12, x13, x14, x15, x16, x17, x18]).take (Tryd.prog.cellsOf 43)) = xs[6]? := hf 6 _ rfl
  obtain ⟨y6, k6⟩ := some_at hxn (i := 6) (by decide)
  rw [ce_uint16, k6] at h6
  have h7 : DataW.trod enc Tryd.prog w base spare held n 45 ((List.drop 9 [x0, x1, x2, x3, x4, x5, x6, x7, x8, x9, x10, x11, x12, x13, x14, x15, x16, x17, x18]).take (Tryd.prog.cellsOf 45)) = xs[7]? := hf 7 _ rfl
  obtain ⟨y7, k7⟩ := some_at hxn (i := 7) (by decide)
  rw [ce_Epoch, k7] at h7
  have h8 : DataW.trod enc Tryd.prog w base spare held n 4 ((List.drop 12 [x0, x1, x2, x3, x4, x5, x6, x7, x8, x9, x10, x11, x12, x13, x14, x15, x16, x17, x18]).take (Tryd.prog.cellsOf 4)) = xs[8]? := hf 8 _ rfl
  obtain ⟨y8, k8⟩ := some_at hxn (i := 8) (by decide)
  rw [ce_bool, k8] at h8
  have h9 : DataW.trod enc Tryd.prog w base spare held n 5 ((List.drop 13 [x0, x1, x2, x3, x4, x5, x6, x7, x8, x9, x10, x11, x12, x13, x14, x15, x16, x17, x18]).take (Tryd.prog.cellsOf 5)) = xs[9]? := hf 9 _ rfl
  obtain ⟨y9, k9⟩ := some_at hxn (i := 9) (by decide)
  rw [ce_uint8, k9] at h9
  have h10 : DataW.trod enc Tryd.prog w base spare held n 47 ((List.drop 14 [x0, x1, x2, x3, x4, x5, x6, x7, x8, x9, x10, x11, x12, x13, x14, x15, x16, x17, x18]).take (Tryd.prog.cellsOf 47)) = xs[10]? := hf 10 _ rfl
  obtain ⟨y10, k10⟩ := some_at hxn (i := 10) (by decide)
  rw [ce_Version, k10] at h10
  have h11 : DataW.trod enc Tryd.prog w base spare held n 5 ((List.drop 16 [x0, x1, x2, x3, x4, x5, x6, x7, x8, x9, x10, x11, x12, x13, x14, x15, x16, x17, x18]).take (Tryd.prog.cellsOf 5)) = xs[11]? := hf 11 _ rfl
  obtain ⟨y11, k11⟩ := some_at hxn (i := 11) (by decide)
  rw [ce_uint8, k11] at h11
  have h12 : DataW.trod enc Tryd.prog w base spare held n 5 ((List.drop 17 [x0, x1, x2, x3, x4, x5, x6, x7, x8, x9, x10, x11, x12, x13, x14, x15, x16, x17, x18]).take (Tryd.prog.cellsOf 5)) = xs[12]? := hf 12 _ rfl
  obtain ⟨y12, k12⟩ := some_at hxn (i := 12) (by decide)
  rw [ce_uint8, k12] at h12
  have h13 : DataW.trod enc Tryd.prog w base spare held n 9 ((List.drop 18 [x0, x1, x2, x3, x4, x5, x6, x7, x8, x9, x10, x11, x12, x13, x14, x15, x16, x17, x18]).take (Tryd.prog.cellsOf 9)) = xs[13]? := hf 13 _ rfl
  obtain ⟨y13, k13⟩ := some_at hxn (i := 13) (by decide)
  rw [ce_string, k13] at h13
  obtain ⟨vk, q0, -, b0⟩ := DataW.trod_int Tryd.underlying3 h0
  have r0 : x0 = .int .i64 vk := by simpa using q0
  have b0 := in_i64 b0
  obtain ⟨vs, q1, -, b1⟩ := DataW.trod_int Tryd.underlying5 h1
  have r1 : x1 = .int .u8 vs := by simpa using q1
  have b1 := in_u8 b1
  obtain ⟨vd, q2, -, b2⟩ := DataW.trod_int Tryd.underlying5 h2
  have r2 : x2 = .int .u8 vd := by simpa using q2
  have b2 := in_u8 b2
  obtain ⟨vsi, q3, -, b3⟩ := DataW.trod_int Tryd.underlying43 h3
  have r3 : x3 = .int .u16 vsi := by simpa using q3
  have b3 := in_u16 b3
  obtain ⟨vdi, q4, -, b4⟩ := DataW.trod_int Tryd.underlying43 h4
  have r4 : x4 = .int .u16 vdi := by simpa using q4
  have b4 := in_u16 b4
  obtain ⟨vec, vea, vei, q5, b5c, b5a, b5i⟩ := epoch_cells h5
  have q5' : [x5, x6, x7] = [.int .u16 vec, .int .u8 vea, .int .u16 vei] := q5
  simp only [List.cons.injEq, and_true] at q5'
  obtain ⟨r50, r51, r52⟩ := q5'
  obtain ⟨vh, q6, -, b6⟩ := DataW.trod_int Tryd.underlying43 h6
  have r6 : x8 = .int .u16 vh := by simpa using q6
  have b6 := in_u16 b6
  obtain ⟨vHc, vHa, vHi, q7, b7c, b7a, b7i⟩ := epoch_cells h7
  have q7' : [x9, x10, x11] = [.int .u16 vHc, .int .u8 vHa, .int .u16 vHi] := q7
  simp only [List.cons.injEq, and_true] at q7'
  obtain ⟨r70, r71, r72⟩ := q7'
  obtain ⟨vw, q8, -⟩ := DataW.trod_bool Tryd.underlying4 h8
  have r8 : x12 = .bool vw := by simpa using q8
  obtain ⟨vb, q9, -, b9⟩ := DataW.trod_int Tryd.underlying5 h9
  have r9 : x13 = .int .u8 vb := by simpa using q9
  have b9 := in_u8 b9
  obtain ⟨vvi, vvs, q10, b10i, b10s⟩ := version_cells h10
  have q10' : [x14, x15] = [.int .u16 vvi, .int .u32 vvs] := q10
  simp only [List.cons.injEq, and_true] at q10'
  obtain ⟨r100, r101⟩ := q10'
  obtain ⟨vp, q11, -, b11⟩ := DataW.trod_int Tryd.underlying5 h11
  have r11 : x16 = .int .u8 vp := by simpa using q11
  have b11 := in_u8 b11
  obtain ⟨vq, q12, -, b12⟩ := DataW.trod_int Tryd.underlying5 h12
  have r12 : x17 = .int .u8 vq := by simpa using q12
  have b12 := in_u8 b12
  obtain ⟨vt, q13, d13, -⟩ := DataW.trod_string Tryd.underlying9 h13
  have r13 : x18 = .string vt := by simpa using q13
  refine ⟨⟨vk, vs, vd, vsi, vdi, vec, vea, vei, vh, vHc, vHa, vHi, vw, vb, vvi, vvs, vp, vq, vt⟩, ?_, ⟨b0, b1, b2, b3, b4, b5c, b5a, b5i, b6, b7c, b7a, b7i, b9, b10i, b10s, b11, b12⟩, xs.map (·.1), by rw [hxx], ?_⟩
  · rw [r0, r1, r2, r3, r4, r50, r51, r52, r6, r70, r71, r72, r8, r9, r100, r101, r11, r12, r13]
    rfl
  · rw [List.getElem?_map, k13, d13]
    rfl
end
section
variable {H : Type} {enc : TypeId × Value → H} {w : World} {v : Value} {d : DataW H} {p : List MemPlace}
theorem weights_each {ts : List TypeId} {ds : List (DataW H)} : ∀ (i : Nat) (t : TypeId) (x : DataW H), ts[i]? = some t → ds[i]? = some x → ∀ n ∈ x.weights Tryd.prog t, n ∈ DataW.weightsEach Tryd.prog ts ds := by
  induction ts generalizing ds with
  | nil => intro i t x h; simp at h
  | cons a r ih =>
    intro i t x h1 h2 n hn
    cases ds with
    | nil => simp at h2
    | cons y s =>
      simp only [DataW.weightsEach, List.mem_append]
      cases i with
      | zero =>
        simp at h1 h2
        subst h1 h2
        exact .inl hn
      | succ i =>
        simp at h1 h2
        exact .inr (ih i t x h1 h2 n hn)
theorem weights_field {T : TypeId} {fs : Array Field} {ds : List (DataW H)} (hT : Tryd.prog.underlying T = some (.struct fs)) (i : Nat) (t : TypeId) (x : DataW H) (h1 : (fs[i]?).map (·.type) = some t) (h2 : ds[i]? = some x) (n : Nat) (hn : n ∈ x.weights Tryd.prog t) :
    n ∈ (DataW.agg ds).weights Tryd.prog T := by
  simp only [DataW.weights, hT]
  exact weights_each i t x (by rw [List.getElem?_map, Array.getElem?_toList, h1]) h2 n hn
theorem agg_struct {T : TypeId} {fs : Array Field} (hT : Tryd.prog.underlying T = some (.struct fs)) (o : Value.okWide Tryd.prog w .any 0 T v) : ∃ cs, v = .agg cs := by
  simp only [Value.okWide, hT] at o
  obtain ⟨cs, h1, -⟩ := o
  exact ⟨cs, h1⟩
set_option maxRecDepth 100000 in
theorem frame_arg (N : Nat) (h : DataW.Trod enc Tryd.prog w 0 (fun _ => true) true 49 v d p) (o : Value.okWide Tryd.prog w .any 0 49 v) (hs : ∀ x ∈ d.weights Tryd.prog 49, x ≤ N) :
    ∃ f : Fr, v = .agg f.cells ∧ f.ok ∧ f.t.size ≤ N := by
  obtain ⟨cs, rfl⟩ := agg_struct Tryd.underlying49 o
  obtain ⟨m, hm⟩ := h
  obtain ⟨f, e, r, ds, e1, e2⟩ := frame_cells hm
  refine ⟨f, ?_, r, ?_⟩
  · have e' : cs.toList = _ := e
    rw [show cs = cs.toList.toArray from (Array.toArray_toList).symm, e']
  · have e3 : d = .agg ds := e1
    have h2 : f.t.data.toList.length = f.t.size := Array.length_toList
    rw [← h2]
    refine hs _ ?_
    rw [e3]
    exact weights_field Tryd.underlying49 13 9 _ rfl e2 _ (by rw [DataW.weights]; exact List.mem_singleton.2 rfl)
end
end Go.Proofs.YtmehafolnpkmhaaDoor
