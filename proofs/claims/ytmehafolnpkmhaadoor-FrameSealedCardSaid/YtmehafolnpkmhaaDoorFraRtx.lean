/- The reference's Text. -/
import Derived.Test.YtmehafolnpkmhaaDoorFraDig
import Derived.Test.YtmehafolnpkmhaaDoorFraRref
namespace Go.Proofs.YtmehafolnpkmhaaDoor
open Go.RowKit
/-- A frame's text: what all kinds have. -/
def headT (f : Fr) : ByteArray := (shapeF f.k).1 ++ (⟨#[32]⟩ : ByteArray) ++ dgB f.s ++ (⟨#[32, 62, 32]⟩ : ByteArray) ++ (if f.k = 4 then (⟨#[42]⟩ : ByteArray) else dgB f.d) ++ (⟨#[32]⟩ : ByteArray) ++ epT f.ec f.ea f.ei ++ (⟨#[47]⟩ : ByteArray) ++ dgB f.h
/-- A frame's text. -/
def textF (f : Fr) : ByteArray :=
  if f.k = 3 then headT f ++ (⟨#[32, 104, 105, 103, 104, 32]⟩ : ByteArray) ++ epT f.hc f.ha f.hi ++ (if f.w then (⟨#[32, 105, 110]⟩ : ByteArray) else (⟨#[32, 111, 117, 116]⟩ : ByteArray))
  else if f.k = 4 then headT f ++ (⟨#[32, 98, 108, 111, 99, 107, 32]⟩ : ByteArray) ++ dgB f.b ++ (⟨#[32]⟩ : ByteArray) ++ dgB f.vi ++ (⟨#[46]⟩ : ByteArray) ++ dgB f.vs ++ (⟨#[32]⟩ : ByteArray) ++ dgB (f.p + 1) ++ (⟨#[32, 111, 102, 32]⟩ : ByteArray) ++ dgB f.q
  else headT f
theorem epT_size {c a i : Int} (hc : c < 4294967296) (ha : a < 4294967296) (hi : i < 4294967296) : (epT c a i).size ≤ 32 := by
  have h1 := dgB_size hc
  have h2 := dgB_size ha
  have h3 := dgB_size hi
  have e : (⟨#[46]⟩ : ByteArray).size = 1 := rfl
  unfold epT
  simp only [ByteArray.size_append, e]
  omega
theorem repText_d (c a i : Int) (hc : 0 ≤ c ∧ c < 65536) (ha : 0 ≤ a ∧ a < 256) (hi : 0 ≤ i ∧ i < 65536) (d : ByteArray) (hd : d = epT c a i) (w : World) :
    Calls Tryd.prog 74 #[.agg #[.int .u16 c, .int .u8 a, .int .u16 i]] w fun e w' => e = .returned (.string d) ∧ Below w.heap.size w w' := by
  rw [hd]
  exact repText_any c a i hc ha hi w
theorem name_size (k : Int) : (shapeF k).1.size ≤ 6 := by
  unfold shapeF
  repeat' split
  all_goals decide
set_option maxRecDepth 100000 in
set_option maxHeartbeats 8000000 in
theorem rtext_any (C : Array Value) (f : Fr) (h : C = f.cells) (hok : f.ok) (w : World) :
    Calls Tryd.prog 45 #[.agg C] w fun e w' => e = .returned (.string (textF f)) ∧ Below w.heap.size w w' := by
  have hC := Fr.size h
  have HF := Lib.hid h
  have HO0 := Lib.hid (ObjAt.new w C 49)
  have HX0 := Lib.hid ((Below.refl w.heap.size w).alloc (Nat.le_refl _) (.cells C 49))
  have hk8 := hok.k
  have ok_s := hok.s
  have ok_d := hok.d
  have ok_ec := hok.ec
  have ok_ea := hok.ea
  have ok_ei := hok.ei
  have ok_h := hok.h
  have ok_hc := hok.hc
  have ok_ha := hok.ha
  have ok_hi := hok.hi
  have ok_b := hok.b
  have ok_vi := hok.vi
  have ok_vs := hok.vs
  have ok_p := hok.p
  have ok_q := hok.q
  clear h hok
  have w_s : IntKind.i64.wrap f.s = f.s := IntWalk.i64_in _ (by omega)
  have w_d : IntKind.i64.wrap f.d = f.d := IntWalk.i64_in _ (by omega)
  have w_h : IntKind.i64.wrap f.h = f.h := IntWalk.i64_in _ (by omega)
  have w_b : IntKind.i64.wrap f.b = f.b := IntWalk.i64_in _ (by omega)
  have w_vi : IntKind.i64.wrap f.vi = f.vi := IntWalk.i64_in _ (by omega)
  have w_vs : IntKind.i64.wrap f.vs = f.vs := IntWalk.i64_in _ (by omega)
  have w_p : IntKind.i64.wrap f.p = f.p := IntWalk.i64_in _ (by omega)
  have w_q : IntKind.i64.wrap f.q = f.q := IntWalk.i64_in _ (by omega)
  have w_p1 : IntKind.i64.wrap (f.p + 1) = f.p + 1 := IntWalk.i64_in _ (by omega)
  obtain ⟨n0, h_n0⟩ : ∃ d, d = (shapeF f.k).1 := ⟨_, rfl⟩
  have z_n0 : n0.size ≤ 6 := by rw [h_n0]; exact name_size _
  have H_n0 := Lib.hid h_n0
  clear h_n0
  obtain ⟨d1, h_d1⟩ : ∃ d, d = dgB f.s := ⟨_, rfl⟩
  have z_d1 : d1.size ≤ 10 := by rw [h_d1]; exact dgB_size (by omega)
  have H_d1 := Lib.hid h_d1
  clear h_d1
  obtain ⟨d2, h_d2⟩ : ∃ d, d = dgB f.d := ⟨_, rfl⟩
  have z_d2 : d2.size ≤ 10 := by rw [h_d2]; exact dgB_size (by omega)
  have H_d2 := Lib.hid h_d2
  clear h_d2
  obtain ⟨d8, h_d8⟩ : ∃ d, d = dgB f.h := ⟨_, rfl⟩
  have z_d8 : d8.size ≤ 10 := by rw [h_d8]; exact dgB_size (by omega)
  have H_d8 := Lib.hid h_d8
  clear h_d8
  obtain ⟨e5, h_e5⟩ : ∃ d, d = epT f.ec f.ea f.ei := ⟨_, rfl⟩
  have z_e5 : e5.size ≤ 32 := by rw [h_e5]; exact epT_size (by omega) (by omega) (by omega)
  have H_e5 := Lib.hid h_e5
  clear h_e5
  go_enter Tryd.func45, Tryd.ntmps45
  rcases (by omega : f.k = 3 ∨ f.k = 4 ∨ (f.k = 1 ∨ f.k = 2 ∨ f.k = 5) ∨ f.k < 1 ∨ 5 < f.k) with hk | hk | hk | hk | hk
  · have HOa := Lib.hid (HO0.out.alloc (.cells #[.string (⟨#[63]⟩ : ByteArray), .string (⟨#[116, 111, 107, 101, 110]⟩ : ByteArray), .string (⟨#[112, 111, 108, 108]⟩ : ByteArray), .string (⟨#[115, 116, 97, 116, 117, 115]⟩ : ByteArray), .string (⟨#[100, 97, 116, 97]⟩ : ByteArray), .string (⟨#[108, 101, 97, 118, 101]⟩ : ByteArray)] 9))
    have HXa := Lib.hid (HX0.out.alloc HX0.out.size (.cells #[.string (⟨#[63]⟩ : ByteArray), .string (⟨#[116, 111, 107, 101, 110]⟩ : ByteArray), .string (⟨#[112, 111, 108, 108]⟩ : ByteArray), .string (⟨#[115, 116, 97, 116, 117, 115]⟩ : ByteArray), .string (⟨#[100, 97, 116, 97]⟩ : ByteArray), .string (⟨#[108, 101, 97, 118, 101]⟩ : ByteArray)] 9))
    have x0 : (w.alloc (.cells C 49)).cell? ⟨w.heap.size, 0, none⟩ = some (.int .i64 3) := by rw [Fr.m0 HF.out HO0.out, hk]
    have y0 : ((w.alloc (.cells C 49)).alloc (.cells #[.string (⟨#[63]⟩ : ByteArray), .string (⟨#[116, 111, 107, 101, 110]⟩ : ByteArray), .string (⟨#[112, 111, 108, 108]⟩ : ByteArray), .string (⟨#[115, 116, 97, 116, 117, 115]⟩ : ByteArray), .string (⟨#[100, 97, 116, 97]⟩ : ByteArray), .string (⟨#[108, 101, 97, 118, 101]⟩ : ByteArray)] 9)).cell? ⟨w.heap.size, 0, none⟩ = some (.int .i64 3) := by rw [Fr.m0 HF.out HOa.out, hk]
    have y2 := Fr.m2 HF.out HOa.out
    go_wp2_with fail
    generalize ((w.alloc (.cells C 49)).alloc (.cells #[.string (⟨#[63]⟩ : ByteArray), .string (⟨#[116, 111, 107, 101, 110]⟩ : ByteArray), .string (⟨#[112, 111, 108, 108]⟩ : ByteArray), .string (⟨#[115, 116, 97, 116, 117, 115]⟩ : ByteArray), .string (⟨#[100, 97, 116, 97]⟩ : ByteArray), .string (⟨#[108, 101, 97, 118, 101]⟩ : ByteArray)] 9)) = wa at *
    clear x0 y0 y2 HO0 HX0
    generalize hgg : w.heap.size = g at *
    have HGG := Lib.hid hgg
    clear hgg
    refine (digits_int f.d (by omega) d2 H_d2.out _).mono ?_
    rintro e w1 ⟨rfl, hb1⟩
    have HX1 := Lib.hid (HXa.out.trans (hb1.mono (Nat.le_of_lt HOa.out.lt)))
    have HO1 := Lib.hid ((Keep.of_below (S := fun _ => False) hb1).obj HOa.out (fun h => h))
    clear hb1
    have x0 : w1.cell? ⟨g, 0, none⟩ = some (.int .i64 3) := by rw [Fr.m0 HF.out HO1.out, hk]
    go_wp2_with fail
    have hn0 : n0 = (⟨#[115, 116, 97, 116, 117, 115]⟩ : ByteArray) := by rw [H_n0.out, hk]; rfl
    rw [← hn0]
    clear hn0
    have r0 : ¬ (9223372036854775807 < n0.size + 1) := by omega
    have r1 : ¬ (9223372036854775807 < n0.size + 1 + d1.size) := by omega
    have r2 : ¬ (9223372036854775807 < n0.size + 1 + d1.size + 3) := by omega
    have r3 : ¬ (9223372036854775807 < n0.size + 1 + d1.size + 3 + d2.size) := by omega
    have r4 : ¬ (9223372036854775807 < n0.size + 1 + d1.size + 3 + d2.size + 1) := by omega
    have r5 : ¬ (9223372036854775807 < n0.size + 1 + d1.size + 3 + d2.size + 1 + e5.size) := by omega
    have r6 : ¬ (9223372036854775807 < n0.size + 1 + d1.size + 3 + d2.size + 1 + e5.size + 1) := by omega
    have r7 : ¬ (9223372036854775807 < n0.size + 1 + d1.size + 3 + d2.size + 1 + e5.size + 1 + d8.size) := by omega
    have HOb := Lib.hid (show ObjAt w1.drew g C 49 from HO1.out)
    have HXb := Lib.hid (show Below g w w1.drew from ⟨HX1.out.os, HX1.out.tape, HX1.out.output, HX1.out.size, HX1.out.block⟩)
    clear x0
    go_region_held3 (fun w' => w'.cell? ⟨g, 1, none⟩ = some (.int .u8 f.s) ∧ w'.cell? ⟨g, 5, none⟩ = some (.int .u16 f.ec) ∧ w'.cell? ⟨g, 6, none⟩ = some (.int .u8 f.ea) ∧ w'.cell? ⟨g, 7, none⟩ = some (.int .u16 f.ei) ∧ w'.cell? ⟨g, 8, none⟩ = some (.int .u16 f.h))
      (first | exact ⟨Fr.m1 HF.out HOb.out, Fr.m5 HF.out HOb.out, Fr.m6 HF.out HOb.out, Fr.m7 HF.out HOb.out, Fr.m8 HF.out HOb.out⟩ | exact ⟨Fr.m1 HF.out HOm1.out, Fr.m5 HF.out HOm1.out, Fr.m6 HF.out HOm1.out, Fr.m7 HF.out HOm1.out, Fr.m8 HF.out HOm1.out⟩ | exact ⟨Fr.m1 HF.out HOm2.out, Fr.m5 HF.out HOm2.out, Fr.m6 HF.out HOm2.out, Fr.m7 HF.out HOm2.out, Fr.m8 HF.out HOm2.out⟩ | exact ⟨Fr.m1 HF.out HOm3.out, Fr.m5 HF.out HOm3.out, Fr.m6 HF.out HOm3.out, Fr.m7 HF.out HOm3.out, Fr.m8 HF.out HOm3.out⟩)
      (first
        | (go_at_call 61; (with_reducible refine (digits_int f.s (by omega) d1 H_d1.out _).mono ?_); rintro e wm1 ⟨rfl, hbm1⟩; have HXm1 := Lib.hid (HXb.out.trans (hbm1.mono (Nat.le_of_lt HOb.out.lt))); have HOm1 := Lib.hid ((Keep.of_below (S := fun _ => False) hbm1).obj HOb.out (fun h => h)))
        | (go_at_call 74; (with_reducible refine (repText_d f.ec f.ea f.ei ok_ec ok_ea ok_ei e5 H_e5.out _).mono ?_); rintro e wm2 ⟨rfl, hbm2⟩; have HXm2 := Lib.hid (HXm1.out.trans (hbm2.mono (Nat.le_of_lt HOm1.out.lt))); have HOm2 := Lib.hid ((Keep.of_below (S := fun _ => False) hbm2).obj HOm1.out (fun h => h)))
        | (go_at_call 61; (with_reducible refine (digits_int f.h (by omega) d8 H_d8.out _).mono ?_); rintro e wm3 ⟨rfl, hbm3⟩; have HXm3 := Lib.hid (HXm2.out.trans (hbm3.mono (Nat.le_of_lt HOm2.out.lt))); have HOm3 := Lib.hid ((Keep.of_below (S := fun _ => False) hbm3).obj HOm2.out (fun h => h))))
    clear r0 r1 r2 r3 r4 r5 r6 r7
    obtain ⟨s6, h_s6⟩ : ∃ d, d = n0 ++ (⟨#[32]⟩ : ByteArray) ++ d1 ++ (⟨#[32, 62, 32]⟩ : ByteArray) ++ d2 ++ (⟨#[32]⟩ : ByteArray) ++ e5 ++ (⟨#[47]⟩ : ByteArray) ++ d8 := ⟨_, rfl⟩
    rw [← h_s6]
    have z_s6 : s6.size ≤ 80 := by
      rw [h_s6]
      have e1 : (⟨#[32]⟩ : ByteArray).size = 1 := rfl
      have e2 : (⟨#[32, 62, 32]⟩ : ByteArray).size = 3 := rfl
      have e3 : (⟨#[47]⟩ : ByteArray).size = 1 := rfl
      simp only [ByteArray.size_append, e1, e2, e3]
      omega
    have HS6 : s6 = headT f := by
      rw [h_s6]
      unfold headT
      rw [if_neg (by omega), H_n0.out, H_d1.out, H_d2.out, H_e5.out, H_d8.out]
    have H_s6 := Lib.hid HS6
    clear h_s6 HS6
    have x0 : wm3.cell? ⟨g, 0, none⟩ = some (.int .i64 3) := by rw [Fr.m0 HF.out HOm3.out, hk]
    obtain ⟨e9, h_e9⟩ : ∃ d, d = epT f.hc f.ha f.hi := ⟨_, rfl⟩
    have z_e9 : e9.size ≤ 32 := by rw [h_e9]; exact epT_size (by omega) (by omega) (by omega)
    have H_e9 := Lib.hid h_e9
    clear h_e9
    have r0 : ¬ (9223372036854775807 < s6.size + 6) := by omega
    have r1 : ¬ (9223372036854775807 < s6.size + 6 + e9.size) := by omega
    have r2 : ¬ (9223372036854775807 < s6.size + 6 + e9.size + 3) := by omega
    have r3 : ¬ (9223372036854775807 < s6.size + 6 + e9.size + 4) := by omega
    have x9 := Fr.m9 HF.out HOm3.out
    have x10 := Fr.m10 HF.out HOm3.out
    have x11 := Fr.m11 HF.out HOm3.out
    go_wp2_with fail
    refine (repText_d f.hc f.ha f.hi ok_hc ok_ha ok_hi e9 H_e9.out _).mono ?_
    rintro e wn ⟨rfl, hbn⟩
    have HXn := Lib.hid (HXm3.out.trans (hbn.mono (Nat.le_of_lt HOm3.out.lt)))
    have HOn := Lib.hid ((Keep.of_below (S := fun _ => False) hbn).obj HOm3.out (fun h => h))
    clear hbn
    clear x0 x9 x10 x11
    have x0 : wn.cell? ⟨g, 0, none⟩ = some (.int .i64 3) := by rw [Fr.m0 HF.out HOn.out, hk]
    obtain ⟨wb, h_wb⟩ : ∃ b, b = f.w := ⟨_, rfl⟩
    have x12 : wn.cell? ⟨g, 12, none⟩ = some (.bool wb) := by rw [Fr.m12 HF.out HOn.out, h_wb]
    have H_wb := Lib.hid h_wb
    clear h_wb
    cases wb
    · go_wp2
      go_ret
      refine ⟨?_, by rw [HGG.out]; exact HXn.out⟩
      unfold textF
      rw [if_pos hk, ← H_s6.out, ← H_e9.out, ← H_wb.out]
      rfl
    · go_wp2
      go_ret
      refine ⟨?_, by rw [HGG.out]; exact HXn.out⟩
      unfold textF
      rw [if_pos hk, ← H_s6.out, ← H_e9.out, ← H_wb.out]
      rfl
  · have HOa := Lib.hid (HO0.out.alloc (.cells #[.string (⟨#[63]⟩ : ByteArray), .string (⟨#[116, 111, 107, 101, 110]⟩ : ByteArray), .string (⟨#[112, 111, 108, 108]⟩ : ByteArray), .string (⟨#[115, 116, 97, 116, 117, 115]⟩ : ByteArray), .string (⟨#[100, 97, 116, 97]⟩ : ByteArray), .string (⟨#[108, 101, 97, 118, 101]⟩ : ByteArray)] 9))
    have HXa := Lib.hid (HX0.out.alloc HX0.out.size (.cells #[.string (⟨#[63]⟩ : ByteArray), .string (⟨#[116, 111, 107, 101, 110]⟩ : ByteArray), .string (⟨#[112, 111, 108, 108]⟩ : ByteArray), .string (⟨#[115, 116, 97, 116, 117, 115]⟩ : ByteArray), .string (⟨#[100, 97, 116, 97]⟩ : ByteArray), .string (⟨#[108, 101, 97, 118, 101]⟩ : ByteArray)] 9))
    have x0 : (w.alloc (.cells C 49)).cell? ⟨w.heap.size, 0, none⟩ = some (.int .i64 4) := by rw [Fr.m0 HF.out HO0.out, hk]
    have y0 : ((w.alloc (.cells C 49)).alloc (.cells #[.string (⟨#[63]⟩ : ByteArray), .string (⟨#[116, 111, 107, 101, 110]⟩ : ByteArray), .string (⟨#[112, 111, 108, 108]⟩ : ByteArray), .string (⟨#[115, 116, 97, 116, 117, 115]⟩ : ByteArray), .string (⟨#[100, 97, 116, 97]⟩ : ByteArray), .string (⟨#[108, 101, 97, 118, 101]⟩ : ByteArray)] 9)).cell? ⟨w.heap.size, 0, none⟩ = some (.int .i64 4) := by rw [Fr.m0 HF.out HOa.out, hk]
    have y2 := Fr.m2 HF.out HOa.out
    go_wp2_with fail
    generalize ((w.alloc (.cells C 49)).alloc (.cells #[.string (⟨#[63]⟩ : ByteArray), .string (⟨#[116, 111, 107, 101, 110]⟩ : ByteArray), .string (⟨#[112, 111, 108, 108]⟩ : ByteArray), .string (⟨#[115, 116, 97, 116, 117, 115]⟩ : ByteArray), .string (⟨#[100, 97, 116, 97]⟩ : ByteArray), .string (⟨#[108, 101, 97, 118, 101]⟩ : ByteArray)] 9)) = wa at *
    clear x0 y0 y2 HO0 HX0
    generalize hgg : w.heap.size = g at *
    have HGG := Lib.hid hgg
    clear hgg
    refine (digits_int f.d (by omega) d2 H_d2.out _).mono ?_
    rintro e w1 ⟨rfl, hb1⟩
    have HX1 := Lib.hid (HXa.out.trans (hb1.mono (Nat.le_of_lt HOa.out.lt)))
    have HO1 := Lib.hid ((Keep.of_below (S := fun _ => False) hb1).obj HOa.out (fun h => h))
    clear hb1
    have x0 : w1.cell? ⟨g, 0, none⟩ = some (.int .i64 4) := by rw [Fr.m0 HF.out HO1.out, hk]
    go_wp2_with fail
    have hn0 : n0 = (⟨#[100, 97, 116, 97]⟩ : ByteArray) := by rw [H_n0.out, hk]; rfl
    rw [← hn0]
    clear hn0
    obtain ⟨ds, h_ds⟩ : ∃ d, d = (⟨#[42]⟩ : ByteArray) := ⟨_, rfl⟩
    have z_ds : ds.size ≤ 1 := by rw [h_ds]; decide
    rw [← h_ds]
    have H_ds := Lib.hid h_ds
    clear h_ds
    have r0 : ¬ (9223372036854775807 < n0.size + 1) := by omega
    have r1 : ¬ (9223372036854775807 < n0.size + 1 + d1.size) := by omega
    have r2 : ¬ (9223372036854775807 < n0.size + 1 + d1.size + 3) := by omega
    have r3 : ¬ (9223372036854775807 < n0.size + 1 + d1.size + 3 + ds.size) := by omega
    have r4 : ¬ (9223372036854775807 < n0.size + 1 + d1.size + 3 + ds.size + 1) := by omega
    have r5 : ¬ (9223372036854775807 < n0.size + 1 + d1.size + 3 + ds.size + 1 + e5.size) := by omega
    have r6 : ¬ (9223372036854775807 < n0.size + 1 + d1.size + 3 + ds.size + 1 + e5.size + 1) := by omega
    have r7 : ¬ (9223372036854775807 < n0.size + 1 + d1.size + 3 + ds.size + 1 + e5.size + 1 + d8.size) := by omega
    have HOb := Lib.hid (show ObjAt w1.drew g C 49 from HO1.out)
    have HXb := Lib.hid (show Below g w w1.drew from ⟨HX1.out.os, HX1.out.tape, HX1.out.output, HX1.out.size, HX1.out.block⟩)
    clear x0
    go_region_held3 (fun w' => w'.cell? ⟨g, 1, none⟩ = some (.int .u8 f.s) ∧ w'.cell? ⟨g, 5, none⟩ = some (.int .u16 f.ec) ∧ w'.cell? ⟨g, 6, none⟩ = some (.int .u8 f.ea) ∧ w'.cell? ⟨g, 7, none⟩ = some (.int .u16 f.ei) ∧ w'.cell? ⟨g, 8, none⟩ = some (.int .u16 f.h))
      (first | exact ⟨Fr.m1 HF.out HOb.out, Fr.m5 HF.out HOb.out, Fr.m6 HF.out HOb.out, Fr.m7 HF.out HOb.out, Fr.m8 HF.out HOb.out⟩ | exact ⟨Fr.m1 HF.out HOm1.out, Fr.m5 HF.out HOm1.out, Fr.m6 HF.out HOm1.out, Fr.m7 HF.out HOm1.out, Fr.m8 HF.out HOm1.out⟩ | exact ⟨Fr.m1 HF.out HOm2.out, Fr.m5 HF.out HOm2.out, Fr.m6 HF.out HOm2.out, Fr.m7 HF.out HOm2.out, Fr.m8 HF.out HOm2.out⟩ | exact ⟨Fr.m1 HF.out HOm3.out, Fr.m5 HF.out HOm3.out, Fr.m6 HF.out HOm3.out, Fr.m7 HF.out HOm3.out, Fr.m8 HF.out HOm3.out⟩)
      (first
        | (go_at_call 61; (with_reducible refine (digits_int f.s (by omega) d1 H_d1.out _).mono ?_); rintro e wm1 ⟨rfl, hbm1⟩; have HXm1 := Lib.hid (HXb.out.trans (hbm1.mono (Nat.le_of_lt HOb.out.lt))); have HOm1 := Lib.hid ((Keep.of_below (S := fun _ => False) hbm1).obj HOb.out (fun h => h)))
        | (go_at_call 74; (with_reducible refine (repText_d f.ec f.ea f.ei ok_ec ok_ea ok_ei e5 H_e5.out _).mono ?_); rintro e wm2 ⟨rfl, hbm2⟩; have HXm2 := Lib.hid (HXm1.out.trans (hbm2.mono (Nat.le_of_lt HOm1.out.lt))); have HOm2 := Lib.hid ((Keep.of_below (S := fun _ => False) hbm2).obj HOm1.out (fun h => h)))
        | (go_at_call 61; (with_reducible refine (digits_int f.h (by omega) d8 H_d8.out _).mono ?_); rintro e wm3 ⟨rfl, hbm3⟩; have HXm3 := Lib.hid (HXm2.out.trans (hbm3.mono (Nat.le_of_lt HOm2.out.lt))); have HOm3 := Lib.hid ((Keep.of_below (S := fun _ => False) hbm3).obj HOm2.out (fun h => h))))
    clear r0 r1 r2 r3 r4 r5 r6 r7
    obtain ⟨s6, h_s6⟩ : ∃ d, d = n0 ++ (⟨#[32]⟩ : ByteArray) ++ d1 ++ (⟨#[32, 62, 32]⟩ : ByteArray) ++ ds ++ (⟨#[32]⟩ : ByteArray) ++ e5 ++ (⟨#[47]⟩ : ByteArray) ++ d8 := ⟨_, rfl⟩
    rw [← h_s6]
    have z_s6 : s6.size ≤ 80 := by
      rw [h_s6]
      have e1 : (⟨#[32]⟩ : ByteArray).size = 1 := rfl
      have e2 : (⟨#[32, 62, 32]⟩ : ByteArray).size = 3 := rfl
      have e3 : (⟨#[47]⟩ : ByteArray).size = 1 := rfl
      simp only [ByteArray.size_append, e1, e2, e3]
      omega
    have HS6 : s6 = headT f := by
      rw [h_s6]
      unfold headT
      rw [if_pos hk, H_n0.out, H_d1.out, H_ds.out, H_e5.out, H_d8.out]
    have H_s6 := Lib.hid HS6
    clear h_s6 HS6
    have x0 : wm3.cell? ⟨g, 0, none⟩ = some (.int .i64 4) := by rw [Fr.m0 HF.out HOm3.out, hk]
    obtain ⟨d_b, h_d_b⟩ : ∃ d, d = dgB f.b := ⟨_, rfl⟩
    have z_d_b : d_b.size ≤ 10 := by rw [h_d_b]; exact dgB_size (by omega)
    have H_d_b := Lib.hid h_d_b
    clear h_d_b
    obtain ⟨d_vi, h_d_vi⟩ : ∃ d, d = dgB f.vi := ⟨_, rfl⟩
    have z_d_vi : d_vi.size ≤ 10 := by rw [h_d_vi]; exact dgB_size (by omega)
    have H_d_vi := Lib.hid h_d_vi
    clear h_d_vi
    obtain ⟨d_vs, h_d_vs⟩ : ∃ d, d = dgB f.vs := ⟨_, rfl⟩
    have z_d_vs : d_vs.size ≤ 10 := by rw [h_d_vs]; exact dgB_size (by omega)
    have H_d_vs := Lib.hid h_d_vs
    clear h_d_vs
    obtain ⟨d_q, h_d_q⟩ : ∃ d, d = dgB f.q := ⟨_, rfl⟩
    have z_d_q : d_q.size ≤ 10 := by rw [h_d_q]; exact dgB_size (by omega)
    have H_d_q := Lib.hid h_d_q
    clear h_d_q
    obtain ⟨d_p, h_d_p⟩ : ∃ d, d = dgB (f.p + 1) := ⟨_, rfl⟩
    have z_d_p : d_p.size ≤ 10 := by rw [h_d_p]; exact dgB_size (by omega)
    have H_d_p := Lib.hid h_d_p
    clear h_d_p
    go_wp2_with fail
    clear x0
    have r0 : ¬ (9223372036854775807 < s6.size + 7) := by omega
    have r1 : ¬ (9223372036854775807 < s6.size + 7 + d_b.size) := by omega
    have r2 : ¬ (9223372036854775807 < s6.size + 7 + d_b.size + 1) := by omega
    have r3 : ¬ (9223372036854775807 < s6.size + 7 + d_b.size + 1 + d_vi.size) := by omega
    have r4 : ¬ (9223372036854775807 < s6.size + 7 + d_b.size + 1 + d_vi.size + 1) := by omega
    have r5 : ¬ (9223372036854775807 < s6.size + 7 + d_b.size + 1 + d_vi.size + 1 + d_vs.size) := by omega
    have r6 : ¬ (9223372036854775807 < s6.size + 7 + d_b.size + 1 + d_vi.size + 1 + d_vs.size + 1) := by omega
    have r7 : ¬ (9223372036854775807 < s6.size + 7 + d_b.size + 1 + d_vi.size + 1 + d_vs.size + 1 + d_p.size) := by omega
    have r8 : ¬ (9223372036854775807 < s6.size + 7 + d_b.size + 1 + d_vi.size + 1 + d_vs.size + 1 + d_p.size + 4) := by omega
    have r9 : ¬ (9223372036854775807 < s6.size + 7 + d_b.size + 1 + d_vi.size + 1 + d_vs.size + 1 + d_p.size + 4 + d_q.size) := by omega
    have HOo := Lib.hid (show ObjAt wm3.drew g C 49 from HOm3.out)
    have HXo := Lib.hid (show Below g w wm3.drew from ⟨HXm3.out.os, HXm3.out.tape, HXm3.out.output, HXm3.out.size, HXm3.out.block⟩)
    go_region_held3 (fun w' => w'.cell? ⟨g, 13, none⟩ = some (.int .u8 f.b) ∧ w'.cell? ⟨g, 14, none⟩ = some (.int .u16 f.vi) ∧ w'.cell? ⟨g, 15, none⟩ = some (.int .u32 f.vs) ∧ w'.cell? ⟨g, 16, none⟩ = some (.int .u8 f.p) ∧ w'.cell? ⟨g, 17, none⟩ = some (.int .u8 f.q))
      (first | exact ⟨Fr.m13 HF.out HOo.out, Fr.m14 HF.out HOo.out, Fr.m15 HF.out HOo.out, Fr.m16 HF.out HOo.out, Fr.m17 HF.out HOo.out⟩ | exact ⟨Fr.m13 HF.out HOp1.out, Fr.m14 HF.out HOp1.out, Fr.m15 HF.out HOp1.out, Fr.m16 HF.out HOp1.out, Fr.m17 HF.out HOp1.out⟩ | exact ⟨Fr.m13 HF.out HOp2.out, Fr.m14 HF.out HOp2.out, Fr.m15 HF.out HOp2.out, Fr.m16 HF.out HOp2.out, Fr.m17 HF.out HOp2.out⟩ | exact ⟨Fr.m13 HF.out HOp3.out, Fr.m14 HF.out HOp3.out, Fr.m15 HF.out HOp3.out, Fr.m16 HF.out HOp3.out, Fr.m17 HF.out HOp3.out⟩ | exact ⟨Fr.m13 HF.out HOp4.out, Fr.m14 HF.out HOp4.out, Fr.m15 HF.out HOp4.out, Fr.m16 HF.out HOp4.out, Fr.m17 HF.out HOp4.out⟩ | exact ⟨Fr.m13 HF.out HOp5.out, Fr.m14 HF.out HOp5.out, Fr.m15 HF.out HOp5.out, Fr.m16 HF.out HOp5.out, Fr.m17 HF.out HOp5.out⟩)
      (first
        | (go_at_call 61; (with_reducible refine (digits_int f.b (by omega) d_b H_d_b.out _).mono ?_); rintro e wp1 ⟨rfl, hbp1⟩; have HXp1 := Lib.hid (HXo.out.trans (hbp1.mono (Nat.le_of_lt HOo.out.lt))); have HOp1 := Lib.hid ((Keep.of_below (S := fun _ => False) hbp1).obj HOo.out (fun h => h)))
        | (go_at_call 61; (with_reducible refine (digits_int f.vi (by omega) d_vi H_d_vi.out _).mono ?_); rintro e wp2 ⟨rfl, hbp2⟩; have HXp2 := Lib.hid (HXp1.out.trans (hbp2.mono (Nat.le_of_lt HOp1.out.lt))); have HOp2 := Lib.hid ((Keep.of_below (S := fun _ => False) hbp2).obj HOp1.out (fun h => h)))
        | (go_at_call 61; (with_reducible refine (digits_int f.vs (by omega) d_vs H_d_vs.out _).mono ?_); rintro e wp3 ⟨rfl, hbp3⟩; have HXp3 := Lib.hid (HXp2.out.trans (hbp3.mono (Nat.le_of_lt HOp2.out.lt))); have HOp3 := Lib.hid ((Keep.of_below (S := fun _ => False) hbp3).obj HOp2.out (fun h => h)))
        | (go_at_call 61; (with_reducible refine (digits_int (f.p + 1) (by omega) d_p H_d_p.out _).mono ?_); rintro e wp4 ⟨rfl, hbp4⟩; have HXp4 := Lib.hid (HXp3.out.trans (hbp4.mono (Nat.le_of_lt HOp3.out.lt))); have HOp4 := Lib.hid ((Keep.of_below (S := fun _ => False) hbp4).obj HOp3.out (fun h => h)))
        | (go_at_call 61; (with_reducible refine (digits_int f.q (by omega) d_q H_d_q.out _).mono ?_); rintro e wp5 ⟨rfl, hbp5⟩; have HXp5 := Lib.hid (HXp4.out.trans (hbp5.mono (Nat.le_of_lt HOp4.out.lt))); have HOp5 := Lib.hid ((Keep.of_below (S := fun _ => False) hbp5).obj HOp4.out (fun h => h))))
    clear r0 r1 r2 r3 r4 r5 r6 r7 r8 r9
    go_wp2
    go_ret
    refine ⟨?_, by rw [HGG.out]; exact HXp5.out⟩
    unfold textF
    rw [if_neg (by omega), if_pos hk, ← H_s6.out, ← H_d_b.out, ← H_d_vi.out, ← H_d_vs.out, ← H_d_p.out, ← H_d_q.out]
    rfl
  · obtain ⟨n, hn⟩ : ∃ n : Nat, f.k = (n : Int) := ⟨f.k.toNat, by omega⟩
    have n_lo : 1 ≤ (n : Int) := by omega
    have n_hi : (n : Int) ≤ 5 := by omega
    have n_3 : ((n : Int) == 3) = false := by simp; omega
    have n_4 : ((n : Int) == 4) = false := by simp; omega
    have HN3 := Lib.hid (show ¬ f.k = 3 by omega)
    have HN4 := Lib.hid (show ¬ f.k = 4 by omega)
    have HOa := Lib.hid (HO0.out.alloc (.cells #[.string (⟨#[63]⟩ : ByteArray), .string (⟨#[116, 111, 107, 101, 110]⟩ : ByteArray), .string (⟨#[112, 111, 108, 108]⟩ : ByteArray), .string (⟨#[115, 116, 97, 116, 117, 115]⟩ : ByteArray), .string (⟨#[100, 97, 116, 97]⟩ : ByteArray), .string (⟨#[108, 101, 97, 118, 101]⟩ : ByteArray)] 9))
    have HXa := Lib.hid (HX0.out.alloc HX0.out.size (.cells #[.string (⟨#[63]⟩ : ByteArray), .string (⟨#[116, 111, 107, 101, 110]⟩ : ByteArray), .string (⟨#[112, 111, 108, 108]⟩ : ByteArray), .string (⟨#[115, 116, 97, 116, 117, 115]⟩ : ByteArray), .string (⟨#[100, 97, 116, 97]⟩ : ByteArray), .string (⟨#[108, 101, 97, 118, 101]⟩ : ByteArray)] 9))
    have x0 : (w.alloc (.cells C 49)).cell? ⟨w.heap.size, 0, none⟩ = some (.int .i64 (n : Int)) := by rw [Fr.m0 HF.out HO0.out, hn]
    have y0 : ((w.alloc (.cells C 49)).alloc (.cells #[.string (⟨#[63]⟩ : ByteArray), .string (⟨#[116, 111, 107, 101, 110]⟩ : ByteArray), .string (⟨#[112, 111, 108, 108]⟩ : ByteArray), .string (⟨#[115, 116, 97, 116, 117, 115]⟩ : ByteArray), .string (⟨#[100, 97, 116, 97]⟩ : ByteArray), .string (⟨#[108, 101, 97, 118, 101]⟩ : ByteArray)] 9)).cell? ⟨w.heap.size, 0, none⟩ = some (.int .i64 (n : Int)) := by rw [Fr.m0 HF.out HOa.out, hn]
    have y2 := Fr.m2 HF.out HOa.out
    have y9 : ((w.alloc (.cells C 49)).alloc (.cells #[.string (⟨#[63]⟩ : ByteArray), .string (⟨#[116, 111, 107, 101, 110]⟩ : ByteArray), .string (⟨#[112, 111, 108, 108]⟩ : ByteArray), .string (⟨#[115, 116, 97, 116, 117, 115]⟩ : ByteArray), .string (⟨#[100, 97, 116, 97]⟩ : ByteArray), .string (⟨#[108, 101, 97, 118, 101]⟩ : ByteArray)] 9)).cell? ⟨w.heap.size + 1, n, none⟩ = some (.string n0) := by
      have h9 := (ObjAt.new (w.alloc (.cells C 49)) #[.string (⟨#[63]⟩ : ByteArray), .string (⟨#[116, 111, 107, 101, 110]⟩ : ByteArray), .string (⟨#[112, 111, 108, 108]⟩ : ByteArray), .string (⟨#[115, 116, 97, 116, 117, 115]⟩ : ByteArray), .string (⟨#[100, 97, 116, 97]⟩ : ByteArray), .string (⟨#[108, 101, 97, 118, 101]⟩ : ByteArray)] 9).cell n
      rw [World.size_alloc] at h9
      rw [h9, H_n0.out, hn]
      rcases (by omega : n = 1 ∨ n = 2 ∨ n = 5) with e | e | e <;> (subst e; rfl)
    have HK := Lib.hid hk
    clear hk
    have HN := Lib.hid hn
    clear hn
    go_wp2_with fail
    generalize ((w.alloc (.cells C 49)).alloc (.cells #[.string (⟨#[63]⟩ : ByteArray), .string (⟨#[116, 111, 107, 101, 110]⟩ : ByteArray), .string (⟨#[112, 111, 108, 108]⟩ : ByteArray), .string (⟨#[115, 116, 97, 116, 117, 115]⟩ : ByteArray), .string (⟨#[100, 97, 116, 97]⟩ : ByteArray), .string (⟨#[108, 101, 97, 118, 101]⟩ : ByteArray)] 9)) = wa at *
    clear x0 y0 y2 HO0 HX0
    clear y9
    generalize hgg : w.heap.size = g at *
    have HGG := Lib.hid hgg
    clear hgg
    refine (digits_int f.d (by omega) d2 H_d2.out _).mono ?_
    rintro e w1 ⟨rfl, hb1⟩
    have HX1 := Lib.hid (HXa.out.trans (hb1.mono (Nat.le_of_lt HOa.out.lt)))
    have HO1 := Lib.hid ((Keep.of_below (S := fun _ => False) hb1).obj HOa.out (fun h => h))
    clear hb1
    have x0 : w1.cell? ⟨g, 0, none⟩ = some (.int .i64 (n : Int)) := by rw [Fr.m0 HF.out HO1.out, HN.out]
    go_wp2_with fail
    have r0 : ¬ (9223372036854775807 < n0.size + 1) := by omega
    have r1 : ¬ (9223372036854775807 < n0.size + 1 + d1.size) := by omega
    have r2 : ¬ (9223372036854775807 < n0.size + 1 + d1.size + 3) := by omega
    have r3 : ¬ (9223372036854775807 < n0.size + 1 + d1.size + 3 + d2.size) := by omega
    have r4 : ¬ (9223372036854775807 < n0.size + 1 + d1.size + 3 + d2.size + 1) := by omega
    have r5 : ¬ (9223372036854775807 < n0.size + 1 + d1.size + 3 + d2.size + 1 + e5.size) := by omega
    have r6 : ¬ (9223372036854775807 < n0.size + 1 + d1.size + 3 + d2.size + 1 + e5.size + 1) := by omega
    have r7 : ¬ (9223372036854775807 < n0.size + 1 + d1.size + 3 + d2.size + 1 + e5.size + 1 + d8.size) := by omega
    have HOb := Lib.hid (show ObjAt w1.drew g C 49 from HO1.out)
    have HXb := Lib.hid (show Below g w w1.drew from ⟨HX1.out.os, HX1.out.tape, HX1.out.output, HX1.out.size, HX1.out.block⟩)
    clear x0
    go_region_held3 (fun w' => w'.cell? ⟨g, 1, none⟩ = some (.int .u8 f.s) ∧ w'.cell? ⟨g, 5, none⟩ = some (.int .u16 f.ec) ∧ w'.cell? ⟨g, 6, none⟩ = some (.int .u8 f.ea) ∧ w'.cell? ⟨g, 7, none⟩ = some (.int .u16 f.ei) ∧ w'.cell? ⟨g, 8, none⟩ = some (.int .u16 f.h))
      (first | exact ⟨Fr.m1 HF.out HOb.out, Fr.m5 HF.out HOb.out, Fr.m6 HF.out HOb.out, Fr.m7 HF.out HOb.out, Fr.m8 HF.out HOb.out⟩ | exact ⟨Fr.m1 HF.out HOm1.out, Fr.m5 HF.out HOm1.out, Fr.m6 HF.out HOm1.out, Fr.m7 HF.out HOm1.out, Fr.m8 HF.out HOm1.out⟩ | exact ⟨Fr.m1 HF.out HOm2.out, Fr.m5 HF.out HOm2.out, Fr.m6 HF.out HOm2.out, Fr.m7 HF.out HOm2.out, Fr.m8 HF.out HOm2.out⟩ | exact ⟨Fr.m1 HF.out HOm3.out, Fr.m5 HF.out HOm3.out, Fr.m6 HF.out HOm3.out, Fr.m7 HF.out HOm3.out, Fr.m8 HF.out HOm3.out⟩)
      (first
        | (go_at_call 61; (with_reducible refine (digits_int f.s (by omega) d1 H_d1.out _).mono ?_); rintro e wm1 ⟨rfl, hbm1⟩; have HXm1 := Lib.hid (HXb.out.trans (hbm1.mono (Nat.le_of_lt HOb.out.lt))); have HOm1 := Lib.hid ((Keep.of_below (S := fun _ => False) hbm1).obj HOb.out (fun h => h)))
        | (go_at_call 74; (with_reducible refine (repText_d f.ec f.ea f.ei ok_ec ok_ea ok_ei e5 H_e5.out _).mono ?_); rintro e wm2 ⟨rfl, hbm2⟩; have HXm2 := Lib.hid (HXm1.out.trans (hbm2.mono (Nat.le_of_lt HOm1.out.lt))); have HOm2 := Lib.hid ((Keep.of_below (S := fun _ => False) hbm2).obj HOm1.out (fun h => h)))
        | (go_at_call 61; (with_reducible refine (digits_int f.h (by omega) d8 H_d8.out _).mono ?_); rintro e wm3 ⟨rfl, hbm3⟩; have HXm3 := Lib.hid (HXm2.out.trans (hbm3.mono (Nat.le_of_lt HOm2.out.lt))); have HOm3 := Lib.hid ((Keep.of_below (S := fun _ => False) hbm3).obj HOm2.out (fun h => h))))
    clear r0 r1 r2 r3 r4 r5 r6 r7
    obtain ⟨s6, h_s6⟩ : ∃ d, d = n0 ++ (⟨#[32]⟩ : ByteArray) ++ d1 ++ (⟨#[32, 62, 32]⟩ : ByteArray) ++ d2 ++ (⟨#[32]⟩ : ByteArray) ++ e5 ++ (⟨#[47]⟩ : ByteArray) ++ d8 := ⟨_, rfl⟩
    rw [← h_s6]
    have z_s6 : s6.size ≤ 80 := by
      rw [h_s6]
      have e1 : (⟨#[32]⟩ : ByteArray).size = 1 := rfl
      have e2 : (⟨#[32, 62, 32]⟩ : ByteArray).size = 3 := rfl
      have e3 : (⟨#[47]⟩ : ByteArray).size = 1 := rfl
      simp only [ByteArray.size_append, e1, e2, e3]
      omega
    have HS6 : s6 = headT f := by
      rw [h_s6]
      unfold headT
      rw [if_neg HN4.out, H_n0.out, H_d1.out, H_d2.out, H_e5.out, H_d8.out]
    have H_s6 := Lib.hid HS6
    clear h_s6 HS6
    have x0 : wm3.cell? ⟨g, 0, none⟩ = some (.int .i64 (n : Int)) := by rw [Fr.m0 HF.out HOm3.out, HN.out]
    go_wp2
    go_ret
    refine ⟨?_, by rw [HGG.out]; exact HXm3.out⟩
    unfold textF
    rw [if_neg HN3.out, if_neg HN4.out, ← H_s6.out]
    rfl
  · have n_3 : (f.k == 3) = false := by simp; omega
    have n_4 : (f.k == 4) = false := by simp; omega
    have HN3 := Lib.hid (show ¬ f.k = 3 by omega)
    have HN4 := Lib.hid (show ¬ f.k = 4 by omega)
    have HOa := Lib.hid (HO0.out.alloc (.cells #[.string (⟨#[63]⟩ : ByteArray), .string (⟨#[116, 111, 107, 101, 110]⟩ : ByteArray), .string (⟨#[112, 111, 108, 108]⟩ : ByteArray), .string (⟨#[115, 116, 97, 116, 117, 115]⟩ : ByteArray), .string (⟨#[100, 97, 116, 97]⟩ : ByteArray), .string (⟨#[108, 101, 97, 118, 101]⟩ : ByteArray)] 9))
    have HXa := Lib.hid (HX0.out.alloc HX0.out.size (.cells #[.string (⟨#[63]⟩ : ByteArray), .string (⟨#[116, 111, 107, 101, 110]⟩ : ByteArray), .string (⟨#[112, 111, 108, 108]⟩ : ByteArray), .string (⟨#[115, 116, 97, 116, 117, 115]⟩ : ByteArray), .string (⟨#[100, 97, 116, 97]⟩ : ByteArray), .string (⟨#[108, 101, 97, 118, 101]⟩ : ByteArray)] 9))
    have x0 : (w.alloc (.cells C 49)).cell? ⟨w.heap.size, 0, none⟩ = some (.int .i64 f.k) := by rw [Fr.m0 HF.out HO0.out]
    have y0 : ((w.alloc (.cells C 49)).alloc (.cells #[.string (⟨#[63]⟩ : ByteArray), .string (⟨#[116, 111, 107, 101, 110]⟩ : ByteArray), .string (⟨#[112, 111, 108, 108]⟩ : ByteArray), .string (⟨#[115, 116, 97, 116, 117, 115]⟩ : ByteArray), .string (⟨#[100, 97, 116, 97]⟩ : ByteArray), .string (⟨#[108, 101, 97, 118, 101]⟩ : ByteArray)] 9)).cell? ⟨w.heap.size, 0, none⟩ = some (.int .i64 f.k) := by rw [Fr.m0 HF.out HOa.out]
    have y2 := Fr.m2 HF.out HOa.out
    have HK := Lib.hid hk
    go_wp2_with fail
    generalize ((w.alloc (.cells C 49)).alloc (.cells #[.string (⟨#[63]⟩ : ByteArray), .string (⟨#[116, 111, 107, 101, 110]⟩ : ByteArray), .string (⟨#[112, 111, 108, 108]⟩ : ByteArray), .string (⟨#[115, 116, 97, 116, 117, 115]⟩ : ByteArray), .string (⟨#[100, 97, 116, 97]⟩ : ByteArray), .string (⟨#[108, 101, 97, 118, 101]⟩ : ByteArray)] 9)) = wa at *
    clear x0 y0 y2 HO0 HX0
    generalize hgg : w.heap.size = g at *
    have HGG := Lib.hid hgg
    clear hgg
    refine (digits_int f.d (by omega) d2 H_d2.out _).mono ?_
    rintro e w1 ⟨rfl, hb1⟩
    have HX1 := Lib.hid (HXa.out.trans (hb1.mono (Nat.le_of_lt HOa.out.lt)))
    have HO1 := Lib.hid ((Keep.of_below (S := fun _ => False) hb1).obj HOa.out (fun h => h))
    clear hb1
    have x0 : w1.cell? ⟨g, 0, none⟩ = some (.int .i64 f.k) := by rw [Fr.m0 HF.out HO1.out]
    go_wp2_with fail
    have hn0 : n0 = (⟨#[63]⟩ : ByteArray) := by
      rw [H_n0.out]
      unfold shapeF
      have := HK.out
      rw [if_neg (by omega), if_neg (by omega), if_neg (by omega), if_neg (by omega), if_neg (by omega)]
    rw [← hn0]
    clear hn0
    have r0 : ¬ (9223372036854775807 < n0.size + 1) := by omega
    have r1 : ¬ (9223372036854775807 < n0.size + 1 + d1.size) := by omega
    have r2 : ¬ (9223372036854775807 < n0.size + 1 + d1.size + 3) := by omega
    have r3 : ¬ (9223372036854775807 < n0.size + 1 + d1.size + 3 + d2.size) := by omega
    have r4 : ¬ (9223372036854775807 < n0.size + 1 + d1.size + 3 + d2.size + 1) := by omega
    have r5 : ¬ (9223372036854775807 < n0.size + 1 + d1.size + 3 + d2.size + 1 + e5.size) := by omega
    have r6 : ¬ (9223372036854775807 < n0.size + 1 + d1.size + 3 + d2.size + 1 + e5.size + 1) := by omega
    have r7 : ¬ (9223372036854775807 < n0.size + 1 + d1.size + 3 + d2.size + 1 + e5.size + 1 + d8.size) := by omega
    have HOb := Lib.hid (show ObjAt w1.drew g C 49 from HO1.out)
    have HXb := Lib.hid (show Below g w w1.drew from ⟨HX1.out.os, HX1.out.tape, HX1.out.output, HX1.out.size, HX1.out.block⟩)
    clear x0
    go_region_held3 (fun w' => w'.cell? ⟨g, 1, none⟩ = some (.int .u8 f.s) ∧ w'.cell? ⟨g, 5, none⟩ = some (.int .u16 f.ec) ∧ w'.cell? ⟨g, 6, none⟩ = some (.int .u8 f.ea) ∧ w'.cell? ⟨g, 7, none⟩ = some (.int .u16 f.ei) ∧ w'.cell? ⟨g, 8, none⟩ = some (.int .u16 f.h))
      (first | exact ⟨Fr.m1 HF.out HOb.out, Fr.m5 HF.out HOb.out, Fr.m6 HF.out HOb.out, Fr.m7 HF.out HOb.out, Fr.m8 HF.out HOb.out⟩ | exact ⟨Fr.m1 HF.out HOm1.out, Fr.m5 HF.out HOm1.out, Fr.m6 HF.out HOm1.out, Fr.m7 HF.out HOm1.out, Fr.m8 HF.out HOm1.out⟩ | exact ⟨Fr.m1 HF.out HOm2.out, Fr.m5 HF.out HOm2.out, Fr.m6 HF.out HOm2.out, Fr.m7 HF.out HOm2.out, Fr.m8 HF.out HOm2.out⟩ | exact ⟨Fr.m1 HF.out HOm3.out, Fr.m5 HF.out HOm3.out, Fr.m6 HF.out HOm3.out, Fr.m7 HF.out HOm3.out, Fr.m8 HF.out HOm3.out⟩)
      (first
        | (go_at_call 61; (with_reducible refine (digits_int f.s (by omega) d1 H_d1.out _).mono ?_); rintro e wm1 ⟨rfl, hbm1⟩; have HXm1 := Lib.hid (HXb.out.trans (hbm1.mono (Nat.le_of_lt HOb.out.lt))); have HOm1 := Lib.hid ((Keep.of_below (S := fun _ => False) hbm1).obj HOb.out (fun h => h)))
        | (go_at_call 74; (with_reducible refine (repText_d f.ec f.ea f.ei ok_ec ok_ea ok_ei e5 H_e5.out _).mono ?_); rintro e wm2 ⟨rfl, hbm2⟩; have HXm2 := Lib.hid (HXm1.out.trans (hbm2.mono (Nat.le_of_lt HOm1.out.lt))); have HOm2 := Lib.hid ((Keep.of_below (S := fun _ => False) hbm2).obj HOm1.out (fun h => h)))
        | (go_at_call 61; (with_reducible refine (digits_int f.h (by omega) d8 H_d8.out _).mono ?_); rintro e wm3 ⟨rfl, hbm3⟩; have HXm3 := Lib.hid (HXm2.out.trans (hbm3.mono (Nat.le_of_lt HOm2.out.lt))); have HOm3 := Lib.hid ((Keep.of_below (S := fun _ => False) hbm3).obj HOm2.out (fun h => h))))
    clear r0 r1 r2 r3 r4 r5 r6 r7
    obtain ⟨s6, h_s6⟩ : ∃ d, d = n0 ++ (⟨#[32]⟩ : ByteArray) ++ d1 ++ (⟨#[32, 62, 32]⟩ : ByteArray) ++ d2 ++ (⟨#[32]⟩ : ByteArray) ++ e5 ++ (⟨#[47]⟩ : ByteArray) ++ d8 := ⟨_, rfl⟩
    rw [← h_s6]
    have z_s6 : s6.size ≤ 80 := by
      rw [h_s6]
      have e1 : (⟨#[32]⟩ : ByteArray).size = 1 := rfl
      have e2 : (⟨#[32, 62, 32]⟩ : ByteArray).size = 3 := rfl
      have e3 : (⟨#[47]⟩ : ByteArray).size = 1 := rfl
      simp only [ByteArray.size_append, e1, e2, e3]
      omega
    have HS6 : s6 = headT f := by
      rw [h_s6]
      unfold headT
      rw [if_neg HN4.out, H_n0.out, H_d1.out, H_d2.out, H_e5.out, H_d8.out]
    have H_s6 := Lib.hid HS6
    clear h_s6 HS6
    have x0 : wm3.cell? ⟨g, 0, none⟩ = some (.int .i64 f.k) := by rw [Fr.m0 HF.out HOm3.out]
    go_wp2
    go_ret
    refine ⟨?_, by rw [HGG.out]; exact HXm3.out⟩
    unfold textF
    rw [if_neg HN3.out, if_neg HN4.out, ← H_s6.out]
    rfl
  · have n_3 : (f.k == 3) = false := by simp; omega
    have n_4 : (f.k == 4) = false := by simp; omega
    have HN3 := Lib.hid (show ¬ f.k = 3 by omega)
    have HN4 := Lib.hid (show ¬ f.k = 4 by omega)
    have HOa := Lib.hid (HO0.out.alloc (.cells #[.string (⟨#[63]⟩ : ByteArray), .string (⟨#[116, 111, 107, 101, 110]⟩ : ByteArray), .string (⟨#[112, 111, 108, 108]⟩ : ByteArray), .string (⟨#[115, 116, 97, 116, 117, 115]⟩ : ByteArray), .string (⟨#[100, 97, 116, 97]⟩ : ByteArray), .string (⟨#[108, 101, 97, 118, 101]⟩ : ByteArray)] 9))
    have HXa := Lib.hid (HX0.out.alloc HX0.out.size (.cells #[.string (⟨#[63]⟩ : ByteArray), .string (⟨#[116, 111, 107, 101, 110]⟩ : ByteArray), .string (⟨#[112, 111, 108, 108]⟩ : ByteArray), .string (⟨#[115, 116, 97, 116, 117, 115]⟩ : ByteArray), .string (⟨#[100, 97, 116, 97]⟩ : ByteArray), .string (⟨#[108, 101, 97, 118, 101]⟩ : ByteArray)] 9))
    have x0 : (w.alloc (.cells C 49)).cell? ⟨w.heap.size, 0, none⟩ = some (.int .i64 f.k) := by rw [Fr.m0 HF.out HO0.out]
    have y0 : ((w.alloc (.cells C 49)).alloc (.cells #[.string (⟨#[63]⟩ : ByteArray), .string (⟨#[116, 111, 107, 101, 110]⟩ : ByteArray), .string (⟨#[112, 111, 108, 108]⟩ : ByteArray), .string (⟨#[115, 116, 97, 116, 117, 115]⟩ : ByteArray), .string (⟨#[100, 97, 116, 97]⟩ : ByteArray), .string (⟨#[108, 101, 97, 118, 101]⟩ : ByteArray)] 9)).cell? ⟨w.heap.size, 0, none⟩ = some (.int .i64 f.k) := by rw [Fr.m0 HF.out HOa.out]
    have y2 := Fr.m2 HF.out HOa.out
    have HK := Lib.hid hk
    go_wp2_with fail
    generalize ((w.alloc (.cells C 49)).alloc (.cells #[.string (⟨#[63]⟩ : ByteArray), .string (⟨#[116, 111, 107, 101, 110]⟩ : ByteArray), .string (⟨#[112, 111, 108, 108]⟩ : ByteArray), .string (⟨#[115, 116, 97, 116, 117, 115]⟩ : ByteArray), .string (⟨#[100, 97, 116, 97]⟩ : ByteArray), .string (⟨#[108, 101, 97, 118, 101]⟩ : ByteArray)] 9)) = wa at *
    clear x0 y0 y2 HO0 HX0
    generalize hgg : w.heap.size = g at *
    have HGG := Lib.hid hgg
    clear hgg
    refine (digits_int f.d (by omega) d2 H_d2.out _).mono ?_
    rintro e w1 ⟨rfl, hb1⟩
    have HX1 := Lib.hid (HXa.out.trans (hb1.mono (Nat.le_of_lt HOa.out.lt)))
    have HO1 := Lib.hid ((Keep.of_below (S := fun _ => False) hb1).obj HOa.out (fun h => h))
    clear hb1
    have x0 : w1.cell? ⟨g, 0, none⟩ = some (.int .i64 f.k) := by rw [Fr.m0 HF.out HO1.out]
    go_wp2_with fail
    have hn0 : n0 = (⟨#[63]⟩ : ByteArray) := by
      rw [H_n0.out]
      unfold shapeF
      have := HK.out
      rw [if_neg (by omega), if_neg (by omega), if_neg (by omega), if_neg (by omega), if_neg (by omega)]
    rw [← hn0]
    clear hn0
    have r0 : ¬ (9223372036854775807 < n0.size + 1) := by omega
    have r1 : ¬ (9223372036854775807 < n0.size + 1 + d1.size) := by omega
    have r2 : ¬ (9223372036854775807 < n0.size + 1 + d1.size + 3) := by omega
    have r3 : ¬ (9223372036854775807 < n0.size + 1 + d1.size + 3 + d2.size) := by omega
    have r4 : ¬ (9223372036854775807 < n0.size + 1 + d1.size + 3 + d2.size + 1) := by omega
    have r5 : ¬ (9223372036854775807 < n0.size + 1 + d1.size + 3 + d2.size + 1 + e5.size) := by omega
    have r6 : ¬ (9223372036854775807 < n0.size + 1 + d1.size + 3 + d2.size + 1 + e5.size + 1) := by omega
    have r7 : ¬ (9223372036854775807 < n0.size + 1 + d1.size + 3 + d2.size + 1 + e5.size + 1 + d8.size) := by omega
    have HOb := Lib.hid (show ObjAt w1.drew g C 49 from HO1.out)
    have HXb := Lib.hid (show Below g w w1.drew from ⟨HX1.out.os, HX1.out.tape, HX1.out.output, HX1.out.size, HX1.out.block⟩)
    clear x0
    go_region_held3 (fun w' => w'.cell? ⟨g, 1, none⟩ = some (.int .u8 f.s) ∧ w'.cell? ⟨g, 5, none⟩ = some (.int .u16 f.ec) ∧ w'.cell? ⟨g, 6, none⟩ = some (.int .u8 f.ea) ∧ w'.cell? ⟨g, 7, none⟩ = some (.int .u16 f.ei) ∧ w'.cell? ⟨g, 8, none⟩ = some (.int .u16 f.h))
      (first | exact ⟨Fr.m1 HF.out HOb.out, Fr.m5 HF.out HOb.out, Fr.m6 HF.out HOb.out, Fr.m7 HF.out HOb.out, Fr.m8 HF.out HOb.out⟩ | exact ⟨Fr.m1 HF.out HOm1.out, Fr.m5 HF.out HOm1.out, Fr.m6 HF.out HOm1.out, Fr.m7 HF.out HOm1.out, Fr.m8 HF.out HOm1.out⟩ | exact ⟨Fr.m1 HF.out HOm2.out, Fr.m5 HF.out HOm2.out, Fr.m6 HF.out HOm2.out, Fr.m7 HF.out HOm2.out, Fr.m8 HF.out HOm2.out⟩ | exact ⟨Fr.m1 HF.out HOm3.out, Fr.m5 HF.out HOm3.out, Fr.m6 HF.out HOm3.out, Fr.m7 HF.out HOm3.out, Fr.m8 HF.out HOm3.out⟩)
      (first
        | (go_at_call 61; (with_reducible refine (digits_int f.s (by omega) d1 H_d1.out _).mono ?_); rintro e wm1 ⟨rfl, hbm1⟩; have HXm1 := Lib.hid (HXb.out.trans (hbm1.mono (Nat.le_of_lt HOb.out.lt))); have HOm1 := Lib.hid ((Keep.of_below (S := fun _ => False) hbm1).obj HOb.out (fun h => h)))
        | (go_at_call 74; (with_reducible refine (repText_d f.ec f.ea f.ei ok_ec ok_ea ok_ei e5 H_e5.out _).mono ?_); rintro e wm2 ⟨rfl, hbm2⟩; have HXm2 := Lib.hid (HXm1.out.trans (hbm2.mono (Nat.le_of_lt HOm1.out.lt))); have HOm2 := Lib.hid ((Keep.of_below (S := fun _ => False) hbm2).obj HOm1.out (fun h => h)))
        | (go_at_call 61; (with_reducible refine (digits_int f.h (by omega) d8 H_d8.out _).mono ?_); rintro e wm3 ⟨rfl, hbm3⟩; have HXm3 := Lib.hid (HXm2.out.trans (hbm3.mono (Nat.le_of_lt HOm2.out.lt))); have HOm3 := Lib.hid ((Keep.of_below (S := fun _ => False) hbm3).obj HOm2.out (fun h => h))))
    clear r0 r1 r2 r3 r4 r5 r6 r7
    obtain ⟨s6, h_s6⟩ : ∃ d, d = n0 ++ (⟨#[32]⟩ : ByteArray) ++ d1 ++ (⟨#[32, 62, 32]⟩ : ByteArray) ++ d2 ++ (⟨#[32]⟩ : ByteArray) ++ e5 ++ (⟨#[47]⟩ : ByteArray) ++ d8 := ⟨_, rfl⟩
    rw [← h_s6]
    have z_s6 : s6.size ≤ 80 := by
      rw [h_s6]
      have e1 : (⟨#[32]⟩ : ByteArray).size = 1 := rfl
      have e2 : (⟨#[32, 62, 32]⟩ : ByteArray).size = 3 := rfl
      have e3 : (⟨#[47]⟩ : ByteArray).size = 1 := rfl
      simp only [ByteArray.size_append, e1, e2, e3]
      omega
    have HS6 : s6 = headT f := by
      rw [h_s6]
      unfold headT
      rw [if_neg HN4.out, H_n0.out, H_d1.out, H_d2.out, H_e5.out, H_d8.out]
    have H_s6 := Lib.hid HS6
    clear h_s6 HS6
    have x0 : wm3.cell? ⟨g, 0, none⟩ = some (.int .i64 f.k) := by rw [Fr.m0 HF.out HOm3.out]
    go_wp2
    go_ret
    refine ⟨?_, by rw [HGG.out]; exact HXm3.out⟩
    unfold textF
    rw [if_neg HN3.out, if_neg HN4.out, ← H_s6.out]
    rfl
end Go.Proofs.YtmehafolnpkmhaaDoor
