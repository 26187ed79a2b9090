/- epoch.Read walked: the parts of a text, their numbers, and back. -/
import Derived.Test.YthjdepipmghbbaaDoorPEpox
import Derived.Test.YthjdepipmghbbaaDoorEpo5
import Derived.Lib.Hide
import Derived.Laws.Rows
namespace Go.Proofs.YthjdepipmghbbaaDoor
open Go.RowKit Go.Proofs.YthjdepipmghbbaaDoorW.PrintWords
/-- What epoch.Read makes of a text. -/
def readF (s : ByteArray) : Option (Int × Int × Int × Bool) :=
  if s.size ≤ 1000 then
    match partsOf s with
    | [p, q, r] =>
      match numOf 16 p, numOf 8 q, numOf 16 r with
      | some c, some a, some i => (PEpo.epoch_Text.f c a i).bind fun t => some (if t.toList = s.toList then ((c : Int), (a : Int), (i : Int), true) else (0, 0, 0, false))
      | _, _, _ => some (0, 0, 0, false)
    | _ => some (0, 0, 0, false)
  else none
/-- Its results. -/
def readV (x : Int × Int × Int × Bool) : Value := .tuple #[.agg #[.int .u16 x.1, .int .u8 x.2.1, .int .u16 x.2.2.1], .bool x.2.2.2]
abbrev ep0 : Array Value := #[.int .u16 0, .int .u8 0, .int .u16 0]
def ObjE (w : World) (b : Nat) (cs : Array Value) : Prop := w.heap[b]? = some (.cells cs 24 (0, 0))
theorem ObjE.below {w w' : World} {b : Nat} {cs : Array Value} (h : ObjE w b cs) (hb : Below w.heap.size w w') : ObjE w' b cs := (hb.block b (Array.getElem?_eq_some_iff.1 h).1).trans h
theorem ObjE.alloc {w : World} {b : Nat} {cs : Array Value} (h : ObjE w b cs) (o : Obj) : ObjE (w.alloc o) b cs := (Below.heap_alloc w o b (Array.getElem?_eq_some_iff.1 h).1).trans h
theorem ObjE.cell {w : World} {b : Nat} {cs : Array Value} (h : ObjE w b cs) (j : Nat) : w.cell? ⟨b, j, none⟩ = cs[j]? := cell_of_row w b j cs 24 (0, 0) h
theorem ObjE.free {w : World} {b : Nat} {cs : Array Value} (h : ObjE w b cs) (j : Nat) : w.frozen? ⟨b, j, none⟩ = false := frozen_of_row w b j cs 24 h
theorem ObjE.set3 {w : World} {b : Nat} {a0 a1 a2 : Value} (h : ObjE w b #[a0, a1, a2]) (b0 b1 b2 : Value) : ObjE (((w.setCell ⟨b, 0, none⟩ b0).setCell ⟨b, 1, none⟩ b1).setCell ⟨b, 2, none⟩ b2) b #[b0, b1, b2] :=
  heap_setCell_same _ b 2 _ _ b2 (heap_setCell_same _ b 1 _ _ b1 (heap_setCell_same _ b 0 _ _ b0 h))
theorem below_set3 {w W : World} (h : Below w.heap.size w W) {b : Nat} (hb : w.heap.size ≤ b) (b0 b1 b2 : Value) : Below w.heap.size w (((W.setCell ⟨b, 0, none⟩ b0).setCell ⟨b, 1, none⟩ b1).setCell ⟨b, 2, none⟩ b2) :=
  ((h.setCell (p := ⟨b, 0, none⟩) hb b0).setCell (p := ⟨b, 1, none⟩) hb b1).setCell (p := ⟨b, 2, none⟩) hb b2
theorem below_ext {w w1 w2 : World} (h : Below w.heap.size w w1) (k : Below w1.heap.size w1 w2) : Below w.heap.size w w2 := h.trans (k.mono h.size)
set_option maxRecDepth 100000 in
theorem read_short (s : ByteArray) (hs : s.size ≤ 1000) (hn : (partsOf s).length ≠ 3) (w : World) (hG : LaidW w) :
    Calls Tryd.prog 10 #[.string s] w fun e w' => e = .returned (readV (0, 0, 0, false)) ∧ Below w.heap.size w w' := by
  rw [partsOf_length] at hn
  have hn2 : ((((Lib.countB s (⟨#[46]⟩ : ByteArray) + 1 : Nat) : Int)) == 3) = false := by simp; omega
  have hb : Below w.heap.size w (w.alloc (.cells ep0 24)) := (Below.refl _ w).alloc (Nat.le_refl _) _
  have HG := Lib.hid (laidW_below hG hb (Nat.le_refl _))
  have HB := Lib.hid hb
  have HO := Lib.hid (show ObjE (w.alloc (.cells ep0 24)) w.heap.size ep0 from heap_alloc_new w _)
  clear hG hb
  go_enter Tryd.func10, Tryd.ntmps10
  go_wp2_with fail
  refine (split_any s hs _ HG.out).mono ?_
  rintro e w1 ⟨rfl, rfl⟩
  generalize Lib.countB s (⟨#[46]⟩ : ByteArray) + 1 = n at *
  have HO1 := Lib.hid (HO.out.alloc (.cells ((partsOf s).map Value.string).toArray 9))
  have HB1 := Lib.hid (HB.out.alloc HB.out.size (.cells ((partsOf s).map Value.string).toArray 9))
  go_wp2
  refine bodyPost_ret (results_ct rfl _ _ w.heap.size 24 ep0 (0, 0) _ rfl HO1.out Tryd.underlying24 rfl (by kernel_rfl)) rfl ?_
  exact ⟨rfl, HB1.out⟩

set_option maxRecDepth 100000 in
theorem read_bad1 (s p q r : ByteArray) (hs : s.size ≤ 1000) (hL : partsOf s = [p, q, r]) (h1 : numOf 16 p = none) (w : World) (hG : LaidW w) :
    Calls Tryd.prog 10 #[.string s] w fun e w' => e = .returned (readV (0, 0, 0, false)) ∧ Below w.heap.size w w' := by
  have hn : Lib.countB s (⟨#[46]⟩ : ByteArray) + 1 = 3 := by rw [← partsOf_length, hL]; rfl
  have hp := partsOf_sizes s p (by rw [hL]; simp)
  have hq := partsOf_sizes s q (by rw [hL]; simp)
  have hr := partsOf_sizes s r (by rw [hL]; simp)
  have HP := Lib.hid (And.intro (Nat.le_trans hp hs) (And.intro (Nat.le_trans hq hs) (Nat.le_trans hr hs)))
  clear hp hq hr
  have hb : Below w.heap.size w (w.alloc (.cells ep0 24)) := (Below.refl _ w).alloc (Nat.le_refl _) _
  have HG := Lib.hid (laidW_below hG hb (Nat.le_refl _))
  have HB := Lib.hid hb
  have HO := Lib.hid (show ObjE (w.alloc (.cells ep0 24)) w.heap.size ep0 from heap_alloc_new w _)
  clear hG hb
  go_enter Tryd.func10, Tryd.ntmps10
  go_wp2_with fail
  refine (split_any s hs _ HG.out).mono ?_
  rintro e w1 ⟨rfl, rfl⟩
  rw [hn, hL]
  clear hn hL
  have HO1 := Lib.hid (HO.out.alloc (.cells #[.string p, .string q, .string r] 9))
  have HB1 := Lib.hid (HB.out.alloc HB.out.size (.cells #[.string p, .string q, .string r] 9))
  have hR : ((w.alloc (.cells ep0 24)).alloc (.cells #[.string p, .string q, .string r] 9)).heap[w.heap.size + 1]? = some (.cells #[.string p, .string q, .string r] 9 (0, 0)) := by
    have := heap_alloc_new (w.alloc (.cells ep0 24)) (.cells #[.string p, .string q, .string r] 9)
    rwa [World.size_alloc] at this
  have HG1 := Lib.hid (laidW_below HG.out ((Below.refl _ (w.alloc (.cells ep0 24))).alloc (Nat.le_refl _) (.cells #[.string p, .string q, .string r] 9)) (Nat.le_refl _))
  have hss : (w.alloc (.cells ep0 24)).heap.size = w.heap.size + 1 := World.size_alloc ..
  simp only [hss, List.map_cons, List.map_nil]
  have HR := Lib.hid hR
  clear HG HB HO hR hss
  generalize ((w.alloc (.cells ep0 24)).alloc (.cells #[.string p, .string q, .string r] 9)) = w1 at *
  have c0 : w1.cell? ⟨w.heap.size + 1, 0, none⟩ = some (.string p) := cell_of_row w1 _ 0 _ _ (0, 0) HR.out
  go_wp2_with fail
  refine (parse16_any p HP.out.1 w1 HG1.out).mono ?_
  rintro e w2 ⟨u1, v1, rfl, hv1, hu1, hb2⟩
  have HO2 := Lib.hid (HO1.out.below hb2)
  have HR2 := Lib.hid (blk_below HR.out hb2)
  have HB2 := Lib.hid (below_ext HB1.out hb2)
  have HG2 := Lib.hid (laidW_below HG1.out hb2 (Nat.le_refl _))
  have HV1 := Lib.hid hv1
  have HU1 := Lib.hid hu1
  clear hb2 hv1 hu1 c0
  have c1 : w2.cell? ⟨w.heap.size + 1, 1, none⟩ = some (.string q) := cell_of_row w2 _ 1 _ _ (0, 0) HR2.out
  go_wp2_with fail
  refine (parse8_any q HP.out.2.1 w2 HG2.out).mono ?_
  rintro e w3 ⟨u2, v2, rfl, hv2, hu2, hb3⟩
  have HO3 := Lib.hid (HO2.out.below hb3)
  have HR3 := Lib.hid (blk_below HR2.out hb3)
  have HB3 := Lib.hid (below_ext HB2.out hb3)
  have HG3 := Lib.hid (laidW_below HG2.out hb3 (Nat.le_refl _))
  have HV2 := Lib.hid hv2
  have HU2 := Lib.hid hu2
  clear hb3 hv2 hu2 c1
  have c2 : w3.cell? ⟨w.heap.size + 1, 2, none⟩ = some (.string r) := cell_of_row w3 _ 2 _ _ (0, 0) HR3.out
  go_wp2_with fail
  refine (parse16_any r HP.out.2.2 w3 HG3.out).mono ?_
  rintro e w4 ⟨u3, v3, rfl, hv3, hu3, hb4⟩
  have HO4 := Lib.hid (HO3.out.below hb4)
  have HB4 := Lib.hid (below_ext HB3.out hb4)
  have HG4 := Lib.hid (laidW_below HG3.out hb4 (Nat.le_refl _))
  have HV3 := Lib.hid hv3
  have HU3 := Lib.hid hu3
  clear hb4 hv3 hu3 c2
  have e0 : w4.cell? ⟨w.heap.size, 0, none⟩ = some (.int .u16 0) := HO4.out.cell 0
  have e1 : w4.cell? ⟨w.heap.size, 1, none⟩ = some (.int .u8 0) := HO4.out.cell 1
  have e2 : w4.cell? ⟨w.heap.size, 2, none⟩ = some (.int .u16 0) := HO4.out.cell 2
  have ef : ∀ j, w4.frozen? ⟨w.heap.size, j, none⟩ = false := fun j => HO4.out.free j
  have hv1 := HV1.out
  rw [h1] at hv1
  obtain ⟨x1, y1, rfl⟩ : ∃ u p, v1 = .iface u p := hv1
  go_wp2
  refine bodyPost_ret (results_ct rfl _ _ w.heap.size 24 ep0 (0, 0) _ rfl (HO4.out.set3 _ _ _) Tryd.underlying24 rfl (by kernel_rfl)) rfl ?_
  exact ⟨rfl, below_set3 HB4.out (Nat.le_refl _) _ _ _⟩

set_option maxRecDepth 100000 in
theorem read_bad2 (s p q r : ByteArray) (hs : s.size ≤ 1000) (hL : partsOf s = [p, q, r]) (c : Nat) (h1 : numOf 16 p = some c) (h2 : numOf 8 q = none) (w : World) (hG : LaidW w) :
    Calls Tryd.prog 10 #[.string s] w fun e w' => e = .returned (readV (0, 0, 0, false)) ∧ Below w.heap.size w w' := by
  have hn : Lib.countB s (⟨#[46]⟩ : ByteArray) + 1 = 3 := by rw [← partsOf_length, hL]; rfl
  have hp := partsOf_sizes s p (by rw [hL]; simp)
  have hq := partsOf_sizes s q (by rw [hL]; simp)
  have hr := partsOf_sizes s r (by rw [hL]; simp)
  have HP := Lib.hid (And.intro (Nat.le_trans hp hs) (And.intro (Nat.le_trans hq hs) (Nat.le_trans hr hs)))
  clear hp hq hr
  have hb : Below w.heap.size w (w.alloc (.cells ep0 24)) := (Below.refl _ w).alloc (Nat.le_refl _) _
  have HG := Lib.hid (laidW_below hG hb (Nat.le_refl _))
  have HB := Lib.hid hb
  have HO := Lib.hid (show ObjE (w.alloc (.cells ep0 24)) w.heap.size ep0 from heap_alloc_new w _)
  clear hG hb
  go_enter Tryd.func10, Tryd.ntmps10
  go_wp2_with fail
  refine (split_any s hs _ HG.out).mono ?_
  rintro e w1 ⟨rfl, rfl⟩
  rw [hn, hL]
  clear hn hL
  have HO1 := Lib.hid (HO.out.alloc (.cells #[.string p, .string q, .string r] 9))
  have HB1 := Lib.hid (HB.out.alloc HB.out.size (.cells #[.string p, .string q, .string r] 9))
  have hR : ((w.alloc (.cells ep0 24)).alloc (.cells #[.string p, .string q, .string r] 9)).heap[w.heap.size + 1]? = some (.cells #[.string p, .string q, .string r] 9 (0, 0)) := by
    have := heap_alloc_new (w.alloc (.cells ep0 24)) (.cells #[.string p, .string q, .string r] 9)
    rwa [World.size_alloc] at this
  have HG1 := Lib.hid (laidW_below HG.out ((Below.refl _ (w.alloc (.cells ep0 24))).alloc (Nat.le_refl _) (.cells #[.string p, .string q, .string r] 9)) (Nat.le_refl _))
  have hss : (w.alloc (.cells ep0 24)).heap.size = w.heap.size + 1 := World.size_alloc ..
  simp only [hss, List.map_cons, List.map_nil]
  have HR := Lib.hid hR
  clear HG HB HO hR hss
  generalize ((w.alloc (.cells ep0 24)).alloc (.cells #[.string p, .string q, .string r] 9)) = w1 at *
  have c0 : w1.cell? ⟨w.heap.size + 1, 0, none⟩ = some (.string p) := cell_of_row w1 _ 0 _ _ (0, 0) HR.out
  go_wp2_with fail
  refine (parse16_any p HP.out.1 w1 HG1.out).mono ?_
  rintro e w2 ⟨u1, v1, rfl, hv1, hu1, hb2⟩
  have HO2 := Lib.hid (HO1.out.below hb2)
  have HR2 := Lib.hid (blk_below HR.out hb2)
  have HB2 := Lib.hid (below_ext HB1.out hb2)
  have HG2 := Lib.hid (laidW_below HG1.out hb2 (Nat.le_refl _))
  have HV1 := Lib.hid hv1
  have HU1 := Lib.hid hu1
  clear hb2 hv1 hu1 c0
  have c1 : w2.cell? ⟨w.heap.size + 1, 1, none⟩ = some (.string q) := cell_of_row w2 _ 1 _ _ (0, 0) HR2.out
  go_wp2_with fail
  refine (parse8_any q HP.out.2.1 w2 HG2.out).mono ?_
  rintro e w3 ⟨u2, v2, rfl, hv2, hu2, hb3⟩
  have HO3 := Lib.hid (HO2.out.below hb3)
  have HR3 := Lib.hid (blk_below HR2.out hb3)
  have HB3 := Lib.hid (below_ext HB2.out hb3)
  have HG3 := Lib.hid (laidW_below HG2.out hb3 (Nat.le_refl _))
  have HV2 := Lib.hid hv2
  have HU2 := Lib.hid hu2
  clear hb3 hv2 hu2 c1
  have c2 : w3.cell? ⟨w.heap.size + 1, 2, none⟩ = some (.string r) := cell_of_row w3 _ 2 _ _ (0, 0) HR3.out
  go_wp2_with fail
  refine (parse16_any r HP.out.2.2 w3 HG3.out).mono ?_
  rintro e w4 ⟨u3, v3, rfl, hv3, hu3, hb4⟩
  have HO4 := Lib.hid (HO3.out.below hb4)
  have HB4 := Lib.hid (below_ext HB3.out hb4)
  have HG4 := Lib.hid (laidW_below HG3.out hb4 (Nat.le_refl _))
  have HV3 := Lib.hid hv3
  have HU3 := Lib.hid hu3
  clear hb4 hv3 hu3 c2
  have e0 : w4.cell? ⟨w.heap.size, 0, none⟩ = some (.int .u16 0) := HO4.out.cell 0
  have e1 : w4.cell? ⟨w.heap.size, 1, none⟩ = some (.int .u8 0) := HO4.out.cell 1
  have e2 : w4.cell? ⟨w.heap.size, 2, none⟩ = some (.int .u16 0) := HO4.out.cell 2
  have ef : ∀ j, w4.frozen? ⟨w.heap.size, j, none⟩ = false := fun j => HO4.out.free j
  have hv1 := HV1.out
  rw [h1] at hv1
  obtain rfl : v1 = .nilIface := hv1
  have hu1 := HU1.out _ h1
  subst hu1
  have hv2 := HV2.out
  rw [h2] at hv2
  obtain ⟨x2, y2, rfl⟩ : ∃ u p, v2 = .iface u p := hv2
  go_wp2
  refine bodyPost_ret (results_ct rfl _ _ w.heap.size 24 ep0 (0, 0) _ rfl (HO4.out.set3 _ _ _) Tryd.underlying24 rfl (by kernel_rfl)) rfl ?_
  exact ⟨rfl, below_set3 HB4.out (Nat.le_refl _) _ _ _⟩

set_option maxRecDepth 100000 in
theorem read_bad3 (s p q r : ByteArray) (hs : s.size ≤ 1000) (hL : partsOf s = [p, q, r]) (c a : Nat) (h1 : numOf 16 p = some c) (h2 : numOf 8 q = some a) (h3 : numOf 16 r = none) (w : World) (hG : LaidW w) :
    Calls Tryd.prog 10 #[.string s] w fun e w' => e = .returned (readV (0, 0, 0, false)) ∧ Below w.heap.size w w' := by
  have hn : Lib.countB s (⟨#[46]⟩ : ByteArray) + 1 = 3 := by rw [← partsOf_length, hL]; rfl
  have hp := partsOf_sizes s p (by rw [hL]; simp)
  have hq := partsOf_sizes s q (by rw [hL]; simp)
  have hr := partsOf_sizes s r (by rw [hL]; simp)
  have HP := Lib.hid (And.intro (Nat.le_trans hp hs) (And.intro (Nat.le_trans hq hs) (Nat.le_trans hr hs)))
  clear hp hq hr
  have hb : Below w.heap.size w (w.alloc (.cells ep0 24)) := (Below.refl _ w).alloc (Nat.le_refl _) _
  have HG := Lib.hid (laidW_below hG hb (Nat.le_refl _))
  have HB := Lib.hid hb
  have HO := Lib.hid (show ObjE (w.alloc (.cells ep0 24)) w.heap.size ep0 from heap_alloc_new w _)
  clear hG hb
  go_enter Tryd.func10, Tryd.ntmps10
  go_wp2_with fail
  refine (split_any s hs _ HG.out).mono ?_
  rintro e w1 ⟨rfl, rfl⟩
  rw [hn, hL]
  clear hn hL
  have HO1 := Lib.hid (HO.out.alloc (.cells #[.string p, .string q, .string r] 9))
  have HB1 := Lib.hid (HB.out.alloc HB.out.size (.cells #[.string p, .string q, .string r] 9))
  have hR : ((w.alloc (.cells ep0 24)).alloc (.cells #[.string p, .string q, .string r] 9)).heap[w.heap.size + 1]? = some (.cells #[.string p, .string q, .string r] 9 (0, 0)) := by
    have := heap_alloc_new (w.alloc (.cells ep0 24)) (.cells #[.string p, .string q, .string r] 9)
    rwa [World.size_alloc] at this
  have HG1 := Lib.hid (laidW_below HG.out ((Below.refl _ (w.alloc (.cells ep0 24))).alloc (Nat.le_refl _) (.cells #[.string p, .string q, .string r] 9)) (Nat.le_refl _))
  have hss : (w.alloc (.cells ep0 24)).heap.size = w.heap.size + 1 := World.size_alloc ..
  simp only [hss, List.map_cons, List.map_nil]
  have HR := Lib.hid hR
  clear HG HB HO hR hss
  generalize ((w.alloc (.cells ep0 24)).alloc (.cells #[.string p, .string q, .string r] 9)) = w1 at *
  have c0 : w1.cell? ⟨w.heap.size + 1, 0, none⟩ = some (.string p) := cell_of_row w1 _ 0 _ _ (0, 0) HR.out
  go_wp2_with fail
  refine (parse16_any p HP.out.1 w1 HG1.out).mono ?_
  rintro e w2 ⟨u1, v1, rfl, hv1, hu1, hb2⟩
  have HO2 := Lib.hid (HO1.out.below hb2)
  have HR2 := Lib.hid (blk_below HR.out hb2)
  have HB2 := Lib.hid (below_ext HB1.out hb2)
  have HG2 := Lib.hid (laidW_below HG1.out hb2 (Nat.le_refl _))
  have HV1 := Lib.hid hv1
  have HU1 := Lib.hid hu1
  clear hb2 hv1 hu1 c0
  have c1 : w2.cell? ⟨w.heap.size + 1, 1, none⟩ = some (.string q) := cell_of_row w2 _ 1 _ _ (0, 0) HR2.out
  go_wp2_with fail
  refine (parse8_any q HP.out.2.1 w2 HG2.out).mono ?_
  rintro e w3 ⟨u2, v2, rfl, hv2, hu2, hb3⟩
  have HO3 := Lib.hid (HO2.out.below hb3)
  have HR3 := Lib.hid (blk_below HR2.out hb3)
  have HB3 := Lib.hid (below_ext HB2.out hb3)
  have HG3 := Lib.hid (laidW_below HG2.out hb3 (Nat.le_refl _))
  have HV2 := Lib.hid hv2
  have HU2 := Lib.hid hu2
  clear hb3 hv2 hu2 c1
  have c2 : w3.cell? ⟨w.heap.size + 1, 2, none⟩ = some (.string r) := cell_of_row w3 _ 2 _ _ (0, 0) HR3.out
  go_wp2_with fail
  refine (parse16_any r HP.out.2.2 w3 HG3.out).mono ?_
  rintro e w4 ⟨u3, v3, rfl, hv3, hu3, hb4⟩
  have HO4 := Lib.hid (HO3.out.below hb4)
  have HB4 := Lib.hid (below_ext HB3.out hb4)
  have HG4 := Lib.hid (laidW_below HG3.out hb4 (Nat.le_refl _))
  have HV3 := Lib.hid hv3
  have HU3 := Lib.hid hu3
  clear hb4 hv3 hu3 c2
  have e0 : w4.cell? ⟨w.heap.size, 0, none⟩ = some (.int .u16 0) := HO4.out.cell 0
  have e1 : w4.cell? ⟨w.heap.size, 1, none⟩ = some (.int .u8 0) := HO4.out.cell 1
  have e2 : w4.cell? ⟨w.heap.size, 2, none⟩ = some (.int .u16 0) := HO4.out.cell 2
  have ef : ∀ j, w4.frozen? ⟨w.heap.size, j, none⟩ = false := fun j => HO4.out.free j
  have hv1 := HV1.out
  rw [h1] at hv1
  obtain rfl : v1 = .nilIface := hv1
  have hu1 := HU1.out _ h1
  subst hu1
  have hv2 := HV2.out
  rw [h2] at hv2
  obtain rfl : v2 = .nilIface := hv2
  have hu2 := HU2.out _ h2
  subst hu2
  have hv3 := HV3.out
  rw [h3] at hv3
  obtain ⟨x3, y3, rfl⟩ : ∃ u p, v3 = .iface u p := hv3
  go_wp2
  refine bodyPost_ret (results_ct rfl _ _ w.heap.size 24 ep0 (0, 0) _ rfl (HO4.out.set3 _ _ _) Tryd.underlying24 rfl (by kernel_rfl)) rfl ?_
  exact ⟨rfl, below_set3 HB4.out (Nat.le_refl _) _ _ _⟩

set_option maxRecDepth 100000 in
theorem read_good (s p q r : ByteArray) (hs : s.size ≤ 1000) (hL : partsOf s = [p, q, r]) (c a i : Nat) (h1 : numOf 16 p = some c) (h2 : numOf 8 q = some a) (h3 : numOf 16 r = some i) (t : ByteArray) (ht : PEpo.epoch_Text.f c a i = some t) (res : Int × Int × Int × Bool) (hres : res = if t.toList = s.toList then ((c : Int), (a : Int), (i : Int), true) else (0, 0, 0, false)) (w : World) (hG : LaidW w) :
    Calls Tryd.prog 10 #[.string s] w fun e w' => e = .returned (readV res) ∧ Below w.heap.size w w' := by
  have hn : Lib.countB s (⟨#[46]⟩ : ByteArray) + 1 = 3 := by rw [← partsOf_length, hL]; rfl
  have hp := partsOf_sizes s p (by rw [hL]; simp)
  have hq := partsOf_sizes s q (by rw [hL]; simp)
  have hr := partsOf_sizes s r (by rw [hL]; simp)
  have HP := Lib.hid (And.intro (Nat.le_trans hp hs) (And.intro (Nat.le_trans hq hs) (Nat.le_trans hr hs)))
  clear hp hq hr
  have hb : Below w.heap.size w (w.alloc (.cells ep0 24)) := (Below.refl _ w).alloc (Nat.le_refl _) _
  have HG := Lib.hid (laidW_below hG hb (Nat.le_refl _))
  have HB := Lib.hid hb
  have HO := Lib.hid (show ObjE (w.alloc (.cells ep0 24)) w.heap.size ep0 from heap_alloc_new w _)
  clear hG hb
  go_enter Tryd.func10, Tryd.ntmps10
  go_wp2_with fail
  refine (split_any s hs _ HG.out).mono ?_
  rintro e w1 ⟨rfl, rfl⟩
  rw [hn, hL]
  clear hn hL
  have HO1 := Lib.hid (HO.out.alloc (.cells #[.string p, .string q, .string r] 9))
  have HB1 := Lib.hid (HB.out.alloc HB.out.size (.cells #[.string p, .string q, .string r] 9))
  have hR : ((w.alloc (.cells ep0 24)).alloc (.cells #[.string p, .string q, .string r] 9)).heap[w.heap.size + 1]? = some (.cells #[.string p, .string q, .string r] 9 (0, 0)) := by
    have := heap_alloc_new (w.alloc (.cells ep0 24)) (.cells #[.string p, .string q, .string r] 9)
    rwa [World.size_alloc] at this
  have HG1 := Lib.hid (laidW_below HG.out ((Below.refl _ (w.alloc (.cells ep0 24))).alloc (Nat.le_refl _) (.cells #[.string p, .string q, .string r] 9)) (Nat.le_refl _))
  have hss : (w.alloc (.cells ep0 24)).heap.size = w.heap.size + 1 := World.size_alloc ..
  simp only [hss, List.map_cons, List.map_nil]
  have HR := Lib.hid hR
  clear HG HB HO hR hss
  generalize ((w.alloc (.cells ep0 24)).alloc (.cells #[.string p, .string q, .string r] 9)) = w1 at *
  have c0 : w1.cell? ⟨w.heap.size + 1, 0, none⟩ = some (.string p) := cell_of_row w1 _ 0 _ _ (0, 0) HR.out
  go_wp2_with fail
  refine (parse16_any p HP.out.1 w1 HG1.out).mono ?_
  rintro e w2 ⟨u1, v1, rfl, hv1, hu1, hb2⟩
  have HO2 := Lib.hid (HO1.out.below hb2)
  have HR2 := Lib.hid (blk_below HR.out hb2)
  have HB2 := Lib.hid (below_ext HB1.out hb2)
  have HG2 := Lib.hid (laidW_below HG1.out hb2 (Nat.le_refl _))
  have HV1 := Lib.hid hv1
  have HU1 := Lib.hid hu1
  clear hb2 hv1 hu1 c0
  have c1 : w2.cell? ⟨w.heap.size + 1, 1, none⟩ = some (.string q) := cell_of_row w2 _ 1 _ _ (0, 0) HR2.out
  go_wp2_with fail
  refine (parse8_any q HP.out.2.1 w2 HG2.out).mono ?_
  rintro e w3 ⟨u2, v2, rfl, hv2, hu2, hb3⟩
  have HO3 := Lib.hid (HO2.out.below hb3)
  have HR3 := Lib.hid (blk_below HR2.out hb3)
  have HB3 := Lib.hid (below_ext HB2.out hb3)
  have HG3 := Lib.hid (laidW_below HG2.out hb3 (Nat.le_refl _))
  have HV2 := Lib.hid hv2
  have HU2 := Lib.hid hu2
  clear hb3 hv2 hu2 c1
  have c2 : w3.cell? ⟨w.heap.size + 1, 2, none⟩ = some (.string r) := cell_of_row w3 _ 2 _ _ (0, 0) HR3.out
  go_wp2_with fail
  refine (parse16_any r HP.out.2.2 w3 HG3.out).mono ?_
  rintro e w4 ⟨u3, v3, rfl, hv3, hu3, hb4⟩
  have HO4 := Lib.hid (HO3.out.below hb4)
  have HB4 := Lib.hid (below_ext HB3.out hb4)
  have HG4 := Lib.hid (laidW_below HG3.out hb4 (Nat.le_refl _))
  have HV3 := Lib.hid hv3
  have HU3 := Lib.hid hu3
  clear hb4 hv3 hu3 c2
  have e0 : w4.cell? ⟨w.heap.size, 0, none⟩ = some (.int .u16 0) := HO4.out.cell 0
  have e1 : w4.cell? ⟨w.heap.size, 1, none⟩ = some (.int .u8 0) := HO4.out.cell 1
  have e2 : w4.cell? ⟨w.heap.size, 2, none⟩ = some (.int .u16 0) := HO4.out.cell 2
  have ef : ∀ j, w4.frozen? ⟨w.heap.size, j, none⟩ = false := fun j => HO4.out.free j
  have hv1 := HV1.out
  rw [h1] at hv1
  obtain rfl : v1 = .nilIface := hv1
  have hu1 := HU1.out _ h1
  subst hu1
  have hv2 := HV2.out
  rw [h2] at hv2
  obtain rfl : v2 = .nilIface := hv2
  have hu2 := HU2.out _ h2
  subst hu2
  have hv3 := HV3.out
  rw [h3] at hv3
  obtain rfl : v3 = .nilIface := hv3
  have hu3 := HU3.out _ h3
  subst hu3
  have HRS := Lib.hid hres
  clear hres
  have b1 : c ≤ 65535 := numOf_bd 16 (.inr rfl) p c h1
  have b2 : a ≤ 255 := numOf_bd 8 (.inl rfl) q a h2
  have b3 : i ≤ 65535 := numOf_bd 16 (.inr rfl) r i h3
  clear h1 h2 h3
  have g1 : IntKind.u16.wrap (c : Int) = c := by simp [IntKind.wrap, IntKind.bits, IntKind.signed]; omega
  have g2 : IntKind.u8.wrap (a : Int) = a := by simp [IntKind.wrap, IntKind.bits, IntKind.signed]; omega
  have g3 : IntKind.u16.wrap (i : Int) = i := by simp [IntKind.wrap, IntKind.bits, IntKind.signed]; omega
  have HO5 := Lib.hid (HO4.out.alloc (.cells #[.int .u16 c, .int .u8 a, .int .u16 i] 24))
  have HB5 := Lib.hid (HB4.out.alloc HB4.out.size (.cells #[.int .u16 c, .int .u8 a, .int .u16 i] 24))
  have HN5 := Lib.hid (show ObjE (w4.alloc (.cells #[.int .u16 c, .int .u8 a, .int .u16 i] 24)) w4.heap.size #[.int .u16 c, .int .u8 a, .int .u16 i] from heap_alloc_new w4 _)
  have HG5 := Lib.hid (laidW_below HG4.out ((Below.refl _ w4).alloc (Nat.le_refl _) (.cells #[.int .u16 c, .int .u8 a, .int .u16 i] 24)) (Nat.le_refl _))
  go_wp2_with fail
  refine (PEpo.epoch_Text.calls c a i t _ ht HG5.out).mono ?_
  rintro e w6 ⟨rfl, hb6⟩
  have HO6 := Lib.hid (HO5.out.below hb6)
  have HN6 := Lib.hid (HN5.out.below hb6)
  have HB6 := Lib.hid (below_ext HB5.out hb6)
  clear hb6 e0 e1 e2 ef
  have e0 : w6.cell? ⟨w.heap.size, 0, none⟩ = some (.int .u16 0) := HO6.out.cell 0
  have e1 : w6.cell? ⟨w.heap.size, 1, none⟩ = some (.int .u8 0) := HO6.out.cell 1
  have e2 : w6.cell? ⟨w.heap.size, 2, none⟩ = some (.int .u16 0) := HO6.out.cell 2
  have ef : ∀ j, w6.frozen? ⟨w.heap.size, j, none⟩ = false := fun j => HO6.out.free j
  have n0 : w6.cell? ⟨w4.heap.size, 0, none⟩ = some (.int .u16 c) := HN6.out.cell 0
  have n1 : w6.cell? ⟨w4.heap.size, 1, none⟩ = some (.int .u8 a) := HN6.out.cell 1
  have n2 : w6.cell? ⟨w4.heap.size, 2, none⟩ = some (.int .u16 i) := HN6.out.cell 2
  by_cases hts : t.toList = s.toList
  · have hts2 : (t.toList == s.toList) = true := by rw [hts, beq_iff_eq]
    go_wp2
    refine bodyPost_ret (results_ct rfl _ _ w.heap.size 24 #[.int .u16 c, .int .u8 a, .int .u16 i] (0, 0) _ rfl (HO6.out.set3 _ _ _) Tryd.underlying24 rfl (by kernel_rfl)) rfl ?_
    exact ⟨by rw [HRS.out, if_pos hts]; rfl, below_set3 HB6.out (Nat.le_refl _) _ _ _⟩
  · have hts2 : (t.toList == s.toList) = false := by rw [beq_eq_false_iff_ne]; exact hts
    go_wp2
    refine bodyPost_ret (results_ct rfl _ _ w.heap.size 24 ep0 (0, 0) _ rfl (HO6.out.set3 _ _ _) Tryd.underlying24 rfl (by kernel_rfl)) rfl ?_
    exact ⟨by rw [HRS.out, if_neg hts]; rfl, below_set3 HB6.out (Nat.le_refl _) _ _ _⟩

theorem read_any (s : ByteArray) (x : Int × Int × Int × Bool) (h : readF s = some x) (w : World) (hG : LaidW w) :
    Calls Tryd.prog 10 #[.string s] w fun e w' => e = .returned (readV x) ∧ Below w.heap.size w w' := by
  unfold readF at h
  split at h
  · next hs =>
    split at h
    · next p q r hL =>
      rcases h1 : numOf 16 p with _ | c
      · rw [h1] at h
        simp only at h
        obtain rfl := Option.some.inj h
        exact read_bad1 s p q r hs hL h1 w hG
      · rcases h2 : numOf 8 q with _ | a
        · rw [h1, h2] at h
          simp only at h
          obtain rfl := Option.some.inj h
          exact read_bad2 s p q r hs hL c h1 h2 w hG
        · rcases h3 : numOf 16 r with _ | i
          · rw [h1, h2, h3] at h
            simp only at h
            obtain rfl := Option.some.inj h
            exact read_bad3 s p q r hs hL c a h1 h2 h3 w hG
          · rw [h1, h2, h3] at h
            simp only at h
            rcases ht : PEpo.epoch_Text.f c a i with _ | t
            · rw [ht] at h; cases h
            · rw [ht, Option.bind_some] at h
              obtain rfl := Option.some.inj h
              exact read_good s p q r hs hL c a i h1 h2 h3 t ht _ rfl w hG
    · next hL =>
      obtain rfl := Option.some.inj h
      refine read_short s hs (fun hn => ?_) w hG
      match hP : partsOf s, hn with
      | [p, q, r], _ => exact hL p q r hP
  · cases h
end Go.Proofs.YthjdepipmghbbaaDoor
