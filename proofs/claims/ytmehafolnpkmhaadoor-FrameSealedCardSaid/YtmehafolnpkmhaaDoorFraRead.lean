/- frame.read. -/
import Derived.Test.YtmehafolnpkmhaaDoorFraEye
import Derived.Test.YtmehafolnpkmhaaDoorFraFr
namespace Go.Proofs.YtmehafolnpkmhaaDoor
open Go.RowKit
/-- The frame of bytes. -/
def frF (s : ByteArray) : Fr where
  k := (nb s 0 1 : Nat)
  s := (nb s 2 1 : Nat)
  d := (nb s 5 1 : Nat)
  si := (nb s 3 2 : Nat)
  di := (nb s 6 2 : Nat)
  ec := (nb s 8 2 : Nat)
  ea := (nb s 10 1 : Nat)
  ei := (nb s 11 2 : Nat)
  h := (nb s 13 2 : Nat)
  hc := if nb s 0 1 = 3 then (nb s 15 2 : Nat) else 0
  ha := if nb s 0 1 = 3 then (nb s 17 1 : Nat) else 0
  hi := if nb s 0 1 = 3 then (nb s 18 2 : Nat) else 0
  w := decide (nb s 0 1 = 3 ∧ nb s 20 1 = 1)
  b := if nb s 0 1 = 4 then (nb s 15 1 : Nat) else 0
  vi := if nb s 0 1 = 4 then (nb s 16 2 : Nat) else 0
  vs := if nb s 0 1 = 4 then (nb s 18 4 : Nat) else 0
  p := if nb s 0 1 = 4 then (nb s 22 1 : Nat) else 0
  q := if nb s 0 1 = 4 then (nb s 23 1 : Nat) else 0
  t := if nb s 0 1 = 4 then s.extract 24 s.size else ⟨#[]⟩
/-- Its byte for Wants says either. -/
def okW (s : ByteArray) : Bool := decide (nb s 0 1 = 3 → nb s 20 1 < 2)
theorem below_setRow {B : Nat} {a w : World} (h : Below B a w) (g : Nat) (hg : B ≤ g) (cs : Array Value) : Below B a (w.setRow g cs) :=
  ⟨h.os, h.tape, h.output, by simpa using h.size, fun k hk => (setRow_other w g k _ (by omega)).trans (h.block k hk)⟩
/-- A frame of a kind, all else nothing. -/
def kc (k : Int) : Array Value := #[.int .i64 k, .int .u8 0, .int .u8 0, .int .u16 0, .int .u16 0, .int .u16 0, .int .u8 0, .int .u16 0, .int .u16 0, .int .u16 0, .int .u8 0, .int .u16 0, .bool false, .int .u8 0, .int .u16 0, .int .u32 0, .int .u8 0, .int .u8 0, .string (⟨#[]⟩ : ByteArray)]
set_option maxRecDepth 100000 in
set_option maxHeartbeats 8000000 in
theorem read_any (s : ByteArray) (hs : s.size ≤ maxLen) (h15 : 15 ≤ s.size) (hk3 : nb s 0 1 = 3 → 21 ≤ s.size) (hk4 : nb s 0 1 = 4 → 24 ≤ s.size) (w : World) :
    Calls Tryd.prog 76 #[.string s] w fun e w' => e = .returned (.tuple #[.agg (frF s).cells, .bool (okW s)]) ∧ Below w.heap.size w w' := by
  have HR0 := Lib.hid (show ObjAt (w.alloc (.cells #[.int .i64 0, .int .u8 0, .int .u8 0, .int .u16 0, .int .u16 0, .int .u16 0, .int .u8 0, .int .u16 0, .int .u16 0, .int .u16 0, .int .u8 0, .int .u16 0, .bool false, .int .u8 0, .int .u16 0, .int .u32 0, .int .u8 0, .int .u8 0, .string (⟨#[]⟩ : ByteArray)] 49)) w.heap.size Fr.zero.cells 49 from ObjAt.new w _ _)
  have HB0 := Lib.hid ((Below.refl w.heap.size w).alloc (Nat.le_refl _) (.cells #[.int .i64 0, .int .u8 0, .int .u8 0, .int .u16 0, .int .u16 0, .int .u16 0, .int .u8 0, .int .u16 0, .int .u16 0, .int .u16 0, .int .u8 0, .int .u16 0, .bool false, .int .u8 0, .int .u16 0, .int .u32 0, .int .u8 0, .int .u8 0, .string (⟨#[]⟩ : ByteArray)] 49))
  have hsz0 : (w.alloc (.cells #[.int .i64 0, .int .u8 0, .int .u8 0, .int .u16 0, .int .u16 0, .int .u16 0, .int .u8 0, .int .u16 0, .int .u16 0, .int .u16 0, .int .u8 0, .int .u16 0, .bool false, .int .u8 0, .int .u16 0, .int .u32 0, .int .u8 0, .int .u8 0, .string (⟨#[]⟩ : ByteArray)] 49)).heap.size = w.heap.size + 1 := World.size_alloc _ _
  go_enter Tryd.func76, Tryd.ntmps76
  go_wp2_with fail
  generalize w.alloc (.cells #[.int .i64 0, .int .u8 0, .int .u8 0, .int .u16 0, .int .u16 0, .int .u16 0, .int .u8 0, .int .u16 0, .int .u16 0, .int .u16 0, .int .u8 0, .int .u16 0, .bool false, .int .u8 0, .int .u16 0, .int .u32 0, .int .u8 0, .int .u8 0, .string (⟨#[]⟩ : ByteArray)] 49) = w1 at *
  refine (newEye_any s w1).mono ?_
  rintro e w2 ⟨rfl, hw2⟩
  have he : EyeAt w2 w1.heap.size s 0 false := by rw [hw2]; exact ObjAt.new w1 _ _
  have hr : ObjAt w2 w.heap.size Fr.zero.cells 49 := by rw [hw2]; exact HR0.out.alloc _
  have hb : Below w.heap.size w w2 := by rw [hw2]; exact HB0.out.alloc HB0.out.size _
  have hsz3 : w.heap.size + 2 ≤ w2.heap.size := by rw [hw2, World.size_alloc, hsz0]; omega
  have heb : w.heap.size < w1.heap.size ∧ w1.heap.size < w.heap.size + 2 := by rw [hsz0]; omega
  have HE3 := Lib.hid he
  have HR3 := Lib.hid hr
  have HB3 := Lib.hid hb
  clear hw2 he hr hb hsz0 HR0 HB0
  generalize w1.heap.size = eb at *
  have hge : w.heap.size ≠ eb := by omega
  go_wp2_with fail
  refine (eyeByte_in HE3.out hs (by omega)).mono ?_
  rintro e w4 ⟨rfl, he, hk⟩
  have HE4 := Lib.hid (show EyeAt w4 eb s 1 false from he)
  have hsz4 : w.heap.size + 2 ≤ w4.heap.size := Nat.le_trans hsz3 hk.size
  have HR4 := Lib.hid (hk.obj HR3.out hge)
  have HB4 := Lib.hid (HB3.out.trans (hk.below HB3.out.size (by intro j h1 h2; omega)))
  clear he hk hsz3 HE3 HR3 HB3
  have hkb : (nb s 0 1 : Int) < 256 := by have := nb_lt s 0 1 (by decide); omega
  go_wp2_with (first
    | ((with_reducible refine wpList_build_to ?hgd 49 ?parts ?ho (kc (nb s 0 1 : Nat)) ?hc ?h); (case ho => rfl); (case hgd => rfl); (case hc => kernel_rfl))
    | ((with_reducible refine wpList_store_new ?hgd_s 49 (.tmp 5) (.tmp 12) ?ho_s w4.heap.size ?c0 (kc (nb s 0 1 : Nat)) ?hg_s ?hx_s ?hy_s ?hi_s ?hs_s ?h1_s ?h_s); (case ho_s => rfl); (case hgd_s => rfl); (case hg_s => rfl); (case hx_s => rfl); (case hy_s => rfl); (case hi_s => kernel_rfl); (case hs_s => rfl); (case h1_s => kernel_rfl)))
  have ho : ObjAt (w4.alloc (.cells (kc (nb s 0 1 : Nat)) 49)) w4.heap.size (⟨((nb s 0 1 : Nat) : Int), 0, 0, 0, 0, 0, 0, 0, 0, 0, 0, 0, false, 0, 0, 0, 0, 0, ⟨#[]⟩⟩ : Fr).cells 49 := ObjAt.new w4 _ _
  have he : EyeAt (w4.alloc (.cells (kc (nb s 0 1 : Nat)) 49)) eb s 1 false := HE4.out.alloc _
  have hr := HR4.out.alloc (.cells (kc (nb s 0 1 : Nat)) 49)
  have hb := HB4.out.alloc HB4.out.size (.cells (kc (nb s 0 1 : Nat)) 49)
  have hz : w.heap.size + 2 ≤ (w4.alloc (.cells (kc (nb s 0 1 : Nat)) 49)).heap.size := by rw [World.size_alloc]; omega
  have hfe : w4.heap.size ≠ eb := by omega
  have hgf : w.heap.size ≠ w4.heap.size := by omega
  have hgB : w.heap.size ≤ w4.heap.size := by omega
  clear HE4 HR4 HB4 hsz4
  generalize w4.alloc (.cells (kc (nb s 0 1 : Nat)) 49) = w5 at *
  generalize w4.heap.size = g at *
  have HO5 := Lib.hid ho
  have HE5 := Lib.hid he
  have HR5 := Lib.hid hr
  have HB5 := Lib.hid hb
  have hsz5 := hz
  clear ho he hr hb hz
  go_wp2_with fail
  refine (eyeByte_in HE5.out hs (by omega)).mono ?_
  rintro e w6 ⟨rfl, he, hk⟩
  have HE6 := Lib.hid (show EyeAt w6 eb s 2 false from he)
  have hsz6 : w.heap.size + 2 ≤ w6.heap.size := Nat.le_trans hsz5 hk.size
  have HR6 := Lib.hid (hk.obj HR5.out hge)
  have HB6 := Lib.hid (HB5.out.trans (hk.below HB5.out.size (by intro j h1 h2; omega)))
  have HO6 := Lib.hid (hk.obj HO5.out hfe)
  clear he hk hsz5 HE5 HR5 HB5 HO5
  go_wp2_with fail
  refine (eyeByte_in HE6.out hs (by omega)).mono ?_
  rintro e w7 ⟨rfl, he, hk⟩
  have HE7 := Lib.hid (show EyeAt w7 eb s 3 false from he)
  have hsz7 : w.heap.size + 2 ≤ w7.heap.size := Nat.le_trans hsz6 hk.size
  have HR7 := Lib.hid (hk.obj HR6.out hge)
  have HB7 := Lib.hid (HB6.out.trans (hk.below HB6.out.size (by intro j h1 h2; omega)))
  have HO7 := Lib.hid (hk.obj HO6.out hfe)
  clear he hk hsz6 HE6 HR6 HB6 HO6
  go_wp2_with fail
  refine (eyeTwo_in HE7.out hs (by omega)).mono ?_
  rintro e w8 ⟨rfl, he, hk⟩
  have HE8 := Lib.hid (show EyeAt w8 eb s 5 false from he)
  have hsz8 : w.heap.size + 2 ≤ w8.heap.size := Nat.le_trans hsz7 hk.size
  have HR8 := Lib.hid (hk.obj HR7.out hge)
  have HB8 := Lib.hid (HB7.out.trans (hk.below HB7.out.size (by intro j h1 h2; omega)))
  have HO8 := Lib.hid (hk.obj HO7.out hfe)
  clear he hk hsz7 HE7 HR7 HB7 HO7
  go_wp2_with fail
  refine (eyeByte_in HE8.out hs (by omega)).mono ?_
  rintro e w9 ⟨rfl, he, hk⟩
  have HE9 := Lib.hid (show EyeAt w9 eb s 6 false from he)
  have hsz9 : w.heap.size + 2 ≤ w9.heap.size := Nat.le_trans hsz8 hk.size
  have HR9 := Lib.hid (hk.obj HR8.out hge)
  have HB9 := Lib.hid (HB8.out.trans (hk.below HB8.out.size (by intro j h1 h2; omega)))
  have HO9 := Lib.hid (hk.obj HO8.out hfe)
  clear he hk hsz8 HE8 HR8 HB8 HO8
  go_wp2_with fail
  refine (eyeTwo_in HE9.out hs (by omega)).mono ?_
  rintro e w10 ⟨rfl, he, hk⟩
  have HE10 := Lib.hid (show EyeAt w10 eb s 8 false from he)
  have hsz10 : w.heap.size + 2 ≤ w10.heap.size := Nat.le_trans hsz9 hk.size
  have HR10 := Lib.hid (hk.obj HR9.out hge)
  have HB10 := Lib.hid (HB9.out.trans (hk.below HB9.out.size (by intro j h1 h2; omega)))
  have HO10 := Lib.hid (hk.obj HO9.out hfe)
  clear he hk hsz9 HE9 HR9 HB9 HO9
  have c1 := Fr.m1 rfl HO10.out
  have f1 := HO10.out.free 1
  have c3 := Fr.m3 rfl HO10.out
  have f3 := HO10.out.free 3
  have c2 := Fr.m2 rfl HO10.out
  have f2 := HO10.out.free 2
  have c4 := Fr.m4 rfl HO10.out
  have f4 := HO10.out.free 4
  go_wp2_with fail
  have ho : ObjAt ((((w10.setCell ⟨g, 1, none⟩ (.int .u8 ((nb s 2 1 : Nat) : Int))).setCell ⟨g, 3, none⟩ (.int .u16 ((nb s 3 2 : Nat) : Int))).setCell ⟨g, 2, none⟩ (.int .u8 ((nb s 5 1 : Nat) : Int))).setCell ⟨g, 4, none⟩ (.int .u16 ((nb s 6 2 : Nat) : Int))) g (⟨((nb s 0 1 : Nat) : Int), ((nb s 2 1 : Nat) : Int), ((nb s 5 1 : Nat) : Int), ((nb s 3 2 : Nat) : Int), ((nb s 6 2 : Nat) : Int), 0, 0, 0, 0, 0, 0, 0, false, 0, 0, 0, 0, 0, ⟨#[]⟩⟩ : Fr).cells 49 := (Fr.st_di (Fr.st_d (Fr.st_si (Fr.st_s HO10.out ((nb s 2 1 : Nat) : Int)) ((nb s 3 2 : Nat) : Int)) ((nb s 5 1 : Nat) : Int)) ((nb s 6 2 : Nat) : Int))
  have he : EyeAt ((((w10.setCell ⟨g, 1, none⟩ (.int .u8 ((nb s 2 1 : Nat) : Int))).setCell ⟨g, 3, none⟩ (.int .u16 ((nb s 3 2 : Nat) : Int))).setCell ⟨g, 2, none⟩ (.int .u8 ((nb s 5 1 : Nat) : Int))).setCell ⟨g, 4, none⟩ (.int .u16 ((nb s 6 2 : Nat) : Int))) eb s 8 false := (ObjAt.set_other (ObjAt.set_other (ObjAt.set_other (ObjAt.set_other HE10.out ⟨g, 1, none⟩ (Ne.symm hfe) _) ⟨g, 3, none⟩ (Ne.symm hfe) _) ⟨g, 2, none⟩ (Ne.symm hfe) _) ⟨g, 4, none⟩ (Ne.symm hfe) _)
  have hr : ObjAt ((((w10.setCell ⟨g, 1, none⟩ (.int .u8 ((nb s 2 1 : Nat) : Int))).setCell ⟨g, 3, none⟩ (.int .u16 ((nb s 3 2 : Nat) : Int))).setCell ⟨g, 2, none⟩ (.int .u8 ((nb s 5 1 : Nat) : Int))).setCell ⟨g, 4, none⟩ (.int .u16 ((nb s 6 2 : Nat) : Int))) w.heap.size Fr.zero.cells 49 := ((((HR10.out.set_other ⟨g, 1, none⟩ hgf _).set_other ⟨g, 3, none⟩ hgf _).set_other ⟨g, 2, none⟩ hgf _).set_other ⟨g, 4, none⟩ hgf _)
  have hb : Below w.heap.size w ((((w10.setCell ⟨g, 1, none⟩ (.int .u8 ((nb s 2 1 : Nat) : Int))).setCell ⟨g, 3, none⟩ (.int .u16 ((nb s 3 2 : Nat) : Int))).setCell ⟨g, 2, none⟩ (.int .u8 ((nb s 5 1 : Nat) : Int))).setCell ⟨g, 4, none⟩ (.int .u16 ((nb s 6 2 : Nat) : Int))) := ((((HB10.out.setCell hgB _).setCell hgB _).setCell hgB _).setCell hgB _)
  have hz : w.heap.size + 2 ≤ (((((w10.setCell ⟨g, 1, none⟩ (.int .u8 ((nb s 2 1 : Nat) : Int))).setCell ⟨g, 3, none⟩ (.int .u16 ((nb s 3 2 : Nat) : Int))).setCell ⟨g, 2, none⟩ (.int .u8 ((nb s 5 1 : Nat) : Int))).setCell ⟨g, 4, none⟩ (.int .u16 ((nb s 6 2 : Nat) : Int)))).heap.size := by simpa [World.setCell] using hsz10
  clear c1 f1 c3 f3 c2 f2 c4 f4 HE10 HR10 HB10 HO10 hsz10
  generalize ((((w10.setCell ⟨g, 1, none⟩ (.int .u8 ((nb s 2 1 : Nat) : Int))).setCell ⟨g, 3, none⟩ (.int .u16 ((nb s 3 2 : Nat) : Int))).setCell ⟨g, 2, none⟩ (.int .u8 ((nb s 5 1 : Nat) : Int))).setCell ⟨g, 4, none⟩ (.int .u16 ((nb s 6 2 : Nat) : Int))) = w11 at *
  have HO11 := Lib.hid ho
  have HE11 := Lib.hid he
  have HR11 := Lib.hid hr
  have HB11 := Lib.hid hb
  have hsz11 := hz
  clear ho he hr hb hz
  go_wp2_with fail
  refine (get_in HE11.out hs (by omega)).mono ?_
  rintro e w12 ⟨rfl, he, hk⟩
  have HE12 := Lib.hid (show EyeAt w12 eb s 13 false from he)
  have hsz12 : w.heap.size + 2 ≤ w12.heap.size := Nat.le_trans hsz11 hk.size
  have HR12 := Lib.hid (hk.obj HR11.out hge)
  have HB12 := Lib.hid (HB11.out.trans (hk.below HB11.out.size (by intro j h1 h2; omega)))
  have HO12 := Lib.hid (hk.obj HO11.out hfe)
  clear he hk hsz11 HE11 HR11 HB11 HO11
  have c5 := Fr.m5 rfl HO12.out
  have f5 := HO12.out.free 5
  have c6 := Fr.m6 rfl HO12.out
  have f6 := HO12.out.free 6
  have c7 := Fr.m7 rfl HO12.out
  have f7 := HO12.out.free 7
  go_wp2_with fail
  have ho : ObjAt (((w12.setCell ⟨g, 5, none⟩ (.int .u16 ((nb s 8 2 : Nat) : Int))).setCell ⟨g, 6, none⟩ (.int .u8 ((nb s 10 1 : Nat) : Int))).setCell ⟨g, 7, none⟩ (.int .u16 ((nb s 11 2 : Nat) : Int))) g (⟨((nb s 0 1 : Nat) : Int), ((nb s 2 1 : Nat) : Int), ((nb s 5 1 : Nat) : Int), ((nb s 3 2 : Nat) : Int), ((nb s 6 2 : Nat) : Int), ((nb s 8 2 : Nat) : Int), ((nb s 10 1 : Nat) : Int), ((nb s 11 2 : Nat) : Int), 0, 0, 0, 0, false, 0, 0, 0, 0, 0, ⟨#[]⟩⟩ : Fr).cells 49 := (Fr.st_ei (Fr.st_ea (Fr.st_ec HO12.out ((nb s 8 2 : Nat) : Int)) ((nb s 10 1 : Nat) : Int)) ((nb s 11 2 : Nat) : Int))
  have he : EyeAt (((w12.setCell ⟨g, 5, none⟩ (.int .u16 ((nb s 8 2 : Nat) : Int))).setCell ⟨g, 6, none⟩ (.int .u8 ((nb s 10 1 : Nat) : Int))).setCell ⟨g, 7, none⟩ (.int .u16 ((nb s 11 2 : Nat) : Int))) eb s 13 false := (ObjAt.set_other (ObjAt.set_other (ObjAt.set_other HE12.out ⟨g, 5, none⟩ (Ne.symm hfe) _) ⟨g, 6, none⟩ (Ne.symm hfe) _) ⟨g, 7, none⟩ (Ne.symm hfe) _)
  have hr : ObjAt (((w12.setCell ⟨g, 5, none⟩ (.int .u16 ((nb s 8 2 : Nat) : Int))).setCell ⟨g, 6, none⟩ (.int .u8 ((nb s 10 1 : Nat) : Int))).setCell ⟨g, 7, none⟩ (.int .u16 ((nb s 11 2 : Nat) : Int))) w.heap.size Fr.zero.cells 49 := (((HR12.out.set_other ⟨g, 5, none⟩ hgf _).set_other ⟨g, 6, none⟩ hgf _).set_other ⟨g, 7, none⟩ hgf _)
  have hb : Below w.heap.size w (((w12.setCell ⟨g, 5, none⟩ (.int .u16 ((nb s 8 2 : Nat) : Int))).setCell ⟨g, 6, none⟩ (.int .u8 ((nb s 10 1 : Nat) : Int))).setCell ⟨g, 7, none⟩ (.int .u16 ((nb s 11 2 : Nat) : Int))) := (((HB12.out.setCell hgB _).setCell hgB _).setCell hgB _)
  have hz : w.heap.size + 2 ≤ ((((w12.setCell ⟨g, 5, none⟩ (.int .u16 ((nb s 8 2 : Nat) : Int))).setCell ⟨g, 6, none⟩ (.int .u8 ((nb s 10 1 : Nat) : Int))).setCell ⟨g, 7, none⟩ (.int .u16 ((nb s 11 2 : Nat) : Int)))).heap.size := by simpa [World.setCell] using hsz12
  clear c5 f5 c6 f6 c7 f7 HE12 HR12 HB12 HO12 hsz12
  generalize (((w12.setCell ⟨g, 5, none⟩ (.int .u16 ((nb s 8 2 : Nat) : Int))).setCell ⟨g, 6, none⟩ (.int .u8 ((nb s 10 1 : Nat) : Int))).setCell ⟨g, 7, none⟩ (.int .u16 ((nb s 11 2 : Nat) : Int))) = w13 at *
  have HO13 := Lib.hid ho
  have HE13 := Lib.hid he
  have HR13 := Lib.hid hr
  have HB13 := Lib.hid hb
  have hsz13 := hz
  clear ho he hr hb hz
  go_wp2_with fail
  refine (eyeTwo_in HE13.out hs (by omega)).mono ?_
  rintro e w14 ⟨rfl, he, hk⟩
  have HE14 := Lib.hid (show EyeAt w14 eb s 15 false from he)
  have hsz14 : w.heap.size + 2 ≤ w14.heap.size := Nat.le_trans hsz13 hk.size
  have HR14 := Lib.hid (hk.obj HR13.out hge)
  have HB14 := Lib.hid (HB13.out.trans (hk.below HB13.out.size (by intro j h1 h2; omega)))
  have HO14 := Lib.hid (hk.obj HO13.out hfe)
  clear he hk hsz13 HE13 HR13 HB13 HO13
  by_cases h3 : nb s 0 1 = 3
  · have c0 : w14.cell? ⟨g, 0, none⟩ = some (.int .i64 3) := by have := Fr.m0 rfl HO14.out; rw [show ((nb s 0 1 : Nat) : Int) = 3 by omega] at this; exact this
    have c8 := Fr.m8 rfl HO14.out
    have f8 := HO14.out.free 8
    go_wp2_with fail
    clear c0
    have ho : ObjAt (w14.setCell ⟨g, 8, none⟩ (.int .u16 ((nb s 13 2 : Nat) : Int))) g (⟨((nb s 0 1 : Nat) : Int), ((nb s 2 1 : Nat) : Int), ((nb s 5 1 : Nat) : Int), ((nb s 3 2 : Nat) : Int), ((nb s 6 2 : Nat) : Int), ((nb s 8 2 : Nat) : Int), ((nb s 10 1 : Nat) : Int), ((nb s 11 2 : Nat) : Int), ((nb s 13 2 : Nat) : Int), 0, 0, 0, false, 0, 0, 0, 0, 0, ⟨#[]⟩⟩ : Fr).cells 49 := (Fr.st_h HO14.out ((nb s 13 2 : Nat) : Int))
    have he : EyeAt (w14.setCell ⟨g, 8, none⟩ (.int .u16 ((nb s 13 2 : Nat) : Int))) eb s 15 false := (ObjAt.set_other HE14.out ⟨g, 8, none⟩ (Ne.symm hfe) _)
    have hr : ObjAt (w14.setCell ⟨g, 8, none⟩ (.int .u16 ((nb s 13 2 : Nat) : Int))) w.heap.size Fr.zero.cells 49 := (HR14.out.set_other ⟨g, 8, none⟩ hgf _)
    have hb : Below w.heap.size w (w14.setCell ⟨g, 8, none⟩ (.int .u16 ((nb s 13 2 : Nat) : Int))) := (HB14.out.setCell hgB _)
    have hz : w.heap.size + 2 ≤ ((w14.setCell ⟨g, 8, none⟩ (.int .u16 ((nb s 13 2 : Nat) : Int)))).heap.size := by simpa [World.setCell] using hsz14
    clear c8 f8 HE14 HR14 HB14 HO14 hsz14
    generalize (w14.setCell ⟨g, 8, none⟩ (.int .u16 ((nb s 13 2 : Nat) : Int))) = w15 at *
    have HO15 := Lib.hid ho
    have HE15 := Lib.hid he
    have HR15 := Lib.hid hr
    have HB15 := Lib.hid hb
    have hsz15 := hz
    clear ho he hr hb hz
    go_wp2_with fail
    refine (get_in HE15.out hs (by omega)).mono ?_
    rintro e w16 ⟨rfl, he, hk⟩
    have HE16 := Lib.hid (show EyeAt w16 eb s 20 false from he)
    have hsz16 : w.heap.size + 2 ≤ w16.heap.size := Nat.le_trans hsz15 hk.size
    have HR16 := Lib.hid (hk.obj HR15.out hge)
    have HB16 := Lib.hid (HB15.out.trans (hk.below HB15.out.size (by intro j h1 h2; omega)))
    have HO16 := Lib.hid (hk.obj HO15.out hfe)
    clear he hk hsz15 HE15 HR15 HB15 HO15
    have c9 := Fr.m9 rfl HO16.out
    have f9 := HO16.out.free 9
    have c10 := Fr.m10 rfl HO16.out
    have f10 := HO16.out.free 10
    have c11 := Fr.m11 rfl HO16.out
    have f11 := HO16.out.free 11
    go_wp2_with fail
    have ho : ObjAt (((w16.setCell ⟨g, 9, none⟩ (.int .u16 ((nb s 15 2 : Nat) : Int))).setCell ⟨g, 10, none⟩ (.int .u8 ((nb s 17 1 : Nat) : Int))).setCell ⟨g, 11, none⟩ (.int .u16 ((nb s 18 2 : Nat) : Int))) g (⟨((nb s 0 1 : Nat) : Int), ((nb s 2 1 : Nat) : Int), ((nb s 5 1 : Nat) : Int), ((nb s 3 2 : Nat) : Int), ((nb s 6 2 : Nat) : Int), ((nb s 8 2 : Nat) : Int), ((nb s 10 1 : Nat) : Int), ((nb s 11 2 : Nat) : Int), ((nb s 13 2 : Nat) : Int), ((nb s 15 2 : Nat) : Int), ((nb s 17 1 : Nat) : Int), ((nb s 18 2 : Nat) : Int), false, 0, 0, 0, 0, 0, ⟨#[]⟩⟩ : Fr).cells 49 := (Fr.st_hi (Fr.st_ha (Fr.st_hc HO16.out ((nb s 15 2 : Nat) : Int)) ((nb s 17 1 : Nat) : Int)) ((nb s 18 2 : Nat) : Int))
    have he : EyeAt (((w16.setCell ⟨g, 9, none⟩ (.int .u16 ((nb s 15 2 : Nat) : Int))).setCell ⟨g, 10, none⟩ (.int .u8 ((nb s 17 1 : Nat) : Int))).setCell ⟨g, 11, none⟩ (.int .u16 ((nb s 18 2 : Nat) : Int))) eb s 20 false := (ObjAt.set_other (ObjAt.set_other (ObjAt.set_other HE16.out ⟨g, 9, none⟩ (Ne.symm hfe) _) ⟨g, 10, none⟩ (Ne.symm hfe) _) ⟨g, 11, none⟩ (Ne.symm hfe) _)
    have hr : ObjAt (((w16.setCell ⟨g, 9, none⟩ (.int .u16 ((nb s 15 2 : Nat) : Int))).setCell ⟨g, 10, none⟩ (.int .u8 ((nb s 17 1 : Nat) : Int))).setCell ⟨g, 11, none⟩ (.int .u16 ((nb s 18 2 : Nat) : Int))) w.heap.size Fr.zero.cells 49 := (((HR16.out.set_other ⟨g, 9, none⟩ hgf _).set_other ⟨g, 10, none⟩ hgf _).set_other ⟨g, 11, none⟩ hgf _)
    have hb : Below w.heap.size w (((w16.setCell ⟨g, 9, none⟩ (.int .u16 ((nb s 15 2 : Nat) : Int))).setCell ⟨g, 10, none⟩ (.int .u8 ((nb s 17 1 : Nat) : Int))).setCell ⟨g, 11, none⟩ (.int .u16 ((nb s 18 2 : Nat) : Int))) := (((HB16.out.setCell hgB _).setCell hgB _).setCell hgB _)
    have hz : w.heap.size + 2 ≤ ((((w16.setCell ⟨g, 9, none⟩ (.int .u16 ((nb s 15 2 : Nat) : Int))).setCell ⟨g, 10, none⟩ (.int .u8 ((nb s 17 1 : Nat) : Int))).setCell ⟨g, 11, none⟩ (.int .u16 ((nb s 18 2 : Nat) : Int)))).heap.size := by simpa [World.setCell] using hsz16
    clear c9 f9 c10 f10 c11 f11 HE16 HR16 HB16 HO16 hsz16
    generalize (((w16.setCell ⟨g, 9, none⟩ (.int .u16 ((nb s 15 2 : Nat) : Int))).setCell ⟨g, 10, none⟩ (.int .u8 ((nb s 17 1 : Nat) : Int))).setCell ⟨g, 11, none⟩ (.int .u16 ((nb s 18 2 : Nat) : Int))) = w17 at *
    have HO17 := Lib.hid ho
    have HE17 := Lib.hid he
    have HR17 := Lib.hid hr
    have HB17 := Lib.hid hb
    have hsz17 := hz
    clear ho he hr hb hz
    go_wp2_with fail
    refine (eyeByte_in HE17.out hs (by omega)).mono ?_
    rintro e w18 ⟨rfl, he, hk⟩
    have HE18 := Lib.hid (show EyeAt w18 eb s 21 false from he)
    have hsz18 : w.heap.size + 2 ≤ w18.heap.size := Nat.le_trans hsz17 hk.size
    have HR18 := Lib.hid (hk.obj HR17.out hge)
    have HB18 := Lib.hid (HB17.out.trans (hk.below HB17.out.size (by intro j h1 h2; omega)))
    have HO18 := Lib.hid (hk.obj HO17.out hfe)
    clear he hk hsz17 HE17 HR17 HB17 HO17
    have c12 := Fr.m12 rfl HO18.out
    have f12 := HO18.out.free 12
    have ho : ObjAt (w18.setCell ⟨g, 12, none⟩ (.bool (((nb s 20 1 : Nat) : Int) == 1))) g (⟨((nb s 0 1 : Nat) : Int), ((nb s 2 1 : Nat) : Int), ((nb s 5 1 : Nat) : Int), ((nb s 3 2 : Nat) : Int), ((nb s 6 2 : Nat) : Int), ((nb s 8 2 : Nat) : Int), ((nb s 10 1 : Nat) : Int), ((nb s 11 2 : Nat) : Int), ((nb s 13 2 : Nat) : Int), ((nb s 15 2 : Nat) : Int), ((nb s 17 1 : Nat) : Int), ((nb s 18 2 : Nat) : Int), (((nb s 20 1 : Nat) : Int) == 1), 0, 0, 0, 0, 0, ⟨#[]⟩⟩ : Fr).cells 49 := (Fr.st_w HO18.out (((nb s 20 1 : Nat) : Int) == 1))
    have hr : ObjAt (w18.setCell ⟨g, 12, none⟩ (.bool (((nb s 20 1 : Nat) : Int) == 1))) w.heap.size Fr.zero.cells 49 := (HR18.out.set_other ⟨g, 12, none⟩ hgf _)
    have hb : Below w.heap.size w (w18.setCell ⟨g, 12, none⟩ (.bool (((nb s 20 1 : Nat) : Int) == 1))) := (HB18.out.setCell hgB _)
    have HOZ := Lib.hid ho
    have HRZ := Lib.hid hr
    have HBZ := Lib.hid (below_setRow hb w.heap.size (Nat.le_refl _) (⟨((nb s 0 1 : Nat) : Int), ((nb s 2 1 : Nat) : Int), ((nb s 5 1 : Nat) : Int), ((nb s 3 2 : Nat) : Int), ((nb s 6 2 : Nat) : Int), ((nb s 8 2 : Nat) : Int), ((nb s 10 1 : Nat) : Int), ((nb s 11 2 : Nat) : Int), ((nb s 13 2 : Nat) : Int), ((nb s 15 2 : Nat) : Int), ((nb s 17 1 : Nat) : Int), ((nb s 18 2 : Nat) : Int), (((nb s 20 1 : Nat) : Int) == 1), 0, 0, 0, 0, 0, ⟨#[]⟩⟩ : Fr).cells)
    have hg9 := setRow_heap (w18.setCell ⟨g, 12, none⟩ (.bool (((nb s 20 1 : Nat) : Int) == 1))) w.heap.size Fr.zero.cells (⟨((nb s 0 1 : Nat) : Int), ((nb s 2 1 : Nat) : Int), ((nb s 5 1 : Nat) : Int), ((nb s 3 2 : Nat) : Int), ((nb s 6 2 : Nat) : Int), ((nb s 8 2 : Nat) : Int), ((nb s 10 1 : Nat) : Int), ((nb s 11 2 : Nat) : Int), ((nb s 13 2 : Nat) : Int), ((nb s 15 2 : Nat) : Int), ((nb s 17 1 : Nat) : Int), ((nb s 18 2 : Nat) : Int), (((nb s 20 1 : Nat) : Int) == 1), 0, 0, 0, 0, 0, ⟨#[]⟩⟩ : Fr).cells 49 (0, 0) hr
    have HG9 := Lib.hid hg9
    clear ho hr hb hg9
    obtain ⟨CC, hCC⟩ : ∃ C, C = (⟨((nb s 0 1 : Nat) : Int), ((nb s 2 1 : Nat) : Int), ((nb s 5 1 : Nat) : Int), ((nb s 3 2 : Nat) : Int), ((nb s 6 2 : Nat) : Int), ((nb s 8 2 : Nat) : Int), ((nb s 10 1 : Nat) : Int), ((nb s 11 2 : Nat) : Int), ((nb s 13 2 : Nat) : Int), ((nb s 15 2 : Nat) : Int), ((nb s 17 1 : Nat) : Int), ((nb s 18 2 : Nat) : Int), (((nb s 20 1 : Nat) : Int) == 1), 0, 0, 0, 0, 0, ⟨#[]⟩⟩ : Fr).cells := ⟨_, rfl⟩
    rw [← hCC] at HOZ HBZ HG9
    have hCs := Fr.size hCC
    have HCC := Lib.hid hCC
    have hC1 : CC.all (·.oneCell') = true := by rw [hCC]; kernel_rfl
    have hCi : (Tryd.prog.info? 49).map (·.size) = some CC.size := by rw [hCs]; kernel_rfl
    have HCI := Lib.hid (And.intro hC1 hCi)
    clear hCC hC1 hCi
    go_wp2_with (first
      | ((with_reducible refine wpList_frame (.tmp 5) ?ho_f1 ?hw_f1 g CC ?hx_f1 hCs ?hg_f1 ?h_f1); (case ho_f1 => rfl); (case hw_f1 => kernel_rfl); (case hx_f1 => rfl); (case hg_f1 => exact HOZ.out))
      | ((with_reducible refine wpList_store_row ?hgd_r1 49 (.tmp 2) (.tmp 67) ?ho_r1 w.heap.size CC ?hx_r1 ?hy_r1 49 Fr.zero.cells ?hg_r1 ?hi_r1 ?hold_r1 ?h1_r1 ?h_r1); (case ho_r1 => rfl); (case hgd_r1 => rfl); (case hx_r1 => rfl); (case hy_r1 => rfl); (case hg_r1 => exact HRZ.out); (case hi_r1 => exact HCI.out.2); (case hold_r1 => rw [hCs]; rfl); (case h1_r1 => exact HCI.out.1)))
    refine bodyPost_ret (res_ct rfl _ _ w.heap.size 49 CC (0, 0) _ rfl HG9.out Tryd.underlying49 rfl (by rw [hCs]; kernel_rfl)) rfl ?_
    refine ⟨?_, HBZ.out⟩
    have e1 : CC = (frF s).cells := by
      rw [HCC.out]
      congr 1
      unfold frF
      have h4 : ¬ nb s 0 1 = 4 := by omega
      simp [h3]
      rw [Bool.eq_iff_iff]
      simp
      omega
    have e2 : okW s = decide (((nb s 20 1 : Nat) : Int) < 2) := by
      unfold okW
      simp [h3]; omega
    rw [e1, e2]
    rfl
  · by_cases h4 : nb s 0 1 = 4
    · have c0 : w14.cell? ⟨g, 0, none⟩ = some (.int .i64 4) := by have := Fr.m0 rfl HO14.out; rw [show ((nb s 0 1 : Nat) : Int) = 4 by omega] at this; exact this
      have c8 := Fr.m8 rfl HO14.out
      have f8 := HO14.out.free 8
      go_wp2_with fail
      clear c0
      have ho : ObjAt (w14.setCell ⟨g, 8, none⟩ (.int .u16 ((nb s 13 2 : Nat) : Int))) g (⟨((nb s 0 1 : Nat) : Int), ((nb s 2 1 : Nat) : Int), ((nb s 5 1 : Nat) : Int), ((nb s 3 2 : Nat) : Int), ((nb s 6 2 : Nat) : Int), ((nb s 8 2 : Nat) : Int), ((nb s 10 1 : Nat) : Int), ((nb s 11 2 : Nat) : Int), ((nb s 13 2 : Nat) : Int), 0, 0, 0, false, 0, 0, 0, 0, 0, ⟨#[]⟩⟩ : Fr).cells 49 := (Fr.st_h HO14.out ((nb s 13 2 : Nat) : Int))
      have he : EyeAt (w14.setCell ⟨g, 8, none⟩ (.int .u16 ((nb s 13 2 : Nat) : Int))) eb s 15 false := (ObjAt.set_other HE14.out ⟨g, 8, none⟩ (Ne.symm hfe) _)
      have hr : ObjAt (w14.setCell ⟨g, 8, none⟩ (.int .u16 ((nb s 13 2 : Nat) : Int))) w.heap.size Fr.zero.cells 49 := (HR14.out.set_other ⟨g, 8, none⟩ hgf _)
      have hb : Below w.heap.size w (w14.setCell ⟨g, 8, none⟩ (.int .u16 ((nb s 13 2 : Nat) : Int))) := (HB14.out.setCell hgB _)
      have hz : w.heap.size + 2 ≤ ((w14.setCell ⟨g, 8, none⟩ (.int .u16 ((nb s 13 2 : Nat) : Int)))).heap.size := by simpa [World.setCell] using hsz14
      clear c8 f8 HE14 HR14 HB14 HO14 hsz14
      generalize (w14.setCell ⟨g, 8, none⟩ (.int .u16 ((nb s 13 2 : Nat) : Int))) = w15 at *
      have HO15 := Lib.hid ho
      have HE15 := Lib.hid he
      have HR15 := Lib.hid hr
      have HB15 := Lib.hid hb
      have hsz15 := hz
      clear ho he hr hb hz
      go_wp2_with fail
      refine (eyeByte_in HE15.out hs (by omega)).mono ?_
      rintro e w16 ⟨rfl, he, hk⟩
      have HE16 := Lib.hid (show EyeAt w16 eb s 16 false from he)
      have hsz16 : w.heap.size + 2 ≤ w16.heap.size := Nat.le_trans hsz15 hk.size
      have HR16 := Lib.hid (hk.obj HR15.out hge)
      have HB16 := Lib.hid (HB15.out.trans (hk.below HB15.out.size (by intro j h1 h2; omega)))
      have HO16 := Lib.hid (hk.obj HO15.out hfe)
      clear he hk hsz15 HE15 HR15 HB15 HO15
      have c13 := Fr.m13 rfl HO16.out
      have f13 := HO16.out.free 13
      go_wp2_with fail
      have ho : ObjAt (w16.setCell ⟨g, 13, none⟩ (.int .u8 ((nb s 15 1 : Nat) : Int))) g (⟨((nb s 0 1 : Nat) : Int), ((nb s 2 1 : Nat) : Int), ((nb s 5 1 : Nat) : Int), ((nb s 3 2 : Nat) : Int), ((nb s 6 2 : Nat) : Int), ((nb s 8 2 : Nat) : Int), ((nb s 10 1 : Nat) : Int), ((nb s 11 2 : Nat) : Int), ((nb s 13 2 : Nat) : Int), 0, 0, 0, false, ((nb s 15 1 : Nat) : Int), 0, 0, 0, 0, ⟨#[]⟩⟩ : Fr).cells 49 := (Fr.st_b HO16.out ((nb s 15 1 : Nat) : Int))
      have he : EyeAt (w16.setCell ⟨g, 13, none⟩ (.int .u8 ((nb s 15 1 : Nat) : Int))) eb s 16 false := (ObjAt.set_other HE16.out ⟨g, 13, none⟩ (Ne.symm hfe) _)
      have hr : ObjAt (w16.setCell ⟨g, 13, none⟩ (.int .u8 ((nb s 15 1 : Nat) : Int))) w.heap.size Fr.zero.cells 49 := (HR16.out.set_other ⟨g, 13, none⟩ hgf _)
      have hb : Below w.heap.size w (w16.setCell ⟨g, 13, none⟩ (.int .u8 ((nb s 15 1 : Nat) : Int))) := (HB16.out.setCell hgB _)
      have hz : w.heap.size + 2 ≤ ((w16.setCell ⟨g, 13, none⟩ (.int .u8 ((nb s 15 1 : Nat) : Int)))).heap.size := by simpa [World.setCell] using hsz16
      clear c13 f13 HE16 HR16 HB16 HO16 hsz16
      generalize (w16.setCell ⟨g, 13, none⟩ (.int .u8 ((nb s 15 1 : Nat) : Int))) = w17 at *
      have HO17 := Lib.hid ho
      have HE17 := Lib.hid he
      have HR17 := Lib.hid hr
      have HB17 := Lib.hid hb
      have hsz17 := hz
      clear ho he hr hb hz
      go_wp2_with fail
      refine (eyeTwo_in HE17.out hs (by omega)).mono ?_
      rintro e w18 ⟨rfl, he, hk⟩
      have HE18 := Lib.hid (show EyeAt w18 eb s 18 false from he)
      have hsz18 : w.heap.size + 2 ≤ w18.heap.size := Nat.le_trans hsz17 hk.size
      have HR18 := Lib.hid (hk.obj HR17.out hge)
      have HB18 := Lib.hid (HB17.out.trans (hk.below HB17.out.size (by intro j h1 h2; omega)))
      have HO18 := Lib.hid (hk.obj HO17.out hfe)
      clear he hk hsz17 HE17 HR17 HB17 HO17
      go_wp2_with fail
      refine (eyeFour_in HE18.out hs (by omega)).mono ?_
      rintro e w19 ⟨rfl, he, hk⟩
      have HE19 := Lib.hid (show EyeAt w19 eb s 22 false from he)
      have hsz19 : w.heap.size + 2 ≤ w19.heap.size := Nat.le_trans hsz18 hk.size
      have HR19 := Lib.hid (hk.obj HR18.out hge)
      have HB19 := Lib.hid (HB18.out.trans (hk.below HB18.out.size (by intro j h1 h2; omega)))
      have HO19 := Lib.hid (hk.obj HO18.out hfe)
      clear he hk hsz18 HE18 HR18 HB18 HO18
      have c14 := Fr.m14 rfl HO19.out
      have f14 := HO19.out.free 14
      have c15 := Fr.m15 rfl HO19.out
      have f15 := HO19.out.free 15
      go_wp2_with fail
      have ho : ObjAt ((w19.setCell ⟨g, 14, none⟩ (.int .u16 ((nb s 16 2 : Nat) : Int))).setCell ⟨g, 15, none⟩ (.int .u32 ((nb s 18 4 : Nat) : Int))) g (⟨((nb s 0 1 : Nat) : Int), ((nb s 2 1 : Nat) : Int), ((nb s 5 1 : Nat) : Int), ((nb s 3 2 : Nat) : Int), ((nb s 6 2 : Nat) : Int), ((nb s 8 2 : Nat) : Int), ((nb s 10 1 : Nat) : Int), ((nb s 11 2 : Nat) : Int), ((nb s 13 2 : Nat) : Int), 0, 0, 0, false, ((nb s 15 1 : Nat) : Int), ((nb s 16 2 : Nat) : Int), ((nb s 18 4 : Nat) : Int), 0, 0, ⟨#[]⟩⟩ : Fr).cells 49 := (Fr.st_vs (Fr.st_vi HO19.out ((nb s 16 2 : Nat) : Int)) ((nb s 18 4 : Nat) : Int))
      have he : EyeAt ((w19.setCell ⟨g, 14, none⟩ (.int .u16 ((nb s 16 2 : Nat) : Int))).setCell ⟨g, 15, none⟩ (.int .u32 ((nb s 18 4 : Nat) : Int))) eb s 22 false := (ObjAt.set_other (ObjAt.set_other HE19.out ⟨g, 14, none⟩ (Ne.symm hfe) _) ⟨g, 15, none⟩ (Ne.symm hfe) _)
      have hr : ObjAt ((w19.setCell ⟨g, 14, none⟩ (.int .u16 ((nb s 16 2 : Nat) : Int))).setCell ⟨g, 15, none⟩ (.int .u32 ((nb s 18 4 : Nat) : Int))) w.heap.size Fr.zero.cells 49 := ((HR19.out.set_other ⟨g, 14, none⟩ hgf _).set_other ⟨g, 15, none⟩ hgf _)
      have hb : Below w.heap.size w ((w19.setCell ⟨g, 14, none⟩ (.int .u16 ((nb s 16 2 : Nat) : Int))).setCell ⟨g, 15, none⟩ (.int .u32 ((nb s 18 4 : Nat) : Int))) := ((HB19.out.setCell hgB _).setCell hgB _)
      have hz : w.heap.size + 2 ≤ (((w19.setCell ⟨g, 14, none⟩ (.int .u16 ((nb s 16 2 : Nat) : Int))).setCell ⟨g, 15, none⟩ (.int .u32 ((nb s 18 4 : Nat) : Int)))).heap.size := by simpa [World.setCell] using hsz19
      clear c14 f14 c15 f15 HE19 HR19 HB19 HO19 hsz19
      generalize ((w19.setCell ⟨g, 14, none⟩ (.int .u16 ((nb s 16 2 : Nat) : Int))).setCell ⟨g, 15, none⟩ (.int .u32 ((nb s 18 4 : Nat) : Int))) = w20 at *
      have HO20 := Lib.hid ho
      have HE20 := Lib.hid he
      have HR20 := Lib.hid hr
      have HB20 := Lib.hid hb
      have hsz20 := hz
      clear ho he hr hb hz
      go_wp2_with fail
      refine (eyeByte_in HE20.out hs (by omega)).mono ?_
      rintro e w21 ⟨rfl, he, hk⟩
      have HE21 := Lib.hid (show EyeAt w21 eb s 23 false from he)
      have hsz21 : w.heap.size + 2 ≤ w21.heap.size := Nat.le_trans hsz20 hk.size
      have HR21 := Lib.hid (hk.obj HR20.out hge)
      have HB21 := Lib.hid (HB20.out.trans (hk.below HB20.out.size (by intro j h1 h2; omega)))
      have HO21 := Lib.hid (hk.obj HO20.out hfe)
      clear he hk hsz20 HE20 HR20 HB20 HO20
      go_wp2_with fail
      refine (eyeByte_in HE21.out hs (by omega)).mono ?_
      rintro e w22 ⟨rfl, he, hk⟩
      have HE22 := Lib.hid (show EyeAt w22 eb s 24 false from he)
      have hsz22 : w.heap.size + 2 ≤ w22.heap.size := Nat.le_trans hsz21 hk.size
      have HR22 := Lib.hid (hk.obj HR21.out hge)
      have HB22 := Lib.hid (HB21.out.trans (hk.below HB21.out.size (by intro j h1 h2; omega)))
      have HO22 := Lib.hid (hk.obj HO21.out hfe)
      clear he hk hsz21 HE21 HR21 HB21 HO21
      have c16 := Fr.m16 rfl HO22.out
      have f16 := HO22.out.free 16
      have c17 := Fr.m17 rfl HO22.out
      have f17 := HO22.out.free 17
      go_wp2_with fail
      have ho : ObjAt ((w22.setCell ⟨g, 16, none⟩ (.int .u8 ((nb s 22 1 : Nat) : Int))).setCell ⟨g, 17, none⟩ (.int .u8 ((nb s 23 1 : Nat) : Int))) g (⟨((nb s 0 1 : Nat) : Int), ((nb s 2 1 : Nat) : Int), ((nb s 5 1 : Nat) : Int), ((nb s 3 2 : Nat) : Int), ((nb s 6 2 : Nat) : Int), ((nb s 8 2 : Nat) : Int), ((nb s 10 1 : Nat) : Int), ((nb s 11 2 : Nat) : Int), ((nb s 13 2 : Nat) : Int), 0, 0, 0, false, ((nb s 15 1 : Nat) : Int), ((nb s 16 2 : Nat) : Int), ((nb s 18 4 : Nat) : Int), ((nb s 22 1 : Nat) : Int), ((nb s 23 1 : Nat) : Int), ⟨#[]⟩⟩ : Fr).cells 49 := (Fr.st_q (Fr.st_p HO22.out ((nb s 22 1 : Nat) : Int)) ((nb s 23 1 : Nat) : Int))
      have he : EyeAt ((w22.setCell ⟨g, 16, none⟩ (.int .u8 ((nb s 22 1 : Nat) : Int))).setCell ⟨g, 17, none⟩ (.int .u8 ((nb s 23 1 : Nat) : Int))) eb s 24 false := (ObjAt.set_other (ObjAt.set_other HE22.out ⟨g, 16, none⟩ (Ne.symm hfe) _) ⟨g, 17, none⟩ (Ne.symm hfe) _)
      have hr : ObjAt ((w22.setCell ⟨g, 16, none⟩ (.int .u8 ((nb s 22 1 : Nat) : Int))).setCell ⟨g, 17, none⟩ (.int .u8 ((nb s 23 1 : Nat) : Int))) w.heap.size Fr.zero.cells 49 := ((HR22.out.set_other ⟨g, 16, none⟩ hgf _).set_other ⟨g, 17, none⟩ hgf _)
      have hb : Below w.heap.size w ((w22.setCell ⟨g, 16, none⟩ (.int .u8 ((nb s 22 1 : Nat) : Int))).setCell ⟨g, 17, none⟩ (.int .u8 ((nb s 23 1 : Nat) : Int))) := ((HB22.out.setCell hgB _).setCell hgB _)
      have hz : w.heap.size + 2 ≤ (((w22.setCell ⟨g, 16, none⟩ (.int .u8 ((nb s 22 1 : Nat) : Int))).setCell ⟨g, 17, none⟩ (.int .u8 ((nb s 23 1 : Nat) : Int)))).heap.size := by simpa [World.setCell] using hsz22
      clear c16 f16 c17 f17 HE22 HR22 HB22 HO22 hsz22
      generalize ((w22.setCell ⟨g, 16, none⟩ (.int .u8 ((nb s 22 1 : Nat) : Int))).setCell ⟨g, 17, none⟩ (.int .u8 ((nb s 23 1 : Nat) : Int))) = w23 at *
      have HO23 := Lib.hid ho
      have HE23 := Lib.hid he
      have HR23 := Lib.hid hr
      have HB23 := Lib.hid hb
      have hsz23 := hz
      clear ho he hr hb hz
      have hL : Calls Tryd.prog 95 #[.pointer (some ⟨eb, 0, none⟩)] w23 fun e w' => e = .returned (.int .i64 ((s.size : Int) - 24)) ∧ ∃ n, w' = w23.drewN n := eyeLeft_any eb s 24 false hs (by omega) w23 HE23.out
      have ht : Oct.take s 24 false ((s.size : Int) - 24) = (s.extract 24 s.size, s.size, false) := by
        have := take_in s 24 (s.size - 24) (by omega)
        rw [show ((s.size - 24 : Nat) : Int) = (s.size : Int) - 24 by omega, show 24 + (s.size - 24) = s.size by omega] at this
        exact this
      refine hL.mono ?_
      clear hL
      rintro e w24 ⟨rfl, n0, hw⟩
      have HE24 := Lib.hid (show EyeAt w24 eb s 24 false by rw [hw]; exact HE23.out)
      have HR24 := Lib.hid (show ObjAt w24 w.heap.size Fr.zero.cells 49 by rw [hw]; exact HR23.out)
      have HB24 := Lib.hid (show Below w.heap.size w w24 by rw [hw]; exact ⟨HB23.out.os, HB23.out.tape, HB23.out.output, HB23.out.size, HB23.out.block⟩)
      have HO24 := Lib.hid (show ObjAt w24 g (⟨((nb s 0 1 : Nat) : Int), ((nb s 2 1 : Nat) : Int), ((nb s 5 1 : Nat) : Int), ((nb s 3 2 : Nat) : Int), ((nb s 6 2 : Nat) : Int), ((nb s 8 2 : Nat) : Int), ((nb s 10 1 : Nat) : Int), ((nb s 11 2 : Nat) : Int), ((nb s 13 2 : Nat) : Int), 0, 0, 0, false, ((nb s 15 1 : Nat) : Int), ((nb s 16 2 : Nat) : Int), ((nb s 18 4 : Nat) : Int), ((nb s 22 1 : Nat) : Int), ((nb s 23 1 : Nat) : Int), ⟨#[]⟩⟩ : Fr).cells 49 by rw [hw]; exact HO23.out)
      have hsz24 : w.heap.size + 2 ≤ w24.heap.size := by rw [hw]; exact hsz23
      have HT := Lib.hid ht
      clear hw ht HE23 HR23 HB23 HO23 hsz23
      have hsm : s.size ≤ 9223372036854775807 := hs
      go_wp2_with fail
      refine (eyeTake_any eb s 24 false ((s.size : Int) - 24) hs (by omega) (by omega) w24 HE24.out).mono ?_
      rw [HT.out]
      rintro e w25 ⟨rfl, he, hk⟩
      have HR25 := Lib.hid (hk.obj HR24.out hge)
      have HB25 := Lib.hid (HB24.out.trans (hk.below HB24.out.size (by intro j h1 h2; omega)))
      have HO25 := Lib.hid (hk.obj HO24.out hfe)
      clear he hk HT HE24 HR24 HB24 HO24
      have c18 := Fr.m18 rfl HO25.out
      have f18 := HO25.out.free 18
      have ho : ObjAt (w25.setCell ⟨g, 18, none⟩ (.string (s.extract 24 s.size))) g (⟨((nb s 0 1 : Nat) : Int), ((nb s 2 1 : Nat) : Int), ((nb s 5 1 : Nat) : Int), ((nb s 3 2 : Nat) : Int), ((nb s 6 2 : Nat) : Int), ((nb s 8 2 : Nat) : Int), ((nb s 10 1 : Nat) : Int), ((nb s 11 2 : Nat) : Int), ((nb s 13 2 : Nat) : Int), 0, 0, 0, false, ((nb s 15 1 : Nat) : Int), ((nb s 16 2 : Nat) : Int), ((nb s 18 4 : Nat) : Int), ((nb s 22 1 : Nat) : Int), ((nb s 23 1 : Nat) : Int), (s.extract 24 s.size)⟩ : Fr).cells 49 := (Fr.st_t HO25.out (s.extract 24 s.size))
      have hr : ObjAt (w25.setCell ⟨g, 18, none⟩ (.string (s.extract 24 s.size))) w.heap.size Fr.zero.cells 49 := (HR25.out.set_other ⟨g, 18, none⟩ hgf _)
      have hb : Below w.heap.size w (w25.setCell ⟨g, 18, none⟩ (.string (s.extract 24 s.size))) := (HB25.out.setCell hgB _)
      have HOZ := Lib.hid ho
      have HRZ := Lib.hid hr
      have HBZ := Lib.hid (below_setRow hb w.heap.size (Nat.le_refl _) (⟨((nb s 0 1 : Nat) : Int), ((nb s 2 1 : Nat) : Int), ((nb s 5 1 : Nat) : Int), ((nb s 3 2 : Nat) : Int), ((nb s 6 2 : Nat) : Int), ((nb s 8 2 : Nat) : Int), ((nb s 10 1 : Nat) : Int), ((nb s 11 2 : Nat) : Int), ((nb s 13 2 : Nat) : Int), 0, 0, 0, false, ((nb s 15 1 : Nat) : Int), ((nb s 16 2 : Nat) : Int), ((nb s 18 4 : Nat) : Int), ((nb s 22 1 : Nat) : Int), ((nb s 23 1 : Nat) : Int), (s.extract 24 s.size)⟩ : Fr).cells)
      have hg9 := setRow_heap (w25.setCell ⟨g, 18, none⟩ (.string (s.extract 24 s.size))) w.heap.size Fr.zero.cells (⟨((nb s 0 1 : Nat) : Int), ((nb s 2 1 : Nat) : Int), ((nb s 5 1 : Nat) : Int), ((nb s 3 2 : Nat) : Int), ((nb s 6 2 : Nat) : Int), ((nb s 8 2 : Nat) : Int), ((nb s 10 1 : Nat) : Int), ((nb s 11 2 : Nat) : Int), ((nb s 13 2 : Nat) : Int), 0, 0, 0, false, ((nb s 15 1 : Nat) : Int), ((nb s 16 2 : Nat) : Int), ((nb s 18 4 : Nat) : Int), ((nb s 22 1 : Nat) : Int), ((nb s 23 1 : Nat) : Int), (s.extract 24 s.size)⟩ : Fr).cells 49 (0, 0) hr
      have HG9 := Lib.hid hg9
      clear ho hr hb hg9
      obtain ⟨CC, hCC⟩ : ∃ C, C = (⟨((nb s 0 1 : Nat) : Int), ((nb s 2 1 : Nat) : Int), ((nb s 5 1 : Nat) : Int), ((nb s 3 2 : Nat) : Int), ((nb s 6 2 : Nat) : Int), ((nb s 8 2 : Nat) : Int), ((nb s 10 1 : Nat) : Int), ((nb s 11 2 : Nat) : Int), ((nb s 13 2 : Nat) : Int), 0, 0, 0, false, ((nb s 15 1 : Nat) : Int), ((nb s 16 2 : Nat) : Int), ((nb s 18 4 : Nat) : Int), ((nb s 22 1 : Nat) : Int), ((nb s 23 1 : Nat) : Int), (s.extract 24 s.size)⟩ : Fr).cells := ⟨_, rfl⟩
      rw [← hCC] at HOZ HBZ HG9
      have hCs := Fr.size hCC
      have HCC := Lib.hid hCC
      have hC1 : CC.all (·.oneCell') = true := by rw [hCC]; kernel_rfl
      have hCi : (Tryd.prog.info? 49).map (·.size) = some CC.size := by rw [hCs]; kernel_rfl
      have HCI := Lib.hid (And.intro hC1 hCi)
      clear hCC hC1 hCi
      go_wp2_with (first
        | ((with_reducible refine wpList_frame (.tmp 5) ?ho_f2 ?hw_f2 g CC ?hx_f2 hCs ?hg_f2 ?h_f2); (case ho_f2 => rfl); (case hw_f2 => kernel_rfl); (case hx_f2 => rfl); (case hg_f2 => exact HOZ.out))
        | ((with_reducible refine wpList_store_row ?hgd_r2 49 (.tmp 2) (.tmp 67) ?ho_r2 w.heap.size CC ?hx_r2 ?hy_r2 49 Fr.zero.cells ?hg_r2 ?hi_r2 ?hold_r2 ?h1_r2 ?h_r2); (case ho_r2 => rfl); (case hgd_r2 => rfl); (case hx_r2 => rfl); (case hy_r2 => rfl); (case hg_r2 => exact HRZ.out); (case hi_r2 => exact HCI.out.2); (case hold_r2 => rw [hCs]; rfl); (case h1_r2 => exact HCI.out.1)))
      refine bodyPost_ret (res_ct rfl _ _ w.heap.size 49 CC (0, 0) _ rfl HG9.out Tryd.underlying49 rfl (by rw [hCs]; kernel_rfl)) rfl ?_
      refine ⟨?_, HBZ.out⟩
      have e1 : CC = (frF s).cells := by
        rw [HCC.out]
        congr 1
        unfold frF
        simp [h4]
      have e2 : okW s = decide ((0 : Int) < 2) := by
        unfold okW
        simp [h3]
      rw [e1, e2]
      rfl
    · have hn3 : ¬ ((nb s 0 1 : Nat) : Int) = 3 := by omega
      have hn4 : ¬ ((nb s 0 1 : Nat) : Int) = 4 := by omega
      have c0 := Fr.m0 rfl HO14.out
      have c8 := Fr.m8 rfl HO14.out
      have f8 := HO14.out.free 8
      have ho : ObjAt (w14.setCell ⟨g, 8, none⟩ (.int .u16 ((nb s 13 2 : Nat) : Int))) g (⟨((nb s 0 1 : Nat) : Int), ((nb s 2 1 : Nat) : Int), ((nb s 5 1 : Nat) : Int), ((nb s 3 2 : Nat) : Int), ((nb s 6 2 : Nat) : Int), ((nb s 8 2 : Nat) : Int), ((nb s 10 1 : Nat) : Int), ((nb s 11 2 : Nat) : Int), ((nb s 13 2 : Nat) : Int), 0, 0, 0, false, 0, 0, 0, 0, 0, ⟨#[]⟩⟩ : Fr).cells 49 := (Fr.st_h HO14.out ((nb s 13 2 : Nat) : Int))
      have hr : ObjAt (w14.setCell ⟨g, 8, none⟩ (.int .u16 ((nb s 13 2 : Nat) : Int))) w.heap.size Fr.zero.cells 49 := (HR14.out.set_other ⟨g, 8, none⟩ hgf _)
      have hb : Below w.heap.size w (w14.setCell ⟨g, 8, none⟩ (.int .u16 ((nb s 13 2 : Nat) : Int))) := (HB14.out.setCell hgB _)
      have HOZ := Lib.hid ho
      have HRZ := Lib.hid hr
      have HBZ := Lib.hid (below_setRow hb w.heap.size (Nat.le_refl _) (⟨((nb s 0 1 : Nat) : Int), ((nb s 2 1 : Nat) : Int), ((nb s 5 1 : Nat) : Int), ((nb s 3 2 : Nat) : Int), ((nb s 6 2 : Nat) : Int), ((nb s 8 2 : Nat) : Int), ((nb s 10 1 : Nat) : Int), ((nb s 11 2 : Nat) : Int), ((nb s 13 2 : Nat) : Int), 0, 0, 0, false, 0, 0, 0, 0, 0, ⟨#[]⟩⟩ : Fr).cells)
      have hg9 := setRow_heap (w14.setCell ⟨g, 8, none⟩ (.int .u16 ((nb s 13 2 : Nat) : Int))) w.heap.size Fr.zero.cells (⟨((nb s 0 1 : Nat) : Int), ((nb s 2 1 : Nat) : Int), ((nb s 5 1 : Nat) : Int), ((nb s 3 2 : Nat) : Int), ((nb s 6 2 : Nat) : Int), ((nb s 8 2 : Nat) : Int), ((nb s 10 1 : Nat) : Int), ((nb s 11 2 : Nat) : Int), ((nb s 13 2 : Nat) : Int), 0, 0, 0, false, 0, 0, 0, 0, 0, ⟨#[]⟩⟩ : Fr).cells 49 (0, 0) hr
      have HG9 := Lib.hid hg9
      clear ho hr hb hg9
      obtain ⟨CC, hCC⟩ : ∃ C, C = (⟨((nb s 0 1 : Nat) : Int), ((nb s 2 1 : Nat) : Int), ((nb s 5 1 : Nat) : Int), ((nb s 3 2 : Nat) : Int), ((nb s 6 2 : Nat) : Int), ((nb s 8 2 : Nat) : Int), ((nb s 10 1 : Nat) : Int), ((nb s 11 2 : Nat) : Int), ((nb s 13 2 : Nat) : Int), 0, 0, 0, false, 0, 0, 0, 0, 0, ⟨#[]⟩⟩ : Fr).cells := ⟨_, rfl⟩
      rw [← hCC] at HOZ HBZ HG9
      have hCs := Fr.size hCC
      have HCC := Lib.hid hCC
      have hC1 : CC.all (·.oneCell') = true := by rw [hCC]; kernel_rfl
      have hCi : (Tryd.prog.info? 49).map (·.size) = some CC.size := by rw [hCs]; kernel_rfl
      have HCI := Lib.hid (And.intro hC1 hCi)
      clear hCC hC1 hCi
      go_wp2_with (first
        | ((with_reducible refine wpList_frame (.tmp 5) ?ho_f3 ?hw_f3 g CC ?hx_f3 hCs ?hg_f3 ?h_f3); (case ho_f3 => rfl); (case hw_f3 => kernel_rfl); (case hx_f3 => rfl); (case hg_f3 => exact HOZ.out))
        | ((with_reducible refine wpList_store_row ?hgd_r3 49 (.tmp 2) (.tmp 67) ?ho_r3 w.heap.size CC ?hx_r3 ?hy_r3 49 Fr.zero.cells ?hg_r3 ?hi_r3 ?hold_r3 ?h1_r3 ?h_r3); (case ho_r3 => rfl); (case hgd_r3 => rfl); (case hx_r3 => rfl); (case hy_r3 => rfl); (case hg_r3 => exact HRZ.out); (case hi_r3 => exact HCI.out.2); (case hold_r3 => rw [hCs]; rfl); (case h1_r3 => exact HCI.out.1)))
      refine bodyPost_ret (res_ct rfl _ _ w.heap.size 49 CC (0, 0) _ rfl HG9.out Tryd.underlying49 rfl (by rw [hCs]; kernel_rfl)) rfl ?_
      refine ⟨?_, HBZ.out⟩
      have e1 : CC = (frF s).cells := by
        rw [HCC.out]
        congr 1
        unfold frF
        simp [h3, h4]
      have e2 : okW s = decide ((0 : Int) < 2) := by
        unfold okW
        simp [h3]
      rw [e1, e2]
      rfl
end Go.Proofs.YtmehafolnpkmhaaDoor
