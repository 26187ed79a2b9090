/- frame.Encode. -/
import Derived.Test.YtmehafolnpkmhaaDoorFraPut
import Derived.Test.YtmehafolnpkmhaaDoorFraSize
import Derived.Test.YtmehafolnpkmhaaDoorgCrc
namespace Go.Proofs.YtmehafolnpkmhaaDoor
open Go.RowKit
-- (else the walk opens the load of a frame cell by cell)
attribute [local go_sem ↓ high] sizeFr
/-- The first eight things. -/
def headB (f : Fr) : List UInt8 := [UInt8.ofNat f.k.toNat] ++ [UInt8.ofNat (sizeF f).toNat] ++ [UInt8.ofNat f.s.toNat] ++ Oct.bts f.si.toNat 2 ++ [UInt8.ofNat f.d.toNat] ++ Oct.bts f.di.toNat 2
/-- What stands behind them. -/
def tailB (f : Fr) : List UInt8 := if f.k = 3 then epB f.hc f.ha f.hi ++ [UInt8.ofNat (if f.w then 1 else 0)] else if f.k = 4 then [UInt8.ofNat f.b.toNat] ++ Oct.bts f.vi.toNat 2 ++ Oct.bts f.vs.toNat 4 ++ [UInt8.ofNat f.p.toNat] ++ [UInt8.ofNat f.q.toNat] ++ f.t.data.toList else []
/-- A frame's bytes ahead of the sum. -/
def bodyB (f : Fr) : List UInt8 := headB f ++ epB f.ec f.ea f.ei ++ Oct.bts f.h.toNat 2 ++ tailB f
def encF (f : Fr) : ByteArray := if rightP f then Crc.sealed ⟨(bodyB f).toArray⟩ else ⟨#[]⟩
theorem bare_t {f : Fr} (h : f.t.toList = []) : f.t = ⟨#[]⟩ := by
  generalize f.t = t at *
  obtain ⟨⟨l⟩⟩ := t
  rw [ByteArray.toList_eq] at h
  simp at h
  subst h
  rfl
theorem right_t {f : Fr} (h : rightP f) : f.t.size ≤ 16 := by
  obtain ⟨hk, h4, hs, hb1, hb2⟩ := h
  by_cases e : f.k = 4
  · rw [if_pos e] at hb2; omega
  · rw [if_neg e] at hb2
    rw [bare_t hb2.2.2.2.2.2]
    decide
theorem right_bd {f : Fr} (h : rightP f) : 17 ≤ sizeF f ∧ sizeF f ≤ 42 := by
  have ht := right_t h
  unfold sizeF
  rw [if_pos h]
  obtain ⟨hk, -, -, -, hb2⟩ := h
  by_cases e : f.k = 4
  · rw [if_pos e] at hb2
    have : (shapeF f.k).2.2.1 = 27 := by rw [e]; decide
    omega
  · rw [if_neg e] at hb2
    have h0 : f.t.size = 0 := by rw [bare_t hb2.2.2.2.2.2]; rfl
    have : 17 ≤ (shapeF f.k).2.2.1 ∧ (shapeF f.k).2.2.1 ≤ 27 := by
      rcases (by omega : f.k = 1 ∨ f.k = 2 ∨ f.k = 3 ∨ f.k = 5) with e | e | e | e <;> (rw [e]; decide)
    omega
theorem PenAt.below {w w' : World} {b : Nat} {l : List UInt8} (h : PenAt w b l) (hb : Below w.heap.size w w') : PenAt w' b l := by
  obtain ⟨v, hv, hr⟩ := h
  exact ⟨v, (hb.block b hv.lt).trans hv, own_of_block hr (fun k _ h2 => hb.block k h2)⟩
theorem penFour_int (b : Nat) (l : List UInt8) (a : Int) (ha : 0 ≤ a ∧ a ≤ 4294967295) (hl : l.length + 4 ≤ 140737488355328) (w : World) (h : PenAt w b l) :
    Calls Tryd.prog 66 #[.pointer (some ⟨b, 0, none⟩), .int .u32 a] w fun e w' =>
      e = .returned (.pointer (some ⟨b, 0, none⟩)) ∧ PenAt w' b (l ++ Oct.bts a.toNat 4) ∧ PenKeep b w w' := by
  obtain ⟨n, rfl⟩ := Int.eq_ofNat_of_zero_le ha.1
  exact penFour_any b l n (by omega) hl w h
theorem epB_len (c a i : Int) : (epB c a i).length = 5 := by simp [epB, Oct.bts_length]
theorem headB_len (f : Fr) : (headB f).length = 8 := by simp [headB, Oct.bts_length]
theorem size_lit (f : Fr) (hts : f.t.size ≤ 140737488355328) (w : World) : Calls Tryd.prog 46 #[.agg #[.int .i64 f.k, .int .u8 f.s, .int .u8 f.d, .int .u16 f.si, .int .u16 f.di, .int .u16 f.ec, .int .u8 f.ea, .int .u16 f.ei, .int .u16 f.h, .int .u16 f.hc, .int .u8 f.ha, .int .u16 f.hi, .bool f.w, .int .u8 f.b, .int .u16 f.vi, .int .u32 f.vs, .int .u8 f.p, .int .u8 f.q, .string f.t]] w fun e w' => e = .returned (.int .i64 (sizeF f)) ∧ Below w.heap.size w w' := size_any f.cells f rfl hts w
set_option maxRecDepth 100000 in
set_option maxHeartbeats 8000000 in
theorem encode_any (C : Array Value) (f : Fr) (h : C = f.cells) (hok : f.ok) (hts : f.t.size ≤ 140737488355328) (w : World) :
    Calls Tryd.prog 41 #[.agg C] w fun e w' => e = .returned (.tuple #[.string (encF f), .int .i64 (if rightP f then 0 else 3)]) ∧ Below w.heap.size w w' := by
  have hC := Fr.size h
  have HF := Lib.hid h
  have HOK := Lib.hid hok
  have HB0 := Lib.hid (show Below w.heap.size w (w.alloc (.cells C 49)) from (Below.refl _ w).alloc (Nat.le_refl _) _)
  have hob := ObjAt.new w C 49
  clear h hok
  go_enter Tryd.func41, Tryd.ntmps41
  go_wp2_with ((with_reducible refine wpList_frame (.tmp 1) ?ho ?hw w.heap.size C ?hx hC ?hg ?h); (case ho => rfl); (case hw => kernel_rfl); (case hx => rfl); (case hg => exact ObjAt.new w C _))
  refine (right_any C f HF.out _).mono ?_
  rintro e w1 ⟨rfl, hb1⟩
  have ho1 := (Keep.of_below (S := fun _ => False) hb1).obj hob (fun h => h)
  have hbx := HB0.out.trans (hb1.mono (by simp))
  have HB1 := Lib.hid hbx
  have hg : w.heap.size < w1.heap.size := ho1.lt
  have HO1 := Lib.hid ho1
  clear hob hb1 HB0 hbx ho1
  generalize hgg : w.heap.size = g at *
  have HGG := Lib.hid hgg
  clear hgg
  by_cases hr : rightP f
  · have hr2 : decide (rightP f) = true := decide_eq_true hr
    rw [hr2]
    have ht16 := right_t hr
    have hsz := right_bd hr
    have hk5 := hr.1
    have HR := Lib.hid hr
    clear hr hr2
    obtain ⟨sz, hszz⟩ : ∃ sz, sz = sizeF f := ⟨_, rfl⟩
    rw [← hszz] at hsz
    have HSZ := Lib.hid hszz
    have hw1 : IntKind.u8.wrap f.k = f.k := by rw [IntKind.wrap_u8']; omega
    have hw2 : IntKind.u8.wrap sz = sz := by rw [IntKind.wrap_u8']; omega
    have hs8 := HOK.out.s
    have hd8 := HOK.out.d
    have hsi := HOK.out.si
    have hdi := HOK.out.di
    clear hszz
    have hpb : g ≠ w1.heap.size := Nat.ne_of_lt hg
    have HT := Lib.hid (show 49 ≠ 5 by decide)
    have HW0 := Lib.hid (show ObjAt w1.drew g C 49 from HO1.out)
    have HX0 := Lib.hid (show Below g w w1.drew from ⟨HB1.out.os, HB1.out.tape, HB1.out.output, HB1.out.size, HB1.out.block⟩)
    go_wp2_with fail
    go_region_held3 (fun w' => w'.cell? ⟨g, 0, none⟩ = some (.int .i64 f.k) ∧ w'.cell? ⟨g, 1, none⟩ = some (.int .u8 f.s) ∧ w'.cell? ⟨g, 2, none⟩ = some (.int .u8 f.d) ∧ w'.cell? ⟨g, 3, none⟩ = some (.int .u16 f.si) ∧ w'.cell? ⟨g, 4, none⟩ = some (.int .u16 f.di) ∧ (loadCellsFrom ⟨g, 0, none⟩ 0 n19 #[]).run Tryd.prog w' = .ok C w')
      (first | exact ⟨Fr.m0 HF.out HO1.out, Fr.m1 HF.out HO1.out, Fr.m2 HF.out HO1.out, Fr.m3 HF.out HO1.out, Fr.m4 HF.out HO1.out, Fr.loadc HF.out HO1.out⟩ | exact ⟨Fr.m0 HF.out HO5.out, Fr.m1 HF.out HO5.out, Fr.m2 HF.out HO5.out, Fr.m3 HF.out HO5.out, Fr.m4 HF.out HO5.out, Fr.loadc HF.out HO5.out⟩ | exact ⟨Fr.m0 HF.out HO6.out, Fr.m1 HF.out HO6.out, Fr.m2 HF.out HO6.out, Fr.m3 HF.out HO6.out, Fr.m4 HF.out HO6.out, Fr.loadc HF.out HO6.out⟩ | exact ⟨Fr.m0 HF.out HO7.out, Fr.m1 HF.out HO7.out, Fr.m2 HF.out HO7.out, Fr.m3 HF.out HO7.out, Fr.m4 HF.out HO7.out, Fr.loadc HF.out HO7.out⟩ | exact ⟨Fr.m0 HF.out HO8.out, Fr.m1 HF.out HO8.out, Fr.m2 HF.out HO8.out, Fr.m3 HF.out HO8.out, Fr.m4 HF.out HO8.out, Fr.loadc HF.out HO8.out⟩ | exact ⟨Fr.m0 HF.out HO9.out, Fr.m1 HF.out HO9.out, Fr.m2 HF.out HO9.out, Fr.m3 HF.out HO9.out, Fr.m4 HF.out HO9.out, Fr.loadc HF.out HO9.out⟩ | exact ⟨Fr.m0 HF.out HO10.out, Fr.m1 HF.out HO10.out, Fr.m2 HF.out HO10.out, Fr.m3 HF.out HO10.out, Fr.m4 HF.out HO10.out, Fr.loadc HF.out HO10.out⟩ | exact ⟨Fr.m0 HF.out HO11.out, Fr.m1 HF.out HO11.out, Fr.m2 HF.out HO11.out, Fr.m3 HF.out HO11.out, Fr.m4 HF.out HO11.out, Fr.loadc HF.out HO11.out⟩ | exact ⟨Fr.m0 HF.out HO12.out, Fr.m1 HF.out HO12.out, Fr.m2 HF.out HO12.out, Fr.m3 HF.out HO12.out, Fr.m4 HF.out HO12.out, Fr.loadc HF.out HO12.out⟩)
      (first
        | (go_at_call 62; (with_reducible refine (newPen_any _).mono ?_); rintro e w5 ⟨rfl, hp5, hb5⟩; have HP5 := Lib.hid (show PenAt w5 w1.heap.size [] from hp5); have HX5 := Lib.hid (show Below w1.heap.size w1.drew w5 from hb5); have HO5 := Lib.hid ((Keep.of_below (S := fun _ => False) hb5).obj HW0.out (fun h => h)))
        | (go_at_call 63; (with_reducible refine (penByte_any w1.heap.size ([]) (f.k) (by omega) (by simp <;> omega) _ HP5.out).mono ?_); rintro e w6 ⟨rfl, hp6, hk6⟩; have HP6 := Lib.hid hp6; have HX6 := Lib.hid (HX5.out.trans hk6.below); have HO6 := Lib.hid (hk6.obj HO5.out hpb HT.out))
        | (go_at_call 46; (with_reducible refine (size_any C f HF.out hts _).mono ?_); rw [← HSZ.out]; rintro e w7 ⟨rfl, hb7⟩; have HP7 := Lib.hid (HP6.out.below hb7); have HX7 := Lib.hid (HX6.out.trans (hb7.mono (Nat.le_of_lt HP6.out.lt))); have HO7 := Lib.hid ((Keep.of_below (S := fun _ => False) hb7).obj HO6.out (fun h => h)))
        | (go_at_call 63; (with_reducible refine (penByte_any w1.heap.size ([UInt8.ofNat (f.k).toNat]) (sz) (by omega) (by simp <;> omega) _ HP7.out).mono ?_); rintro e w8 ⟨rfl, hp8, hk8⟩; have HP8 := Lib.hid hp8; have HX8 := Lib.hid (HX7.out.trans hk8.below); have HO8 := Lib.hid (hk8.obj HO7.out hpb HT.out))
        | (go_at_call 63; (with_reducible refine (penByte_any w1.heap.size ([UInt8.ofNat (f.k).toNat] ++ [UInt8.ofNat (sz).toNat]) (f.s) (by omega) (by simp <;> omega) _ HP8.out).mono ?_); rintro e w9 ⟨rfl, hp9, hk9⟩; have HP9 := Lib.hid hp9; have HX9 := Lib.hid (HX8.out.trans hk9.below); have HO9 := Lib.hid (hk9.obj HO8.out hpb HT.out))
        | (go_at_call 64; (with_reducible refine (penTwo_int w1.heap.size ([UInt8.ofNat (f.k).toNat] ++ [UInt8.ofNat (sz).toNat] ++ [UInt8.ofNat (f.s).toNat]) (f.si) (by omega) (by simp <;> omega) _ HP9.out).mono ?_); rintro e w10 ⟨rfl, hp10, hk10⟩; have HP10 := Lib.hid hp10; have HX10 := Lib.hid (HX9.out.trans hk10.below); have HO10 := Lib.hid (hk10.obj HO9.out hpb HT.out))
        | (go_at_call 63; (with_reducible refine (penByte_any w1.heap.size ([UInt8.ofNat (f.k).toNat] ++ [UInt8.ofNat (sz).toNat] ++ [UInt8.ofNat (f.s).toNat] ++ Oct.bts (f.si).toNat 2) (f.d) (by omega) (by simp [Oct.bts_length] <;> omega) _ HP10.out).mono ?_); rintro e w11 ⟨rfl, hp11, hk11⟩; have HP11 := Lib.hid hp11; have HX11 := Lib.hid (HX10.out.trans hk11.below); have HO11 := Lib.hid (hk11.obj HO10.out hpb HT.out))
        | (go_at_call 64; (with_reducible refine (penTwo_int w1.heap.size ([UInt8.ofNat (f.k).toNat] ++ [UInt8.ofNat (sz).toNat] ++ [UInt8.ofNat (f.s).toNat] ++ Oct.bts (f.si).toNat 2 ++ [UInt8.ofNat (f.d).toNat]) (f.di) (by omega) (by simp [Oct.bts_length] <;> omega) _ HP11.out).mono ?_); rintro e w12 ⟨rfl, hp12, hk12⟩; have HP12 := Lib.hid hp12; have HX12 := Lib.hid (HX11.out.trans hk12.below); have HO12 := Lib.hid (hk12.obj HO11.out hpb HT.out)))
    have hL1 : [UInt8.ofNat (f.k).toNat] ++ [UInt8.ofNat (sz).toNat] ++ [UInt8.ofNat (f.s).toNat] ++ Oct.bts (f.si).toNat 2 ++ [UInt8.ofNat (f.d).toNat] ++ Oct.bts (f.di).toNat 2 = headB f := by unfold headB; rw [← HSZ.out]
    have HP12' := Lib.hid (show PenAt w12 w1.heap.size (headB f) by rw [← hL1]; exact HP12.out)
    have e5 := Fr.m5 HF.out HO12.out
    have e6 := Fr.m6 HF.out HO12.out
    have e7 := Fr.m7 HF.out HO12.out
    have hec := HOK.out.ec
    have hea := HOK.out.ea
    have hei := HOK.out.ei
    clear hL1 hp5 hb5 hp6 hk6 hp8 hk8 hp9 hk9 hp10 hk10 hp11 hk11 hp12 hk12 hb7
    go_wp2_with fail
    refine (put_any w1.heap.size (headB f) f.ec f.ea f.ei (by omega) (by omega) (by omega) (by simp [headB_len]) w12 HP12'.out).mono ?_
    rintro e w13 ⟨rfl, hp13, hk13⟩
    have HP13 := Lib.hid hp13
    have HX13 := Lib.hid (HX12.out.trans hk13.below)
    have HO13 := Lib.hid (hk13.obj HO12.out hpb HT.out)
    have e8 := Fr.m8 HF.out HO13.out
    have hh := HOK.out.h
    clear hp13 hk13 e5 e6 e7 HP12' HX12 HO12
    go_wp2_with fail
    refine (penTwo_int w1.heap.size (headB f ++ epB f.ec f.ea f.ei) f.h (by omega) (by simp [headB_len, epB_len]) w13 HP13.out).mono ?_
    rintro e w14 ⟨rfl, hp14, hk14⟩
    have HP14 := Lib.hid hp14
    have HX14 := Lib.hid (HX13.out.trans hk14.below)
    have HO14 := Lib.hid (hk14.obj HO13.out hpb HT.out)
    have e0 := Fr.m0 HF.out HO14.out
    clear hp14 hk14 e8 HP13 HX13 HO13
    by_cases h3 : f.k = 3
    · have e9 := Fr.m9 HF.out HO14.out
      have e10 := Fr.m10 HF.out HO14.out
      have e11 := Fr.m11 HF.out HO14.out
      have hhc := HOK.out.hc
      have hha := HOK.out.ha
      have hhi := HOK.out.hi
      go_wp2_with fail
      refine (put_any w1.heap.size (headB f ++ epB f.ec f.ea f.ei ++ Oct.bts f.h.toNat 2) f.hc f.ha f.hi (by omega) (by omega) (by omega) (by simp [headB_len, epB_len, Oct.bts_length]) w14 HP14.out).mono ?_
      rintro e w15 ⟨rfl, hp15, hk15⟩
      have HP15 := Lib.hid hp15
      have HX15 := Lib.hid (HX14.out.trans hk15.below)
      have HO15 := Lib.hid (hk15.obj HO14.out hpb HT.out)
      have e12 := Fr.m12 HF.out HO15.out
      clear hp15 hk15 e9 e10 e11 HP14 HX14 HO14
      obtain ⟨ww, hww⟩ : ∃ ww, ww = f.w := ⟨_, rfl⟩
      rw [← hww] at e12
      have HWW := Lib.hid hww
      clear hww
      cases ww
      · go_wp2_with fail
        refine (penByte_any w1.heap.size (headB f ++ epB f.ec f.ea f.ei ++ Oct.bts f.h.toNat 2 ++ epB f.hc f.ha f.hi) 0 (by omega) (by simp [headB_len, epB_len, Oct.bts_length]) w15 HP15.out).mono ?_
        rintro e w16 ⟨rfl, hp16, hk16⟩
        have HP16 := Lib.hid hp16
        have HX16 := Lib.hid (HX15.out.trans hk16.below)
        clear hp16 hk16 e12 HP15 HX15 HO15
        go_wp2_with fail
        refine (penString_any w1.heap.size (headB f ++ epB f.ec f.ea f.ei ++ Oct.bts f.h.toNat 2 ++ epB f.hc f.ha f.hi ++ [UInt8.ofNat (0 : Int).toNat]) w16 HP16.out).mono ?_
        rintro e w20 ⟨rfl, rfl⟩
        go_wp2_with fail
        refine (sealed_any ⟨(headB f ++ epB f.ec f.ea f.ei ++ Oct.bts f.h.toNat 2 ++ epB f.hc f.ha f.hi ++ [UInt8.ofNat (0 : Int).toNat]).toArray⟩ (by show (headB f ++ epB f.ec f.ea f.ei ++ Oct.bts f.h.toNat 2 ++ epB f.hc f.ha f.hi ++ [UInt8.ofNat (0 : Int).toNat]).toArray.size + 2 ≤ maxLen; unfold maxLen; simp [headB_len, epB_len, Oct.bts_length] <;> omega) _).mono ?_
        rintro e w21 ⟨rfl, hb21⟩
        have HBF := Lib.hid ((HB1.out.trans (show Below g w1 w16 from ⟨HX16.out.os, HX16.out.tape, HX16.out.output, HX16.out.size, fun k hk => HX16.out.block k (by omega)⟩)).trans (hb21.mono (by have := HX16.out.size; have : w1.heap.size ≤ (w16).heap.size := this; omega)))
        clear hb21
        go_wp2
        go_ret2
        refine ⟨?_, by rw [HGG.out]; exact HBF.out⟩
        have hbody : bodyB f = headB f ++ (epB f.ec f.ea f.ei ++ (Oct.bts f.h.toNat 2 ++ (epB f.hc f.ha f.hi ++ [0]))) := by
          unfold bodyB tailB
          rw [if_pos h3, ← HWW.out]; simp
        have e1 : encF f = Crc.sealed ⟨(headB f ++ (epB f.ec f.ea f.ei ++ (Oct.bts f.h.toNat 2 ++ (epB f.hc f.ha f.hi ++ [0])))).toArray⟩ := by unfold encF; rw [if_pos HR.out, hbody]
        have e2 : (if rightP f then (0 : Int) else 3) = 0 := if_pos HR.out
        rw [e1]
        first | rfl | (rw [e2]; rfl)
      · go_wp2_with fail
        refine (penByte_any w1.heap.size (headB f ++ epB f.ec f.ea f.ei ++ Oct.bts f.h.toNat 2 ++ epB f.hc f.ha f.hi) 1 (by omega) (by simp [headB_len, epB_len, Oct.bts_length]) w15 HP15.out).mono ?_
        rintro e w16 ⟨rfl, hp16, hk16⟩
        have HP16 := Lib.hid hp16
        have HX16 := Lib.hid (HX15.out.trans hk16.below)
        clear hp16 hk16 e12 HP15 HX15 HO15
        go_wp2_with fail
        refine (penString_any w1.heap.size (headB f ++ epB f.ec f.ea f.ei ++ Oct.bts f.h.toNat 2 ++ epB f.hc f.ha f.hi ++ [UInt8.ofNat (1 : Int).toNat]) w16 HP16.out).mono ?_
        rintro e w20 ⟨rfl, rfl⟩
        go_wp2_with fail
        refine (sealed_any ⟨(headB f ++ epB f.ec f.ea f.ei ++ Oct.bts f.h.toNat 2 ++ epB f.hc f.ha f.hi ++ [UInt8.ofNat (1 : Int).toNat]).toArray⟩ (by show (headB f ++ epB f.ec f.ea f.ei ++ Oct.bts f.h.toNat 2 ++ epB f.hc f.ha f.hi ++ [UInt8.ofNat (1 : Int).toNat]).toArray.size + 2 ≤ maxLen; unfold maxLen; simp [headB_len, epB_len, Oct.bts_length] <;> omega) _).mono ?_
        rintro e w21 ⟨rfl, hb21⟩
        have HBF := Lib.hid ((HB1.out.trans (show Below g w1 w16 from ⟨HX16.out.os, HX16.out.tape, HX16.out.output, HX16.out.size, fun k hk => HX16.out.block k (by omega)⟩)).trans (hb21.mono (by have := HX16.out.size; have : w1.heap.size ≤ (w16).heap.size := this; omega)))
        clear hb21
        go_wp2
        go_ret2
        refine ⟨?_, by rw [HGG.out]; exact HBF.out⟩
        have hbody : bodyB f = headB f ++ (epB f.ec f.ea f.ei ++ (Oct.bts f.h.toNat 2 ++ (epB f.hc f.ha f.hi ++ [1]))) := by
          unfold bodyB tailB
          rw [if_pos h3, ← HWW.out]; simp
        have e1 : encF f = Crc.sealed ⟨(headB f ++ (epB f.ec f.ea f.ei ++ (Oct.bts f.h.toNat 2 ++ (epB f.hc f.ha f.hi ++ [1])))).toArray⟩ := by unfold encF; rw [if_pos HR.out, hbody]
        have e2 : (if rightP f then (0 : Int) else 3) = 0 := if_pos HR.out
        rw [e1]
        first | rfl | (rw [e2]; rfl)
    · by_cases h4 : f.k = 4
      · have ht := HOK.out
        have hb8 := ht.b
        have hvi := ht.vi
        have hvs := ht.vs
        have hp8 := ht.p
        have hq8 := ht.q
        clear ht
        have HW0 := Lib.hid (show ObjAt w14.drew g C 49 from HO14.out)
        have HP5 := Lib.hid (show PenAt w14.drew w1.heap.size (headB f ++ epB f.ec f.ea f.ei ++ Oct.bts f.h.toNat 2) from HP14.out)
        have HX5 := Lib.hid (show Below w1.heap.size w1.drew w14.drew from ⟨HX14.out.os, HX14.out.tape, HX14.out.output, HX14.out.size, HX14.out.block⟩)
        have HO5 := HW0
        go_wp2_with fail
        go_region_held3 (fun w' => w'.cell? ⟨g, 13, none⟩ = some (.int .u8 f.b) ∧ w'.cell? ⟨g, 14, none⟩ = some (.int .u16 f.vi) ∧ w'.cell? ⟨g, 15, none⟩ = some (.int .u32 f.vs) ∧ w'.cell? ⟨g, 16, none⟩ = some (.int .u8 f.p) ∧ w'.cell? ⟨g, 17, none⟩ = some (.int .u8 f.q) ∧ w'.cell? ⟨g, 18, none⟩ = some (.string f.t))
          (first | exact ⟨Fr.m13 HF.out HO14.out, Fr.m14 HF.out HO14.out, Fr.m15 HF.out HO14.out, Fr.m16 HF.out HO14.out, Fr.m17 HF.out HO14.out, Fr.m18 HF.out HO14.out⟩ | exact ⟨Fr.m13 HF.out HO5.out, Fr.m14 HF.out HO5.out, Fr.m15 HF.out HO5.out, Fr.m16 HF.out HO5.out, Fr.m17 HF.out HO5.out, Fr.m18 HF.out HO5.out⟩ | exact ⟨Fr.m13 HF.out HO6.out, Fr.m14 HF.out HO6.out, Fr.m15 HF.out HO6.out, Fr.m16 HF.out HO6.out, Fr.m17 HF.out HO6.out, Fr.m18 HF.out HO6.out⟩ | exact ⟨Fr.m13 HF.out HO7.out, Fr.m14 HF.out HO7.out, Fr.m15 HF.out HO7.out, Fr.m16 HF.out HO7.out, Fr.m17 HF.out HO7.out, Fr.m18 HF.out HO7.out⟩ | exact ⟨Fr.m13 HF.out HO8.out, Fr.m14 HF.out HO8.out, Fr.m15 HF.out HO8.out, Fr.m16 HF.out HO8.out, Fr.m17 HF.out HO8.out, Fr.m18 HF.out HO8.out⟩ | exact ⟨Fr.m13 HF.out HO9.out, Fr.m14 HF.out HO9.out, Fr.m15 HF.out HO9.out, Fr.m16 HF.out HO9.out, Fr.m17 HF.out HO9.out, Fr.m18 HF.out HO9.out⟩ | exact ⟨Fr.m13 HF.out HO10.out, Fr.m14 HF.out HO10.out, Fr.m15 HF.out HO10.out, Fr.m16 HF.out HO10.out, Fr.m17 HF.out HO10.out, Fr.m18 HF.out HO10.out⟩ | exact ⟨Fr.m13 HF.out HO11.out, Fr.m14 HF.out HO11.out, Fr.m15 HF.out HO11.out, Fr.m16 HF.out HO11.out, Fr.m17 HF.out HO11.out, Fr.m18 HF.out HO11.out⟩)
          (first
            | (go_at_call 63; (with_reducible refine (penByte_any w1.heap.size (headB f ++ epB f.ec f.ea f.ei ++ Oct.bts f.h.toNat 2) (f.b) (by omega) (by simp [Oct.bts_length, headB_len, epB_len] <;> omega) _ HP5.out).mono ?_); rintro e w6 ⟨rfl, hp6, hk6⟩; have HP6 := Lib.hid hp6; have HX6 := Lib.hid (HX5.out.trans hk6.below); have HO6 := Lib.hid (hk6.obj HO5.out hpb HT.out))
            | (go_at_call 64; (with_reducible refine (penTwo_int w1.heap.size (headB f ++ epB f.ec f.ea f.ei ++ Oct.bts f.h.toNat 2 ++ [UInt8.ofNat (f.b).toNat]) (f.vi) (by omega) (by simp [Oct.bts_length, headB_len, epB_len] <;> omega) _ HP6.out).mono ?_); rintro e w7 ⟨rfl, hp7, hk7⟩; have HP7 := Lib.hid hp7; have HX7 := Lib.hid (HX6.out.trans hk7.below); have HO7 := Lib.hid (hk7.obj HO6.out hpb HT.out))
            | (go_at_call 66; (with_reducible refine (penFour_int w1.heap.size (headB f ++ epB f.ec f.ea f.ei ++ Oct.bts f.h.toNat 2 ++ [UInt8.ofNat (f.b).toNat] ++ Oct.bts (f.vi).toNat 2) (f.vs) (by omega) (by simp [Oct.bts_length, headB_len, epB_len] <;> omega) _ HP7.out).mono ?_); rintro e w8 ⟨rfl, hp8, hk8⟩; have HP8 := Lib.hid hp8; have HX8 := Lib.hid (HX7.out.trans hk8.below); have HO8 := Lib.hid (hk8.obj HO7.out hpb HT.out))
            | (go_at_call 63; (with_reducible refine (penByte_any w1.heap.size (headB f ++ epB f.ec f.ea f.ei ++ Oct.bts f.h.toNat 2 ++ [UInt8.ofNat (f.b).toNat] ++ Oct.bts (f.vi).toNat 2 ++ Oct.bts (f.vs).toNat 4) (f.p) (by omega) (by simp [Oct.bts_length, headB_len, epB_len] <;> omega) _ HP8.out).mono ?_); rintro e w9 ⟨rfl, hp9, hk9⟩; have HP9 := Lib.hid hp9; have HX9 := Lib.hid (HX8.out.trans hk9.below); have HO9 := Lib.hid (hk9.obj HO8.out hpb HT.out))
            | (go_at_call 63; (with_reducible refine (penByte_any w1.heap.size (headB f ++ epB f.ec f.ea f.ei ++ Oct.bts f.h.toNat 2 ++ [UInt8.ofNat (f.b).toNat] ++ Oct.bts (f.vi).toNat 2 ++ Oct.bts (f.vs).toNat 4 ++ [UInt8.ofNat (f.p).toNat]) (f.q) (by omega) (by simp [Oct.bts_length, headB_len, epB_len] <;> omega) _ HP9.out).mono ?_); rintro e w10 ⟨rfl, hp10, hk10⟩; have HP10 := Lib.hid hp10; have HX10 := Lib.hid (HX9.out.trans hk10.below); have HO10 := Lib.hid (hk10.obj HO9.out hpb HT.out))
            | (go_at_call 67; (with_reducible refine (penText_any w1.heap.size (headB f ++ epB f.ec f.ea f.ei ++ Oct.bts f.h.toNat 2 ++ [UInt8.ofNat (f.b).toNat] ++ Oct.bts (f.vi).toNat 2 ++ Oct.bts (f.vs).toNat 4 ++ [UInt8.ofNat (f.p).toNat] ++ [UInt8.ofNat (f.q).toNat]) (f.t) (by simp [Oct.bts_length, headB_len, epB_len] <;> omega) _ HP10.out).mono ?_); rintro e w11 ⟨rfl, hp11, hk11⟩; have HP11 := Lib.hid hp11; have HX11 := Lib.hid (HX10.out.trans hk11.below); have HO11 := Lib.hid (hk11.obj HO10.out hpb HT.out)))
        clear hp6 hk6 hp7 hk7 hp8 hk8 hp9 hk9 hp10 hk10 hp11 hk11 HP5 HX5 HO5 HP6 HX6 HO6 HP7 HX7 HO7 HP8 HX8 HO8 HP9 HX9 HO9 HP10 HX10 HO10 HW0 HP14 HX14 HO14
        go_wp2_with fail
        refine (penString_any w1.heap.size (headB f ++ epB f.ec f.ea f.ei ++ Oct.bts f.h.toNat 2 ++ [UInt8.ofNat (f.b).toNat] ++ Oct.bts (f.vi).toNat 2 ++ Oct.bts (f.vs).toNat 4 ++ [UInt8.ofNat (f.p).toNat] ++ [UInt8.ofNat (f.q).toNat] ++ f.t.data.toList) w11 HP11.out).mono ?_
        rintro e w20 ⟨rfl, rfl⟩
        go_wp2_with fail
        refine (sealed_any ⟨(headB f ++ epB f.ec f.ea f.ei ++ Oct.bts f.h.toNat 2 ++ [UInt8.ofNat (f.b).toNat] ++ Oct.bts (f.vi).toNat 2 ++ Oct.bts (f.vs).toNat 4 ++ [UInt8.ofNat (f.p).toNat] ++ [UInt8.ofNat (f.q).toNat] ++ f.t.data.toList).toArray⟩ (by show (headB f ++ epB f.ec f.ea f.ei ++ Oct.bts f.h.toNat 2 ++ [UInt8.ofNat (f.b).toNat] ++ Oct.bts (f.vi).toNat 2 ++ Oct.bts (f.vs).toNat 4 ++ [UInt8.ofNat (f.p).toNat] ++ [UInt8.ofNat (f.q).toNat] ++ f.t.data.toList).toArray.size + 2 ≤ maxLen; unfold maxLen; simp [headB_len, epB_len, Oct.bts_length] <;> omega) _).mono ?_
        rintro e w21 ⟨rfl, hb21⟩
        have HBF := Lib.hid ((HB1.out.trans (show Below g w1 w11 from ⟨HX11.out.os, HX11.out.tape, HX11.out.output, HX11.out.size, fun k hk => HX11.out.block k (by omega)⟩)).trans (hb21.mono (by have := HX11.out.size; have : w1.heap.size ≤ (w11).heap.size := this; omega)))
        clear hb21
        go_wp2
        go_ret2
        refine ⟨?_, by rw [HGG.out]; exact HBF.out⟩
        have hbody : bodyB f = headB f ++ (epB f.ec f.ea f.ei ++ (Oct.bts f.h.toNat 2 ++ UInt8.ofNat f.b.toNat :: (Oct.bts f.vi.toNat 2 ++ (Oct.bts f.vs.toNat 4 ++ UInt8.ofNat f.p.toNat :: UInt8.ofNat f.q.toNat :: f.t.data.toList)))) := by
          unfold bodyB tailB
          rw [if_neg h3, if_pos h4]; simp
        have e1 : encF f = Crc.sealed ⟨(headB f ++ (epB f.ec f.ea f.ei ++ (Oct.bts f.h.toNat 2 ++ UInt8.ofNat f.b.toNat :: (Oct.bts f.vi.toNat 2 ++ (Oct.bts f.vs.toNat 4 ++ UInt8.ofNat f.p.toNat :: UInt8.ofNat f.q.toNat :: f.t.data.toList))))).toArray⟩ := by unfold encF; rw [if_pos HR.out, hbody]
        have e2 : (if rightP f then (0 : Int) else 3) = 0 := if_pos HR.out
        rw [e1]
        first | rfl | (rw [e2]; rfl)
      · go_wp2_with fail
        refine (penString_any w1.heap.size (headB f ++ epB f.ec f.ea f.ei ++ Oct.bts f.h.toNat 2) w14 HP14.out).mono ?_
        rintro e w20 ⟨rfl, rfl⟩
        go_wp2_with fail
        refine (sealed_any ⟨(headB f ++ epB f.ec f.ea f.ei ++ Oct.bts f.h.toNat 2).toArray⟩ (by show (headB f ++ epB f.ec f.ea f.ei ++ Oct.bts f.h.toNat 2).toArray.size + 2 ≤ maxLen; unfold maxLen; simp [headB_len, epB_len, Oct.bts_length] <;> omega) _).mono ?_
        rintro e w21 ⟨rfl, hb21⟩
        have HBF := Lib.hid ((HB1.out.trans (show Below g w1 w14 from ⟨HX14.out.os, HX14.out.tape, HX14.out.output, HX14.out.size, fun k hk => HX14.out.block k (by omega)⟩)).trans (hb21.mono (by have := HX14.out.size; have : w1.heap.size ≤ (w14).heap.size := this; omega)))
        clear hb21
        go_wp2
        go_ret2
        refine ⟨?_, by rw [HGG.out]; exact HBF.out⟩
        have hbody : bodyB f = headB f ++ (epB f.ec f.ea f.ei ++ Oct.bts f.h.toNat 2) := by
          unfold bodyB tailB
          rw [if_neg h3, if_neg h4]; simp
        have e1 : encF f = Crc.sealed ⟨(headB f ++ (epB f.ec f.ea f.ei ++ Oct.bts f.h.toNat 2)).toArray⟩ := by unfold encF; rw [if_pos HR.out, hbody]
        have e2 : (if rightP f then (0 : Int) else 3) = 0 := if_pos HR.out
        rw [e1]
        first | rfl | (rw [e2]; rfl)
  · go_wp2
    go_ret2
    refine ⟨?_, by rw [HGG.out]; exact HB1.out⟩
    have e1 : encF f = ⟨#[]⟩ := by unfold encF; rw [if_neg hr]
    have e2 : (if rightP f then (0 : Int) else 3) = 3 := if_neg hr
    rw [e1]
    first | rfl | (rw [e2]; rfl)
end Go.Proofs.YtmehafolnpkmhaaDoor
