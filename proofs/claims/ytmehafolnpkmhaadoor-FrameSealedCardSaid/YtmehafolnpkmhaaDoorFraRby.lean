/- The reference's Bytes. -/
import Derived.Test.YtmehafolnpkmhaaDoorFraRep
import Derived.Test.YtmehafolnpkmhaaDoorFraRref
namespace Go.Proofs.YtmehafolnpkmhaaDoor
open Go.RowKit
theorem tailB_le {f : Fr} (h : rightP f) : (tailB f).length ≤ 27 := by
  have := right_t h
  unfold tailB
  split
  · simp [epB_len]
  · split
    · have h2 : f.t.data.toList.length = f.t.size := Array.length_toList
      simp only [List.length_append, Oct.bts_length, List.length_cons, List.length_nil, h2]
      omega
    · simp
theorem sizeF_tail {f : Fr} (h : rightP f) : ((tailB f).length : Int) + 17 = sizeF f := by
  have hr := h
  unfold sizeF
  rw [if_pos hr]
  obtain ⟨hk, -, -, -, hb2⟩ := h
  unfold tailB
  by_cases e : f.k = 4
  · rw [if_pos e] at hb2
    have h1 : (shapeF f.k).2.2.1 = 27 := by rw [e]; decide
    have h2 : f.t.data.toList.length = f.t.size := Array.length_toList
    rw [h1, if_neg (by omega), if_pos e]
    simp only [List.length_append, Oct.bts_length, List.length_cons, List.length_nil, h2]
    omega
  · rw [if_neg e] at hb2
    have h0 : f.t.size = 0 := by rw [bare_t hb2.2.2.2.2.2]; rfl
    rw [if_neg e, h0]
    by_cases e3 : f.k = 3
    · have h1 : (shapeF f.k).2.2.1 = 23 := by rw [e3]; decide
      rw [h1, if_pos e3]
      simp only [List.length_append, epB_len, List.length_cons, List.length_nil]
      decide
    · have h1 : (shapeF f.k).2.2.1 = 17 := by
        rcases (by omega : f.k = 1 ∨ f.k = 2 ∨ f.k = 5) with e | e | e <;> (rw [e]; decide)
      rw [h1, if_neg e3]
      decide
theorem rby_end {f : Fr} (hr : rightP f) {b8 b7 s9 rs : ByteArray} {m9 : Nat} (h8 : b8 = ⟨(Oct.bts f.k.toNat 1).toArray⟩) (h7 : b7 = ⟨(Oct.bts ((m9 : Int) + 4).toNat 1).toArray⟩)
    (h9 : s9 = (⟨(Oct.bts f.s.toNat 1).toArray⟩ : ByteArray) ++ ⟨(Oct.bts f.si.toNat 2).toArray⟩ ++ ⟨(Oct.bts f.d.toNat 1).toArray⟩ ++ ⟨(Oct.bts f.di.toNat 2).toArray⟩ ++ ⟨(epB f.ec f.ea f.ei).toArray⟩ ++ ⟨(Oct.bts f.h.toNat 2).toArray⟩ ++ rs)
    (hrt : rs = ⟨(tailB f).toArray⟩) (hm : (m9 : Int) = 13 + (rs.size : Int)) : Crc.rsealed (b8 ++ b7 ++ s9) = encF f := by
  have hsz : (m9 : Int) + 4 = sizeF f := by
    have := sizeF_tail hr
    rw [hrt, str_size] at hm
    omega
  rw [Crc.rsealed_eq]
  unfold encF
  rw [if_pos hr, h8, h7, h9, hrt, hsz]
  simp only [str_add, bts_one]
  congr 3
  try unfold bodyB headB
  try simp only [List.append_assoc]
set_option maxRecDepth 100000 in
set_option maxHeartbeats 8000000 in
theorem rbytesF_any (C : Array Value) (f : Fr) (h : C = f.cells) (hok : f.ok) (hr : rightP f) (w : World) :
    Calls Tryd.prog 48 #[.agg C] w fun e w' => e = .returned (.string (encF f)) ∧ Below w.heap.size w w' := by
  have hC := Fr.size h
  have HF := Lib.hid h
  have HO := Lib.hid (ObjAt.new w C 49)
  have HX := Lib.hid ((Below.refl w.heap.size w).alloc (Nat.le_refl _) (.cells C 49))
  have ht16 := right_t hr
  have hsz := right_bd hr
  have hk5 := hr.1
  have HR := Lib.hid hr
  have hs8 := hok.s
  have hd8 := hok.d
  have hsi := hok.si
  have hdi := hok.di
  have hec := hok.ec
  have hea := hok.ea
  have hei := hok.ei
  have hh := hok.h
  have hhc := hok.hc
  have hha := hok.ha
  have hhi := hok.hi
  have hb8 := hok.b
  have hvi := hok.vi
  have hvs := hok.vs
  have hp8 := hok.p
  have hq8 := hok.q
  have hw0 : IntKind.u32.wrap f.k = f.k := by rw [IntKind.wrap_u32']; omega
  have hw1 : IntKind.u32.wrap f.s = f.s := by rw [IntKind.wrap_u32']; omega
  have hw2 : IntKind.u32.wrap f.d = f.d := by rw [IntKind.wrap_u32']; omega
  have hw3 : IntKind.u32.wrap f.si = f.si := by rw [IntKind.wrap_u32']; omega
  have hw4 : IntKind.u32.wrap f.di = f.di := by rw [IntKind.wrap_u32']; omega
  have hw5 : IntKind.u32.wrap f.h = f.h := by rw [IntKind.wrap_u32']; omega
  have hw6 : IntKind.u32.wrap f.b = f.b := by rw [IntKind.wrap_u32']; omega
  have hw7 : IntKind.u32.wrap f.vi = f.vi := by rw [IntKind.wrap_u32']; omega
  have hw8 : IntKind.u32.wrap f.p = f.p := by rw [IntKind.wrap_u32']; omega
  have hw9 : IntKind.u32.wrap f.q = f.q := by rw [IntKind.wrap_u32']; omega
  have hl1 : ∀ n k, (⟨(Oct.bts n k).toArray⟩ : ByteArray).size = k := fun n k => by rw [str_size, Oct.bts_length]
  have hl2 : ∀ a b c, (⟨(epB a b c).toArray⟩ : ByteArray).size = 5 := fun a b c => by rw [str_size, epB_len]
  clear h hok hr
  have d0 := Fr.m0 HF.out HO.out
  go_enter Tryd.func48, Tryd.ntmps48
  go_wp2_with ((with_reducible refine wpList_at 6 ?ho_h0 ?h_h0); (case ho_h0 => rfl); refine unhalt ?_)
  generalize w.alloc (.cells C 49) = w1 at *
  generalize hgg : w.heap.size = g at *
  have HGG := Lib.hid hgg
  clear hgg
  rcases (by omega : f.k = 3 ∨ f.k = 4 ∨ (f.k = 1 ∨ f.k = 2 ∨ f.k = 5)) with hk | hk | hk
  · refine halt ?_
    have d9 := Fr.m9 HF.out HO.out
    have d10 := Fr.m10 HF.out HO.out
    have d11 := Fr.m11 HF.out HO.out
    have d12 := Fr.m12 HF.out HO.out
    rw [hk] at d0
    obtain ⟨wb, hwb⟩ : ∃ x, x = f.w := ⟨_, rfl⟩
    rw [← hwb] at d12
    have HWB := Lib.hid hwb
    clear hwb
    clear d0
    have d0 := Fr.m0 HF.out HO.out
    rw [hk] at d0
    cases wb
    · go_wp2_with fail
      refine (repoch_any f.hc f.ha f.hi hhc hha hhi _).mono ?_
      rintro e w3 ⟨rfl, hb3⟩
      have HX3 := Lib.hid (HX.out.trans (hb3.mono (Nat.le_of_lt HO.out.lt)))
      have HO3 := Lib.hid ((Keep.of_below (S := fun _ => False) hb3).obj HO.out (fun h => h))
      go_wp2_with fail
      refine (rbytes_one 0 (by omega) _).mono ?_
      rintro e w4 ⟨rfl, hb4⟩
      have HX4 := Lib.hid (HX3.out.trans (hb4.mono (Nat.le_of_lt HO3.out.lt)))
      have HO4 := Lib.hid ((Keep.of_below (S := fun _ => False) hb4).obj HO3.out (fun h => h))
      clear d0 d9 d10 d11 d12 hb3 hb4
      have e0 := Fr.m0 HF.out HO4.out
      rw [hk] at e0
      go_wp2_with fail
      obtain ⟨rs, hrs⟩ : ∃ x, x = (⟨(epB f.hc f.ha f.hi).toArray⟩ : ByteArray) ++ ⟨(Oct.bts 0 1).toArray⟩ := ⟨_, rfl⟩
      rw [← hrs]
      have hrt : rs = ⟨(tailB f).toArray⟩ := by
        rw [hrs]
        rw [str_add, bts_one]
        unfold tailB
        rw [if_pos hk, ← HWB.out]
        rfl
      have hrz : rs.size ≤ 27 := by
        rw [hrt, str_size]
        exact tailB_le HR.out
      have HRT := Lib.hid hrt
      have r1 : ¬ (9223372036854775807 < 13 + rs.size) := by omega
      clear hrs hrt
      have HK := Lib.hid hk
      clear hk
      have HOy0 := Lib.hid (show ObjAt w4.drew g C 49 from HO4.out)
      have HXy0 := Lib.hid (show Below g w w4.drew from ⟨HX4.out.os, HX4.out.tape, HX4.out.output, HX4.out.size, HX4.out.block⟩)
      go_region_held3 (fun w' => w'.cell? ⟨g, 1, none⟩ = some (.int .u8 f.s) ∧ w'.cell? ⟨g, 2, none⟩ = some (.int .u8 f.d) ∧ w'.cell? ⟨g, 3, none⟩ = some (.int .u16 f.si) ∧ w'.cell? ⟨g, 4, none⟩ = some (.int .u16 f.di) ∧ w'.cell? ⟨g, 5, none⟩ = some (.int .u16 f.ec) ∧ w'.cell? ⟨g, 6, none⟩ = some (.int .u8 f.ea) ∧ w'.cell? ⟨g, 7, none⟩ = some (.int .u16 f.ei) ∧ w'.cell? ⟨g, 8, none⟩ = some (.int .u16 f.h))
        (first | exact ⟨Fr.m1 HF.out HOy0.out, Fr.m2 HF.out HOy0.out, Fr.m3 HF.out HOy0.out, Fr.m4 HF.out HOy0.out, Fr.m5 HF.out HOy0.out, Fr.m6 HF.out HOy0.out, Fr.m7 HF.out HOy0.out, Fr.m8 HF.out HOy0.out⟩ | exact ⟨Fr.m1 HF.out HOy1.out, Fr.m2 HF.out HOy1.out, Fr.m3 HF.out HOy1.out, Fr.m4 HF.out HOy1.out, Fr.m5 HF.out HOy1.out, Fr.m6 HF.out HOy1.out, Fr.m7 HF.out HOy1.out, Fr.m8 HF.out HOy1.out⟩ | exact ⟨Fr.m1 HF.out HOy2.out, Fr.m2 HF.out HOy2.out, Fr.m3 HF.out HOy2.out, Fr.m4 HF.out HOy2.out, Fr.m5 HF.out HOy2.out, Fr.m6 HF.out HOy2.out, Fr.m7 HF.out HOy2.out, Fr.m8 HF.out HOy2.out⟩ | exact ⟨Fr.m1 HF.out HOy3.out, Fr.m2 HF.out HOy3.out, Fr.m3 HF.out HOy3.out, Fr.m4 HF.out HOy3.out, Fr.m5 HF.out HOy3.out, Fr.m6 HF.out HOy3.out, Fr.m7 HF.out HOy3.out, Fr.m8 HF.out HOy3.out⟩ | exact ⟨Fr.m1 HF.out HOy4.out, Fr.m2 HF.out HOy4.out, Fr.m3 HF.out HOy4.out, Fr.m4 HF.out HOy4.out, Fr.m5 HF.out HOy4.out, Fr.m6 HF.out HOy4.out, Fr.m7 HF.out HOy4.out, Fr.m8 HF.out HOy4.out⟩ | exact ⟨Fr.m1 HF.out HOy5.out, Fr.m2 HF.out HOy5.out, Fr.m3 HF.out HOy5.out, Fr.m4 HF.out HOy5.out, Fr.m5 HF.out HOy5.out, Fr.m6 HF.out HOy5.out, Fr.m7 HF.out HOy5.out, Fr.m8 HF.out HOy5.out⟩ | exact ⟨Fr.m1 HF.out HOy6.out, Fr.m2 HF.out HOy6.out, Fr.m3 HF.out HOy6.out, Fr.m4 HF.out HOy6.out, Fr.m5 HF.out HOy6.out, Fr.m6 HF.out HOy6.out, Fr.m7 HF.out HOy6.out, Fr.m8 HF.out HOy6.out⟩)
        (first
          | (go_at_call 78; (with_reducible refine (rbytes_one f.s (by omega) _).mono ?_); rintro e wy1 ⟨rfl, hby1⟩; have HXy1 := Lib.hid (HXy0.out.trans (hby1.mono (Nat.le_of_lt HOy0.out.lt))); have HOy1 := Lib.hid ((Keep.of_below (S := fun _ => False) hby1).obj HOy0.out (fun h => h)))
          | (go_at_call 78; (with_reducible refine (rbytes_two f.si (by omega) _).mono ?_); rintro e wy2 ⟨rfl, hby2⟩; have HXy2 := Lib.hid (HXy1.out.trans (hby2.mono (Nat.le_of_lt HOy1.out.lt))); have HOy2 := Lib.hid ((Keep.of_below (S := fun _ => False) hby2).obj HOy1.out (fun h => h)))
          | (go_at_call 78; (with_reducible refine (rbytes_one f.d (by omega) _).mono ?_); rintro e wy3 ⟨rfl, hby3⟩; have HXy3 := Lib.hid (HXy2.out.trans (hby3.mono (Nat.le_of_lt HOy2.out.lt))); have HOy3 := Lib.hid ((Keep.of_below (S := fun _ => False) hby3).obj HOy2.out (fun h => h)))
          | (go_at_call 78; (with_reducible refine (rbytes_two f.di (by omega) _).mono ?_); rintro e wy4 ⟨rfl, hby4⟩; have HXy4 := Lib.hid (HXy3.out.trans (hby4.mono (Nat.le_of_lt HOy3.out.lt))); have HOy4 := Lib.hid ((Keep.of_below (S := fun _ => False) hby4).obj HOy3.out (fun h => h)))
          | (go_at_call 77; (with_reducible refine (repoch_any f.ec f.ea f.ei hec hea hei _).mono ?_); rintro e wy5 ⟨rfl, hby5⟩; have HXy5 := Lib.hid (HXy4.out.trans (hby5.mono (Nat.le_of_lt HOy4.out.lt))); have HOy5 := Lib.hid ((Keep.of_below (S := fun _ => False) hby5).obj HOy4.out (fun h => h)))
          | (go_at_call 78; (with_reducible refine (rbytes_two f.h (by omega) _).mono ?_); rintro e wy6 ⟨rfl, hby6⟩; have HXy6 := Lib.hid (HXy5.out.trans (hby6.mono (Nat.le_of_lt HOy5.out.lt))); have HOy6 := Lib.hid ((Keep.of_below (S := fun _ => False) hby6).obj HOy5.out (fun h => h))))
      obtain ⟨s9, hs9⟩ : ∃ x, x = (⟨(Oct.bts f.s.toNat 1).toArray⟩ : ByteArray) ++ ⟨(Oct.bts f.si.toNat 2).toArray⟩ ++ ⟨(Oct.bts f.d.toNat 1).toArray⟩ ++ ⟨(Oct.bts f.di.toNat 2).toArray⟩ ++ ⟨(epB f.ec f.ea f.ei).toArray⟩ ++ ⟨(Oct.bts f.h.toNat 2).toArray⟩ ++ rs := ⟨_, rfl⟩
      rw [← hs9]
      have hz9 : (s9.size : Int) = 13 + (rs.size : Int) := by
        rw [hs9]
        simp only [ByteArray.size_append, hl1, hl2]
        omega
      have HS9 := Lib.hid hs9
      obtain ⟨m9, hm9⟩ : ∃ x, x = s9.size := ⟨_, rfl⟩
      have hb9 : (m9 : Int) ≤ 40 := by omega
      have hm99 : s9.size = m9 := hm9.symm
      have HM9 := Lib.hid (show (m9 : Int) = 13 + (rs.size : Int) by rw [hm9]; exact hz9)
      clear hs9 hz9 hm9 r1 hrz
      clear hby1 hby2 hby3 hby4 hby5
      have hk0 := Fr.m0 HF.out HOy6.out
      go_wp2_with fail
      refine (rbytes_one f.k (by omega) _).mono ?_
      rintro e wz1 ⟨rfl, hbz1⟩
      have HXz1 := Lib.hid (HXy6.out.trans (hbz1.mono (Nat.le_of_lt HOy6.out.lt)))
      have HOz1 := Lib.hid ((Keep.of_below (S := fun _ => False) hbz1).obj HOy6.out (fun h => h))
      go_wp2_with fail
      obtain ⟨b8, hb8'⟩ : ∃ x, x = (⟨(Oct.bts f.k.toNat 1).toArray⟩ : ByteArray) := ⟨_, rfl⟩
      have hz8 : b8.size = 1 := by rw [hb8', hl1]
      rw [← hb8']
      have HB8 := Lib.hid hb8'
      clear hb8'
      refine (rbytes_one ((m9 : Int) + 4) (by omega) _).mono ?_
      rintro e wz2 ⟨rfl, hbz2⟩
      have HXz2 := Lib.hid (HXz1.out.trans (hbz2.mono (Nat.le_of_lt HOz1.out.lt)))
      have HOz2 := Lib.hid ((Keep.of_below (S := fun _ => False) hbz2).obj HOz1.out (fun h => h))
      obtain ⟨b7, hb7'⟩ : ∃ x, x = (⟨(Oct.bts ((m9 : Int) + 4).toNat 1).toArray⟩ : ByteArray) := ⟨_, rfl⟩
      have hz7 : b7.size = 1 := by rw [hb7', hl1]
      rw [← hb7']
      have HB7 := Lib.hid hb7'
      clear hb7'
      have r2 : ¬ (9223372036854775807 < 2 + m9) := by omega
      have r3 : ¬ (9223372036854775807 < 1 + 1 + m9) := by omega
      go_wp2_with fail
      refine (rsealed_any (b8 ++ b7 ++ s9) (by simp only [ByteArray.size_append]; unfold maxLen; omega) _).mono ?_
      rintro e wz3 ⟨rfl, hbz3⟩
      have HXz3 := Lib.hid (HXz2.out.trans (hbz3.mono (Nat.le_of_lt HOz2.out.lt)))
      go_wp2
      go_ret
      refine ⟨?_, by rw [HGG.out]; exact HXz3.out⟩
      rw [rby_end HR.out HB8.out HB7.out HS9.out HRT.out HM9.out]
      rfl
    · go_wp2_with fail
      refine (repoch_any f.hc f.ha f.hi hhc hha hhi _).mono ?_
      rintro e w3 ⟨rfl, hb3⟩
      have HX3 := Lib.hid (HX.out.trans (hb3.mono (Nat.le_of_lt HO.out.lt)))
      have HO3 := Lib.hid ((Keep.of_below (S := fun _ => False) hb3).obj HO.out (fun h => h))
      go_wp2_with fail
      refine (rbytes_one 1 (by omega) _).mono ?_
      rintro e w4 ⟨rfl, hb4⟩
      have HX4 := Lib.hid (HX3.out.trans (hb4.mono (Nat.le_of_lt HO3.out.lt)))
      have HO4 := Lib.hid ((Keep.of_below (S := fun _ => False) hb4).obj HO3.out (fun h => h))
      clear d0 d9 d10 d11 d12 hb3 hb4
      have e0 := Fr.m0 HF.out HO4.out
      rw [hk] at e0
      go_wp2_with fail
      obtain ⟨rs, hrs⟩ : ∃ x, x = (⟨(epB f.hc f.ha f.hi).toArray⟩ : ByteArray) ++ ⟨(Oct.bts 1 1).toArray⟩ := ⟨_, rfl⟩
      rw [← hrs]
      have hrt : rs = ⟨(tailB f).toArray⟩ := by
        rw [hrs]
        rw [str_add, bts_one]
        unfold tailB
        rw [if_pos hk, ← HWB.out]
        rfl
      have hrz : rs.size ≤ 27 := by
        rw [hrt, str_size]
        exact tailB_le HR.out
      have HRT := Lib.hid hrt
      have r1 : ¬ (9223372036854775807 < 13 + rs.size) := by omega
      clear hrs hrt
      have HK := Lib.hid hk
      clear hk
      have HOy0 := Lib.hid (show ObjAt w4.drew g C 49 from HO4.out)
      have HXy0 := Lib.hid (show Below g w w4.drew from ⟨HX4.out.os, HX4.out.tape, HX4.out.output, HX4.out.size, HX4.out.block⟩)
      go_region_held3 (fun w' => w'.cell? ⟨g, 1, none⟩ = some (.int .u8 f.s) ∧ w'.cell? ⟨g, 2, none⟩ = some (.int .u8 f.d) ∧ w'.cell? ⟨g, 3, none⟩ = some (.int .u16 f.si) ∧ w'.cell? ⟨g, 4, none⟩ = some (.int .u16 f.di) ∧ w'.cell? ⟨g, 5, none⟩ = some (.int .u16 f.ec) ∧ w'.cell? ⟨g, 6, none⟩ = some (.int .u8 f.ea) ∧ w'.cell? ⟨g, 7, none⟩ = some (.int .u16 f.ei) ∧ w'.cell? ⟨g, 8, none⟩ = some (.int .u16 f.h))
        (first | exact ⟨Fr.m1 HF.out HOy0.out, Fr.m2 HF.out HOy0.out, Fr.m3 HF.out HOy0.out, Fr.m4 HF.out HOy0.out, Fr.m5 HF.out HOy0.out, Fr.m6 HF.out HOy0.out, Fr.m7 HF.out HOy0.out, Fr.m8 HF.out HOy0.out⟩ | exact ⟨Fr.m1 HF.out HOy1.out, Fr.m2 HF.out HOy1.out, Fr.m3 HF.out HOy1.out, Fr.m4 HF.out HOy1.out, Fr.m5 HF.out HOy1.out, Fr.m6 HF.out HOy1.out, Fr.m7 HF.out HOy1.out, Fr.m8 HF.out HOy1.out⟩ | exact ⟨Fr.m1 HF.out HOy2.out, Fr.m2 HF.out HOy2.out, Fr.m3 HF.out HOy2.out, Fr.m4 HF.out HOy2.out, Fr.m5 HF.out HOy2.out, Fr.m6 HF.out HOy2.out, Fr.m7 HF.out HOy2.out, Fr.m8 HF.out HOy2.out⟩ | exact ⟨Fr.m1 HF.out HOy3.out, Fr.m2 HF.out HOy3.out, Fr.m3 HF.out HOy3.out, Fr.m4 HF.out HOy3.out, Fr.m5 HF.out HOy3.out, Fr.m6 HF.out HOy3.out, Fr.m7 HF.out HOy3.out, Fr.m8 HF.out HOy3.out⟩ | exact ⟨Fr.m1 HF.out HOy4.out, Fr.m2 HF.out HOy4.out, Fr.m3 HF.out HOy4.out, Fr.m4 HF.out HOy4.out, Fr.m5 HF.out HOy4.out, Fr.m6 HF.out HOy4.out, Fr.m7 HF.out HOy4.out, Fr.m8 HF.out HOy4.out⟩ | exact ⟨Fr.m1 HF.out HOy5.out, Fr.m2 HF.out HOy5.out, Fr.m3 HF.out HOy5.out, Fr.m4 HF.out HOy5.out, Fr.m5 HF.out HOy5.out, Fr.m6 HF.out HOy5.out, Fr.m7 HF.out HOy5.out, Fr.m8 HF.out HOy5.out⟩ | exact ⟨Fr.m1 HF.out HOy6.out, Fr.m2 HF.out HOy6.out, Fr.m3 HF.out HOy6.out, Fr.m4 HF.out HOy6.out, Fr.m5 HF.out HOy6.out, Fr.m6 HF.out HOy6.out, Fr.m7 HF.out HOy6.out, Fr.m8 HF.out HOy6.out⟩)
        (first
          | (go_at_call 78; (with_reducible refine (rbytes_one f.s (by omega) _).mono ?_); rintro e wy1 ⟨rfl, hby1⟩; have HXy1 := Lib.hid (HXy0.out.trans (hby1.mono (Nat.le_of_lt HOy0.out.lt))); have HOy1 := Lib.hid ((Keep.of_below (S := fun _ => False) hby1).obj HOy0.out (fun h => h)))
          | (go_at_call 78; (with_reducible refine (rbytes_two f.si (by omega) _).mono ?_); rintro e wy2 ⟨rfl, hby2⟩; have HXy2 := Lib.hid (HXy1.out.trans (hby2.mono (Nat.le_of_lt HOy1.out.lt))); have HOy2 := Lib.hid ((Keep.of_below (S := fun _ => False) hby2).obj HOy1.out (fun h => h)))
          | (go_at_call 78; (with_reducible refine (rbytes_one f.d (by omega) _).mono ?_); rintro e wy3 ⟨rfl, hby3⟩; have HXy3 := Lib.hid (HXy2.out.trans (hby3.mono (Nat.le_of_lt HOy2.out.lt))); have HOy3 := Lib.hid ((Keep.of_below (S := fun _ => False) hby3).obj HOy2.out (fun h => h)))
          | (go_at_call 78; (with_reducible refine (rbytes_two f.di (by omega) _).mono ?_); rintro e wy4 ⟨rfl, hby4⟩; have HXy4 := Lib.hid (HXy3.out.trans (hby4.mono (Nat.le_of_lt HOy3.out.lt))); have HOy4 := Lib.hid ((Keep.of_below (S := fun _ => False) hby4).obj HOy3.out (fun h => h)))
          | (go_at_call 77; (with_reducible refine (repoch_any f.ec f.ea f.ei hec hea hei _).mono ?_); rintro e wy5 ⟨rfl, hby5⟩; have HXy5 := Lib.hid (HXy4.out.trans (hby5.mono (Nat.le_of_lt HOy4.out.lt))); have HOy5 := Lib.hid ((Keep.of_below (S := fun _ => False) hby5).obj HOy4.out (fun h => h)))
          | (go_at_call 78; (with_reducible refine (rbytes_two f.h (by omega) _).mono ?_); rintro e wy6 ⟨rfl, hby6⟩; have HXy6 := Lib.hid (HXy5.out.trans (hby6.mono (Nat.le_of_lt HOy5.out.lt))); have HOy6 := Lib.hid ((Keep.of_below (S := fun _ => False) hby6).obj HOy5.out (fun h => h))))
      obtain ⟨s9, hs9⟩ : ∃ x, x = (⟨(Oct.bts f.s.toNat 1).toArray⟩ : ByteArray) ++ ⟨(Oct.bts f.si.toNat 2).toArray⟩ ++ ⟨(Oct.bts f.d.toNat 1).toArray⟩ ++ ⟨(Oct.bts f.di.toNat 2).toArray⟩ ++ ⟨(epB f.ec f.ea f.ei).toArray⟩ ++ ⟨(Oct.bts f.h.toNat 2).toArray⟩ ++ rs := ⟨_, rfl⟩
      rw [← hs9]
      have hz9 : (s9.size : Int) = 13 + (rs.size : Int) := by
        rw [hs9]
        simp only [ByteArray.size_append, hl1, hl2]
        omega
      have HS9 := Lib.hid hs9
      obtain ⟨m9, hm9⟩ : ∃ x, x = s9.size := ⟨_, rfl⟩
      have hb9 : (m9 : Int) ≤ 40 := by omega
      have hm99 : s9.size = m9 := hm9.symm
      have HM9 := Lib.hid (show (m9 : Int) = 13 + (rs.size : Int) by rw [hm9]; exact hz9)
      clear hs9 hz9 hm9 r1 hrz
      clear hby1 hby2 hby3 hby4 hby5
      have hk0 := Fr.m0 HF.out HOy6.out
      go_wp2_with fail
      refine (rbytes_one f.k (by omega) _).mono ?_
      rintro e wz1 ⟨rfl, hbz1⟩
      have HXz1 := Lib.hid (HXy6.out.trans (hbz1.mono (Nat.le_of_lt HOy6.out.lt)))
      have HOz1 := Lib.hid ((Keep.of_below (S := fun _ => False) hbz1).obj HOy6.out (fun h => h))
      go_wp2_with fail
      obtain ⟨b8, hb8'⟩ : ∃ x, x = (⟨(Oct.bts f.k.toNat 1).toArray⟩ : ByteArray) := ⟨_, rfl⟩
      have hz8 : b8.size = 1 := by rw [hb8', hl1]
      rw [← hb8']
      have HB8 := Lib.hid hb8'
      clear hb8'
      refine (rbytes_one ((m9 : Int) + 4) (by omega) _).mono ?_
      rintro e wz2 ⟨rfl, hbz2⟩
      have HXz2 := Lib.hid (HXz1.out.trans (hbz2.mono (Nat.le_of_lt HOz1.out.lt)))
      have HOz2 := Lib.hid ((Keep.of_below (S := fun _ => False) hbz2).obj HOz1.out (fun h => h))
      obtain ⟨b7, hb7'⟩ : ∃ x, x = (⟨(Oct.bts ((m9 : Int) + 4).toNat 1).toArray⟩ : ByteArray) := ⟨_, rfl⟩
      have hz7 : b7.size = 1 := by rw [hb7', hl1]
      rw [← hb7']
      have HB7 := Lib.hid hb7'
      clear hb7'
      have r2 : ¬ (9223372036854775807 < 2 + m9) := by omega
      have r3 : ¬ (9223372036854775807 < 1 + 1 + m9) := by omega
      go_wp2_with fail
      refine (rsealed_any (b8 ++ b7 ++ s9) (by simp only [ByteArray.size_append]; unfold maxLen; omega) _).mono ?_
      rintro e wz3 ⟨rfl, hbz3⟩
      have HXz3 := Lib.hid (HXz2.out.trans (hbz3.mono (Nat.le_of_lt HOz2.out.lt)))
      go_wp2
      go_ret
      refine ⟨?_, by rw [HGG.out]; exact HXz3.out⟩
      rw [rby_end HR.out HB8.out HB7.out HS9.out HRT.out HM9.out]
      rfl
  · refine halt ?_
    have r0 : ¬ (9223372036854775807 < 9 + f.t.size) := by omega
    rw [hk] at d0
    go_wp2_with fail
    have HOx0 := Lib.hid (show ObjAt w1.drew g C 49 from HO.out)
    have HXx0 := Lib.hid (show Below g w w1.drew from ⟨HX.out.os, HX.out.tape, HX.out.output, HX.out.size, HX.out.block⟩)
    go_region_held3 (fun w' => w'.cell? ⟨g, 13, none⟩ = some (.int .u8 f.b) ∧ w'.cell? ⟨g, 14, none⟩ = some (.int .u16 f.vi) ∧ w'.cell? ⟨g, 15, none⟩ = some (.int .u32 f.vs) ∧ w'.cell? ⟨g, 16, none⟩ = some (.int .u8 f.p) ∧ w'.cell? ⟨g, 17, none⟩ = some (.int .u8 f.q) ∧ w'.cell? ⟨g, 18, none⟩ = some (.string f.t))
      (first | exact ⟨Fr.m13 HF.out HOx0.out, Fr.m14 HF.out HOx0.out, Fr.m15 HF.out HOx0.out, Fr.m16 HF.out HOx0.out, Fr.m17 HF.out HOx0.out, Fr.m18 HF.out HOx0.out⟩ | exact ⟨Fr.m13 HF.out HOx1.out, Fr.m14 HF.out HOx1.out, Fr.m15 HF.out HOx1.out, Fr.m16 HF.out HOx1.out, Fr.m17 HF.out HOx1.out, Fr.m18 HF.out HOx1.out⟩ | exact ⟨Fr.m13 HF.out HOx2.out, Fr.m14 HF.out HOx2.out, Fr.m15 HF.out HOx2.out, Fr.m16 HF.out HOx2.out, Fr.m17 HF.out HOx2.out, Fr.m18 HF.out HOx2.out⟩ | exact ⟨Fr.m13 HF.out HOx3.out, Fr.m14 HF.out HOx3.out, Fr.m15 HF.out HOx3.out, Fr.m16 HF.out HOx3.out, Fr.m17 HF.out HOx3.out, Fr.m18 HF.out HOx3.out⟩ | exact ⟨Fr.m13 HF.out HOx4.out, Fr.m14 HF.out HOx4.out, Fr.m15 HF.out HOx4.out, Fr.m16 HF.out HOx4.out, Fr.m17 HF.out HOx4.out, Fr.m18 HF.out HOx4.out⟩ | exact ⟨Fr.m13 HF.out HOx5.out, Fr.m14 HF.out HOx5.out, Fr.m15 HF.out HOx5.out, Fr.m16 HF.out HOx5.out, Fr.m17 HF.out HOx5.out, Fr.m18 HF.out HOx5.out⟩)
      (first
        | (go_at_call 78; (with_reducible refine (rbytes_one f.b (by omega) _).mono ?_); rintro e wx1 ⟨rfl, hbx1⟩; have HXx1 := Lib.hid (HXx0.out.trans (hbx1.mono (Nat.le_of_lt HOx0.out.lt))); have HOx1 := Lib.hid ((Keep.of_below (S := fun _ => False) hbx1).obj HOx0.out (fun h => h)))
        | (go_at_call 78; (with_reducible refine (rbytes_two f.vi (by omega) _).mono ?_); rintro e wx2 ⟨rfl, hbx2⟩; have HXx2 := Lib.hid (HXx1.out.trans (hbx2.mono (Nat.le_of_lt HOx1.out.lt))); have HOx2 := Lib.hid ((Keep.of_below (S := fun _ => False) hbx2).obj HOx1.out (fun h => h)))
        | (go_at_call 78; (with_reducible refine (rbytes_four f.vs (by omega) _).mono ?_); rintro e wx3 ⟨rfl, hbx3⟩; have HXx3 := Lib.hid (HXx2.out.trans (hbx3.mono (Nat.le_of_lt HOx2.out.lt))); have HOx3 := Lib.hid ((Keep.of_below (S := fun _ => False) hbx3).obj HOx2.out (fun h => h)))
        | (go_at_call 78; (with_reducible refine (rbytes_one f.p (by omega) _).mono ?_); rintro e wx4 ⟨rfl, hbx4⟩; have HXx4 := Lib.hid (HXx3.out.trans (hbx4.mono (Nat.le_of_lt HOx3.out.lt))); have HOx4 := Lib.hid ((Keep.of_below (S := fun _ => False) hbx4).obj HOx3.out (fun h => h)))
        | (go_at_call 78; (with_reducible refine (rbytes_one f.q (by omega) _).mono ?_); rintro e wx5 ⟨rfl, hbx5⟩; have HXx5 := Lib.hid (HXx4.out.trans (hbx5.mono (Nat.le_of_lt HOx4.out.lt))); have HOx5 := Lib.hid ((Keep.of_below (S := fun _ => False) hbx5).obj HOx4.out (fun h => h))))
    clear r0 d0
    go_wp2_with fail
    obtain ⟨rs, hrs⟩ : ∃ x, x = (⟨(Oct.bts f.b.toNat 1).toArray⟩ : ByteArray) ++ ⟨(Oct.bts f.vi.toNat 2).toArray⟩ ++ ⟨(Oct.bts f.vs.toNat 4).toArray⟩ ++ ⟨(Oct.bts f.p.toNat 1).toArray⟩ ++ ⟨(Oct.bts f.q.toNat 1).toArray⟩ ++ f.t := ⟨_, rfl⟩
    rw [← hrs]
    have hrt : rs = ⟨(tailB f).toArray⟩ := by
      rw [hrs]
      have ht : f.t = ⟨f.t.data.toList.toArray⟩ := by rfl
      rw [ht, str_add, str_add, str_add, str_add, str_add, bts_one, bts_one, bts_one]
      unfold tailB
      rw [if_neg (by omega), if_pos hk]
    have hrz : rs.size ≤ 27 := by
      rw [hrt, str_size]
      exact tailB_le HR.out
    have HRT := Lib.hid hrt
    have r1 : ¬ (9223372036854775807 < 13 + rs.size) := by omega
    clear hrs hrt
    have HK := Lib.hid hk
    clear hk
    have HOy0 := Lib.hid (show ObjAt wx5.drew g C 49 from HOx5.out)
    have HXy0 := Lib.hid (show Below g w wx5.drew from ⟨HXx5.out.os, HXx5.out.tape, HXx5.out.output, HXx5.out.size, HXx5.out.block⟩)
    go_region_held3 (fun w' => w'.cell? ⟨g, 1, none⟩ = some (.int .u8 f.s) ∧ w'.cell? ⟨g, 2, none⟩ = some (.int .u8 f.d) ∧ w'.cell? ⟨g, 3, none⟩ = some (.int .u16 f.si) ∧ w'.cell? ⟨g, 4, none⟩ = some (.int .u16 f.di) ∧ w'.cell? ⟨g, 5, none⟩ = some (.int .u16 f.ec) ∧ w'.cell? ⟨g, 6, none⟩ = some (.int .u8 f.ea) ∧ w'.cell? ⟨g, 7, none⟩ = some (.int .u16 f.ei) ∧ w'.cell? ⟨g, 8, none⟩ = some (.int .u16 f.h))
      (first | exact ⟨Fr.m1 HF.out HOy0.out, Fr.m2 HF.out HOy0.out, Fr.m3 HF.out HOy0.out, Fr.m4 HF.out HOy0.out, Fr.m5 HF.out HOy0.out, Fr.m6 HF.out HOy0.out, Fr.m7 HF.out HOy0.out, Fr.m8 HF.out HOy0.out⟩ | exact ⟨Fr.m1 HF.out HOy1.out, Fr.m2 HF.out HOy1.out, Fr.m3 HF.out HOy1.out, Fr.m4 HF.out HOy1.out, Fr.m5 HF.out HOy1.out, Fr.m6 HF.out HOy1.out, Fr.m7 HF.out HOy1.out, Fr.m8 HF.out HOy1.out⟩ | exact ⟨Fr.m1 HF.out HOy2.out, Fr.m2 HF.out HOy2.out, Fr.m3 HF.out HOy2.out, Fr.m4 HF.out HOy2.out, Fr.m5 HF.out HOy2.out, Fr.m6 HF.out HOy2.out, Fr.m7 HF.out HOy2.out, Fr.m8 HF.out HOy2.out⟩ | exact ⟨Fr.m1 HF.out HOy3.out, Fr.m2 HF.out HOy3.out, Fr.m3 HF.out HOy3.out, Fr.m4 HF.out HOy3.out, Fr.m5 HF.out HOy3.out, Fr.m6 HF.out HOy3.out, Fr.m7 HF.out HOy3.out, Fr.m8 HF.out HOy3.out⟩ | exact ⟨Fr.m1 HF.out HOy4.out, Fr.m2 HF.out HOy4.out, Fr.m3 HF.out HOy4.out, Fr.m4 HF.out HOy4.out, Fr.m5 HF.out HOy4.out, Fr.m6 HF.out HOy4.out, Fr.m7 HF.out HOy4.out, Fr.m8 HF.out HOy4.out⟩ | exact ⟨Fr.m1 HF.out HOy5.out, Fr.m2 HF.out HOy5.out, Fr.m3 HF.out HOy5.out, Fr.m4 HF.out HOy5.out, Fr.m5 HF.out HOy5.out, Fr.m6 HF.out HOy5.out, Fr.m7 HF.out HOy5.out, Fr.m8 HF.out HOy5.out⟩ | exact ⟨Fr.m1 HF.out HOy6.out, Fr.m2 HF.out HOy6.out, Fr.m3 HF.out HOy6.out, Fr.m4 HF.out HOy6.out, Fr.m5 HF.out HOy6.out, Fr.m6 HF.out HOy6.out, Fr.m7 HF.out HOy6.out, Fr.m8 HF.out HOy6.out⟩)
      (first
        | (go_at_call 78; (with_reducible refine (rbytes_one f.s (by omega) _).mono ?_); rintro e wy1 ⟨rfl, hby1⟩; have HXy1 := Lib.hid (HXy0.out.trans (hby1.mono (Nat.le_of_lt HOy0.out.lt))); have HOy1 := Lib.hid ((Keep.of_below (S := fun _ => False) hby1).obj HOy0.out (fun h => h)))
        | (go_at_call 78; (with_reducible refine (rbytes_two f.si (by omega) _).mono ?_); rintro e wy2 ⟨rfl, hby2⟩; have HXy2 := Lib.hid (HXy1.out.trans (hby2.mono (Nat.le_of_lt HOy1.out.lt))); have HOy2 := Lib.hid ((Keep.of_below (S := fun _ => False) hby2).obj HOy1.out (fun h => h)))
        | (go_at_call 78; (with_reducible refine (rbytes_one f.d (by omega) _).mono ?_); rintro e wy3 ⟨rfl, hby3⟩; have HXy3 := Lib.hid (HXy2.out.trans (hby3.mono (Nat.le_of_lt HOy2.out.lt))); have HOy3 := Lib.hid ((Keep.of_below (S := fun _ => False) hby3).obj HOy2.out (fun h => h)))
        | (go_at_call 78; (with_reducible refine (rbytes_two f.di (by omega) _).mono ?_); rintro e wy4 ⟨rfl, hby4⟩; have HXy4 := Lib.hid (HXy3.out.trans (hby4.mono (Nat.le_of_lt HOy3.out.lt))); have HOy4 := Lib.hid ((Keep.of_below (S := fun _ => False) hby4).obj HOy3.out (fun h => h)))
        | (go_at_call 77; (with_reducible refine (repoch_any f.ec f.ea f.ei hec hea hei _).mono ?_); rintro e wy5 ⟨rfl, hby5⟩; have HXy5 := Lib.hid (HXy4.out.trans (hby5.mono (Nat.le_of_lt HOy4.out.lt))); have HOy5 := Lib.hid ((Keep.of_below (S := fun _ => False) hby5).obj HOy4.out (fun h => h)))
        | (go_at_call 78; (with_reducible refine (rbytes_two f.h (by omega) _).mono ?_); rintro e wy6 ⟨rfl, hby6⟩; have HXy6 := Lib.hid (HXy5.out.trans (hby6.mono (Nat.le_of_lt HOy5.out.lt))); have HOy6 := Lib.hid ((Keep.of_below (S := fun _ => False) hby6).obj HOy5.out (fun h => h))))
    obtain ⟨s9, hs9⟩ : ∃ x, x = (⟨(Oct.bts f.s.toNat 1).toArray⟩ : ByteArray) ++ ⟨(Oct.bts f.si.toNat 2).toArray⟩ ++ ⟨(Oct.bts f.d.toNat 1).toArray⟩ ++ ⟨(Oct.bts f.di.toNat 2).toArray⟩ ++ ⟨(epB f.ec f.ea f.ei).toArray⟩ ++ ⟨(Oct.bts f.h.toNat 2).toArray⟩ ++ rs := ⟨_, rfl⟩
    rw [← hs9]
    have hz9 : (s9.size : Int) = 13 + (rs.size : Int) := by
      rw [hs9]
      simp only [ByteArray.size_append, hl1, hl2]
      omega
    have HS9 := Lib.hid hs9
    obtain ⟨m9, hm9⟩ : ∃ x, x = s9.size := ⟨_, rfl⟩
    have hb9 : (m9 : Int) ≤ 40 := by omega
    have hm99 : s9.size = m9 := hm9.symm
    have HM9 := Lib.hid (show (m9 : Int) = 13 + (rs.size : Int) by rw [hm9]; exact hz9)
    clear hs9 hz9 hm9 r1 hrz
    clear hby1 hby2 hby3 hby4 hby5
    have hk0 := Fr.m0 HF.out HOy6.out
    go_wp2_with fail
    refine (rbytes_one f.k (by omega) _).mono ?_
    rintro e wz1 ⟨rfl, hbz1⟩
    have HXz1 := Lib.hid (HXy6.out.trans (hbz1.mono (Nat.le_of_lt HOy6.out.lt)))
    have HOz1 := Lib.hid ((Keep.of_below (S := fun _ => False) hbz1).obj HOy6.out (fun h => h))
    go_wp2_with fail
    obtain ⟨b8, hb8'⟩ : ∃ x, x = (⟨(Oct.bts f.k.toNat 1).toArray⟩ : ByteArray) := ⟨_, rfl⟩
    have hz8 : b8.size = 1 := by rw [hb8', hl1]
    rw [← hb8']
    have HB8 := Lib.hid hb8'
    clear hb8'
    refine (rbytes_one ((m9 : Int) + 4) (by omega) _).mono ?_
    rintro e wz2 ⟨rfl, hbz2⟩
    have HXz2 := Lib.hid (HXz1.out.trans (hbz2.mono (Nat.le_of_lt HOz1.out.lt)))
    have HOz2 := Lib.hid ((Keep.of_below (S := fun _ => False) hbz2).obj HOz1.out (fun h => h))
    obtain ⟨b7, hb7'⟩ : ∃ x, x = (⟨(Oct.bts ((m9 : Int) + 4).toNat 1).toArray⟩ : ByteArray) := ⟨_, rfl⟩
    have hz7 : b7.size = 1 := by rw [hb7', hl1]
    rw [← hb7']
    have HB7 := Lib.hid hb7'
    clear hb7'
    have r2 : ¬ (9223372036854775807 < 2 + m9) := by omega
    have r3 : ¬ (9223372036854775807 < 1 + 1 + m9) := by omega
    go_wp2_with fail
    refine (rsealed_any (b8 ++ b7 ++ s9) (by simp only [ByteArray.size_append]; unfold maxLen; omega) _).mono ?_
    rintro e wz3 ⟨rfl, hbz3⟩
    have HXz3 := Lib.hid (HXz2.out.trans (hbz3.mono (Nat.le_of_lt HOz2.out.lt)))
    go_wp2
    go_ret
    refine ⟨?_, by rw [HGG.out]; exact HXz3.out⟩
    rw [rby_end HR.out HB8.out HB7.out HS9.out HRT.out HM9.out]
    rfl
  · refine halt ?_
    have g3 : ¬ f.k = 3 := by omega
    have g4 : ¬ f.k = 4 := by omega
    have HK0 := Lib.hid hk
    clear hk
    go_wp2_with fail
    clear d0
    have hk := And.intro g3 g4
    clear g3 g4
    obtain ⟨rs, hrs⟩ : ∃ x, x = (⟨#[]⟩ : ByteArray) := ⟨_, rfl⟩
    rw [← hrs]
    have hrt : rs = ⟨(tailB f).toArray⟩ := by
      rw [hrs]
      unfold tailB
      rw [if_neg hk.1, if_neg hk.2]
    have hrz : rs.size ≤ 27 := by
      rw [hrt, str_size]
      exact tailB_le HR.out
    have HRT := Lib.hid hrt
    have r1 : ¬ (9223372036854775807 < 13 + rs.size) := by omega
    clear hrs hrt
    have HK := Lib.hid hk
    clear hk
    have HOy0 := Lib.hid (show ObjAt w1.drew g C 49 from HO.out)
    have HXy0 := Lib.hid (show Below g w w1.drew from ⟨HX.out.os, HX.out.tape, HX.out.output, HX.out.size, HX.out.block⟩)
    go_region_held3 (fun w' => w'.cell? ⟨g, 1, none⟩ = some (.int .u8 f.s) ∧ w'.cell? ⟨g, 2, none⟩ = some (.int .u8 f.d) ∧ w'.cell? ⟨g, 3, none⟩ = some (.int .u16 f.si) ∧ w'.cell? ⟨g, 4, none⟩ = some (.int .u16 f.di) ∧ w'.cell? ⟨g, 5, none⟩ = some (.int .u16 f.ec) ∧ w'.cell? ⟨g, 6, none⟩ = some (.int .u8 f.ea) ∧ w'.cell? ⟨g, 7, none⟩ = some (.int .u16 f.ei) ∧ w'.cell? ⟨g, 8, none⟩ = some (.int .u16 f.h))
      (first | exact ⟨Fr.m1 HF.out HOy0.out, Fr.m2 HF.out HOy0.out, Fr.m3 HF.out HOy0.out, Fr.m4 HF.out HOy0.out, Fr.m5 HF.out HOy0.out, Fr.m6 HF.out HOy0.out, Fr.m7 HF.out HOy0.out, Fr.m8 HF.out HOy0.out⟩ | exact ⟨Fr.m1 HF.out HOy1.out, Fr.m2 HF.out HOy1.out, Fr.m3 HF.out HOy1.out, Fr.m4 HF.out HOy1.out, Fr.m5 HF.out HOy1.out, Fr.m6 HF.out HOy1.out, Fr.m7 HF.out HOy1.out, Fr.m8 HF.out HOy1.out⟩ | exact ⟨Fr.m1 HF.out HOy2.out, Fr.m2 HF.out HOy2.out, Fr.m3 HF.out HOy2.out, Fr.m4 HF.out HOy2.out, Fr.m5 HF.out HOy2.out, Fr.m6 HF.out HOy2.out, Fr.m7 HF.out HOy2.out, Fr.m8 HF.out HOy2.out⟩ | exact ⟨Fr.m1 HF.out HOy3.out, Fr.m2 HF.out HOy3.out, Fr.m3 HF.out HOy3.out, Fr.m4 HF.out HOy3.out, Fr.m5 HF.out HOy3.out, Fr.m6 HF.out HOy3.out, Fr.m7 HF.out HOy3.out, Fr.m8 HF.out HOy3.out⟩ | exact ⟨Fr.m1 HF.out HOy4.out, Fr.m2 HF.out HOy4.out, Fr.m3 HF.out HOy4.out, Fr.m4 HF.out HOy4.out, Fr.m5 HF.out HOy4.out, Fr.m6 HF.out HOy4.out, Fr.m7 HF.out HOy4.out, Fr.m8 HF.out HOy4.out⟩ | exact ⟨Fr.m1 HF.out HOy5.out, Fr.m2 HF.out HOy5.out, Fr.m3 HF.out HOy5.out, Fr.m4 HF.out HOy5.out, Fr.m5 HF.out HOy5.out, Fr.m6 HF.out HOy5.out, Fr.m7 HF.out HOy5.out, Fr.m8 HF.out HOy5.out⟩ | exact ⟨Fr.m1 HF.out HOy6.out, Fr.m2 HF.out HOy6.out, Fr.m3 HF.out HOy6.out, Fr.m4 HF.out HOy6.out, Fr.m5 HF.out HOy6.out, Fr.m6 HF.out HOy6.out, Fr.m7 HF.out HOy6.out, Fr.m8 HF.out HOy6.out⟩)
      (first
        | (go_at_call 78; (with_reducible refine (rbytes_one f.s (by omega) _).mono ?_); rintro e wy1 ⟨rfl, hby1⟩; have HXy1 := Lib.hid (HXy0.out.trans (hby1.mono (Nat.le_of_lt HOy0.out.lt))); have HOy1 := Lib.hid ((Keep.of_below (S := fun _ => False) hby1).obj HOy0.out (fun h => h)))
        | (go_at_call 78; (with_reducible refine (rbytes_two f.si (by omega) _).mono ?_); rintro e wy2 ⟨rfl, hby2⟩; have HXy2 := Lib.hid (HXy1.out.trans (hby2.mono (Nat.le_of_lt HOy1.out.lt))); have HOy2 := Lib.hid ((Keep.of_below (S := fun _ => False) hby2).obj HOy1.out (fun h => h)))
        | (go_at_call 78; (with_reducible refine (rbytes_one f.d (by omega) _).mono ?_); rintro e wy3 ⟨rfl, hby3⟩; have HXy3 := Lib.hid (HXy2.out.trans (hby3.mono (Nat.le_of_lt HOy2.out.lt))); have HOy3 := Lib.hid ((Keep.of_below (S := fun _ => False) hby3).obj HOy2.out (fun h => h)))
        | (go_at_call 78; (with_reducible refine (rbytes_two f.di (by omega) _).mono ?_); rintro e wy4 ⟨rfl, hby4⟩; have HXy4 := Lib.hid (HXy3.out.trans (hby4.mono (Nat.le_of_lt HOy3.out.lt))); have HOy4 := Lib.hid ((Keep.of_below (S := fun _ => False) hby4).obj HOy3.out (fun h => h)))
        | (go_at_call 77; (with_reducible refine (repoch_any f.ec f.ea f.ei hec hea hei _).mono ?_); rintro e wy5 ⟨rfl, hby5⟩; have HXy5 := Lib.hid (HXy4.out.trans (hby5.mono (Nat.le_of_lt HOy4.out.lt))); have HOy5 := Lib.hid ((Keep.of_below (S := fun _ => False) hby5).obj HOy4.out (fun h => h)))
        | (go_at_call 78; (with_reducible refine (rbytes_two f.h (by omega) _).mono ?_); rintro e wy6 ⟨rfl, hby6⟩; have HXy6 := Lib.hid (HXy5.out.trans (hby6.mono (Nat.le_of_lt HOy5.out.lt))); have HOy6 := Lib.hid ((Keep.of_below (S := fun _ => False) hby6).obj HOy5.out (fun h => h))))
    obtain ⟨s9, hs9⟩ : ∃ x, x = (⟨(Oct.bts f.s.toNat 1).toArray⟩ : ByteArray) ++ ⟨(Oct.bts f.si.toNat 2).toArray⟩ ++ ⟨(Oct.bts f.d.toNat 1).toArray⟩ ++ ⟨(Oct.bts f.di.toNat 2).toArray⟩ ++ ⟨(epB f.ec f.ea f.ei).toArray⟩ ++ ⟨(Oct.bts f.h.toNat 2).toArray⟩ ++ rs := ⟨_, rfl⟩
    rw [← hs9]
    have hz9 : (s9.size : Int) = 13 + (rs.size : Int) := by
      rw [hs9]
      simp only [ByteArray.size_append, hl1, hl2]
      omega
    have HS9 := Lib.hid hs9
    obtain ⟨m9, hm9⟩ : ∃ x, x = s9.size := ⟨_, rfl⟩
    have hb9 : (m9 : Int) ≤ 40 := by omega
    have hm99 : s9.size = m9 := hm9.symm
    have HM9 := Lib.hid (show (m9 : Int) = 13 + (rs.size : Int) by rw [hm9]; exact hz9)
    clear hs9 hz9 hm9 r1 hrz
    clear hby1 hby2 hby3 hby4 hby5
    have hk0 := Fr.m0 HF.out HOy6.out
    go_wp2_with fail
    refine (rbytes_one f.k (by omega) _).mono ?_
    rintro e wz1 ⟨rfl, hbz1⟩
    have HXz1 := Lib.hid (HXy6.out.trans (hbz1.mono (Nat.le_of_lt HOy6.out.lt)))
    have HOz1 := Lib.hid ((Keep.of_below (S := fun _ => False) hbz1).obj HOy6.out (fun h => h))
    go_wp2_with fail
    obtain ⟨b8, hb8'⟩ : ∃ x, x = (⟨(Oct.bts f.k.toNat 1).toArray⟩ : ByteArray) := ⟨_, rfl⟩
    have hz8 : b8.size = 1 := by rw [hb8', hl1]
    rw [← hb8']
    have HB8 := Lib.hid hb8'
    clear hb8'
    refine (rbytes_one ((m9 : Int) + 4) (by omega) _).mono ?_
    rintro e wz2 ⟨rfl, hbz2⟩
    have HXz2 := Lib.hid (HXz1.out.trans (hbz2.mono (Nat.le_of_lt HOz1.out.lt)))
    have HOz2 := Lib.hid ((Keep.of_below (S := fun _ => False) hbz2).obj HOz1.out (fun h => h))
    obtain ⟨b7, hb7'⟩ : ∃ x, x = (⟨(Oct.bts ((m9 : Int) + 4).toNat 1).toArray⟩ : ByteArray) := ⟨_, rfl⟩
    have hz7 : b7.size = 1 := by rw [hb7', hl1]
    rw [← hb7']
    have HB7 := Lib.hid hb7'
    clear hb7'
    have r2 : ¬ (9223372036854775807 < 2 + m9) := by omega
    have r3 : ¬ (9223372036854775807 < 1 + 1 + m9) := by omega
    go_wp2_with fail
    refine (rsealed_any (b8 ++ b7 ++ s9) (by simp only [ByteArray.size_append]; unfold maxLen; omega) _).mono ?_
    rintro e wz3 ⟨rfl, hbz3⟩
    have HXz3 := Lib.hid (HXz2.out.trans (hbz3.mono (Nat.le_of_lt HOz2.out.lt)))
    go_wp2
    go_ret
    refine ⟨?_, by rw [HGG.out]; exact HXz3.out⟩
    rw [rby_end HR.out HB8.out HB7.out HS9.out HRT.out HM9.out]
    rfl
end Go.Proofs.YtmehafolnpkmhaaDoor
