/- frame.Decode. -/
import Derived.Test.YtmehafolnpkmhaaDoorFraRead
import Derived.Test.YtmehafolnpkmhaaDoorFraRight
import Derived.Test.YtmehafolnpkmhaaDoorgCrc
namespace Go.Proofs.YtmehafolnpkmhaaDoor
open Go.RowKit
/-- What bytes are decoded to: the frame, or the error. -/
def decF (s : ByteArray) : Fr × Int :=
  if s.size < 17 ∨ 255 < s.size ∨ s.size ≠ nb s 1 1 then (Fr.zero, 10)
  else if (Crc.opened s).2 = false then (Fr.zero, 9)
  else if ¬ (1 ≤ nb s 0 1 ∧ nb s 0 1 ≤ 5) then (Fr.zero, 11)
  else if (s.size : Int) < (shapeF (nb s 0 1 : Nat)).2.2.1 ∨ (shapeF (nb s 0 1 : Nat)).2.2.2.1 < (s.size : Int) then (Fr.zero, 10)
  else if okW (s.extract 0 (s.size - 2)) = false ∨ ¬ rightP (frF (s.extract 0 (s.size - 2))) then (Fr.zero, 3)
  else (frF (s.extract 0 (s.size - 2)), 0)
theorem nb_one (s : ByteArray) (a : Nat) (h : a < s.size) : nb s a 1 = s[a].toNat := by
  unfold nb
  have e : (s.extract a (a + 1)).data.toList = [s[a]] := by
    apply List.ext_getElem?
    intro j
    rw [ByteArray.data_extract, Array.getElem?_toList, Array.getElem?_extract]
    match j with
    | 0 => 
      rw [if_pos (by show 0 < min (a + 1) s.size - a; omega)]
      rw [Nat.add_zero, Array.getElem?_eq_getElem (show a < s.data.size from h)]
      rfl
    | j + 1 =>
      rw [if_neg (by show ¬ j + 1 < min (a + 1) s.size - a; omega)]
      simp
  rw [e]
  have := s[a].toNat_lt
  simp [Oct.num]
  try omega
theorem nb_ext (s : ByteArray) (m a n : Nat) (h : a + n ≤ m) : nb (s.extract 0 m) a n = nb s a n := by
  unfold nb
  rw [ByteArray.extract_extract, Nat.zero_add, Nat.zero_add, Nat.min_eq_left h]
set_option maxRecDepth 100000 in
set_option maxHeartbeats 8000000 in
theorem decode_any (s : ByteArray) (hs : s.size ≤ 140737488355328) (w : World) :
    Calls Tryd.prog 47 #[.string s] w fun e w' => e = .returned (.tuple #[.agg (decF s).1.cells, .int .i64 (decF s).2]) ∧ Below w.heap.size w w' := by
  have hr0 : ObjAt (w.alloc (.cells #[.int .i64 0, .int .u8 0, .int .u8 0, .int .u16 0, .int .u16 0, .int .u16 0, .int .u8 0, .int .u16 0, .int .u16 0, .int .u16 0, .int .u8 0, .int .u16 0, .bool false, .int .u8 0, .int .u16 0, .int .u32 0, .int .u8 0, .int .u8 0, .string (⟨#[]⟩ : ByteArray)] 49)) w.heap.size Fr.zero.cells 49 := ObjAt.new w _ _
  have hb0 := (Below.refl w.heap.size w).alloc (Nat.le_refl _) (.cells #[.int .i64 0, .int .u8 0, .int .u8 0, .int .u16 0, .int .u16 0, .int .u16 0, .int .u8 0, .int .u16 0, .int .u16 0, .int .u16 0, .int .u8 0, .int .u16 0, .bool false, .int .u8 0, .int .u16 0, .int .u32 0, .int .u8 0, .int .u8 0, .string (⟨#[]⟩ : ByteArray)] 49)
  have HR0 := Lib.hid hr0
  have HB0 := Lib.hid hb0
  clear hr0 hb0
  go_enter Tryd.func47, Tryd.ntmps47
  go_wp2_with fail
  generalize w.alloc (.cells #[.int .i64 0, .int .u8 0, .int .u8 0, .int .u16 0, .int .u16 0, .int .u16 0, .int .u8 0, .int .u16 0, .int .u16 0, .int .u16 0, .int .u8 0, .int .u16 0, .bool false, .int .u8 0, .int .u16 0, .int .u32 0, .int .u8 0, .int .u8 0, .string (⟨#[]⟩ : ByteArray)] 49) = w1 at *
  refine (shapes_1 w1).mono ?_
  rintro e w2 ⟨rfl, hb⟩
  have hr2 := (Keep.of_below (S := fun _ => False) hb).obj HR0.out (fun h => h)
  have HB2 := Lib.hid (HB0.out.trans (hb.mono HB0.out.size))
  have HR2 := Lib.hid hr2
  have hg0 : w.heap.size ≤ w.heap.size := Nat.le_refl _
  have hlt : w.heap.size < w2.heap.size := hr2.lt
  clear hb HB0 HR0 hr2
  generalize hgg : w.heap.size = g0 at *
  have HGG := Lib.hid hgg
  clear hgg
  have hr3 := Lib.hid (HR2.out.alloc (.cells #[.string (⟨#[116, 111, 107, 101, 110]⟩ : ByteArray), .bool true, .int .i64 17, .int .i64 17] 82))
  have hb3 := Lib.hid (HB2.out.alloc (Nat.le_of_lt hlt) (.cells #[.string (⟨#[116, 111, 107, 101, 110]⟩ : ByteArray), .bool true, .int .i64 17, .int .i64 17] 82))
  by_cases h17 : (s.size : Int) < 17
  · have HRZ := Lib.hid (show ObjAt (w2.alloc (.cells #[.string (⟨#[116, 111, 107, 101, 110]⟩ : ByteArray), .bool true, .int .i64 17, .int .i64 17] 82)) g0 Fr.zero.cells 49 from hr3.out)
    have HBZ := Lib.hid (show Below w.heap.size w ((w2.alloc (.cells #[.string (⟨#[116, 111, 107, 101, 110]⟩ : ByteArray), .bool true, .int .i64 17, .int .i64 17] 82)).setRow g0 Fr.zero.cells) by rw [HGG.out]; exact below_setRow (show Below g0 w (w2.alloc (.cells #[.string (⟨#[116, 111, 107, 101, 110]⟩ : ByteArray), .bool true, .int .i64 17, .int .i64 17] 82)) from hb3.out) g0 (Nat.le_refl _) Fr.zero.cells)
    have HG9 := Lib.hid (setRow_heap (w2.alloc (.cells #[.string (⟨#[116, 111, 107, 101, 110]⟩ : ByteArray), .bool true, .int .i64 17, .int .i64 17] 82)) g0 Fr.zero.cells Fr.zero.cells 49 (0, 0) HRZ.out)
    go_wp2_with (first
      | ((with_reducible refine wpList_build_to ?hgd_b1 49 ?parts_b1 ?ho_b1 Fr.zero.cells ?hc_b1 ?h_b1); (case ho_b1 => rfl); (case hgd_b1 => rfl); (case hc_b1 => kernel_rfl))
      | ((with_reducible refine wpList_store_row ?hgd_r1 49 (.tmp 2) (.tmp 32) ?ho_r1 g0 Fr.zero.cells ?hx_r1 ?hy_r1 49 Fr.zero.cells ?hg_r1 ?hi_r1 ?hold_r1 ?h1_r1 ?h_r1); (case ho_r1 => rfl); (case hgd_r1 => rfl); (case hx_r1 => rfl); (case hy_r1 => rfl); (case hg_r1 => exact HRZ.out); (case hi_r1 => kernel_rfl); (case hold_r1 => rfl); (case h1_r1 => kernel_rfl)))
    refine bodyPost_ret (res_ct rfl _ _ g0 49 Fr.zero.cells (0, 0) _ rfl HG9.out Tryd.underlying49 rfl (by kernel_rfl)) rfl ?_
    refine ⟨?_, HBZ.out⟩
    have e1 : decF s = (Fr.zero, 10) := by
      unfold decF
      rw [if_pos (by omega)]
    rw [e1]
    rfl
  · by_cases h255 : 255 < (s.size : Int)
    · have HRZ := Lib.hid (show ObjAt (w2.alloc (.cells #[.string (⟨#[116, 111, 107, 101, 110]⟩ : ByteArray), .bool true, .int .i64 17, .int .i64 17] 82)) g0 Fr.zero.cells 49 from hr3.out)
      have HBZ := Lib.hid (show Below w.heap.size w ((w2.alloc (.cells #[.string (⟨#[116, 111, 107, 101, 110]⟩ : ByteArray), .bool true, .int .i64 17, .int .i64 17] 82)).setRow g0 Fr.zero.cells) by rw [HGG.out]; exact below_setRow (show Below g0 w (w2.alloc (.cells #[.string (⟨#[116, 111, 107, 101, 110]⟩ : ByteArray), .bool true, .int .i64 17, .int .i64 17] 82)) from hb3.out) g0 (Nat.le_refl _) Fr.zero.cells)
      have HG9 := Lib.hid (setRow_heap (w2.alloc (.cells #[.string (⟨#[116, 111, 107, 101, 110]⟩ : ByteArray), .bool true, .int .i64 17, .int .i64 17] 82)) g0 Fr.zero.cells Fr.zero.cells 49 (0, 0) HRZ.out)
      go_wp2_with (first
        | ((with_reducible refine wpList_build_to ?hgd_b2 49 ?parts_b2 ?ho_b2 Fr.zero.cells ?hc_b2 ?h_b2); (case ho_b2 => rfl); (case hgd_b2 => rfl); (case hc_b2 => kernel_rfl))
        | ((with_reducible refine wpList_store_row ?hgd_r2 49 (.tmp 2) (.tmp 32) ?ho_r2 g0 Fr.zero.cells ?hx_r2 ?hy_r2 49 Fr.zero.cells ?hg_r2 ?hi_r2 ?hold_r2 ?h1_r2 ?h_r2); (case ho_r2 => rfl); (case hgd_r2 => rfl); (case hx_r2 => rfl); (case hy_r2 => rfl); (case hg_r2 => exact HRZ.out); (case hi_r2 => kernel_rfl); (case hold_r2 => rfl); (case h1_r2 => kernel_rfl)))
      refine bodyPost_ret (res_ct rfl _ _ g0 49 Fr.zero.cells (0, 0) _ rfl HG9.out Tryd.underlying49 rfl (by kernel_rfl)) rfl ?_
      refine ⟨?_, HBZ.out⟩
      have e1 : decF s = (Fr.zero, 10) := by
        unfold decF
        rw [if_pos (by omega)]
      rw [e1]
      rfl
    · have hz1 : 1 < s.size := by omega
      have hz0 : 0 < s.size := by omega
      obtain ⟨b1, hb1⟩ : ∃ b, b = nb s 1 1 := ⟨_, rfl⟩
      obtain ⟨b0, hb0⟩ : ∃ b, b = nb s 0 1 := ⟨_, rfl⟩
      have hv1 : s[1].toNat = b1 := by rw [hb1]; exact (nb_one s 1 hz1).symm
      have hv0 : s[0].toNat = b0 := by rw [hb0]; exact (nb_one s 0 hz0).symm
      have hl1 : (b1 : Int) < 256 := by have := nb_lt s 1 1 (by decide); omega
      have hl0 : (b0 : Int) < 256 := by have := nb_lt s 0 1 (by decide); omega
      have HBB := Lib.hid (And.intro hb0 hb1)
      clear hb1 hb0
      by_cases h3 : (s.size : Int) = (b1 : Int)
      · have hop := open_any s (by unfold maxLen; omega) (w2.alloc (.cells #[.string (⟨#[116, 111, 107, 101, 110]⟩ : ByteArray), .bool true, .int .i64 17, .int .i64 17] 82))
        obtain ⟨inn, hin⟩ : ∃ x, x = (Crc.opened s).1 := ⟨_, rfl⟩
        obtain ⟨ook, hook⟩ : ∃ x, x = (Crc.opened s).2 := ⟨_, rfl⟩
        rw [← hin, ← hook] at hop
        have HOP := Lib.hid hop
        have HIN := Lib.hid (And.intro hin hook)
        have hne3 : ((s.size : Int) != (b1 : Int)) = false := by simp [h3]
        have H3 := Lib.hid h3
        clear hop hin hook h3
        go_wp2_with fail
        refine HOP.out.mono ?_
        rintro e w3 ⟨rfl, hw3⟩
        have hr4 := Lib.hid (show ObjAt w3 g0 Fr.zero.cells 49 by rw [← hw3]; exact hr3.out)
        have hb4 := Lib.hid (show Below g0 w w3 by rw [← hw3]; exact hb3.out)
        have hlt4 : g0 < w3.heap.size := hr4.out.lt
        clear hw3 hr3 hb3 HOP
        cases ook
        · have HRZ := Lib.hid (show ObjAt w3 g0 Fr.zero.cells 49 from hr4.out)
          have HBZ := Lib.hid (show Below w.heap.size w (w3.setRow g0 Fr.zero.cells) by rw [HGG.out]; exact below_setRow (show Below g0 w w3 from hb4.out) g0 (Nat.le_refl _) Fr.zero.cells)
          have HG9 := Lib.hid (setRow_heap w3 g0 Fr.zero.cells Fr.zero.cells 49 (0, 0) HRZ.out)
          go_wp2_with (first
            | ((with_reducible refine wpList_build_to ?hgd_b3 49 ?parts_b3 ?ho_b3 Fr.zero.cells ?hc_b3 ?h_b3); (case ho_b3 => rfl); (case hgd_b3 => rfl); (case hc_b3 => kernel_rfl))
            | ((with_reducible refine wpList_store_row ?hgd_r3 49 (.tmp 2) (.tmp 40) ?ho_r3 g0 Fr.zero.cells ?hx_r3 ?hy_r3 49 Fr.zero.cells ?hg_r3 ?hi_r3 ?hold_r3 ?h1_r3 ?h_r3); (case ho_r3 => rfl); (case hgd_r3 => rfl); (case hx_r3 => rfl); (case hy_r3 => rfl); (case hg_r3 => exact HRZ.out); (case hi_r3 => kernel_rfl); (case hold_r3 => rfl); (case h1_r3 => kernel_rfl)))
          refine bodyPost_ret (res_ct rfl _ _ g0 49 Fr.zero.cells (0, 0) _ rfl HG9.out Tryd.underlying49 rfl (by kernel_rfl)) rfl ?_
          refine ⟨?_, HBZ.out⟩
          have e1 : decF s = (Fr.zero, 9) := by
            unfold decF
            rw [if_neg (by have := HBB.out; have := H3.out; omega), if_pos HIN.out.2.symm]
          rw [e1]
          rfl
        · have hsh := shapes_any (b0 : Int) w3
          obtain ⟨e1, e2⟩ := shapeF_ok (b0 : Int)
          obtain ⟨n0, hn0⟩ : ∃ x, x = (shapeF (b0 : Int)).1 := ⟨_, rfl⟩
          obtain ⟨to, hto⟩ : ∃ x, x = (shapeF (b0 : Int)).2.1 := ⟨_, rfl⟩
          obtain ⟨l0, hll0⟩ : ∃ x, x = (shapeF (b0 : Int)).2.2.1 := ⟨_, rfl⟩
          obtain ⟨m0, hm0⟩ : ∃ x, x = (shapeF (b0 : Int)).2.2.2.1 := ⟨_, rfl⟩
          obtain ⟨ok, hok⟩ : ∃ x, x = (shapeF (b0 : Int)).2.2.2.2 := ⟨_, rfl⟩
          rw [← hn0, ← hto, ← hll0, ← hm0, ← hok] at hsh
          rw [← hok] at e1
          have HSH := Lib.hid hsh
          have HE := Lib.hid (And.intro e1 (And.intro hll0 hm0))
          clear hsh e1 e2 hn0 hto hll0 hm0 hok
          go_wp2_with fail
          refine HSH.out.mono ?_
          rintro e w4 ⟨rfl, hb⟩
          have hr5 := (Keep.of_below (S := fun _ => False) hb).obj hr4.out (fun h => h)
          have hb5 := hb4.out.trans (hb.mono (Nat.le_of_lt hlt4))
          have hlt5 : g0 < w4.heap.size := hr5.lt
          have hr6 := Lib.hid (hr5.alloc (.cells #[.string n0, .bool to, .int .i64 l0, .int .i64 m0] 82))
          have hb6 := Lib.hid (hb5.alloc (Nat.le_of_lt hlt5) (.cells #[.string n0, .bool to, .int .i64 l0, .int .i64 m0] 82))
          clear hb hr5 hb5 HSH hr4 hb4
          cases ok
          · have HRZ := Lib.hid (show ObjAt (w4.alloc (.cells #[.string n0, .bool to, .int .i64 l0, .int .i64 m0] 82)) g0 Fr.zero.cells 49 from hr6.out)
            have HBZ := Lib.hid (show Below w.heap.size w ((w4.alloc (.cells #[.string n0, .bool to, .int .i64 l0, .int .i64 m0] 82)).setRow g0 Fr.zero.cells) by rw [HGG.out]; exact below_setRow (show Below g0 w (w4.alloc (.cells #[.string n0, .bool to, .int .i64 l0, .int .i64 m0] 82)) from hb6.out) g0 (Nat.le_refl _) Fr.zero.cells)
            have HG9 := Lib.hid (setRow_heap (w4.alloc (.cells #[.string n0, .bool to, .int .i64 l0, .int .i64 m0] 82)) g0 Fr.zero.cells Fr.zero.cells 49 (0, 0) HRZ.out)
            go_wp2_with (first
              | ((with_reducible refine wpList_build_to ?hgd_b4 49 ?parts_b4 ?ho_b4 Fr.zero.cells ?hc_b4 ?h_b4); (case ho_b4 => rfl); (case hgd_b4 => rfl); (case hc_b4 => kernel_rfl))
              | ((with_reducible refine wpList_store_row ?hgd_r4 49 (.tmp 2) (.tmp 51) ?ho_r4 g0 Fr.zero.cells ?hx_r4 ?hy_r4 49 Fr.zero.cells ?hg_r4 ?hi_r4 ?hold_r4 ?h1_r4 ?h_r4); (case ho_r4 => rfl); (case hgd_r4 => rfl); (case hx_r4 => rfl); (case hy_r4 => rfl); (case hg_r4 => exact HRZ.out); (case hi_r4 => kernel_rfl); (case hold_r4 => rfl); (case h1_r4 => kernel_rfl)))
            refine bodyPost_ret (res_ct rfl _ _ g0 49 Fr.zero.cells (0, 0) _ rfl HG9.out Tryd.underlying49 rfl (by kernel_rfl)) rfl ?_
            refine ⟨?_, HBZ.out⟩
            have e1 : decF s = (Fr.zero, 11) := by
              unfold decF
              have he := of_decide_eq_false HE.out.1.symm
              rw [if_neg (by have := HBB.out; have := H3.out; omega), if_neg (by rw [← HIN.out.2]; simp), if_pos (by rw [← HBB.out.1]; omega)]
            rw [e1]
            rfl
          · have hkk := of_decide_eq_true HE.out.1.symm
            by_cases hlo : (s.size : Int) < l0
            · have HRZ := Lib.hid (show ObjAt (w4.alloc (.cells #[.string n0, .bool to, .int .i64 l0, .int .i64 m0] 82)) g0 Fr.zero.cells 49 from hr6.out)
              have HBZ := Lib.hid (show Below w.heap.size w ((w4.alloc (.cells #[.string n0, .bool to, .int .i64 l0, .int .i64 m0] 82)).setRow g0 Fr.zero.cells) by rw [HGG.out]; exact below_setRow (show Below g0 w (w4.alloc (.cells #[.string n0, .bool to, .int .i64 l0, .int .i64 m0] 82)) from hb6.out) g0 (Nat.le_refl _) Fr.zero.cells)
              have HG9 := Lib.hid (setRow_heap (w4.alloc (.cells #[.string n0, .bool to, .int .i64 l0, .int .i64 m0] 82)) g0 Fr.zero.cells Fr.zero.cells 49 (0, 0) HRZ.out)
              go_wp2_with (first
                | ((with_reducible refine wpList_build_to ?hgd_b5 49 ?parts_b5 ?ho_b5 Fr.zero.cells ?hc_b5 ?h_b5); (case ho_b5 => rfl); (case hgd_b5 => rfl); (case hc_b5 => kernel_rfl))
                | ((with_reducible refine wpList_store_row ?hgd_r5 49 (.tmp 2) (.tmp 65) ?ho_r5 g0 Fr.zero.cells ?hx_r5 ?hy_r5 49 Fr.zero.cells ?hg_r5 ?hi_r5 ?hold_r5 ?h1_r5 ?h_r5); (case ho_r5 => rfl); (case hgd_r5 => rfl); (case hx_r5 => rfl); (case hy_r5 => rfl); (case hg_r5 => exact HRZ.out); (case hi_r5 => kernel_rfl); (case hold_r5 => rfl); (case h1_r5 => kernel_rfl)))
              refine bodyPost_ret (res_ct rfl _ _ g0 49 Fr.zero.cells (0, 0) _ rfl HG9.out Tryd.underlying49 rfl (by kernel_rfl)) rfl ?_
              refine ⟨?_, HBZ.out⟩
              have e1 : decF s = (Fr.zero, 10) := by
                unfold decF
                rw [if_neg (by have := HBB.out; have := H3.out; omega), if_neg (by rw [← HIN.out.2]; simp), if_neg (by rw [← HBB.out.1]; omega), if_pos (by rw [← HBB.out.1, ← HE.out.2.1, ← HE.out.2.2]; exact .inl hlo)]
              rw [e1]
              rfl
            · by_cases hhi : m0 < (s.size : Int)
              · have HRZ := Lib.hid (show ObjAt (w4.alloc (.cells #[.string n0, .bool to, .int .i64 l0, .int .i64 m0] 82)) g0 Fr.zero.cells 49 from hr6.out)
                have HBZ := Lib.hid (show Below w.heap.size w ((w4.alloc (.cells #[.string n0, .bool to, .int .i64 l0, .int .i64 m0] 82)).setRow g0 Fr.zero.cells) by rw [HGG.out]; exact below_setRow (show Below g0 w (w4.alloc (.cells #[.string n0, .bool to, .int .i64 l0, .int .i64 m0] 82)) from hb6.out) g0 (Nat.le_refl _) Fr.zero.cells)
                have HG9 := Lib.hid (setRow_heap (w4.alloc (.cells #[.string n0, .bool to, .int .i64 l0, .int .i64 m0] 82)) g0 Fr.zero.cells Fr.zero.cells 49 (0, 0) HRZ.out)
                go_wp2_with (first
                  | ((with_reducible refine wpList_build_to ?hgd_b6 49 ?parts_b6 ?ho_b6 Fr.zero.cells ?hc_b6 ?h_b6); (case ho_b6 => rfl); (case hgd_b6 => rfl); (case hc_b6 => kernel_rfl))
                  | ((with_reducible refine wpList_store_row ?hgd_r6 49 (.tmp 2) (.tmp 65) ?ho_r6 g0 Fr.zero.cells ?hx_r6 ?hy_r6 49 Fr.zero.cells ?hg_r6 ?hi_r6 ?hold_r6 ?h1_r6 ?h_r6); (case ho_r6 => rfl); (case hgd_r6 => rfl); (case hx_r6 => rfl); (case hy_r6 => rfl); (case hg_r6 => exact HRZ.out); (case hi_r6 => kernel_rfl); (case hold_r6 => rfl); (case h1_r6 => kernel_rfl)))
                refine bodyPost_ret (res_ct rfl _ _ g0 49 Fr.zero.cells (0, 0) _ rfl HG9.out Tryd.underlying49 rfl (by kernel_rfl)) rfl ?_
                refine ⟨?_, HBZ.out⟩
                have e1 : decF s = (Fr.zero, 10) := by
                  unfold decF
                  rw [if_neg (by have := HBB.out; have := H3.out; omega), if_neg (by rw [← HIN.out.2]; simp), if_neg (by rw [← HBB.out.1]; omega), if_pos (by rw [← HBB.out.1, ← HE.out.2.1, ← HE.out.2.2]; exact .inr hhi)]
                rw [e1]
                rfl
              · have hopen : inn = s.extract 0 (s.size - 2) := by
                  have h2 := HIN.out.2
                  rw [HIN.out.1]
                  unfold Crc.opened at h2 ⊢
                  split at h2
                  · cases h2
                  · next hc => rw [if_neg hc]
                have hisz : inn.size = s.size - 2 := by rw [hopen, ByteArray.size_extract]; omega
                have hink : nb inn 0 1 = b0 := by
                  rw [HBB.out.1, hopen]
                  exact nb_ext s _ 0 1 (by omega)
                have hl3 : b0 = 3 → l0 = 23 := fun e => by rw [HE.out.2.1, e]; decide
                have hl4 : b0 = 4 → l0 = 27 := fun e => by rw [HE.out.2.1, e]; decide
                have hrd := read_any inn (by unfold maxLen; omega) (by omega) (by rw [hink]; intro e; have := hl3 e; omega) (by rw [hink]; intro e; have := hl4 e; omega) (w4.alloc (.cells #[.string n0, .bool to, .int .i64 l0, .int .i64 m0] 82))
                obtain ⟨CC, hCC⟩ : ∃ C, C = (frF inn).cells := ⟨_, rfl⟩
                obtain ⟨ow, how⟩ : ∃ b, b = okW inn := ⟨_, rfl⟩
                rw [← hCC, ← how] at hrd
                have HRD := Lib.hid hrd
                have HCC := Lib.hid hCC
                have HOW := Lib.hid how
                have HOPEN := Lib.hid hopen
                have hCs := Fr.size hCC
                have hC1 : CC.all (·.oneCell') = true := by rw [hCC]; kernel_rfl
                have hCi : (Tryd.prog.info? 49).map (·.size) = some CC.size := by rw [hCs]; kernel_rfl
                have HCI := Lib.hid (And.intro hC1 hCi)
                clear hrd hCC how hopen hisz hink hl3 hl4 hC1 hCi
                go_wp2_with fail
                refine HRD.out.mono ?_
                rintro e w6 ⟨rfl, hb⟩
                have hr7 := (Keep.of_below (S := fun _ => False) hb).obj hr6.out (fun h => h)
                have hlt6 : g0 < w6.heap.size := hr7.lt
                have hb7 := hb6.out.trans (hb.mono (by rw [World.size_alloc]; omega))
                have hr8 := Lib.hid (hr7.alloc (.cells CC 49))
                have hb8 := Lib.hid (hb7.alloc (Nat.le_of_lt hlt6) (.cells CC 49))
                have hc8 := Lib.hid (ObjAt.new w6 CC 49)
                clear hb hr7 hb7 HRD hr6 hb6
                cases ow
                · have HRZ := Lib.hid (show ObjAt (w6.alloc (.cells CC 49)) g0 Fr.zero.cells 49 from hr8.out)
                  have HBZ := Lib.hid (show Below w.heap.size w ((w6.alloc (.cells CC 49)).setRow g0 Fr.zero.cells) by rw [HGG.out]; exact below_setRow (show Below g0 w (w6.alloc (.cells CC 49)) from hb8.out) g0 (Nat.le_refl _) Fr.zero.cells)
                  have HG9 := Lib.hid (setRow_heap (w6.alloc (.cells CC 49)) g0 Fr.zero.cells Fr.zero.cells 49 (0, 0) HRZ.out)
                  go_wp2_with (first
                    | ((with_reducible refine wpList_store_new ?hgd_s9 49 (.tmp 9) (.tmp 69) ?ho_s9 w6.heap.size ?c0_s9 CC ?hg_s9 ?hx_s9 ?hy_s9 ?hi_s9 ?hs_s9 ?h1_s9 ?h_s9); (case ho_s9 => rfl); (case hgd_s9 => rfl); (case hg_s9 => rfl); (case hx_s9 => rfl); (case hy_s9 => rfl); (case hi_s9 => exact HCI.out.2); (case hs_s9 => rw [hCs]; rfl); (case h1_s9 => exact HCI.out.1))
                    | ((with_reducible refine wpList_build_to ?hgd_b8 49 ?parts_b8 ?ho_b8 Fr.zero.cells ?hc_b8 ?h_b8); (case ho_b8 => rfl); (case hgd_b8 => rfl); (case hc_b8 => kernel_rfl))
                    | ((with_reducible refine wpList_store_row ?hgd_r8 49 (.tmp 2) (.tmp 78) ?ho_r8 g0 Fr.zero.cells ?hx_r8 ?hy_r8 49 Fr.zero.cells ?hg_r8 ?hi_r8 ?hold_r8 ?h1_r8 ?h_r8); (case ho_r8 => rfl); (case hgd_r8 => rfl); (case hx_r8 => rfl); (case hy_r8 => rfl); (case hg_r8 => exact HRZ.out); (case hi_r8 => kernel_rfl); (case hold_r8 => rfl); (case h1_r8 => kernel_rfl)))
                  refine bodyPost_ret (res_ct rfl _ _ g0 49 Fr.zero.cells (0, 0) _ rfl HG9.out Tryd.underlying49 rfl (by kernel_rfl)) rfl ?_
                  refine ⟨?_, HBZ.out⟩
                  have e1 : decF s = (Fr.zero, 3) := by
                    unfold decF
                    rw [if_neg (by have := HBB.out; have := H3.out; omega), if_neg (by rw [← HIN.out.2]; simp), if_neg (by rw [← HBB.out.1]; omega), if_neg (by rw [← HBB.out.1, ← HE.out.2.1, ← HE.out.2.2]; omega), if_pos (by rw [← HOPEN.out]; exact .inl HOW.out.symm)]
                  rw [e1]
                  rfl
                · go_wp2_with (first
                    | ((with_reducible refine wpList_store_new ?hgd_s8 49 (.tmp 9) (.tmp 69) ?ho_s8 w6.heap.size ?c0_s8 CC ?hg_s8 ?hx_s8 ?hy_s8 ?hi_s8 ?hs_s8 ?h1_s8 ?h_s8); (case ho_s8 => rfl); (case hgd_s8 => rfl); (case hg_s8 => rfl); (case hx_s8 => rfl); (case hy_s8 => rfl); (case hi_s8 => exact HCI.out.2); (case hs_s8 => rw [hCs]; rfl); (case h1_s8 => exact HCI.out.1))
                    | ((with_reducible refine wpList_frame (.tmp 9) ?ho_f8 ?hw_f8 w6.heap.size CC ?hx_f8 hCs ?hg_f8 ?h_f8); (case ho_f8 => rfl); (case hw_f8 => kernel_rfl); (case hx_f8 => rfl); (case hg_f8 => exact hc8.out)))
                  refine (right_any CC _ HCC.out _).mono ?_
                  rintro e w7 ⟨rfl, hb⟩
                  have hr9 := Lib.hid ((Keep.of_below (S := fun _ => False) hb).obj hr8.out (fun h => h))
                  have hc9 := Lib.hid ((Keep.of_below (S := fun _ => False) hb).obj hc8.out (fun h => h))
                  have hb9 := Lib.hid (hb8.out.trans (hb.mono (by rw [World.size_alloc]; omega)))
                  clear hb hr8 hc8 hb8
                  by_cases hR : rightP (frF inn)
                  · have hd := decide_eq_true hR
                    rw [hd]
                    have HR := Lib.hid hR
                    clear hd hR
                    have HBZ := Lib.hid (show Below w.heap.size w (w7.setRow g0 CC) by rw [HGG.out]; exact below_setRow hb9.out g0 (Nat.le_refl _) CC)
                    have HG9 := Lib.hid (setRow_heap w7 g0 Fr.zero.cells CC 49 (0, 0) hr9.out)
                    go_wp2_with (first
                      | ((with_reducible refine wpList_frame (.tmp 9) ?ho_fz ?hw_fz w6.heap.size CC ?hx_fz hCs ?hg_fz ?h_fz); (case ho_fz => rfl); (case hw_fz => kernel_rfl); (case hx_fz => rfl); (case hg_fz => exact hc9.out))
                      | ((with_reducible refine wpList_store_row ?hgd_rz 49 (.tmp 2) (.tmp 79) ?ho_rz g0 CC ?hx_rz ?hy_rz 49 Fr.zero.cells ?hg_rz ?hi_rz ?hold_rz ?h1_rz ?h_rz); (case ho_rz => rfl); (case hgd_rz => rfl); (case hx_rz => rfl); (case hy_rz => rfl); (case hg_rz => exact hr9.out); (case hi_rz => exact HCI.out.2); (case hold_rz => rw [hCs]; rfl); (case h1_rz => exact HCI.out.1)))
                    refine bodyPost_ret (res_ct rfl _ _ g0 49 CC (0, 0) _ rfl HG9.out Tryd.underlying49 rfl HCI.out.2) rfl ?_
                    refine ⟨?_, HBZ.out⟩
                    have e1 : decF s = (frF inn, 0) := by
                      unfold decF
                      rw [if_neg (by have := HBB.out; have := H3.out; omega), if_neg (by rw [← HIN.out.2]; simp), if_neg (by rw [← HBB.out.1]; omega), if_neg (by rw [← HBB.out.1, ← HE.out.2.1, ← HE.out.2.2]; omega), if_neg (by rw [← HOPEN.out]; intro h; exact h.elim (fun h => by rw [← HOW.out] at h; cases h) (fun h => h HR.out)), ← HOPEN.out]
                    rw [e1, HCC.out]
                    rfl
                  · have hd := decide_eq_false hR
                    rw [hd]
                    have HR := Lib.hid hR
                    clear hd hR
                    have HRZ := Lib.hid (show ObjAt w7 g0 Fr.zero.cells 49 from hr9.out)
                    have HBZ := Lib.hid (show Below w.heap.size w (w7.setRow g0 Fr.zero.cells) by rw [HGG.out]; exact below_setRow (show Below g0 w w7 from hb9.out) g0 (Nat.le_refl _) Fr.zero.cells)
                    have HG9 := Lib.hid (setRow_heap w7 g0 Fr.zero.cells Fr.zero.cells 49 (0, 0) HRZ.out)
                    go_wp2_with (first
                      | ((with_reducible refine wpList_build_to ?hgd_b7 49 ?parts_b7 ?ho_b7 Fr.zero.cells ?hc_b7 ?h_b7); (case ho_b7 => rfl); (case hgd_b7 => rfl); (case hc_b7 => kernel_rfl))
                      | ((with_reducible refine wpList_store_row ?hgd_r7 49 (.tmp 2) (.tmp 78) ?ho_r7 g0 Fr.zero.cells ?hx_r7 ?hy_r7 49 Fr.zero.cells ?hg_r7 ?hi_r7 ?hold_r7 ?h1_r7 ?h_r7); (case ho_r7 => rfl); (case hgd_r7 => rfl); (case hx_r7 => rfl); (case hy_r7 => rfl); (case hg_r7 => exact HRZ.out); (case hi_r7 => kernel_rfl); (case hold_r7 => rfl); (case h1_r7 => kernel_rfl)))
                    refine bodyPost_ret (res_ct rfl _ _ g0 49 Fr.zero.cells (0, 0) _ rfl HG9.out Tryd.underlying49 rfl (by kernel_rfl)) rfl ?_
                    refine ⟨?_, HBZ.out⟩
                    have e1 : decF s = (Fr.zero, 3) := by
                      unfold decF
                      rw [if_neg (by have := HBB.out; have := H3.out; omega), if_neg (by rw [← HIN.out.2]; simp), if_neg (by rw [← HBB.out.1]; omega), if_neg (by rw [← HBB.out.1, ← HE.out.2.1, ← HE.out.2.2]; omega), if_pos (by rw [← HOPEN.out]; exact .inr HR.out)]
                    rw [e1]
                    rfl
      · have hne3 : ((s.size : Int) != (b1 : Int)) = true := by simp [h3]
        have HRZ := Lib.hid (show ObjAt (w2.alloc (.cells #[.string (⟨#[116, 111, 107, 101, 110]⟩ : ByteArray), .bool true, .int .i64 17, .int .i64 17] 82)) g0 Fr.zero.cells 49 from hr3.out)
        have HBZ := Lib.hid (show Below w.heap.size w ((w2.alloc (.cells #[.string (⟨#[116, 111, 107, 101, 110]⟩ : ByteArray), .bool true, .int .i64 17, .int .i64 17] 82)).setRow g0 Fr.zero.cells) by rw [HGG.out]; exact below_setRow (show Below g0 w (w2.alloc (.cells #[.string (⟨#[116, 111, 107, 101, 110]⟩ : ByteArray), .bool true, .int .i64 17, .int .i64 17] 82)) from hb3.out) g0 (Nat.le_refl _) Fr.zero.cells)
        have HG9 := Lib.hid (setRow_heap (w2.alloc (.cells #[.string (⟨#[116, 111, 107, 101, 110]⟩ : ByteArray), .bool true, .int .i64 17, .int .i64 17] 82)) g0 Fr.zero.cells Fr.zero.cells 49 (0, 0) HRZ.out)
        go_wp2_with (first
          | ((with_reducible refine wpList_build_to ?hgd_b9 49 ?parts_b9 ?ho_b9 Fr.zero.cells ?hc_b9 ?h_b9); (case ho_b9 => rfl); (case hgd_b9 => rfl); (case hc_b9 => kernel_rfl))
          | ((with_reducible refine wpList_store_row ?hgd_r9 49 (.tmp 2) (.tmp 32) ?ho_r9 g0 Fr.zero.cells ?hx_r9 ?hy_r9 49 Fr.zero.cells ?hg_r9 ?hi_r9 ?hold_r9 ?h1_r9 ?h_r9); (case ho_r9 => rfl); (case hgd_r9 => rfl); (case hx_r9 => rfl); (case hy_r9 => rfl); (case hg_r9 => exact HRZ.out); (case hi_r9 => kernel_rfl); (case hold_r9 => rfl); (case h1_r9 => kernel_rfl)))
        refine bodyPost_ret (res_ct rfl _ _ g0 49 Fr.zero.cells (0, 0) _ rfl HG9.out Tryd.underlying49 rfl (by kernel_rfl)) rfl ?_
        refine ⟨?_, HBZ.out⟩
        have e1 : decF s = (Fr.zero, 10) := by
          unfold decF
          rw [if_pos (by have := HBB.out; omega)]
        rw [e1]
        rfl
end Go.Proofs.YtmehafolnpkmhaaDoor
