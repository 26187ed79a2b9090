/- Wheel: Skip, walked. -/
import Derived.Test.YtkeeledkdoiglaaDoorWhRows
namespace Go.Proofs.YtkeeledkdoiglaaDoor.Wh
open Go.RowKit Go.Proofs.YtkeeledkdoiglaaDoor
structure SK (w wr : World) (wb : Nat) (F : Nat → Int) (m : Int) (N : Nat) (nv ov : Value) (z : Int) (G : Nat → Int) (mj : Int) (lo : List Int) : Prop where
  nv : nv = .int .i64 z
  zb : -9223372036854775808 ≤ z ∧ z ≤ 20000
  row : Own wr w.heap.size ov lo
  wl : WL wr wb G mj
  mb : mj + z.toNat ≤ m + N
  rows : lo ++ rows G z.toNat = rows F N
  adv : ∀ i, i < 16 → adv G z.toNat i = adv F N i
  len : lo.length + 16 * z.toNat ≤ 16 * N
  keep : Keep (fun j => j = wb) w wr
set_option maxRecDepth 100000 in
set_option maxHeartbeats 4000000 in
theorem skipW {w : World} {wb : Nat} {F : Nat → Int} {m : Int} (h : WL w wb F m) (n : Int) (hn : -9223372036854775808 ≤ n ∧ n ≤ 9223372036854775807) (N : Nat) (hN : N = (min n 20000).toNat) (hm : 0 ≤ m ∧ m + N ≤ 300000) (hL : LaidW w) :
    Calls Tryd.prog 17 #[.pointer (some ⟨wb, 0, none⟩), .int .i64 n] w fun e w' => ∃ v, e = .returned v ∧ Own w' w.heap.size v (rows F N) ∧ WL w' wb (adv F N) (m + N) ∧ Keep (fun j => j = wb) w w' := by
  have hlt := h.lt
  have hwb := h.ne0 hL
  have HL := Lib.hid hL
  have H0 := Lib.hid (show SK w w wb F m N (.int .i64 (min n 20000)) (.slice none 0 0) (min n 20000) F m [] from
    ⟨rfl, by omega, World.ownsRow_nil _ _ _ _, h, by omega, by rw [← hN]; rfl, fun i hi => by rw [← hN], by simp; omega, Keep.refl _ _⟩)
  clear h hL
  have HN := Lib.hid hN
  have hN2 : N ≤ 20000 := by omega
  clear hN
  go_enter Tryd.func17, Tryd.ntmps17
  go_wp2_with fail
  go_loopw [1, 5] (fun nv ov wr => ∃ z G mj lo, SK w wr wb F m N nv ov z G mj lo) (fun nv _ _ => (intOf nv).toNat)
  case atStart => exact ⟨_, _, _, _, H0.out⟩
  case round =>
    clear H0
    obtain ⟨z, G, mj, lo, T⟩ := hrel
    obtain rfl := T.nv
    have hzb := T.zb
    have HT := Lib.hid T
    have hmb := T.mb
    clear T
    by_cases hz : 0 < z
    · have hS := soonestW HT.out.wl (by omega)
      have hsl := soon_least G 16
      obtain ⟨bb, hbb⟩ : ∃ bb, bb = (soon G 16).1 := ⟨_, rfl⟩
      obtain ⟨oo, hoo⟩ : ∃ oo, oo = (soon G 16).2 := ⟨_, rfl⟩
      rw [← hbb, ← hoo] at hS hsl
      have HS := Lib.hid hS
      have HSL := Lib.hid hsl
      clear hS hsl hbb hoo
      go_wp2_with fail
      refine HS.out.mono ?_
      rintro e w1 ⟨rfl, nq, rfl⟩
      clear HS
      have HT1 := Lib.hid (show SK w (wr.drewN nq) wb F m N _ _ z G mj lo from ⟨rfl, HT.out.zb, HT.out.row, HT.out.wl.drewN nq, HT.out.mb, HT.out.rows, HT.out.adv, HT.out.len, HT.out.keep.drewN nq⟩)
      clear HT
      generalize wr.drewN nq = w1 at *
      cases oo
      · have hr := rows_none z.toNat (HSL.out.2 rfl)
        have HR := Lib.hid hr
        clear HSL hr
        go_wp2
        go_ret
        refine ⟨_, rfl, ?_, ?_, HT1.out.keep⟩
        · have := HT1.out.rows
          rw [HR.out.1, List.append_nil] at this
          rw [← this]
          exact HT1.out.row
        · exact (HT1.out.wl.mono (by omega)).congr fun i hi => (HR.out.2 i hi).symm.trans (HT1.out.adv i hi)
      · have hb := (HSL.out.1 rfl).1
        have hle := (HSL.out.1 rfl).2
        have HLE := Lib.hid hle
        clear HSL hle
        obtain ⟨d, hd⟩ : ∃ d : Nat, min bb z = (d : Int) + 1 := ⟨(min bb z - 1).toNat, by omega⟩
        have hd1 : (d : Int) + 1 ≤ bb := by omega
        have hd2 : (d : Int) + 1 ≤ z := by omega
        by_cases hd0 : d = 0
        · subst hd0
          obtain ⟨z2, hz2⟩ : ∃ z2, z2 = z := ⟨_, rfl⟩
          obtain ⟨G2, hG2⟩ : ∃ G2, G2 = G := ⟨_, rfl⟩
          obtain ⟨mj2, hmj2⟩ : ∃ mj2, mj2 = mj := ⟨_, rfl⟩
          rw [← hz2, ← hG2, ← hmj2] at HT1
          rw [← hz2] at hd hd2 hz ⊢
          have hzz : z2 ≤ z := by omega
          clear hz2 hG2 hmj2 HLE
          have HT2 := HT1
          clear HT1 hmb hzb
          have hzb := HT2.out.zb
          have hmb := HT2.out.mb
          have hTK := tickW HT2.out.wl (by have := HT2.out.mb; omega) (laidW_keep HL.out HT2.out.keep (fun e => hwb e.symm))
          have HTK := Lib.hid hTK
          clear hTK
          go_wp2_with fail
          refine HTK.out.mono ?_
          clear HTK
          rintro e w3 ⟨vt, rfl, hot, hwl, hk⟩
          have hro := own_block HT2.out.row (w' := w3) (fun k h1 h2 => hk.block k h2 (by omega))
          have hk3 := HT2.out.keep.trans hk
          have HRO := Lib.hid hro
          have HOT := Lib.hid hot
          have HK3 := Lib.hid hk3
          have HWL := Lib.hid hwl
          have hcl := comes_len G2 16
          have hlen := HT2.out.len
          have HCL := Lib.hid (And.intro hcl hlen)
          obtain ⟨ii, hi1, hi2, hi3, hi4⟩ := int_info
          have HI := Lib.hid (And.intro hi1 (And.intro hi2 (And.intro hi3 hi4)))
          clear hi1 hi2 hi3 hi4 hot hwl hk hro hk3 hcl hlen
          go_wp2_with (at_builtin; refine wpList_append_rows rfl (.tmp 39) (.tmp 41) 31 rfl w.heap.size ii (by kernel_rfl) HI.out.1 HI.out.2.1 HI.out.2.2.1 HI.out.2.2.2 _ lo rfl HRO.out _ vt (comes G2 16) rfl HOT.out (by have := HCL.out; omega) HK3.out.size ?_)
          intro v' w4 ho hg hv
          have hk4 := keep_grow HK3.out HRO.out hg
          have hwl4 := HWL.out.block hg.size (hg.block wb HWL.out.lt (fun e => by have := (HRO.out.lt wb e.symm).1; omega))
          have hT4 : SK w w4 wb F m N (.int .i64 (z2 - 1)) v' (z2 - 1) (down G2 16) (mj2 + 1) (lo ++ comes G2 16) := by
            have e : z2.toNat = (z2 - 1).toNat + 1 := by omega
            have t := HT2.out
            have t1 := t.mb
            have t2 := t.rows
            have t3 := t.adv
            have t4 := t.len
            have t5 := t.zb
            have t6 := HCL.out
            rw [e] at t2 t3
            refine ⟨rfl, by omega, ho, hwl4, by omega, ?_, t3, by rw [List.length_append]; omega, hk4⟩
            rw [List.append_assoc]
            exact t2
          have HT4 := Lib.hid hT4
          clear ho hg hv hk4 hwl4 hT4 HRO HOT HK3 HWL HCL HI
          go_wp2
          go_roundw
          case rel => exact ⟨_, _, _, _, HT4.out⟩
          case measure => simp [intOf]; omega
        · have hdp : 0 < (d : Int) := by omega
          obtain ⟨s, ha, hG, hsn, hF⟩ := HT1.out.wl
          have hn0 := hG.n
          have c0 := ha.now
          have f0 := ha.free 0
          have hidl := idle_good hG d (fun i hi h0 => by rw [hF i hi] at h0 ⊢; have := HLE.out i hi h0; omega)
          have hT2 : SK w (w1.setCell ⟨wb, 0, none⟩ (.int .i64 (s.now + (d : Int)))) wb F m N (.int .i64 (z - (d : Int))) u5 (z - (d : Int)) (less G d) (mj + (d : Int)) lo := by
            have t := HT1.out
            have e : z.toNat = d + (z - (d : Int)).toNat := by omega
            have t2 := t.rows
            have t3 := t.adv
            have t4 := t.len
            rw [e] at t2 t3 t4
            obtain ⟨r1, r2⟩ := rows_idle d (z - (d : Int)).toNat (F := G) (fun i hi h0 => by have := HLE.out i hi h0; omega)
            refine ⟨rfl, by omega, own_block t.row (fun j h1 h2 => heap_setCell_other _ _ _ _ (by simp; omega)), ⟨{ s with now := s.now + (d : Int) }, ha.st_now _, hidl.1, by show s.now + (d : Int) ≤ _; omega, fun i hi => (hidl.2 i hi).trans (by unfold less; rw [hF i hi])⟩, by omega, by rw [← r1]; exact t2, fun i hi => (r2 i hi).symm.trans (t3 i hi), by omega, t.keep.setCell (p := ⟨wb, 0, none⟩) (.inr rfl) _⟩
          have HT2 := Lib.hid hT2
          clear hT2 hidl hF hG HLE HT1 ha
          go_wp2_with fail
          clear c0 f0
          generalize w1.setCell ⟨wb, 0, none⟩ (.int .i64 (s.now + (d : Int))) = w2 at *
          obtain ⟨z2, hz2⟩ : ∃ z2, z2 = z - (d : Int) := ⟨_, rfl⟩
          obtain ⟨G2, hG2⟩ : ∃ G2, G2 = less G d := ⟨_, rfl⟩
          obtain ⟨mj2, hmj2⟩ : ∃ mj2, mj2 = mj + (d : Int) := ⟨_, rfl⟩
          have hzp : 1 ≤ z2 ∧ z2 < z := by omega
          rw [← hz2, ← hG2, ← hmj2] at HT2
          rw [← hz2]
          clear hz2 hG2 hmj2 hd hmb hzb
          have hzb := HT2.out.zb
          have hmb := HT2.out.mb
          have hTK := tickW HT2.out.wl (by have := HT2.out.mb; omega) (laidW_keep HL.out HT2.out.keep (fun e => hwb e.symm))
          have HTK := Lib.hid hTK
          clear hTK
          refine HTK.out.mono ?_
          clear HTK
          rintro e w3 ⟨vt, rfl, hot, hwl, hk⟩
          have hro := own_block HT2.out.row (w' := w3) (fun k h1 h2 => hk.block k h2 (by omega))
          have hk3 := HT2.out.keep.trans hk
          have HRO := Lib.hid hro
          have HOT := Lib.hid hot
          have HK3 := Lib.hid hk3
          have HWL := Lib.hid hwl
          have hcl := comes_len G2 16
          have hlen := HT2.out.len
          have HCL := Lib.hid (And.intro hcl hlen)
          obtain ⟨ii, hi1, hi2, hi3, hi4⟩ := int_info
          have HI := Lib.hid (And.intro hi1 (And.intro hi2 (And.intro hi3 hi4)))
          clear hi1 hi2 hi3 hi4 hot hwl hk hro hk3 hcl hlen
          go_wp2_with (at_builtin; refine wpList_append_rows rfl (.tmp 39) (.tmp 41) 31 rfl w.heap.size ii (by kernel_rfl) HI.out.1 HI.out.2.1 HI.out.2.2.1 HI.out.2.2.2 _ lo rfl HRO.out _ vt (comes G2 16) rfl HOT.out (by have := HCL.out; omega) HK3.out.size ?_)
          intro v' w4 ho hg hv
          have hk4 := keep_grow HK3.out HRO.out hg
          have hwl4 := HWL.out.block hg.size (hg.block wb HWL.out.lt (fun e => by have := (HRO.out.lt wb e.symm).1; omega))
          have hT4 : SK w w4 wb F m N (.int .i64 (z2 - 1)) v' (z2 - 1) (down G2 16) (mj2 + 1) (lo ++ comes G2 16) := by
            have e : z2.toNat = (z2 - 1).toNat + 1 := by omega
            have t := HT2.out
            have t1 := t.mb
            have t2 := t.rows
            have t3 := t.adv
            have t4 := t.len
            have t5 := t.zb
            have t6 := HCL.out
            rw [e] at t2 t3
            refine ⟨rfl, by omega, ho, hwl4, by omega, ?_, t3, by rw [List.length_append]; omega, hk4⟩
            rw [List.append_assoc]
            exact t2
          have HT4 := Lib.hid hT4
          clear ho hg hv hk4 hwl4 hT4 HRO HOT HK3 HWL HCL HI
          go_wp2
          go_roundw
          case rel => exact ⟨_, _, _, _, HT4.out⟩
          case measure => simp [intOf]; omega
    · have hz0 : z.toNat = 0 := by omega
      have HZ := Lib.hid hz0
      clear hz0
      go_wp2
      go_ret
      refine ⟨_, rfl, ?_, ?_, HT.out.keep⟩
      · have := HT.out.rows
        rw [HZ.out] at this
        simp only [rows, List.append_nil] at this
        rw [← this]
        exact HT.out.row
      · refine (HT.out.wl.mono (by omega)).congr fun i hi => ?_
        have := HT.out.adv i hi
        rw [HZ.out] at this
        exact this
end Go.Proofs.YtkeeledkdoiglaaDoor.Wh
