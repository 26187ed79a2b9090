/- The law WheelSkips: ticks that are skipped are ticks. -/
import Derived.Test.YtkeeledkdoiglaaDoorWhActs
import Derived.Deep.RegionHeld3
namespace Go.Proofs.YtkeeledkdoiglaaDoor.Wh
open Go.RowKit Go.Proofs.YtkeeledkdoiglaaDoor
/-- Two wheels in memory. -/
structure WW (w0 w : World) (vb ub : Nat) (F : Nat → Int) (m : Int) (G : Nat → Int) (m2 : Int) : Prop where
  v : WL w vb F m
  u : WL w ub G m2
  ge : w0.heap.size ≤ vb ∧ w0.heap.size ≤ ub ∧ vb ≠ ub
  below : Below w0.heap.size w0 w
section
variable {w0 w w' : World} {vb ub : Nat} {F G : Nat → Int} {m m2 : Int}
theorem WW.drewN (h : WW w0 w vb ub F m G m2) (n : Nat) : WW w0 (w.drewN n) vb ub F m G m2 :=
  ⟨h.v.drewN n, h.u.drewN n, h.ge, ⟨h.below.os, h.below.tape, h.below.output, h.below.size, h.below.block⟩⟩
theorem WW.stay (h : WW w0 w vb ub F m G m2) {S : Nat → Prop} (hk : Keep S w w') (h1 : ∀ k, S k → w0.heap.size ≤ k ∧ k ≠ vb ∧ k ≠ ub) : WW w0 w' vb ub F m G m2 :=
  ⟨h.v.keep hk (fun e => (h1 _ e).2.1 rfl), h.u.keep hk (fun e => (h1 _ e).2.2 rfl), h.ge, h.below.trans (hk.below h.below.size (fun k h2 h3 => by have := (h1 k h3).1; omega))⟩
theorem WW.alloc (h : WW w0 w vb ub F m G m2) (o : Obj) : WW w0 (w.alloc o) vb ub F m G m2 :=
  h.stay (S := fun _ => False) ((Keep.refl _ w).alloc o) (fun _ h => h.elim)
theorem WW.vstep (h : WW w0 w vb ub F m G m2) {F' : Nat → Int} {m' : Int} (hk : Keep (fun k => k = vb) w w') (hw : WL w' vb F' m') : WW w0 w' vb ub F' m' G m2 :=
  ⟨hw, h.u.keep hk (fun e => h.ge.2.2 e.symm), h.ge, h.below.trans (hk.below h.below.size (fun k h2 h3 => by have := h.ge; omega))⟩
theorem WW.ustep (h : WW w0 w vb ub F m G m2) {G' : Nat → Int} {m' : Int} (hk : Keep (fun k => k = ub) w w') (hw : WL w' ub G' m') : WW w0 w' vb ub F m G' m' :=
  ⟨h.v.keep hk h.ge.2.2, hw, h.ge, h.below.trans (hk.below h.below.size (fun k h2 h3 => by have := h.ge; omega))⟩
theorem WW.laid (h : WW w0 w vb ub F m G m2) (hL : LaidW w0) : LaidW w := laidW_below hL h.below (Nat.le_refl _)
end
set_option maxRecDepth 100000 in
set_option maxHeartbeats 40000000 in
theorem wheelSkips_law (v : Value) (a b : Int) (xs : List ActV) (hok : okActs xs) {w : World} (hA : ActsAt w v xs) (hL : LaidW w) :
    Calls Tryd.prog 5 #[v, .int .i64 a, .int .i64 b] w fun e w' => e = .returned (.bool true) ∧ Below w.heap.size w w' := by
  obtain ⟨ad, cap, bl, o, rfl, hcap, hcm, hne, hcell⟩ := hA
  have HC := Lib.hid (And.intro hne hcell)
  have HOK := Lib.hid hok
  have HCM := Lib.hid hcm
  have HL := Lib.hid hL
  clear hne hcell hok hcm hcap hL
  by_cases h1 : (16 : Int) < (xs.length : Int)
  · go_enter Tryd.func5, Tryd.ntmps5
    go_wp2_with fail
    refine (awake8_any w HL.out).mono ?_
    rintro e w1 ⟨rfl, hb1⟩
    go_wp2
    go_ret
    exact ⟨rfl, hb1⟩
  by_cases h2 : a < 0
  · go_enter Tryd.func5, Tryd.ntmps5
    go_wp2_with fail
    refine (awake8_any w HL.out).mono ?_
    rintro e w1 ⟨rfl, hb1⟩
    go_wp2
    go_ret
    exact ⟨rfl, hb1⟩
  by_cases h3 : b < 0
  · go_enter Tryd.func5, Tryd.ntmps5
    go_wp2_with fail
    refine (awake8_any w HL.out).mono ?_
    rintro e w1 ⟨rfl, hb1⟩
    go_wp2
    go_ret
    exact ⟨rfl, hb1⟩
  by_cases h4 : 2000 < a
  · go_enter Tryd.func5, Tryd.ntmps5
    go_wp2_with fail
    refine (awake8_any w HL.out).mono ?_
    rintro e w1 ⟨rfl, hb1⟩
    go_wp2
    go_ret
    exact ⟨rfl, hb1⟩
  by_cases h5 : 2000 < b
  · go_enter Tryd.func5, Tryd.ntmps5
    go_wp2_with fail
    refine (awake8_any w HL.out).mono ?_
    rintro e w1 ⟨rfl, hb1⟩
    go_wp2
    go_ret
    exact ⟨rfl, hb1⟩
  obtain ⟨an, rfl⟩ := Int.eq_ofNat_of_zero_le (show 0 ≤ a by omega)
  obtain ⟨bn, rfl⟩ := Int.eq_ofNat_of_zero_le (show 0 ≤ b by omega)
  go_enter Tryd.func5, Tryd.ntmps5
  go_wp2_with fail
  refine (awake8_any w HL.out).mono ?_
  rintro e w1 ⟨rfl, hb1⟩
  go_wp2_with fail
  refine (newW w1).mono ?_
  rintro e w2 ⟨rfl, hb2, hw2⟩
  go_wp2_with fail
  refine (newW w2).mono ?_
  rintro e w3 ⟨rfl, hb3, hw3⟩
  have hs1 := hb1.size
  have hs2 := hb2.size
  have hs3 := hb3.size
  have hlt2 := hw2.lt
  have hlt3 := hw3.lt
  have H3 := Lib.hid (show WW w w3 w1.heap.size w2.heap.size (fun _ => 0) 0 (fun _ => 0) 0 from
    ⟨hw2.keep (P := fun _ => False) (Keep.of_below hb3) (fun h => h), hw3, ⟨by omega, by omega, by omega⟩, (hb1.trans (hb2.mono hb1.size)).trans (hb3.mono (by omega))⟩)
  clear hb1 hb2 hb3 hw2 hw3 hs1 hs2 hs3 hlt2 hlt3
  generalize w1.heap.size = vb at *
  generalize w2.heap.size = ub at *
  go_wp2_with fail
  go_loopw [39] (fun c wr => ∃ (k : Nat) (F : Nat → Int), k ≤ xs.length ∧ c = .int .i64 (k : Int) ∧ WW w wr vb ub F 0 F 0) (fun c _ => xs.length - (intOf c).toNat)
  case atStart => exact ⟨0, _, Nat.zero_le _, rfl, H3.out⟩
  case round =>
    clear H3
    obtain ⟨k, F, hk, rfl, R⟩ := hrel
    have HR := Lib.hid R
    clear R
    by_cases hlt : k < xs.length
    · obtain ⟨rfl, hbw⟩ := HC.out.1 (by intro h; rw [h] at hlt; simp at hlt)
      obtain ⟨k0, k1, k2⟩ := HC.out.2 k hlt
      have c0 : wr.cell? ⟨bl, o + k * 3 + 0, none⟩ = some (.int .u8 (xs[k].what : Int)) := (HR.out.below.cell (p := ⟨bl, o + k * 3 + 0, none⟩) hbw).trans k0
      have c1 : wr.cell? ⟨bl, o + k * 3 + 1, none⟩ = some (.int .i64 xs[k].id) := (HR.out.below.cell (p := ⟨bl, o + k * 3 + 1, none⟩) hbw).trans k1
      have c2 : wr.cell? ⟨bl, o + k * 3 + 2, none⟩ = some (.int .i64 xs[k].n) := (HR.out.below.cell (p := ⟨bl, o + k * 3 + 2, none⟩) hbw).trans k2
      rw [Nat.add_zero] at c0
      obtain ⟨hwh, hid, hnb⟩ := HOK.out _ (List.getElem_mem hlt)
      obtain ⟨wh, hx0⟩ : ∃ x, x = xs[k].what := ⟨_, rfl⟩
      obtain ⟨id, hx1⟩ : ∃ x, x = xs[k].id := ⟨_, rfl⟩
      obtain ⟨n, hx2⟩ : ∃ x, x = xs[k].n := ⟨_, rfl⟩
      rw [← hx0] at c0 hwh
      rw [← hx1] at c1 hid
      rw [← hx2] at c2 hnb
      have hlti : (k : Int) < (xs.length : Int) := by omega
      unfold i64b at hid hnb
      clear k0 k1 k2 hx0 hx1 hx2
      have hal := HR.out.alloc (.cells #[.int .u8 (wh : Int), .int .i64 id, .int .i64 n] 28)
      have hob := ObjAt.new wr #[.int .u8 (wh : Int), .int .i64 id, .int .i64 n] 28
      have hqv := HR.out.v.lt
      have hqu := HR.out.u.lt
      have H1a := Lib.hid hal
      have HOa := Lib.hid hob
      have HNE := Lib.hid (show wr.heap.size ≠ vb ∧ wr.heap.size ≠ ub by omega)
      clear hal hob hqv hqu HR
      go_wp2_with fail
      clear c0 c1 c2
      generalize wr.alloc (.cells #[.int .u8 (wh : Int), .int .i64 id, .int .i64 n] 28) = wa at *
      have a1 : wa.cell? ⟨wr.heap.size, 1, none⟩ = some (.int .i64 id) := HOa.out.cell 1
      have a2 : wa.cell? ⟨wr.heap.size, 2, none⟩ = some (.int .i64 n) := HOa.out.cell 2
      have HW0 := Lib.hid (show WW w wa.drew vb ub F 0 F 0 from H1a.out.drewN 1)
      have HO0 := Lib.hid (show ObjAt wa.drew wr.heap.size _ _ from HOa.out.drewN 1)
      obtain ⟨bk, hbk⟩ : ∃ bk, bk = decide (setOk id n) := ⟨_, rfl⟩
      obtain ⟨FF, hFF⟩ : ∃ FF, FF = setF F id n := ⟨_, rfl⟩
      have hs1 := setAny HW0.out.v (by omega) id n
      rw [← hbk, ← hFF] at hs1
      have hs2 := fun (w5 : World) (h : WL w5 ub F 0) => setAny h (by omega) id n
      simp only [← hbk, ← hFF] at hs2
      have HS1 := Lib.hid hs1
      have HS2 := Lib.hid hs2
      clear hs1 hs2 hbk hFF
      go_region_held3 (fun w' => w'.cell? ⟨wr.heap.size, 1, none⟩ = some (.int .i64 id) ∧ w'.cell? ⟨wr.heap.size, 2, none⟩ = some (.int .i64 n))
        (first | exact ⟨HOa.out.cell 1, HOa.out.cell 2⟩ | exact ⟨HO5.out.cell 1, HO5.out.cell 2⟩ | exact ⟨HO6.out.cell 1, HO6.out.cell 2⟩)
        (first
          | (go_at_call 9; (with_reducible refine HS1.out.mono ?_); rintro e w5 ⟨rfl, hk5, hq5⟩; have HB5 := Lib.hid (HW0.out.vstep hk5 hq5); have HO5 := Lib.hid (hk5.obj HO0.out HNE.out.1))
          | (go_at_call 9; (with_reducible refine (HS2.out _ HB5.out.u).mono ?_); rintro e w6 ⟨rfl, hk6, hr6⟩; have HB := Lib.hid (HB5.out.ustep hk6 hr6); have HO6 := Lib.hid (hk6.obj HO5.out HNE.out.2)))
      clear a1 a2 hk5 hq5 hk6 hr6 HS1 HS2
      go_wp2
      go_roundw
      case rel => exact ⟨k + 1, FF, by omega, by go_num, HB.out⟩
      case measure => simp [intOf]; omega
    · obtain rfl : k = xs.length := by omega
      have hul := HR.out.u.lt
      have hvl := HR.out.v.lt
      have HULT := Lib.hid (And.intro hul hvl)
      clear hul hvl
      go_wp2_with fail
      refine (skipW HR.out.v ((an : Int) + (bn : Int)) (by omega) (an + bn) (by omega) (by omega) (HR.out.laid HL.out)).mono ?_
      rintro e w5 ⟨va, rfl, hva, hw5, hk5⟩
      have H5 := Lib.hid (HR.out.vstep hk5 hw5)
      have HS5 := Lib.hid hk5.size
      have HVA := Lib.hid hva
      clear hva hw5 hk5 HR
      go_wp2_with fail
      refine (skipW H5.out.u (an : Int) (by omega) an (by omega) (by omega) (H5.out.laid HL.out)).mono ?_
      rintro e w6 ⟨vc, rfl, hvc, hw6, hk6⟩
      have H6 := Lib.hid (H5.out.ustep hk6 hw6)
      have HS6 := Lib.hid hk6.size
      have HVA6 := Lib.hid (own_block HVA.out (w' := w6) (fun j h1 h2 => hk6.block j h2 (fun e => by have := HULT.out; omega)))
      have HVC := Lib.hid hvc
      have HVAL := Lib.hid (fun k hk => (World.ownsRow.lt HVA.out k hk).2)
      clear hvc hw6 hk6 H5 HVA
      go_wp2_with fail
      refine (skipW H6.out.u (bn : Int) (by omega) bn (by omega) (by omega) (H6.out.laid HL.out)).mono ?_
      rintro e w7 ⟨vd, rfl, hvd, hw7, hk7⟩
      have H7 := Lib.hid (H6.out.ustep hk7 hw7)
      have HS7 := Lib.hid hk7.size
      have HVA7 := Lib.hid (own_block HVA6.out (w' := w7) (fun j h1 h2 => hk7.block j h2 (fun e => by have := HULT.out; omega)))
      have HVC7 := Lib.hid (own_block HVC.out (w' := w7) (fun j h1 h2 => hk7.block j h2 (fun e => by have := HULT.out; have := HS5.out; omega)))
      have HVD := Lib.hid hvd
      have hl1 := rows_len an F
      have hl2 := rows_len bn (adv F an)
      obtain ⟨r1, r2⟩ := rows_add an bn F
      have HRA := Lib.hid (And.intro r1 r2)
      have HRL := Lib.hid (And.intro hl1 hl2)
      obtain ⟨ii, hi1, hi2, hi3, hi4⟩ := int_info
      have HI := Lib.hid (And.intro hi1 (And.intro hi2 (And.intro hi3 hi4)))
      clear hi1 hi2 hi3 hi4 hvd hw7 hk7 hl1 hl2 r1 r2 H6 HVA6 HVC
      go_wp2_with (at_builtin; refine wpList_append_rows rfl (.tmp 64) (.tmp 67) 31 rfl w5.heap.size ii (by kernel_rfl) HI.out.1 HI.out.2.1 HI.out.2.2.1 HI.out.2.2.2 vc (rows F an) rfl HVC7.out _ vd (rows (adv F an) bn) rfl HVD.out (by have := HRL.out; omega) (Nat.le_trans HS6.out HS7.out) ?_)
      intro v' w8 ho hg hv
      have hblk : ∀ k, k < w5.heap.size → w8.heap[k]? = w7.heap[k]? := fun k hk => hg.block k (by have := HS6.out; have := HS7.out; omega) (fun e => by have := (World.ownsRow.lt HVC7.out k e.symm).1; omega)
      have hvlt := H7.out.v.block hg.size (hblk vb (by have := HULT.out; have := HS5.out; omega))
      have hult := H7.out.u.block hg.size (hblk ub (by have := HULT.out; have := HS5.out; omega))
      have hbl8 : Below w.heap.size w w8 := by
        have h := H7.out.below
        have hge := H7.out.ge
        exact ⟨hg.os.trans h.os, hg.tape.trans h.tape, hg.output.trans h.output, Nat.le_trans h.size hg.size, fun k hk => (hblk k (by have := HULT.out; have := HS5.out; omega)).trans (h.block k hk)⟩
      have HVA8 := Lib.hid (show Own w8 _ va (rows F (an + bn)) from own_keep HVA7.out hg (fun k h1 h2 => by have := (World.ownsRow.lt HVC7.out k h1).1; have := HVAL.out k h2; omega))
      have HVC8 := Lib.hid (show Own w8 _ v' (rows F (an + bn)) by rw [HRA.out.1]; exact ho)
      obtain ⟨FF, hFF⟩ : ∃ FF, FF = adv F (an + bn) := ⟨_, rfl⟩
      rw [← HRA.out.2, ← hFF] at hult
      rw [← hFF] at hvlt
      have H8 := Lib.hid (show WW w w8 vb ub FF _ FF _ from ⟨hvlt, hult, H7.out.ge, hbl8⟩)
      have hrl := rows_len (an + bn) F
      clear ho hg hv hblk hvlt hult hbl8 hFF H7 HVA7 HVC7 HVD HRA HRL HI HS5 HS6 HS7 HVAL
      go_wp2_with fail
      refine (same_eq _ _ va v' (rows F (an + bn)) (by omega) w8 HVA8.out HVC8.out).mono ?_
      rintro e w9 ⟨rfl, k9, rfl⟩
      have H9 := Lib.hid (H8.out.drewN k9)
      clear H8 HVA8 HVC8 hrl
      generalize w8.drewN k9 = w9 at *
      go_wp2_with fail
      refine (lenW H9.out.v).mono ?_
      rintro e w10 ⟨rfl, k10, rfl⟩
      have H10 := Lib.hid (H9.out.drewN k10)
      clear H9
      generalize w9.drewN k10 = w10 at *
      go_wp2_with fail
      refine (lenW H10.out.u).mono ?_
      rintro e w11 ⟨rfl, k11, rfl⟩
      have H11 := Lib.hid (H10.out.drewN k11)
      clear H10
      generalize w10.drewN k11 = w11 at *
      go_wp2_with fail
      go_loopw [80] (fun c wr => ∃ (k : Nat), k ≤ 16 ∧ c = .int .i64 (k : Int) ∧ WW w wr vb ub FF (0 + ((an + bn : Nat) : Int)) FF (0 + (an : Int) + (bn : Int))) (fun c _ => 16 - (intOf c).toNat)
      case atStart => exact ⟨0, by omega, rfl, H11.out⟩
      case round =>
        clear H11
        obtain ⟨k, hk, rfl, R⟩ := hrel
        have HR := Lib.hid R
        clear R
        by_cases hlt : k < 16
        · have hlti : (k : Int) < 16 := by omega
          go_wp2_with fail
          refine (leftW HR.out.v (by omega) k hlt).mono ?_
          rintro e w5 ⟨rfl, k5, rfl⟩
          have H5 := Lib.hid (HR.out.drewN k5)
          clear HR
          generalize wr.drewN k5 = w5 at *
          go_wp2_with fail
          refine (leftW H5.out.u (by omega) k hlt).mono ?_
          rintro e w6 ⟨rfl, k6, rfl⟩
          have H6 := Lib.hid (H5.out.drewN k6)
          clear H5
          generalize w5.drewN k6 = w6 at *
          go_wp2
          go_roundw
          case rel => exact ⟨k + 1, by omega, by go_num, H6.out⟩
          case measure => simp [intOf]; omega
        · obtain rfl : k = 16 := by omega
          go_wp2
          go_ret
          exact ⟨rfl, HR.out.below⟩
end Go.Proofs.YtkeeledkdoiglaaDoor.Wh
