/- The samples of bins, walked (made by wip/mk_back2.py). -/
import Derived.Test.YtkeeledkdoiglaaPhaBins
namespace Go.Proofs.Ytkeeledkdoiglaa
open Go.RowKit
theorem add_flz {p q c d : Nat} {z t : Int × Int} (h : FlZ p q z) (k : FlZ c d t) (hz : BdZ 1099511627776 z) (ht : BdZ 1099511627776 t) : ∃ r1 r2, cSumBits .add .f64 p q c d = some (r1, r2) ∧ FlZ r1 r2 (addZ z t) := by
  obtain ⟨⟨h1, h2⟩, h3, h4⟩ := hz
  obtain ⟨⟨t1, t2⟩, t3, t4⟩ := ht
  obtain ⟨r1, e1, f1⟩ := fl_add h.1 k.1 ⟨by omega, by omega⟩
  obtain ⟨r2, e2, f2⟩ := fl_add h.2 k.2 ⟨by omega, by omega⟩
  exact ⟨r1, r2, by simp [cSumBits, e1, e2], f1, f2⟩
theorem addZ_bd {A B : Int} {z t : Int × Int} (hz : BdZ A z) (ht : BdZ B t) : BdZ (A + B) (addZ z t) := by
  obtain ⟨⟨h1, h2⟩, h3, h4⟩ := hz
  obtain ⟨⟨t1, t2⟩, t3, t4⟩ := ht
  refine ⟨⟨?_, ?_⟩, ?_, ?_⟩ <;> simp only [addZ] <;> omega
def partZ (z : Nat → Int × Int) (n : Nat) : Nat → Int × Int
  | 0 => (0, 0)
  | k + 1 => addZ (partZ z n k) (turnZ (z k) ((k * n : Nat) : Int))
theorem partZ_bd (z : Nat → Int × Int) (n : Nat) (hz : ∀ k, BdZ 4194304 (z k)) (k : Nat) : BdZ (4194304 * (k : Int)) (partZ z n k) := by
  induction k with
  | zero => exact ⟨⟨by simp [partZ], by simp [partZ]⟩, by simp [partZ], by simp [partZ]⟩
  | succ k ih =>
    have := addZ_bd ih (turnZ_bd ((k * n : Nat) : Int) (hz k))
    rw [show (4194304 : Int) * ((k + 1 : Nat) : Int) = 4194304 * (k : Int) + 4194304 by omega]
    exact this
def sampZ (z : Nat → Int × Int) (n : Nat) : Int := (partZ z n 4).1.tdiv 4
set_option maxRecDepth 100000 in
set_option maxHeartbeats 4000000 in
theorem back_any {v : Value} (z : Nat → Int × Int) (hz : ∀ k, BdZ 4194304 (z k)) (hv : Agg4 v (z 0) (z 1) (z 2) (z 3)) (w : World) :
    Calls Try.prog 22 #[v] w fun e w' => e = .returned (.agg #[.int .i64 (sampZ z 0), .int .i64 (sampZ z 1), .int .i64 (sampZ z 2), .int .i64 (sampZ z 3)]) ∧ Below w.heap.size w w' := by
  obtain ⟨r0, i0, r1, i1, r2, i2, r3, i3, rfl, h0, h1, h2, h3⟩ := hv
  have hix := index4 r0 r1 r2 r3 i0 i1 i2 i3
  have HZ := Lib.hid hz
  have H0 := Lib.hid h0
  have H1 := Lib.hid h1
  have H2 := Lib.hid h2
  have H3 := Lib.hid h3
  clear hz h0 h1 h2 h3
  go_enter Try.func22, Try.ntmps22
  go_wp2
  refine wp_loop_rounds 5 ?_
  rw [rounds_succ]
  go_wp2_with fail
  refine wp_loop_rounds 5 ?_
  rw [rounds_succ]
  go_wp2_with fail
  refine (turn_fl (z := z 0) _ H0.out.1 H0.out.2 ((HZ.out 0).mono (by decide)) _).mono ?_
  rintro e w' ⟨c, d, rfl, hc, hd, rfl⟩
  obtain ⟨a01, b01, hs, hp⟩ := add_flz (p := 0) (q := 0) (z := partZ z 0 0) (t := turnZ (z 0) 0) ⟨fl_0, fl_0⟩ ⟨hc, hd⟩ ((partZ_bd z 0 HZ.out 0).mono (by decide)) ((turnZ_bd _ (HZ.out 0)).mono (by decide))
  have hrun := fun w => run_complex_sum (P := Try.prog) w .add (.inl rfl) 26 .f64 0 0 c d a01 b01 hs
  have P01 : Hid (FlZ a01 b01 (partZ z 0 1)) := Lib.hid hp
  clear hs hp hc hd
  go_wp2_with fail
  clear hrun
  rw [rounds_succ]
  go_wp2_with fail
  refine (turn_fl (z := z 1) _ H1.out.1 H1.out.2 ((HZ.out 1).mono (by decide)) _).mono ?_
  rintro e w' ⟨c, d, rfl, hc, hd, rfl⟩
  obtain ⟨a02, b02, hs, hp⟩ := add_flz (p := a01) (q := b01) (z := partZ z 0 1) (t := turnZ (z 1) 0) P01.out ⟨hc, hd⟩ ((partZ_bd z 0 HZ.out 1).mono (by decide)) ((turnZ_bd _ (HZ.out 1)).mono (by decide))
  have hrun := fun w => run_complex_sum (P := Try.prog) w .add (.inl rfl) 26 .f64 a01 b01 c d a02 b02 hs
  have P02 : Hid (FlZ a02 b02 (partZ z 0 2)) := Lib.hid hp
  clear hs hp hc hd
  go_wp2_with fail
  clear hrun
  rw [rounds_succ]
  go_wp2_with fail
  refine (turn_fl (z := z 2) _ H2.out.1 H2.out.2 ((HZ.out 2).mono (by decide)) _).mono ?_
  rintro e w' ⟨c, d, rfl, hc, hd, rfl⟩
  obtain ⟨a03, b03, hs, hp⟩ := add_flz (p := a02) (q := b02) (z := partZ z 0 2) (t := turnZ (z 2) 0) P02.out ⟨hc, hd⟩ ((partZ_bd z 0 HZ.out 2).mono (by decide)) ((turnZ_bd _ (HZ.out 2)).mono (by decide))
  have hrun := fun w => run_complex_sum (P := Try.prog) w .add (.inl rfl) 26 .f64 a02 b02 c d a03 b03 hs
  have P03 : Hid (FlZ a03 b03 (partZ z 0 3)) := Lib.hid hp
  clear hs hp hc hd
  go_wp2_with fail
  clear hrun
  rw [rounds_succ]
  go_wp2_with fail
  refine (turn_fl (z := z 3) _ H3.out.1 H3.out.2 ((HZ.out 3).mono (by decide)) _).mono ?_
  rintro e w' ⟨c, d, rfl, hc, hd, rfl⟩
  obtain ⟨a04, b04, hs, hp⟩ := add_flz (p := a03) (q := b03) (z := partZ z 0 3) (t := turnZ (z 3) 0) P03.out ⟨hc, hd⟩ ((partZ_bd z 0 HZ.out 3).mono (by decide)) ((turnZ_bd _ (HZ.out 3)).mono (by decide))
  have hrun := fun w => run_complex_sum (P := Try.prog) w .add (.inl rfl) 26 .f64 a03 b03 c d a04 b04 hs
  have P04 : Hid (FlZ a04 b04 (partZ z 0 4)) := Lib.hid hp
  clear hs hp hc hd
  go_wp2_with fail
  clear hrun
  rw [rounds_succ]
  go_wp2_with fail
  have bd0 := (partZ_bd z 0 HZ.out 4).mono (C := 16777216) (by decide)
  refine (parts_fl P04.out.1 P04.out.2 ⟨by have := bd0.1; omega, by have := bd0.1; omega⟩ ⟨by have := bd0.2; omega, by have := bd0.2; omega⟩ _).mono ?_
  rintro e w' ⟨rfl, rfl⟩
  have hq0 := bd0.1
  clear bd0
  go_wp2_with fail
  clear hq0
  rw [rounds_succ]
  go_wp2_with fail
  refine wp_loop_rounds 5 ?_
  rw [rounds_succ]
  go_wp2_with fail
  refine (turn_fl (z := z 0) _ H0.out.1 H0.out.2 ((HZ.out 0).mono (by decide)) _).mono ?_
  rintro e w' ⟨c, d, rfl, hc, hd, rfl⟩
  obtain ⟨a11, b11, hs, hp⟩ := add_flz (p := 0) (q := 0) (z := partZ z 1 0) (t := turnZ (z 0) 0) ⟨fl_0, fl_0⟩ ⟨hc, hd⟩ ((partZ_bd z 1 HZ.out 0).mono (by decide)) ((turnZ_bd _ (HZ.out 0)).mono (by decide))
  have hrun := fun w => run_complex_sum (P := Try.prog) w .add (.inl rfl) 26 .f64 0 0 c d a11 b11 hs
  have P11 : Hid (FlZ a11 b11 (partZ z 1 1)) := Lib.hid hp
  clear hs hp hc hd
  go_wp2_with fail
  clear hrun
  rw [rounds_succ]
  go_wp2_with fail
  refine (turn_fl (z := z 1) _ H1.out.1 H1.out.2 ((HZ.out 1).mono (by decide)) _).mono ?_
  rintro e w' ⟨c, d, rfl, hc, hd, rfl⟩
  obtain ⟨a12, b12, hs, hp⟩ := add_flz (p := a11) (q := b11) (z := partZ z 1 1) (t := turnZ (z 1) 1) P11.out ⟨hc, hd⟩ ((partZ_bd z 1 HZ.out 1).mono (by decide)) ((turnZ_bd _ (HZ.out 1)).mono (by decide))
  have hrun := fun w => run_complex_sum (P := Try.prog) w .add (.inl rfl) 26 .f64 a11 b11 c d a12 b12 hs
  have P12 : Hid (FlZ a12 b12 (partZ z 1 2)) := Lib.hid hp
  clear hs hp hc hd
  go_wp2_with fail
  clear hrun
  rw [rounds_succ]
  go_wp2_with fail
  refine (turn_fl (z := z 2) _ H2.out.1 H2.out.2 ((HZ.out 2).mono (by decide)) _).mono ?_
  rintro e w' ⟨c, d, rfl, hc, hd, rfl⟩
  obtain ⟨a13, b13, hs, hp⟩ := add_flz (p := a12) (q := b12) (z := partZ z 1 2) (t := turnZ (z 2) 2) P12.out ⟨hc, hd⟩ ((partZ_bd z 1 HZ.out 2).mono (by decide)) ((turnZ_bd _ (HZ.out 2)).mono (by decide))
  have hrun := fun w => run_complex_sum (P := Try.prog) w .add (.inl rfl) 26 .f64 a12 b12 c d a13 b13 hs
  have P13 : Hid (FlZ a13 b13 (partZ z 1 3)) := Lib.hid hp
  clear hs hp hc hd
  go_wp2_with fail
  clear hrun
  rw [rounds_succ]
  go_wp2_with fail
  refine (turn_fl (z := z 3) _ H3.out.1 H3.out.2 ((HZ.out 3).mono (by decide)) _).mono ?_
  rintro e w' ⟨c, d, rfl, hc, hd, rfl⟩
  obtain ⟨a14, b14, hs, hp⟩ := add_flz (p := a13) (q := b13) (z := partZ z 1 3) (t := turnZ (z 3) 3) P13.out ⟨hc, hd⟩ ((partZ_bd z 1 HZ.out 3).mono (by decide)) ((turnZ_bd _ (HZ.out 3)).mono (by decide))
  have hrun := fun w => run_complex_sum (P := Try.prog) w .add (.inl rfl) 26 .f64 a13 b13 c d a14 b14 hs
  have P14 : Hid (FlZ a14 b14 (partZ z 1 4)) := Lib.hid hp
  clear hs hp hc hd
  go_wp2_with fail
  clear hrun
  rw [rounds_succ]
  go_wp2_with fail
  have bd1 := (partZ_bd z 1 HZ.out 4).mono (C := 16777216) (by decide)
  refine (parts_fl P14.out.1 P14.out.2 ⟨by have := bd1.1; omega, by have := bd1.1; omega⟩ ⟨by have := bd1.2; omega, by have := bd1.2; omega⟩ _).mono ?_
  rintro e w' ⟨rfl, rfl⟩
  have hq1 := bd1.1
  clear bd1
  go_wp2_with fail
  clear hq1
  rw [rounds_succ]
  go_wp2_with fail
  refine wp_loop_rounds 5 ?_
  rw [rounds_succ]
  go_wp2_with fail
  refine (turn_fl (z := z 0) _ H0.out.1 H0.out.2 ((HZ.out 0).mono (by decide)) _).mono ?_
  rintro e w' ⟨c, d, rfl, hc, hd, rfl⟩
  obtain ⟨a21, b21, hs, hp⟩ := add_flz (p := 0) (q := 0) (z := partZ z 2 0) (t := turnZ (z 0) 0) ⟨fl_0, fl_0⟩ ⟨hc, hd⟩ ((partZ_bd z 2 HZ.out 0).mono (by decide)) ((turnZ_bd _ (HZ.out 0)).mono (by decide))
  have hrun := fun w => run_complex_sum (P := Try.prog) w .add (.inl rfl) 26 .f64 0 0 c d a21 b21 hs
  have P21 : Hid (FlZ a21 b21 (partZ z 2 1)) := Lib.hid hp
  clear hs hp hc hd
  go_wp2_with fail
  clear hrun
  rw [rounds_succ]
  go_wp2_with fail
  refine (turn_fl (z := z 1) _ H1.out.1 H1.out.2 ((HZ.out 1).mono (by decide)) _).mono ?_
  rintro e w' ⟨c, d, rfl, hc, hd, rfl⟩
  obtain ⟨a22, b22, hs, hp⟩ := add_flz (p := a21) (q := b21) (z := partZ z 2 1) (t := turnZ (z 1) 2) P21.out ⟨hc, hd⟩ ((partZ_bd z 2 HZ.out 1).mono (by decide)) ((turnZ_bd _ (HZ.out 1)).mono (by decide))
  have hrun := fun w => run_complex_sum (P := Try.prog) w .add (.inl rfl) 26 .f64 a21 b21 c d a22 b22 hs
  have P22 : Hid (FlZ a22 b22 (partZ z 2 2)) := Lib.hid hp
  clear hs hp hc hd
  go_wp2_with fail
  clear hrun
  rw [rounds_succ]
  go_wp2_with fail
  refine (turn_fl (z := z 2) _ H2.out.1 H2.out.2 ((HZ.out 2).mono (by decide)) _).mono ?_
  rintro e w' ⟨c, d, rfl, hc, hd, rfl⟩
  obtain ⟨a23, b23, hs, hp⟩ := add_flz (p := a22) (q := b22) (z := partZ z 2 2) (t := turnZ (z 2) 4) P22.out ⟨hc, hd⟩ ((partZ_bd z 2 HZ.out 2).mono (by decide)) ((turnZ_bd _ (HZ.out 2)).mono (by decide))
  have hrun := fun w => run_complex_sum (P := Try.prog) w .add (.inl rfl) 26 .f64 a22 b22 c d a23 b23 hs
  have P23 : Hid (FlZ a23 b23 (partZ z 2 3)) := Lib.hid hp
  clear hs hp hc hd
  go_wp2_with fail
  clear hrun
  rw [rounds_succ]
  go_wp2_with fail
  refine (turn_fl (z := z 3) _ H3.out.1 H3.out.2 ((HZ.out 3).mono (by decide)) _).mono ?_
  rintro e w' ⟨c, d, rfl, hc, hd, rfl⟩
  obtain ⟨a24, b24, hs, hp⟩ := add_flz (p := a23) (q := b23) (z := partZ z 2 3) (t := turnZ (z 3) 6) P23.out ⟨hc, hd⟩ ((partZ_bd z 2 HZ.out 3).mono (by decide)) ((turnZ_bd _ (HZ.out 3)).mono (by decide))
  have hrun := fun w => run_complex_sum (P := Try.prog) w .add (.inl rfl) 26 .f64 a23 b23 c d a24 b24 hs
  have P24 : Hid (FlZ a24 b24 (partZ z 2 4)) := Lib.hid hp
  clear hs hp hc hd
  go_wp2_with fail
  clear hrun
  rw [rounds_succ]
  go_wp2_with fail
  have bd2 := (partZ_bd z 2 HZ.out 4).mono (C := 16777216) (by decide)
  refine (parts_fl P24.out.1 P24.out.2 ⟨by have := bd2.1; omega, by have := bd2.1; omega⟩ ⟨by have := bd2.2; omega, by have := bd2.2; omega⟩ _).mono ?_
  rintro e w' ⟨rfl, rfl⟩
  have hq2 := bd2.1
  clear bd2
  go_wp2_with fail
  clear hq2
  rw [rounds_succ]
  go_wp2_with fail
  refine wp_loop_rounds 5 ?_
  rw [rounds_succ]
  go_wp2_with fail
  refine (turn_fl (z := z 0) _ H0.out.1 H0.out.2 ((HZ.out 0).mono (by decide)) _).mono ?_
  rintro e w' ⟨c, d, rfl, hc, hd, rfl⟩
  obtain ⟨a31, b31, hs, hp⟩ := add_flz (p := 0) (q := 0) (z := partZ z 3 0) (t := turnZ (z 0) 0) ⟨fl_0, fl_0⟩ ⟨hc, hd⟩ ((partZ_bd z 3 HZ.out 0).mono (by decide)) ((turnZ_bd _ (HZ.out 0)).mono (by decide))
  have hrun := fun w => run_complex_sum (P := Try.prog) w .add (.inl rfl) 26 .f64 0 0 c d a31 b31 hs
  have P31 : Hid (FlZ a31 b31 (partZ z 3 1)) := Lib.hid hp
  clear hs hp hc hd
  go_wp2_with fail
  clear hrun
  rw [rounds_succ]
  go_wp2_with fail
  refine (turn_fl (z := z 1) _ H1.out.1 H1.out.2 ((HZ.out 1).mono (by decide)) _).mono ?_
  rintro e w' ⟨c, d, rfl, hc, hd, rfl⟩
  obtain ⟨a32, b32, hs, hp⟩ := add_flz (p := a31) (q := b31) (z := partZ z 3 1) (t := turnZ (z 1) 3) P31.out ⟨hc, hd⟩ ((partZ_bd z 3 HZ.out 1).mono (by decide)) ((turnZ_bd _ (HZ.out 1)).mono (by decide))
  have hrun := fun w => run_complex_sum (P := Try.prog) w .add (.inl rfl) 26 .f64 a31 b31 c d a32 b32 hs
  have P32 : Hid (FlZ a32 b32 (partZ z 3 2)) := Lib.hid hp
  clear hs hp hc hd
  go_wp2_with fail
  clear hrun
  rw [rounds_succ]
  go_wp2_with fail
  refine (turn_fl (z := z 2) _ H2.out.1 H2.out.2 ((HZ.out 2).mono (by decide)) _).mono ?_
  rintro e w' ⟨c, d, rfl, hc, hd, rfl⟩
  obtain ⟨a33, b33, hs, hp⟩ := add_flz (p := a32) (q := b32) (z := partZ z 3 2) (t := turnZ (z 2) 6) P32.out ⟨hc, hd⟩ ((partZ_bd z 3 HZ.out 2).mono (by decide)) ((turnZ_bd _ (HZ.out 2)).mono (by decide))
  have hrun := fun w => run_complex_sum (P := Try.prog) w .add (.inl rfl) 26 .f64 a32 b32 c d a33 b33 hs
  have P33 : Hid (FlZ a33 b33 (partZ z 3 3)) := Lib.hid hp
  clear hs hp hc hd
  go_wp2_with fail
  clear hrun
  rw [rounds_succ]
  go_wp2_with fail
  refine (turn_fl (z := z 3) _ H3.out.1 H3.out.2 ((HZ.out 3).mono (by decide)) _).mono ?_
  rintro e w' ⟨c, d, rfl, hc, hd, rfl⟩
  obtain ⟨a34, b34, hs, hp⟩ := add_flz (p := a33) (q := b33) (z := partZ z 3 3) (t := turnZ (z 3) 9) P33.out ⟨hc, hd⟩ ((partZ_bd z 3 HZ.out 3).mono (by decide)) ((turnZ_bd _ (HZ.out 3)).mono (by decide))
  have hrun := fun w => run_complex_sum (P := Try.prog) w .add (.inl rfl) 26 .f64 a33 b33 c d a34 b34 hs
  have P34 : Hid (FlZ a34 b34 (partZ z 3 4)) := Lib.hid hp
  clear hs hp hc hd
  go_wp2_with fail
  clear hrun
  rw [rounds_succ]
  go_wp2_with fail
  have bd3 := (partZ_bd z 3 HZ.out 4).mono (C := 16777216) (by decide)
  refine (parts_fl P34.out.1 P34.out.2 ⟨by have := bd3.1; omega, by have := bd3.1; omega⟩ ⟨by have := bd3.2; omega, by have := bd3.2; omega⟩ _).mono ?_
  rintro e w' ⟨rfl, rfl⟩
  have hq3 := bd3.1
  clear bd3
  go_wp2_with fail
  clear hq3
  rw [rounds_succ]
  go_wp2
  refine bodyPost_ret (v := .agg #[.int .i64 (sampZ z 0), .int .i64 (sampZ z 1), .int .i64 (sampZ z 2), .int .i64 (sampZ z 3)]) (by simp [results, Try.results22, go_sem, sampZ]) rfl ⟨rfl, ?_⟩
  exact (((Below.refl _ _).alloc (Nat.le_refl _) _).alloc (by simp) _).alloc (by simp; omega) _
end Go.Proofs.Ytkeeledkdoiglaa
