/- The law PhasorBins: the bins of samples, each and all together, and the strongest one, are the document's. -/
import Derived.Test.YtkeeledkdoiglaaPhaBins
namespace Go.Proofs.Ytkeeledkdoiglaa
open Go.RowKit
theorem bz_small (l : List Int) (k : Int) : BdZ 1073741823 (bz l k) := binZ_small l k
theorem index4 (x0 x1 x2 x3 y0 y1 y2 y3 : Nat) (w : World) : ((Instr.index 39 (.agg #[.complex .f64 x0 y0, .complex .f64 x1 y1, .complex .f64 x2 y2, .complex .f64 x3 y3]) (.int .i64 0)).run Try.prog w = .ok (.complex .f64 x0 y0) w)
    ∧ ((Instr.index 39 (.agg #[.complex .f64 x0 y0, .complex .f64 x1 y1, .complex .f64 x2 y2, .complex .f64 x3 y3]) (.int .i64 1)).run Try.prog w = .ok (.complex .f64 x1 y1) w)
    ∧ ((Instr.index 39 (.agg #[.complex .f64 x0 y0, .complex .f64 x1 y1, .complex .f64 x2 y2, .complex .f64 x3 y3]) (.int .i64 2)).run Try.prog w = .ok (.complex .f64 x2 y2) w)
    ∧ ((Instr.index 39 (.agg #[.complex .f64 x0 y0, .complex .f64 x1 y1, .complex .f64 x2 y2, .complex .f64 x3 y3]) (.int .i64 3)).run Try.prog w = .ok (.complex .f64 x3 y3) w) :=
  ⟨by kernel_rfl, by kernel_rfl, by kernel_rfl, by kernel_rfl⟩
set_option maxRecDepth 100000 in
set_option maxHeartbeats 2000000 in
theorem phasorBins_walk (a : Option Addr) (len cap : Nat) (z : List Int) {w : World} (wz : IsRow .i64 w a len cap z) (yz : len * 8 ≤ 140737488351232) (k : Int) (wk : (Lit.int .i64 k).wf = true) (_ : World) :
    Calls Try.prog 5 #[.slice a len cap, .int .i64 k] w fun e w' => e = .returned (.bool true) ∧ Below w.heap.size w w' := by
  obtain ⟨hrow, -, -⟩ := wz
  clear wk
  by_cases hlen : 1100 < len
  · go_enter Try.func5, Try.ntmps5
    go_wp2_with (refine (pawake_any _).mono ?_; rintro e w1 ⟨rfl, hb1⟩)
    go_ret
    exact ⟨rfl, hb1⟩
  obtain ⟨s, hs⟩ : ∃ s, s = Value.slice a len cap := ⟨_, rfl⟩
  have HH := Lib.hid (fun w' (hb : Below w.heap.size w w') => hrow.below hb)
  clear hrow
  go_enter Try.func5, Try.ntmps5
  go_wp2_with fail
  refine (pawake_any _).mono ?_
  rintro e w1 ⟨rfl, hb1⟩
  have HB1 := Lib.hid hb1
  clear hb1
  go_wp2_with fail
  refine (bin_z (HH.out _ HB1.out) k).mono ?_
  rintro e w' ⟨r, i, rfl, hz, rfl⟩
  have HZ := Lib.hid hz
  clear hz
  go_wp2_with fail
  refine (rbin_any (HH.out _ HB1.out) k).mono ?_
  rintro e w2 ⟨rfl, hb2⟩
  have HB2 := Lib.hid (HB1.out.trans (hb2.mono HB1.out.size))
  clear hb2
  go_wp2_with fail
  refine (is_eq (z := bz z k) HZ.out.1 HZ.out.2 (bz_small _ _) _).mono ?_
  rintro e w3 ⟨rfl, hb3⟩
  have HB3 := Lib.hid (HB2.out.trans (hb3.mono HB2.out.size))
  clear hb3
  go_wp2_with fail
  refine (strong_any (HH.out _ HB3.out)).mono ?_
  rintro e w' ⟨rfl, rfl⟩
  go_wp2_with fail
  refine (rstrong_any (HH.out _ HB3.out)).mono ?_
  rintro e w4 ⟨rfl, hb4⟩
  have HB4 := Lib.hid (HB3.out.trans (hb4.mono HB3.out.size))
  clear hb4
  go_wp2_with fail
  refine (bins_any (HH.out _ HB4.out)).mono ?_
  rintro e w5 ⟨v, rfl, ⟨r0, i0, r1, i1, r2, i2, r3, i3, rfl, h0, h1, h2, h3⟩, hb5⟩
  have HB5 := Lib.hid (HB4.out.trans (hb5.mono HB4.out.size))
  have H0 := Lib.hid h0
  have H1 := Lib.hid h1
  have H2 := Lib.hid h2
  have H3 := Lib.hid h3
  clear hb5 h0 h1 h2 h3
  have hix := index4 r0 r1 r2 r3 i0 i1 i2 i3
  go_wp2_with fail
  refine wp_loop_rounds 5 ?_
  rw [rounds_succ]
  go_wp2_with fail
  refine (rbin_any (HH.out _ HB5.out) 0).mono ?_
  rintro e w6 ⟨rfl, hb6⟩
  have HB6 := Lib.hid (HB5.out.trans (hb6.mono HB5.out.size))
  clear hb6
  go_wp2_with fail
  refine (is_eq (z := bz z 0) H0.out.1 H0.out.2 (bz_small _ _) _).mono ?_
  rintro e w7 ⟨rfl, hb7⟩
  have HB7 := Lib.hid (HB6.out.trans (hb7.mono HB6.out.size))
  clear hb7
  go_wp2_with fail
  rw [rounds_succ]
  go_wp2_with fail
  refine (rbin_any (HH.out _ HB7.out) 1).mono ?_
  rintro e w8 ⟨rfl, hb8⟩
  have HB8 := Lib.hid (HB7.out.trans (hb8.mono HB7.out.size))
  clear hb8
  go_wp2_with fail
  refine (is_eq (z := bz z 1) H1.out.1 H1.out.2 (bz_small _ _) _).mono ?_
  rintro e w9 ⟨rfl, hb9⟩
  have HB9 := Lib.hid (HB8.out.trans (hb9.mono HB8.out.size))
  clear hb9
  go_wp2_with fail
  rw [rounds_succ]
  go_wp2_with fail
  refine (rbin_any (HH.out _ HB9.out) 2).mono ?_
  rintro e w10 ⟨rfl, hb10⟩
  have HB10 := Lib.hid (HB9.out.trans (hb10.mono HB9.out.size))
  clear hb10
  go_wp2_with fail
  refine (is_eq (z := bz z 2) H2.out.1 H2.out.2 (bz_small _ _) _).mono ?_
  rintro e w11 ⟨rfl, hb11⟩
  have HB11 := Lib.hid (HB10.out.trans (hb11.mono HB10.out.size))
  clear hb11
  go_wp2_with fail
  rw [rounds_succ]
  go_wp2_with fail
  refine (rbin_any (HH.out _ HB11.out) 3).mono ?_
  rintro e w12 ⟨rfl, hb12⟩
  have HB12 := Lib.hid (HB11.out.trans (hb12.mono HB11.out.size))
  clear hb12
  go_wp2_with fail
  refine (is_eq (z := bz z 3) H3.out.1 H3.out.2 (bz_small _ _) _).mono ?_
  rintro e w13 ⟨rfl, hb13⟩
  have HB13 := Lib.hid (HB12.out.trans (hb13.mono HB12.out.size))
  clear hb13
  go_wp2_with fail
  rw [rounds_succ]
  go_wp2
  go_ret
  exact ⟨rfl, HB13.out⟩
end Go.Proofs.Ytkeeledkdoiglaa
