/- The law PhasorBack: four samples come back from their bins; four times their squares are the powers of all bins. -/
import Derived.Test.YtkeeledkdoiglaaPhaBack
import Derived.Test.YtkeeledkdoiglaaArr
namespace Go.Proofs.Ytkeeledkdoiglaa
open Go.RowKit
/-- The bins of four small samples. -/
def b4 (a b c d : Int) : Nat → Int × Int
  | 0 => (a + b + c + d, 0)
  | 1 => (a - c, d - b)
  | 2 => (a - b + c - d, 0)
  | _ => (a - c, b - d)
theorem bz_four (x0 x1 x2 x3 : Int) (k : Nat) (hk : k < 4) : bz [x0, x1, x2, x3] (k : Int) = b4 (smallZ x0) (smallZ x1) (smallZ x2) (smallZ x3) k := by
  rcases (by omega : k = 0 ∨ k = 1 ∨ k = 2 ∨ k = 3) with rfl | rfl | rfl | rfl <;> simp [bz, binZ, b4, addZ, turnZ] <;> omega
theorem b4_bd {a b c d : Int} (ha : -1048576 ≤ a ∧ a ≤ 1048576) (hb : -1048576 ≤ b ∧ b ≤ 1048576) (hc : -1048576 ≤ c ∧ c ≤ 1048576) (hd : -1048576 ≤ d ∧ d ≤ 1048576) (k : Nat) : BdZ 4194304 (b4 a b c d k) := by
  unfold b4 BdZ
  split <;> simp <;> omega
theorem samp_b4 (a b c d : Int) : sampZ (b4 a b c d) 0 = a ∧ sampZ (b4 a b c d) 1 = b ∧ sampZ (b4 a b c d) 2 = c ∧ sampZ (b4 a b c d) 3 = d := by
  have h : ∀ x : Int, (4 * x).tdiv 4 = x := fun x => by rw [Int.mul_comm]; exact Int.mul_tdiv_cancel _ (by decide)
  refine ⟨?_, ?_, ?_, ?_⟩
  · rw [← h a, sampZ]; congr 1; simp [partZ, b4, addZ, turnZ]; omega
  · rw [← h b, sampZ]; congr 1; simp [partZ, b4, addZ, turnZ]; omega
  · rw [← h c, sampZ]; congr 1; simp [partZ, b4, addZ, turnZ]; omega
  · rw [← h d, sampZ]; congr 1; simp [partZ, b4, addZ, turnZ]; omega
theorem pow_b4 (a b c d : Int) : 4 * (a * a + b * b + c * c + d * d) = powZ (b4 a b c d 0) + powZ (b4 a b c d 1) + powZ (b4 a b c d 2) + powZ (b4 a b c d 3) := by
  simp only [powZ, b4, Int.add_mul, Int.mul_add, Int.sub_mul, Int.mul_sub, Int.mul_zero, Int.zero_mul]
  rw [Int.mul_comm b a, Int.mul_comm c a, Int.mul_comm d a, Int.mul_comm c b, Int.mul_comm d b, Int.mul_comm d c]
  omega
theorem powZ_bd {z : Int × Int} (h : BdZ 4194304 z) : 0 ≤ powZ z ∧ powZ z ≤ 35184372088832 := by
  have q1 := sq_bd (B := 4194304) (by decide) h.1
  have q2 := sq_bd (B := 4194304) (by decide) h.2
  unfold powZ
  omega
set_option maxRecDepth 100000 in
set_option maxHeartbeats 4000000 in
theorem phasorBack_walk {H : Type} {enc : TypeId × Value → H} (v : Value) (dv : DataW H) (pv : List MemPlace) {w : World}
    (h : DataW.Trod enc Try.prog w 0 (fun _ => true) true 42 v dv pv) (o : Value.okWide Try.prog w .any 0 42 v) (_ : ∀ x ∈ dv.weights Try.prog 42, x ≤ 140737488351232) (_ : World) :
    Calls Try.prog 6 #[v] w fun e w' => e = .returned (.bool true) ∧ Below w.heap.size w w' := by
  obtain ⟨l, hl, rfl, -⟩ := arr_of (k := .i64) Try.underlying42 Try.underlying3 (by kernel_rfl) (by kernel_rfl) h o
  clear h o
  match l, hl with
  | [x0, x1, x2, x3], _ =>
  have hX : ObjAt (w.alloc (.cells #[.int .i64 x0, .int .i64 x1, .int .i64 x2, .int .i64 x3] 42)) w.heap.size #[.int .i64 x0, .int .i64 x1, .int .i64 x2, .int .i64 x3] 42 := ObjAt.new _ _ _
  have hbx : Below w.heap.size w (w.alloc (.cells #[.int .i64 x0, .int .i64 x1, .int .i64 x2, .int .i64 x3] 42)) := (Below.refl _ w).alloc (Nat.le_refl _) _
  have HX := Lib.hid (And.intro hX hbx)
  clear hX hbx
  have b0 := smallZ_bd x0
  have b1 := smallZ_bd x1
  have b2 := smallZ_bd x2
  have b3 := smallZ_bd x3
  obtain ⟨a, ha⟩ : ∃ a, a = smallZ x0 := ⟨_, rfl⟩
  obtain ⟨b, hb⟩ : ∃ b, b = smallZ x1 := ⟨_, rfl⟩
  obtain ⟨c, hc⟩ : ∃ c, c = smallZ x2 := ⟨_, rfl⟩
  obtain ⟨d, hd⟩ : ∃ d, d = smallZ x3 := ⟨_, rfl⟩
  have hbz : bz [x0, x1, x2, x3] 0 = b4 a b c d 0 ∧ bz [x0, x1, x2, x3] 1 = b4 a b c d 1 ∧ bz [x0, x1, x2, x3] 2 = b4 a b c d 2 ∧ bz [x0, x1, x2, x3] 3 = b4 a b c d 3 := by
    rw [ha, hb, hc, hd]
    exact ⟨bz_four x0 x1 x2 x3 0 (by decide), bz_four x0 x1 x2 x3 1 (by decide), bz_four x0 x1 x2 x3 2 (by decide), bz_four x0 x1 x2 x3 3 (by decide)⟩
  rw [← ha] at b0
  rw [← hb] at b1
  rw [← hc] at b2
  rw [← hd] at b3
  have HBD := Lib.hid (fun k => b4_bd b0 b1 b2 b3 k)
  have HSA := Lib.hid (samp_b4 a b c d)
  have HPW := Lib.hid (pow_b4 a b c d)
  have HBZ := Lib.hid hbz
  have HAA := Lib.hid (And.intro ha (And.intro hb (And.intro hc hd)))
  have q0 := sq_bd (B := 1048576) (by decide) b0
  have q1 := sq_bd (B := 1048576) (by decide) b1
  have q2 := sq_bd (B := 1048576) (by decide) b2
  have q3 := sq_bd (B := 1048576) (by decide) b3
  clear hbz ha hb hc hd
  go_enter Try.func6, Try.ntmps6
  go_wp2_with fail
  refine (pawake_any _).mono ?_
  rintro e w1 ⟨rfl, hb1⟩
  have hX1 := below_obj hb1 HX.out.1
  have hsz : w.heap.size < w1.heap.size := hX1.lt
  have HB1 := Lib.hid (HX.out.2.trans (hb1.mono HX.out.2.size))
  have hrow : IRow w1 (.slice (some ⟨w.heap.size, 0, none⟩) 4 4) [x0, x1, x2, x3] := by
    refine .inr (.inr ⟨w.heap.size, 0, 4, rfl, by simp, by decide, hsz, fun i hi => ?_⟩)
    rw [hX1.cell]
    rcases (by simp at hi; omega : i = 0 ∨ i = 1 ∨ i = 2 ∨ i = 3) with rfl | rfl | rfl | rfl <;> rfl
  have HR := Lib.hid hrow
  have HX1 := Lib.hid hX1
  clear hb1 hX1 hrow
  go_wp2_with fail
  refine (bins_any HR.out).mono ?_
  rintro e w2 ⟨v, rfl, hv, hb2⟩
  rw [HBZ.out.1, HBZ.out.2.1, HBZ.out.2.2.1, HBZ.out.2.2.2] at hv
  have HV := Lib.hid hv
  obtain ⟨r0, i0, r1, i1, r2, i2, r3, i3, rfl, h0, h1, h2, h3⟩ := hv
  have H0 := Lib.hid h0
  have H1 := Lib.hid h1
  have H2 := Lib.hid h2
  have H3 := Lib.hid h3
  have hst := store_cx
  have HX2 := Lib.hid (below_obj hb2 HX1.out)
  have HB2 := Lib.hid (HB1.out.trans (hb2.mono HB1.out.size))
  clear h0 h1 h2 h3 hb2
  go_wp2_with fail
  refine (back_any (b4 a b c d) HBD.out HV.out _).mono ?_
  rintro e w3 ⟨rfl, hb3⟩
  rw [HSA.out.1, HSA.out.2.1, HSA.out.2.2.1, HSA.out.2.2.2]
  have hX3 := below_obj hb3 (HX2.out.alloc (.cells #[.complex .f64 r0 i0, .complex .f64 r1 i1, .complex .f64 r2 i2, .complex .f64 r3 i3] 39))
  have hY3 := below_obj hb3 (ObjAt.new w2 #[.complex .f64 r0 i0, .complex .f64 r1 i1, .complex .f64 r2 i2, .complex .f64 r3 i3] 39)
  have HB3 := Lib.hid ((HB2.out.alloc HB2.out.size _).trans (hb3.mono (by simp; exact Nat.le_succ_of_le HB2.out.size)))
  have c0 : w3.cell? ⟨w.heap.size, 0, none⟩ = some (.int .i64 x0) := hX3.cell 0
  have c1 : w3.cell? ⟨w.heap.size, 1, none⟩ = some (.int .i64 x1) := hX3.cell 1
  have c2 : w3.cell? ⟨w.heap.size, 2, none⟩ = some (.int .i64 x2) := hX3.cell 2
  have c3 : w3.cell? ⟨w.heap.size, 3, none⟩ = some (.int .i64 x3) := hX3.cell 3
  have d0 : w3.cell? ⟨w2.heap.size, 0, none⟩ = some (.complex .f64 r0 i0) := hY3.cell 0
  have d1 : w3.cell? ⟨w2.heap.size, 1, none⟩ = some (.complex .f64 r1 i1) := hY3.cell 1
  have d2 : w3.cell? ⟨w2.heap.size, 2, none⟩ = some (.complex .f64 r2 i2) := hY3.cell 2
  have d3 : w3.cell? ⟨w2.heap.size, 3, none⟩ = some (.complex .f64 r3 i3) := hY3.cell 3
  have hix : ∀ w, (Instr.index 42 (.agg #[.int .i64 a, .int .i64 b, .int .i64 c, .int .i64 d]) (.int .i64 0)).run Try.prog w = .ok (.int .i64 a) w := fun _ => by kernel_rfl
  have hix1 : ∀ w, (Instr.index 42 (.agg #[.int .i64 a, .int .i64 b, .int .i64 c, .int .i64 d]) (.int .i64 1)).run Try.prog w = .ok (.int .i64 b) w := fun _ => by kernel_rfl
  have hix2 : ∀ w, (Instr.index 42 (.agg #[.int .i64 a, .int .i64 b, .int .i64 c, .int .i64 d]) (.int .i64 2)).run Try.prog w = .ok (.int .i64 c) w := fun _ => by kernel_rfl
  have hix3 : ∀ w, (Instr.index 42 (.agg #[.int .i64 a, .int .i64 b, .int .i64 c, .int .i64 d]) (.int .i64 3)).run Try.prog w = .ok (.int .i64 d) w := fun _ => by kernel_rfl
  have p0 : 0 ≤ powZ (b4 a b c d 0) ∧ powZ (b4 a b c d 0) ≤ 35184372088832 := powZ_bd (HBD.out 0)
  have p1 : 0 ≤ powZ (b4 a b c d 1) ∧ powZ (b4 a b c d 1) ≤ 35184372088832 := powZ_bd (HBD.out 1)
  have p2 : 0 ≤ powZ (b4 a b c d 2) ∧ powZ (b4 a b c d 2) ≤ 35184372088832 := powZ_bd (HBD.out 2)
  have p3 : 0 ≤ powZ (b4 a b c d 3) ∧ powZ (b4 a b c d 3) ≤ 35184372088832 := powZ_bd (HBD.out 3)
  clear hX3 hY3 hb3
  go_wp2_with fail
  refine wp_loop_rounds 5 ?_
  rw [rounds_succ]
  go_wp2_with fail
  refine (rsmall_any _ _).mono ?_
  rintro e w' ⟨rfl, rfl⟩
  rw [← HAA.out.1]
  go_wp2_with fail
  refine (power_fl (z := b4 a b c d 0) H0.out.1 H0.out.2 ((HBD.out 0).mono (by decide)) _).mono ?_
  rintro e w' ⟨rfl, rfl⟩
  go_wp2_with fail
  rw [rounds_succ]
  go_wp2_with fail
  refine (rsmall_any _ _).mono ?_
  rintro e w' ⟨rfl, rfl⟩
  rw [← HAA.out.2.1]
  go_wp2_with fail
  refine (power_fl (z := b4 a b c d 1) H1.out.1 H1.out.2 ((HBD.out 1).mono (by decide)) _).mono ?_
  rintro e w' ⟨rfl, rfl⟩
  go_wp2_with fail
  rw [rounds_succ]
  go_wp2_with fail
  refine (rsmall_any _ _).mono ?_
  rintro e w' ⟨rfl, rfl⟩
  rw [← HAA.out.2.2.1]
  go_wp2_with fail
  refine (power_fl (z := b4 a b c d 2) H2.out.1 H2.out.2 ((HBD.out 2).mono (by decide)) _).mono ?_
  rintro e w' ⟨rfl, rfl⟩
  go_wp2_with fail
  rw [rounds_succ]
  go_wp2_with fail
  refine (rsmall_any _ _).mono ?_
  rintro e w' ⟨rfl, rfl⟩
  rw [← HAA.out.2.2.2]
  go_wp2_with fail
  refine (power_fl (z := b4 a b c d 3) H3.out.1 H3.out.2 ((HBD.out 3).mono (by decide)) _).mono ?_
  rintro e w' ⟨rfl, rfl⟩
  go_wp2_with fail
  rw [rounds_succ]
  go_wp2
  go_ret
  exact ⟨ret_bool (by simpa using HPW.out), HB3.out⟩
end Go.Proofs.Ytkeeledkdoiglaa
