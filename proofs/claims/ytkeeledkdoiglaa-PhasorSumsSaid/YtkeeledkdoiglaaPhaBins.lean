/- All bins of samples, walked. -/
import Derived.Test.YtkeeledkdoiglaaPhaAwake
import Derived.Test.YtkeeledkdoiglaaHeld
namespace Go.Proofs.Ytkeeledkdoiglaa
open Go.RowKit
theorem store_cx (a : Addr) (r i : Nat) (w : World) : (store a (.complex .f64 r i)).run Try.prog w = stored Try.prog w a (.complex .f64 r i) .plain := run_store Try.prog w a _ _ rfl
def FlZ (r i : Nat) (z : Int × Int) : Prop := Fl r z.1 ∧ Fl i z.2
def bz (l : List Int) (k : Int) : Int × Int := binZ l k (min l.length 1000)
def Agg4 (v : Value) (z0 z1 z2 z3 : Int × Int) : Prop := ∃ r0 i0 r1 i1 r2 i2 r3 i3, v = .agg #[.complex .f64 r0 i0, .complex .f64 r1 i1, .complex .f64 r2 i2, .complex .f64 r3 i3] ∧ FlZ r0 i0 z0 ∧ FlZ r1 i1 z1 ∧ FlZ r2 i2 z2 ∧ FlZ r3 i3 z3
def RetAgg4 (z0 z1 z2 z3 : Int × Int) (w : World) (e : Ending) (w' : World) : Prop := ∃ v, e = .returned v ∧ Agg4 v z0 z1 z2 z3 ∧ Below w.heap.size w w'
def RetB (z : Int × Int) (w : World) (e : Ending) (w' : World) : Prop := ∃ r i, e = .returned (.complex .f64 r i) ∧ FlZ r i z ∧ w = w'
theorem bin_z {w : World} {s : Value} {l : List Int} (h : IRow w s l) (k : Int) : Calls Try.prog 17 #[s, .int .i64 k] w (RetB (bz l k) w) :=
  (bin_any h k).mono fun _ _ ⟨r, i, he, h1, h2, hw⟩ => ⟨r, i, he, ⟨h1, h2⟩, hw⟩
set_option maxRecDepth 100000 in
set_option maxHeartbeats 1000000 in
theorem bins_any {w : World} {s : Value} {l : List Int} (h : IRow w s l) :
    Calls Try.prog 21 #[s] w (RetAgg4 (bz l 0) (bz l 1) (bz l 2) (bz l 3) w) := by
  have HH := Lib.hid (fun w' (hb : Below w.heap.size w w') k => bin_z (h.below hb) k)
  clear h
  have hst := store_cx
  go_enter Try.func21, Try.ntmps21
  go_wp2
  refine wp_loop_rounds 5 ?_
  rw [rounds_succ]
  go_wp2_with fail
  refine (HH.out _ (by exact ((Below.refl _ _).alloc (Nat.le_refl _) _).alloc (by simp) _) 0).mono ?_
  rintro e w1 ⟨r0, i0, rfl, h0, rfl⟩
  have H0 := Lib.hid h0
  clear h0
  go_wp2_with fail
  rw [rounds_succ]
  go_wp2_with fail
  refine (HH.out _ (by exact ((Below.refl _ _).alloc (Nat.le_refl _) _).alloc (by simp) _) 1).mono ?_
  rintro e w1 ⟨r1, i1, rfl, h1, rfl⟩
  have H1 := Lib.hid h1
  clear h1
  go_wp2_with fail
  rw [rounds_succ]
  go_wp2_with fail
  refine (HH.out _ (by exact ((Below.refl _ _).alloc (Nat.le_refl _) _).alloc (by simp) _) 2).mono ?_
  rintro e w1 ⟨r2, i2, rfl, h2, rfl⟩
  have H2 := Lib.hid h2
  clear h2
  go_wp2_with fail
  rw [rounds_succ]
  go_wp2_with fail
  refine (HH.out _ (by exact ((Below.refl _ _).alloc (Nat.le_refl _) _).alloc (by simp) _) 3).mono ?_
  rintro e w1 ⟨r3, i3, rfl, h3, rfl⟩
  have H3 := Lib.hid h3
  clear h3
  go_wp2_with fail
  rw [rounds_succ]
  go_wp2
  refine bodyPost_ret (v := .agg #[.complex .f64 r0 i0, .complex .f64 r1 i1, .complex .f64 r2 i2, .complex .f64 r3 i3]) (by simp [results, Try.results21, go_sem]) rfl ⟨_, rfl, ⟨_, _, _, _, _, _, _, _, rfl, H0.out, H1.out, H2.out, H3.out⟩, ?_⟩
  exact ((Below.refl _ _).alloc (Nat.le_refl _) _).alloc (by simp) _
theorem index4 (x0 x1 x2 x3 y0 y1 y2 y3 : Nat) (w : World) : ((Instr.index 39 (.agg #[.complex .f64 x0 y0, .complex .f64 x1 y1, .complex .f64 x2 y2, .complex .f64 x3 y3]) (.int .i64 0)).run Try.prog w = .ok (.complex .f64 x0 y0) w)
    ∧ ((Instr.index 39 (.agg #[.complex .f64 x0 y0, .complex .f64 x1 y1, .complex .f64 x2 y2, .complex .f64 x3 y3]) (.int .i64 1)).run Try.prog w = .ok (.complex .f64 x1 y1) w)
    ∧ ((Instr.index 39 (.agg #[.complex .f64 x0 y0, .complex .f64 x1 y1, .complex .f64 x2 y2, .complex .f64 x3 y3]) (.int .i64 2)).run Try.prog w = .ok (.complex .f64 x2 y2) w)
    ∧ ((Instr.index 39 (.agg #[.complex .f64 x0 y0, .complex .f64 x1 y1, .complex .f64 x2 y2, .complex .f64 x3 y3]) (.int .i64 3)).run Try.prog w = .ok (.complex .f64 x3 y3) w) :=
  ⟨by kernel_rfl, by kernel_rfl, by kernel_rfl, by kernel_rfl⟩
end Go.Proofs.Ytkeeledkdoiglaa
