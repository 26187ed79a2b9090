/- The closure of the law IecRings, walked: an operation on the captured kind, where it is fine. -/
import Derived.Test.YtclbmgnpgjhlhaaIecRingPlain2
import Derived.Test.YtclbmgnpgjhlhaaObj
namespace Go.Proofs.Ytclbmgnpgjhlhaa
open Go.RowKit
/-- The two captured variables, and what stays beside the second. -/
structure RingAt (w : World) (gk gf : Nat) (K : Int) : Prop where
  k : ObjAt w gk #[.int .i64 K] 3
  f : ObjAt w gf #[.bool true] 4
  ne : gk ≠ gf
set_option maxRecDepth 100000 in
theorem ringdo_any (gk gf : Nat) (K op x y : Int) (w : World) (h : RingAt w gk gf K) (he : doE op (kN K) x y = 0) (hi : isK (kN K) (doV op (kN K) x y) = true) :
    Calls Try.prog 28 #[.int .i64 op, .int .i64 x, .int .i64 y, .pointer (some ⟨gk, 0, none⟩), .pointer (some ⟨gf, 0, none⟩)] w fun e w' =>
      e = .returned (.int .i64 (doV op (kN K) x y)) ∧ RingAt w' gk gf K ∧ Keep (· = gf) w w' := by
  have ck : w.cell? ⟨gk, 0, none⟩ = some (.int .i64 K) := h.k.cell 0
  have H := Lib.hid h
  have HI := Lib.hid (And.intro he hi)
  clear h he hi
  go_enter Try.func28, Try.ntmps28
  go_wp2_with fail
  refine (do_any op K x y _).mono ?_
  rintro e w1 ⟨rfl, hb1⟩
  rw [HI.out.1]
  have hk1 := below_obj hb1 H.out.k
  have hf1 := below_obj hb1 H.out.f
  have cf : w1.cell? ⟨gf, 0, none⟩ = some (.bool true) := hf1.cell 0
  have ck1 : w1.cell? ⟨gk, 0, none⟩ = some (.int .i64 K) := hk1.cell 0
  have H1 := Lib.hid (And.intro hk1 (And.intro hf1 hb1))
  clear hk1 hf1 hb1 ck
  go_wp2_with fail
  refine (is_any K (doV op (kN K) x y) _).mono ?_
  rintro e w2 ⟨rfl, hb2⟩
  rw [HI.out.2]
  have hk2 := below_obj hb2 H1.out.1
  have hf2 := below_obj hb2 H1.out.2.1
  have cf : w2.cell? ⟨gf, 0, none⟩ = some (.bool true) := hf2.cell 0
  have ff : w2.frozen? ⟨gf, 0, none⟩ = false := hf2.free 0
  have H2 := Lib.hid (And.intro hk2 (And.intro hf2 (bt H1.out.2.2 hb2)))
  clear hk2 hf2 hb2 ck1
  go_wp2
  go_ret
  exact ⟨rfl, ⟨H2.out.1.set_other _ H.out.ne _, H2.out.2.1.set 0 _, H.out.ne⟩, Keep.here (Keep.of_below H2.out.2.2) 0 _⟩
theorem ringdo_ok {k : Nat} (hk : RK k) (gk gf : Nat) (op x y : Int) (ho : 14 ≤ op ∧ op ≤ 18) (hx : isK k x = true) (hy : isK k y = true) (w : World) (h : RingAt w gk gf (k : Int)) :
    Calls Try.prog 28 #[.int .i64 op, .int .i64 x, .int .i64 y, .pointer (some ⟨gk, 0, none⟩), .pointer (some ⟨gf, 0, none⟩)] w fun e w' =>
      e = .returned (.int .i64 (doV op k x y)) ∧ RingAt w' gk gf (k : Int) ∧ Keep (· = gf) w w' := by
  have := ringdo_any gk gf (k : Int) op x y w h (by rw [rk_kn hk]; exact rd_e hk op ho hx hy) (by rw [rk_kn hk]; exact rd_is hk op ho hx hy)
  rw [rk_kn hk] at this
  exact this
end Go.Proofs.Ytclbmgnpgjhlhaa
