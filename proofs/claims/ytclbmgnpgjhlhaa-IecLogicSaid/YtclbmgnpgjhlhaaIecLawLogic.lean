/- The law IecLogic: turned twice a value is as it was; not of an and is the or of both nots; xor undoes itself; order and its contrary are never both. -/
import Derived.Test.YtclbmgnpgjhlhaaIecAwake
import Derived.Test.YtclbmgnpgjhlhaaIecLogDo
import Derived.Test.YtclbmgnpgjhlhaaHeld
import Derived.Test.YtclbmgnpgjhlhaaArr
namespace Go.Proofs.Ytclbmgnpgjhlhaa
open Go.RowKit
theorem hold_in {W w1 w2 : World} {A : World → Prop} (F : ∀ w', Below W.heap.size W w' → A w') (h : Below W.heap.size W w1 ∧ A w1) (hb : Below w1.heap.size w1 w2) : Below W.heap.size W w2 ∧ A w2 :=
  have hB := h.1.trans (hb.mono h.1.size)
  ⟨hB, F _ hB⟩
theorem hold_first {W : World} {A : World → Prop} (F : ∀ w', Below W.heap.size W w' → A w') : Below W.heap.size W W.drew ∧ A W.drew := ⟨(Below.refl _ _).drew, F _ (Below.refl _ _).drew⟩
set_option maxRecDepth 100000 in
set_option maxHeartbeats 4000000 in
theorem logic_case (q K m : Nat) (hq : q < 256) (x y : Int) (hK : LK K m) (r : Nat) (hr : (q : Int) % 3 = (r : Int)) (hrK : (r = 0 ∧ K = 1) ∨ (r = 1 ∧ K = 6) ∨ (r = 2 ∧ K = 7)) (w : World) :
    Calls Try.prog 7 #[.int .u8 (q : Int), .int .i64 x, .int .i64 y] w fun e w' => e = .returned (.bool true) ∧ Below w.heap.size w w' := by
  have hkn : kN (K : Int) = K := by unfold kN; rw [if_pos (by omega)]; simp
  obtain ⟨a, hA, ha⟩ := wrap_nat hK x
  obtain ⟨b, hB, hb⟩ := wrap_nat hK y
  have L1 := logic_all hK a b ha hb
  have L2 := logic_order hK a b ha hb
  have HL := Lib.hid (And.intro L1 L2)
  have HA := Lib.hid (And.intro hkn (And.intro hA hB))
  clear hA hB ha hb hK L1 L2 hkn
  have hcell : ((#[.int .i64 1, .int .i64 6, .int .i64 7] : Array Value)[r]?) = some (.int .i64 (K : Int)) := by
    rcases hrK with ⟨rfl, rfl⟩ | ⟨rfl, rfl⟩ | ⟨rfl, rfl⟩ <;> rfl
  have hr3 : r < 3 := by omega
  have HC := Lib.hid (And.intro hcell (And.intro hr hr3))
  clear hcell hr hr3 hrK
  go_enter Try.func7, Try.ntmps7
  go_wp2_with fail
  refine (iawake_any _).mono ?_
  rintro e w1 ⟨rfl, hb1⟩
  have H1 := Lib.hid hb1
  clear hb1
  have c0 : (w1.alloc (.cells #[.int .i64 1, .int .i64 6, .int .i64 7] 3)).cell? ⟨w1.heap.size, r, none⟩ = some (.int .i64 (K : Int)) := by
    have h0 := heap_alloc_new w1 (.cells #[.int .i64 1, .int .i64 6, .int .i64 7] 3)
    unfold World.cell?
    dsimp only
    rw [h0]
    exact HC.out.1
  have hr := HC.out.2.1
  have hr3 := HC.out.2.2
  have hri : (r : Int) < 3 := by omega
  go_wp2_with fail
  have hBW : Below w.heap.size w ((w1.alloc (.cells #[.int .i64 1, .int .i64 6, .int .i64 7] 3)).alloc (.cells #[.int .i64 (K : Int)] 3)) := (H1.out.alloc H1.out.size _).alloc (by have := H1.out.size; simp; omega) _
  have hO := ObjAt.new (w1.alloc (.cells #[.int .i64 1, .int .i64 6, .int .i64 7] 3)) #[.int .i64 (K : Int)] 3
  have hz : (w1.alloc (.cells #[.int .i64 1, .int .i64 6, .int .i64 7] 3)).heap.size = w1.heap.size + 1 := by simp
  rw [hz] at hO
  generalize (w1.alloc (.cells #[.int .i64 1, .int .i64 6, .int .i64 7] 3)).alloc (.cells #[.int .i64 (K : Int)] 3) = W at *
  generalize w1.heap.size + 1 = g at *
  have HF := Lib.hid (fun (w' : World) (hb : Below W.heap.size W w') => (below_obj hb hO).cell 0)
  have HO := Lib.hid hO
  have HW := Lib.hid hBW
  have cW : W.cell? ⟨g, 0, none⟩ = some (.int .i64 (K : Int)) := hO.cell 0
  clear hz hO hBW c0 hr hr3 hri
  go_region_held3 (fun w' => Below W.heap.size W w' ∧ w'.cell? ⟨g, 0, none⟩ = some (.int .i64 (K : Int)))
    (first | exact hold_first HF.out | assumption | exact hold_in HF.out (by assumption) hb5)
    (first
      | (go_at_call 26; (with_reducible refine (wrap_any (K : Int) x _).mono ?_); rw [HA.out.1, HA.out.2.1]; rintro e w5 ⟨rfl, hb5⟩)
      | (go_at_call 26; (with_reducible refine (wrap_any (K : Int) y _).mono ?_); rw [HA.out.1, HA.out.2.2]; rintro e w5 ⟨rfl, hb5⟩))
  go_wp2_with fail
  have hS : Below W.heap.size W w5 ∧ w5.cell? ⟨g, 0, none⟩ = some (.int .i64 (K : Int)) := by assumption
  have HO1 := Lib.hid (below_obj hS.1 HO.out)
  have HW1 := Lib.hid (HW.out.trans (hS.1.mono HW.out.size))
  have cW1 : w5.cell? ⟨g, 0, none⟩ = some (.int .i64 (K : Int)) := hS.2
  have HF1 := Lib.hid (fun (w' : World) (hb : Below w5.heap.size w5 w') => (below_obj hb HO1.out).cell 0)
  clear hS cW hb5
  go_region_held3 (fun w' => Below w5.heap.size w5 w' ∧ w'.cell? ⟨g, 0, none⟩ = some (.int .i64 (K : Int)))
    (first | exact hold_first HF1.out | assumption | exact hold_in HF1.out (by assumption) hb6)
    (first
      | (go_at_call 16; (with_reducible refine (not_any (K : Int) (a : Int) _).mono ?_); rw [HA.out.1]; rintro e w6 ⟨rfl, hb6⟩)
      | (go_at_call 16; (with_reducible refine (not_any (K : Int) (notK K (a : Int)) _).mono ?_); rw [HA.out.1, HL.out.1.1]; rintro e w6 ⟨rfl, hb6⟩)
      | (go_at_call 29; (with_reducible refine (lgdo_any g (K : Int) 7 (a : Int) (b : Int) _ (And.right (by assumption))).mono ?_); rw [HA.out.1]; rintro e w6 ⟨rfl, hb6⟩)
      | (go_at_call 16; (with_reducible refine (not_any (K : Int) (lgV 7 K (a : Int) (b : Int)) _).mono ?_); rw [HA.out.1, HL.out.1.2.1]; rintro e w6 ⟨rfl, hb6⟩)
      | (go_at_call 16; (with_reducible refine (not_any (K : Int) (b : Int) _).mono ?_); rw [HA.out.1]; rintro e w6 ⟨rfl, hb6⟩)
      | (go_at_call 29; (with_reducible refine (lgdo_any g (K : Int) 8 (notK K (a : Int)) (notK K (b : Int)) _ (And.right (by assumption))).mono ?_); rw [HA.out.1]; rintro e w6 ⟨rfl, hb6⟩)
      | (go_at_call 29; (with_reducible refine (lgdo_any g (K : Int) 9 (a : Int) (b : Int) _ (And.right (by assumption))).mono ?_); rw [HA.out.1]; rintro e w6 ⟨rfl, hb6⟩)
      | (go_at_call 29; (with_reducible refine (lgdo_any g (K : Int) 9 (lgV 9 K (a : Int) (b : Int)) (b : Int) _ (And.right (by assumption))).mono ?_); rw [HA.out.1, HL.out.1.2.2.1]; rintro e w6 ⟨rfl, hb6⟩))
  go_wp2_with fail
  have hS : Below w5.heap.size w5 w6 ∧ w6.cell? ⟨g, 0, none⟩ = some (.int .i64 (K : Int)) := by assumption
  have HO2 := Lib.hid (below_obj hS.1 HO1.out)
  have HW2 := Lib.hid (HW1.out.trans (hS.1.mono HW1.out.size))
  have cW2 : w6.cell? ⟨g, 0, none⟩ = some (.int .i64 (K : Int)) := hS.2
  have HF2 := Lib.hid (fun (w' : World) (hb : Below w6.heap.size w6 w') => (below_obj hb HO2.out).cell 0)
  clear hS cW1 hb6
  go_region_held3 (fun w' => Below w6.heap.size w6 w' ∧ w'.cell? ⟨g, 0, none⟩ = some (.int .i64 (K : Int)))
    (first | exact hold_first HF2.out | assumption | exact hold_in HF2.out (by assumption) hb7)
    (first
      | (go_at_call 29; (with_reducible refine (lgdo_any g (K : Int) 10 (a : Int) (b : Int) _ (And.right (by assumption))).mono ?_); rw [HA.out.1, HL.out.1.2.2.2.1]; rintro e w7 ⟨rfl, hb7⟩)
      | (go_at_call 16; (with_reducible refine (not_any (K : Int) (b : Int) _).mono ?_); rw [HA.out.1]; rintro e w7 ⟨rfl, hb7⟩)
      | (go_at_call 29; (with_reducible refine (lgdo_any g (K : Int) 7 (a : Int) (notK K (b : Int)) _ (And.right (by assumption))).mono ?_); rw [HA.out.1]; rintro e w7 ⟨rfl, hb7⟩)
      | (go_at_call 29; (with_reducible refine (lgdo_any g (K : Int) 11 (a : Int) (b : Int) _ (And.right (by assumption))).mono ?_); rw [HA.out.1, HL.out.1.2.2.2.2.1]; rintro e w7 ⟨rfl, hb7⟩)
      | (go_at_call 29; (with_reducible refine (lgdo_any g (K : Int) 8 (a : Int) (notK K (b : Int)) _ (And.right (by assumption))).mono ?_); rw [HA.out.1]; rintro e w7 ⟨rfl, hb7⟩)
      | (go_at_call 29; (with_reducible refine (lgdo_any g (K : Int) 12 (a : Int) (b : Int) _ (And.right (by assumption))).mono ?_); rw [HA.out.1, HL.out.1.2.2.2.2.2]; rintro e w7 ⟨rfl, hb7⟩)
      | (go_at_call 29; (with_reducible refine (lgdo_any g (K : Int) 9 (a : Int) (b : Int) _ (And.right (by assumption))).mono ?_); rw [HA.out.1]; rintro e w7 ⟨rfl, hb7⟩)
      | (go_at_call 16; (with_reducible refine (not_any (K : Int) (lgV 9 K (a : Int) (b : Int)) _).mono ?_); rw [HA.out.1]; rintro e w7 ⟨rfl, hb7⟩))
  have hS : Below w6.heap.size w6 w7 ∧ w7.cell? ⟨g, 0, none⟩ = some (.int .i64 (K : Int)) := by assumption
  have P0 := Lib.hid (below_obj hS.1 HO2.out)
  have Q0 := Lib.hid (HW2.out.trans (hS.1.mono HW2.out.size))
  have c0 : w7.cell? ⟨g, 0, none⟩ = some (.int .i64 (K : Int)) := hS.2
  clear hS cW2 hb7
  have s1 := HL.out.2.1
  have s2 := HL.out.2.2.1
  have s3 := HL.out.2.2.2.1
  go_wp2_with fail
  refine (lgdo_any g (K : Int) 19 (a : Int) (b : Int) _ c0).mono ?_
  rintro e v1 ⟨rfl, hb⟩
  rw [HA.out.1]
  have P1 := Lib.hid (below_obj hb P0.out)
  have Q1 := Lib.hid (bt Q0.out hb)
  have c1 : v1.cell? ⟨g, 0, none⟩ = some (.int .i64 (K : Int)) := P1.out.cell 0
  clear hb c0
  go_wp2_with fail
  refine (lgdo_any g (K : Int) 23 (a : Int) (b : Int) _ c1).mono ?_
  rintro e v2 ⟨rfl, hb⟩
  rw [HA.out.1]
  have P2 := Lib.hid (below_obj hb P1.out)
  have Q2 := Lib.hid (bt Q1.out hb)
  have c2 : v2.cell? ⟨g, 0, none⟩ = some (.int .i64 (K : Int)) := P2.out.cell 0
  clear hb c1
  go_wp2_with fail
  refine (lgdo_any g (K : Int) 24 (a : Int) (b : Int) _ c2).mono ?_
  rintro e v3 ⟨rfl, hb⟩
  rw [HA.out.1]
  have P3 := Lib.hid (below_obj hb P2.out)
  have Q3 := Lib.hid (bt Q2.out hb)
  have c3 : v3.cell? ⟨g, 0, none⟩ = some (.int .i64 (K : Int)) := P3.out.cell 0
  clear hb c2
  go_wp2_with fail
  refine (lgdo_any g (K : Int) 20 (a : Int) (b : Int) _ c3).mono ?_
  rintro e v4 ⟨rfl, hb⟩
  rw [HA.out.1]
  have P4 := Lib.hid (below_obj hb P3.out)
  have Q4 := Lib.hid (bt Q3.out hb)
  have c4 : v4.cell? ⟨g, 0, none⟩ = some (.int .i64 (K : Int)) := P4.out.cell 0
  clear hb c3
  go_wp2_with fail
  refine (lgdo_any g (K : Int) 21 (a : Int) (b : Int) _ c4).mono ?_
  rintro e v5 ⟨rfl, hb⟩
  rw [HA.out.1]
  have P5 := Lib.hid (below_obj hb P4.out)
  have Q5 := Lib.hid (bt Q4.out hb)
  have c5 : v5.cell? ⟨g, 0, none⟩ = some (.int .i64 (K : Int)) := P5.out.cell 0
  clear hb c4
  go_wp2_with fail
  refine (lgdo_any g (K : Int) 22 (a : Int) (b : Int) _ c5).mono ?_
  rintro e v6 ⟨rfl, hb⟩
  rw [HA.out.1]
  have P6 := Lib.hid (below_obj hb P5.out)
  have Q6 := Lib.hid (bt Q5.out hb)
  have c6 : v6.cell? ⟨g, 0, none⟩ = some (.int .i64 (K : Int)) := P6.out.cell 0
  clear hb c5
  go_wp2_with fail
  refine (lgdo_any g (K : Int) 19 (a : Int) (b : Int) _ c6).mono ?_
  rintro e v7 ⟨rfl, hb⟩
  rw [HA.out.1]
  have P7 := Lib.hid (below_obj hb P6.out)
  have Q7 := Lib.hid (bt Q6.out hb)
  have c7 : v7.cell? ⟨g, 0, none⟩ = some (.int .i64 (K : Int)) := P7.out.cell 0
  clear hb c6
  go_wp2_with fail
  refine (lgdo_any g (K : Int) 24 (b : Int) (a : Int) _ c7).mono ?_
  rintro e v8 ⟨rfl, hb⟩
  rw [HA.out.1, ← HL.out.2.2.2.2.1]
  have P8 := Lib.hid (below_obj hb P7.out)
  have Q8 := Lib.hid (bt Q7.out hb)
  have c8 : v8.cell? ⟨g, 0, none⟩ = some (.int .i64 (K : Int)) := P8.out.cell 0
  clear hb c7
  go_wp2
  go_ret
  exact ⟨ret_bool (by simp), Q8.out⟩
theorem iecLogic_walk (q : Int) (wq : (Lit.int .u8 q).wf = true) (x : Int) (_ : (Lit.int .i64 x).wf = true) (y : Int) (_ : (Lit.int .i64 y).wf = true) (w : World) :
    Calls Try.prog 7 #[.int .u8 q, .int .i64 x, .int .i64 y] w fun e w' => e = .returned (.bool true) ∧ Below w.heap.size w w' := by
  have hq := bounds_u8 wq
  obtain ⟨q, rfl⟩ := Int.eq_ofNat_of_zero_le hq.1
  rcases (by omega : q % 3 = 0 ∨ q % 3 = 1 ∨ q % 3 = 2) with h | h | h
  · exact logic_case q 1 1 (by omega) x y (.inl ⟨rfl, rfl⟩) 0 (by omega) (.inl ⟨rfl, rfl⟩) w
  · exact logic_case q 6 16 (by omega) x y (.inr (.inl ⟨rfl, rfl⟩)) 1 (by omega) (.inr (.inl ⟨rfl, rfl⟩)) w
  · exact logic_case q 7 32 (by omega) x y (.inr (.inr ⟨rfl, rfl⟩)) 2 (by omega) (.inr (.inr ⟨rfl, rfl⟩)) w
end Go.Proofs.Ytclbmgnpgjhlhaa
