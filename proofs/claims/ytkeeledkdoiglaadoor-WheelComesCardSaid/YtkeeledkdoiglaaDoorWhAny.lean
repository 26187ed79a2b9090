/- Wheel: Set, Cancel and Left of any numbers; the law's first lines. -/
import Derived.Test.YtkeeledkdoiglaaDoorWhSkip
import Derived.Test.YtkeeledkdoiglaaDoorWhAlike
namespace Go.Proofs.YtkeeledkdoiglaaDoor.Wh
open Go.RowKit Go.Proofs.YtkeeledkdoiglaaDoor
def inR (i : Int) : Prop := 0 ≤ i ∧ i < 16
instance (i : Int) : Decidable (inR i) := inferInstanceAs (Decidable (_ ∧ _))
def setOk (i t : Int) : Prop := inR i ∧ 1 ≤ t ∧ t ≤ 10000
instance (i t : Int) : Decidable (setOk i t) := inferInstanceAs (Decidable (_ ∧ _))
def setF (F : Nat → Int) (i t : Int) : Nat → Int := if setOk i t then upd F i.toNat t else F
def cancF (F : Nat → Int) (i : Int) : Nat → Int := if inR i then upd F i.toNat 0 else F
def leftF (F : Nat → Int) (i : Int) : Int := if inR i then F i.toNat else 0
theorem RfAt.congr {w : World} {rb : Nat} {F G : Nat → Int} (h : RfAt w rb F) (hf : ∀ i, i < 16 → F i = G i) : RfAt w rb G := ⟨h.lt, fun i hi => by rw [← hf i hi]; exact h.c i hi, h.free⟩
section
variable {w : World} {wb rb : Nat} {F : Nat → Int} {m : Int}
theorem setAny (h : WL w wb F m) (hm : m ≤ 400000) (i t : Int) :
    Calls Tryd.prog 9 #[.pointer (some ⟨wb, 0, none⟩), .int .i64 i, .int .i64 t] w fun e w' =>
      e = .returned (.bool (decide (setOk i t))) ∧ Keep (fun k => k = wb) w w' ∧ WL w' wb (setF F i t) m := by
  by_cases ho : setOk i t
  · obtain ⟨⟨h1, h2⟩, h3, h4⟩ := ho
    obtain ⟨n, rfl⟩ := Int.eq_ofNat_of_zero_le h1
    obtain ⟨k, rfl⟩ := Int.eq_ofNat_of_zero_le (show 0 ≤ t by omega)
    have ho : setOk (n : Int) (k : Int) := ⟨⟨h1, h2⟩, h3, h4⟩
    unfold setF
    rw [if_pos ho, decide_eq_true ho]
    exact setW h hm n k (by omega) (by omega)
  · unfold setF
    rw [if_neg ho, decide_eq_false ho]
    refine (set_not wb i t (by unfold setOk inR at ho; omega) w).mono ?_
    rintro e w' ⟨rfl, rfl⟩
    exact ⟨rfl, Keep.refl _ _, h⟩
theorem rsetAny (h : RfAt w rb F) (i t : Int) :
    Calls Tryd.prog 13 #[.pointer (some ⟨rb, 0, none⟩), .int .i64 i, .int .i64 t] w fun e w' =>
      e = .returned (.bool (decide (setOk i t))) ∧ Keep (fun k => k = rb) w w' ∧ RfAt w' rb (setF F i t) := by
  by_cases ho : setOk i t
  · obtain ⟨⟨h1, h2⟩, h3, h4⟩ := ho
    obtain ⟨n, rfl⟩ := Int.eq_ofNat_of_zero_le h1
    obtain ⟨k, rfl⟩ := Int.eq_ofNat_of_zero_le (show 0 ≤ t by omega)
    have ho : setOk (n : Int) (k : Int) := ⟨⟨h1, h2⟩, h3, h4⟩
    unfold setF
    rw [if_pos ho, decide_eq_true ho]
    exact rset_in rb F n k (by omega) (by omega) w h
  · unfold setF
    rw [if_neg ho, decide_eq_false ho]
    refine (rset_not rb i t (by unfold setOk inR at ho; omega) w).mono ?_
    rintro e w' ⟨rfl, rfl⟩
    exact ⟨rfl, Keep.refl _ _, h⟩
theorem rleftAny (h : RfAt w rb F) (i : Int) :
    Calls Tryd.prog 14 #[.pointer (some ⟨rb, 0, none⟩), .int .i64 i] w fun e w' => e = .returned (.int .i64 (leftF F i)) ∧ w' = w := by
  unfold leftF
  by_cases ho : inR i
  · rw [if_pos ho]
    obtain ⟨n, rfl⟩ := Int.eq_ofNat_of_zero_le ho.1
    exact rleft_in rb F n (by have := ho.2; omega) w h
  · rw [if_neg ho]
    exact rleft_out rb i (by unfold inR at ho; omega) w
theorem cancelAny (h : WL w wb F m) (hm : m ≤ 400000) (i : Int) :
    Calls Tryd.prog 10 #[.pointer (some ⟨wb, 0, none⟩), .int .i64 i] w fun e w' =>
      e = .returned (.bool (decide (0 < leftF F i))) ∧ Keep (fun k => k = wb) w w' ∧ WL w' wb (cancF F i) m := by
  unfold leftF cancF
  by_cases ho : inR i
  · rw [if_pos ho, if_pos ho]
    obtain ⟨n, rfl⟩ := Int.eq_ofNat_of_zero_le ho.1
    exact cancelW h hm n (by have := ho.2; omega)
  · rw [if_neg ho, if_neg ho]
    refine (cancel_not wb i w (is_out wb i w (by unfold inR at ho; omega))).mono ?_
    rintro e w' ⟨rfl, rfl⟩
    exact ⟨rfl, Keep.refl _ _, h⟩
end
set_option maxRecDepth 100000 in
set_option maxHeartbeats 4000000 in
theorem awake8_any (w : World) (hL : LaidW w) : Calls Tryd.prog 7 #[] w fun e w' => e = .returned (.bool true) ∧ Below w.heap.size w w' := by
  have HL := Lib.hid hL
  clear hL
  go_enter Tryd.func7, Tryd.ntmps7
  go_wp2_with fail
  refine (newW w).mono ?_
  rintro e w1 ⟨rfl, hb1, h1⟩
  have HB1 := Lib.hid hb1
  have H1 := Lib.hid h1
  clear hb1 h1
  go_wp2_with fail
  have hS : Calls Tryd.prog 9 #[.pointer (some ⟨w.heap.size, 0, none⟩), .int .i64 3, .int .i64 2] w1 fun e w' =>
      e = .returned (.bool true) ∧ Keep (fun k => k = w.heap.size) w1 w' ∧ WL w' w.heap.size (upd (fun _ => 0) 3 2) 0 := setW H1.out (by omega) 3 2 (by omega) (by omega)
  refine hS.mono ?_
  clear hS
  rintro e w2 ⟨rfl, hk2, h2⟩
  have HB2 := Lib.hid (HB1.out.trans (hk2.below HB1.out.size (by intro k h1 h2; omega)))
  have H2 := Lib.hid h2
  clear hk2 h2 HB1 H1
  go_wp2_with fail
  refine (tickW H2.out (by omega) (laidW_below HL.out HB2.out (Nat.le_refl _))).mono ?_
  rintro e w3 ⟨va, rfl, ha, h3, hk3⟩
  have e1 : comes (upd (fun _ => 0) 3 2) 16 = [] := by decide
  rw [e1] at ha
  have hb3 := HB2.out.trans (hk3.below HB2.out.size (by intro k h1 h2; omega))
  have HB3 := Lib.hid hb3
  have H3 := Lib.hid h3
  clear e1 h3 hk3 hb3 H2 HB2
  obtain ⟨a, ca, ga, rfl, -, -, -⟩ := own_form ha
  clear ha
  go_wp2_with fail
  refine (tickW H3.out (by omega) (laidW_below HL.out HB3.out (Nat.le_refl _))).mono ?_
  rintro e w4 ⟨vb, rfl, hb, h4, hk4⟩
  have e2 : comes (down (upd (fun _ => 0) 3 2) 16) 16 = [3] := by decide
  rw [e2] at hb
  have hb4 := HB3.out.trans (hk4.below HB3.out.size (by intro k h1 h2; omega))
  have HB4 := Lib.hid hb4
  have hln := lenW h4
  have e3 : cntF (down (down (upd (fun _ => 0) 3 2) 16) 16) 16 = 0 := by decide
  rw [e3] at hln
  have HLN := Lib.hid hln
  clear e2 e3 h4 hk4 hb4 H3 HB3 hln
  obtain ⟨b, cb, gb, rfl, hne, hc, -⟩ := own_form hb
  obtain rfl := hne (by simp)
  have c0 : w4.cell? ⟨gb, 0, none⟩ = some (.int .i64 3) := hc 0 (by simp)
  clear hb hne hc
  go_wp2_with fail
  refine HLN.out.mono ?_
  rintro e w5 ⟨rfl, kq, rfl⟩
  have HB5 := Lib.hid (show Below w.heap.size w (w4.drewN kq) from ⟨HB4.out.os, HB4.out.tape, HB4.out.output, HB4.out.size, HB4.out.block⟩)
  go_wp2
  go_ret
  exact ⟨rfl, HB5.out⟩
end Go.Proofs.YtkeeledkdoiglaaDoor.Wh
