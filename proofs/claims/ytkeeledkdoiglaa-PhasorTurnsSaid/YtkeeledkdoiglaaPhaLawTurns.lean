/- The law PhasorTurns: a phasor of any two numbers, turned by any number of quarters, is the document's, and so is its power. -/
import Derived.Test.YtkeeledkdoiglaaPhaAwake
import Derived.Test.YtkeeledkdoiglaaHeld
namespace Go.Proofs.Ytkeeledkdoiglaa
open Go.RowKit
theorem phasorTurns_walk (a : Int) (wa : (Lit.int .i64 a).wf = true) (b : Int) (wb : (Lit.int .i64 b).wf = true) (n : Int) (wn : (Lit.int .i64 n).wf = true) (w : World) :
    Calls Try.prog 3 #[.int .i64 a, .int .i64 b, .int .i64 n] w fun e w' => e = .returned (.bool true) ∧ Below w.heap.size w w' := by
  have hz : BdZ 1048576 (smallZ a, smallZ b) := ⟨smallZ_bd a, smallZ_bd b⟩
  have HZ := Lib.hid hz
  clear hz wa wb wn
  go_enter Try.func3, Try.ntmps3
  go_wp2_with fail
  refine (pawake_any _).mono ?_
  rintro e w1 ⟨rfl, hb1⟩
  go_wp2_with fail
  refine (rsmall_any _ _).mono ?_
  rintro e w' ⟨rfl, rfl⟩
  go_wp2_with fail
  refine (rsmall_any _ _).mono ?_
  rintro e w' ⟨rfl, rfl⟩
  go_wp2_with fail
  refine (of_any _ _ _).mono ?_
  rintro e w' ⟨r1, i1, rfl, hr1, hi1, rfl⟩
  go_wp2_with fail
  refine (rturn_any (smallZ a, smallZ b) n (HZ.out.mono (by decide)) _).mono ?_
  rintro e w2 ⟨rfl, hb2⟩
  go_wp2_with fail
  obtain ⟨t, ht⟩ : ∃ t, t = turnZ (smallZ a, smallZ b) n := ⟨_, rfl⟩
  have htb := turnZ_bd n HZ.out
  have hpow := powZ_turn (smallZ a, smallZ b) n
  rw [← ht] at htb hpow
  rw [← ht]
  have HT := Lib.hid ht
  obtain ⟨W, hW⟩ : ∃ W, W = w2.alloc (.cells #[.int .i64 t.1, .int .i64 t.2] 25) := ⟨_, rfl⟩
  have hsz : w1.heap.size < w2.heap.size := Nat.lt_of_lt_of_le (by simp) hb2.size
  have hx := (below_obj hb2 (ObjAt.new w1 #[.int .i64 (smallZ a), .int .i64 (smallZ b)] 25)).alloc (.cells #[.int .i64 t.1, .int .i64 t.2] 25)
  have hy := ObjAt.new w2 #[.int .i64 t.1, .int .i64 t.2] 25
  have hB : Below w.heap.size w (w2.alloc (.cells #[.int .i64 t.1, .int .i64 t.2] 25)) := ((hb1.alloc hb1.size _).trans (hb2.mono (by simp; exact Nat.le_succ_of_le hb1.size))).alloc (Nat.le_of_lt (Nat.lt_of_le_of_lt hb1.size hsz)) _
  rw [← hW] at hx hy hB
  rw [← hW]
  have l1 := hx.lt
  have l2 := hy.lt
  have c0 : W.cell? ⟨w1.heap.size, 0, none⟩ = some (.int .i64 (smallZ a)) := hx.cell 0
  have c1 : W.cell? ⟨w1.heap.size, 1, none⟩ = some (.int .i64 (smallZ b)) := hx.cell 1
  have d0 : W.cell? ⟨w2.heap.size, 0, none⟩ = some (.int .i64 t.1) := hy.cell 0
  have d1 : W.cell? ⟨w2.heap.size, 1, none⟩ = some (.int .i64 t.2) := hy.cell 1
  have HB := Lib.hid hB
  have HPW := Lib.hid hpow
  have HR := Lib.hid (And.intro hr1 hi1)
  have HTB := Lib.hid htb
  clear hW hx hy hB hb1 hb2 ht hpow hr1 hi1 htb hsz
  go_region_held3 (fun w' => Below W.heap.size W w' ∧ (∀ b o, b < W.heap.size → w'.cell? ⟨b, o, none⟩ = W.cell? ⟨b, o, none⟩))
    (first | exact held_drew _ | assumption | exact held_next (by assumption) hb5)
    (first
      | (go_at_call 13; (with_reducible refine (is_eq (z := (smallZ a, smallZ b)) HR.out.1 HR.out.2 (HZ.out.mono (by decide)) _).mono ?_); rintro e w5 ⟨rfl, hb5⟩)
      | (go_at_call 14; (with_reducible refine (turn_fl (z := (smallZ a, smallZ b)) n HR.out.1 HR.out.2 (HZ.out.mono (by decide)) _).mono ?_); rintro e w5 ⟨r2, i2, rfl, hr2, hi2, rfl⟩)
      | (go_at_call 13; (with_reducible refine (is_eq (z := t) (by rw [HT.out]; exact hr2) (by rw [HT.out]; exact hi2) (HTB.out.mono (by decide)) _).mono ?_); rintro e w5 ⟨rfl, hb5⟩)
      | (go_at_call 15; (with_reducible refine (power_fl (z := (smallZ a, smallZ b)) HR.out.1 HR.out.2 (HZ.out.mono (by decide)) _).mono ?_); rintro e w5 ⟨rfl, rfl⟩)
      | (go_at_call 15; (with_reducible refine (power_fl (z := t) (by rw [HT.out]; exact hr2) (by rw [HT.out]; exact hi2) (HTB.out.mono (by decide)) _).mono ?_); rw [HPW.out]; rintro e w5 ⟨rfl, rfl⟩)
      | (go_at_call 16; (with_reducible refine (rpower_any (smallZ a, smallZ b) (HZ.out.mono (by decide)) _).mono ?_); rintro e w5 ⟨rfl, hb5⟩))
  go_wp2
  go_ret
  exact ⟨rfl, held_end HB.out (by assumption)⟩
end Go.Proofs.Ytkeeledkdoiglaa
