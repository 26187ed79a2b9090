/- Functions of the program as plain Lean functions, and that the machine's calls do what these say (written by a program of mine, wip/myprint.py, over the kit's print). -/
import Derived.Test.YtmehafolnpkmhaaDoorPMemx0
import Derived.Test.YtmehafolnpkmhaaDoorPMemx2
import Derived.Test.YtmehafolnpkmhaaDoorPMemx3
import Derived.Test.YtmehafolnpkmhaaDoorPMemx4
import Derived.Test.YtmehafolnpkmhaaDoorPMemx6
namespace Go.Proofs.YtmehafolnpkmhaaDoor.PMem
open Go.RowKit Go.Proofs.YtmehafolnpkmhaaDoorW.PrintWords Go.Proofs.YtmehafolnpkmhaaDoorW.PrintLast Go.Proofs.YtmehafolnpkmhaaDoorW.PrintMore
attribute [local go_sem] max2_int min2_int max_two min_two max_three min_three max_four min_four   -- for this text's walks alone
set_option linter.unusedVariables false
set_option linter.unusedSimpArgs false

/-! ### fuglemanref05_Gap: function 39 -/
mutual
def fuglemanref05_Gap.j0 : Nat → Int → Int → Int → Bool → Option (Int)
  | 0, _, _, _, _ => none
  | k + 1, x0, x1, x2, x16 => if x16 = true then (some 0) else ((fuglemanref05_Next.f k x0 x1).bind fun t274 => (if t274 < 0 then (fuglemanref05_Gap.j1 k x1 x2 x1) else (fuglemanref05_Gap.j1 k x1 x2 t274)))
def fuglemanref05_Gap.j1 : Nat → Int → Int → Int → Option (Int)
  | 0, _, _, _ => none
  | k + 1, x1, x2, x7 => (fuglemanref05_Between.f k x1 x7).bind fun t275 => ((fuglemanref05_List.f k t275).bind fun t276 => (fuglemanref05_Gap.l0 k x2 t276 0 0))
def fuglemanref05_Gap.l0 : Nat → Int → List Int → Int → Int → Option (Int)
  | 0, _, _, _, _ => none
  | k + 1, x2, x8, x9, x10 => if x10 < (x8.length : Int) then (if 0 ≤ x10 then (if (rd x8 x10) ≤ x2 then ((fuglemanref05_With.f k x9 (rd x8 x10)).bind fun t281 => (fuglemanref05_Gap.l0 k x2 x8 t281 (wrap64 (x10 + 1)))) else (fuglemanref05_Gap.l0 k x2 x8 x9 (wrap64 (x10 + 1)))) else (none)) else (some x9)
end
def fuglemanref05_Gap.f (k : Nat) (a0 : Int) (a1 : Int) (a2 : Int) : Option (Int) := if a1 < 0 then (fuglemanref05_Gap.j0 k a0 a1 a2 true) else (fuglemanref05_Gap.j0 k a0 a1 a2 (decide (a1 > 31)))
theorem fuglemanref05_Gap.mono_l : ∀ k, (∀ y0 y1 y2 y3, LeO (fuglemanref05_Gap.j0 k y0 y1 y2 y3) (fuglemanref05_Gap.j0 (k + 1) y0 y1 y2 y3)) ∧ (∀ y0 y1 y2, LeO (fuglemanref05_Gap.j1 k y0 y1 y2) (fuglemanref05_Gap.j1 (k + 1) y0 y1 y2)) ∧ (∀ y0 y1 y2 y3, LeO (fuglemanref05_Gap.l0 k y0 y1 y2 y3) (fuglemanref05_Gap.l0 (k + 1) y0 y1 y2 y3))
  | 0 => ⟨fun _ _ _ _ r h => by simp [fuglemanref05_Gap.j0] at h, fun _ _ _ r h => by simp [fuglemanref05_Gap.j1] at h, fun _ _ _ _ r h => by simp [fuglemanref05_Gap.l0] at h⟩
  | k + 1 => by
    obtain ⟨ih0, ih1, ih2⟩ := fuglemanref05_Gap.mono_l k
    refine ⟨?_, ?_, ?_⟩
    · intro y0 y1 y2 y3
      unfold fuglemanref05_Gap.j0
      repeat' first
      | (with_reducible exact ih0 _ _ _ _)
      | (with_reducible exact ih1 _ _ _)
      | (with_reducible exact ih2 _ _ _ _)
      | (with_reducible exact fuglemanref05_Between.mono _ _ _)
      | (with_reducible exact fuglemanref05_List.mono _ _)
      | (with_reducible exact fuglemanref05_Next.mono _ _ _)
      | (with_reducible exact fuglemanref05_With.mono _ _ _)
      | (with_reducible exact LeO.refl _)
      | (with_reducible exact LeO.none _)
      | (with_reducible refine LeO.ite ?_ ?_)
      | (with_reducible refine LeO.bind ?_ (fun _ => ?_))
      | exact ih0 _ _ _ _
      | exact ih1 _ _ _
      | exact ih2 _ _ _ _
      | exact fuglemanref05_Between.mono _ _ _
      | exact fuglemanref05_List.mono _ _
      | exact fuglemanref05_Next.mono _ _ _
      | exact fuglemanref05_With.mono _ _ _
      | exact LeO.none _
      | refine LeO.ite ?_ ?_
      | refine LeO.bind ?_ (fun _ => ?_)
    · intro y0 y1 y2
      unfold fuglemanref05_Gap.j1
      repeat' first
      | (with_reducible exact ih0 _ _ _ _)
      | (with_reducible exact ih1 _ _ _)
      | (with_reducible exact ih2 _ _ _ _)
      | (with_reducible exact fuglemanref05_Between.mono _ _ _)
      | (with_reducible exact fuglemanref05_List.mono _ _)
      | (with_reducible exact fuglemanref05_Next.mono _ _ _)
      | (with_reducible exact fuglemanref05_With.mono _ _ _)
      | (with_reducible exact LeO.refl _)
      | (with_reducible exact LeO.none _)
      | (with_reducible refine LeO.ite ?_ ?_)
      | (with_reducible refine LeO.bind ?_ (fun _ => ?_))
      | exact ih0 _ _ _ _
      | exact ih1 _ _ _
      | exact ih2 _ _ _ _
      | exact fuglemanref05_Between.mono _ _ _
      | exact fuglemanref05_List.mono _ _
      | exact fuglemanref05_Next.mono _ _ _
      | exact fuglemanref05_With.mono _ _ _
      | exact LeO.none _
      | refine LeO.ite ?_ ?_
      | refine LeO.bind ?_ (fun _ => ?_)
    · intro y0 y1 y2 y3
      unfold fuglemanref05_Gap.l0
      repeat' first
      | (with_reducible exact ih0 _ _ _ _)
      | (with_reducible exact ih1 _ _ _)
      | (with_reducible exact ih2 _ _ _ _)
      | (with_reducible exact fuglemanref05_Between.mono _ _ _)
      | (with_reducible exact fuglemanref05_List.mono _ _)
      | (with_reducible exact fuglemanref05_Next.mono _ _ _)
      | (with_reducible exact fuglemanref05_With.mono _ _ _)
      | (with_reducible exact LeO.refl _)
      | (with_reducible exact LeO.none _)
      | (with_reducible refine LeO.ite ?_ ?_)
      | (with_reducible refine LeO.bind ?_ (fun _ => ?_))
      | exact ih0 _ _ _ _
      | exact ih1 _ _ _
      | exact ih2 _ _ _ _
      | exact fuglemanref05_Between.mono _ _ _
      | exact fuglemanref05_List.mono _ _
      | exact fuglemanref05_Next.mono _ _ _
      | exact fuglemanref05_With.mono _ _ _
      | exact LeO.none _
      | refine LeO.ite ?_ ?_
      | refine LeO.bind ?_ (fun _ => ?_)
theorem fuglemanref05_Gap.mono : ∀ a0 a1 a2 k, LeO (fuglemanref05_Gap.f k a0 a1 a2) (fuglemanref05_Gap.f (k + 1) a0 a1 a2) := by
  intro a0 a1 a2 k
  obtain ⟨ih0, ih1, ih2⟩ := fuglemanref05_Gap.mono_l k
  unfold fuglemanref05_Gap.f
  repeat' first
      | (with_reducible exact ih0 _ _ _ _)
      | (with_reducible exact ih1 _ _ _)
      | (with_reducible exact ih2 _ _ _ _)
      | (with_reducible exact fuglemanref05_Between.mono _ _ _)
      | (with_reducible exact fuglemanref05_List.mono _ _)
      | (with_reducible exact fuglemanref05_Next.mono _ _ _)
      | (with_reducible exact fuglemanref05_With.mono _ _ _)
      | (with_reducible exact LeO.refl _)
      | (with_reducible exact LeO.none _)
      | (with_reducible refine LeO.ite ?_ ?_)
      | (with_reducible refine LeO.bind ?_ (fun _ => ?_))
      | exact ih0 _ _ _ _
      | exact ih1 _ _ _
      | exact ih2 _ _ _ _
      | exact fuglemanref05_Between.mono _ _ _
      | exact fuglemanref05_List.mono _ _
      | exact fuglemanref05_Next.mono _ _ _
      | exact fuglemanref05_With.mono _ _ _
      | exact LeO.none _
      | refine LeO.ite ?_ ?_
      | refine LeO.bind ?_ (fun _ => ?_)
set_option maxHeartbeats 8000000 in
set_option maxRecDepth 100000 in
theorem fuglemanref05_Gap.calls (k : Nat) (a0 : Int) (a1 : Int) (a2 : Int) (r : Int) (w : World) (h : fuglemanref05_Gap.f k a0 a1 a2 = some r) :
    Calls Tryd.prog 39 #[.int .u32 a0, .int .i64 a1, .int .i64 a2] w fun e w' => e = .returned (.int .u32 r) ∧ Below w.heap.size w w' := by
  have HB := Aside0.mk (Below.refl w.heap.size w)
  have H : (if a1 < 0 then (fuglemanref05_Gap.j0 k a0 a1 a2 true) else (fuglemanref05_Gap.j0 k a0 a1 a2 (decide (a1 > 31)))) = some r := h
  clear h
  have HC4 := Aside0.mk H
  clear H
  go_enter Tryd.func39, Tryd.ntmps39
  go_upto_region 1 with (fail)
  go_cut [16] (fun v16 wc => ∃ (kq : Nat) (x16_3 : Bool), v16 = .bool x16_3 ∧ Aside0 (fuglemanref05_Gap.j0 kq a0 a1 a2 x16_3 = some r) ∧ Aside0 (kq ≤ k) ∧ Aside0 (Below w.heap.size w wc))
  case first =>
    have H := HC4.out
    clear HC4
    by_cases c5 : a1 < 0
    · rw [if_pos c5] at H
      have c5b0 : decide (a1 < 0) = true := decide_eq_true c5
      clear c5
      (first | rw [c5b0] | (simp only [i64_w, i32_w]; rw [c5b0]) | skip)
      have H' := Aside0.mk H
      clear H
      go_wp2
      go_meet
      case rel => exact ⟨_, (true), (by first | rfl | (simp; done) | (simp [*]; done)), H', ⟨by first | omega | exact Nat.le_refl _⟩, ⟨by repeat (first | (with_reducible first | exact HB.out | apply below_alloc | apply pw_below_drewN | apply below_drew1) | exact HB.out)⟩⟩
    · rw [if_neg c5] at H
      have c5b0 : decide (a1 < 0) = false := decide_eq_false c5
      clear c5
      (first | rw [c5b0] | (simp only [i64_w, i32_w]; rw [c5b0]) | skip)
      have H' := Aside0.mk H
      clear H
      go_wp2
      go_meet
      case rel => exact ⟨_, (decide (a1 > 31)), (by first | rfl | (simp; done) | (simp [*]; done)), H', ⟨by first | omega | exact Nat.le_refl _⟩, ⟨by repeat (first | (with_reducible first | exact HB.out | apply below_alloc | apply pw_below_drewN | apply below_drew1) | exact HB.out)⟩⟩
  case rest =>
    clear HC4
    try clear p2
    try clear c3
    try clear c5
    try clear c5b0
    obtain ⟨kq, x16_3, rfl, HA, HJ3, HB⟩ := hcut
    cases kq with
    | zero => exact absurd HA.out (by simp [fuglemanref05_Gap.j0])
    | succ kj3 =>
      have H := HA.out
      clear HA
      simp only [fuglemanref05_Gap.j0] at H
      by_cases c6 : x16_3 = true
      · subst c6
        have H1 : (some 0) = some r := by rw [if_pos rfl] at H; exact H
        clear H
        have H := H1
        clear H1
        obtain rfl := Option.some.inj H
        go_wp2
        go_ret
        exact ⟨by first | rfl | (simp [errW_none, errW_some] <;> rfl) | (simp [*, errW_none, errW_some] <;> rfl), by repeat (first | (with_reducible first | exact HB.out | apply below_alloc | apply pw_below_drewN | apply below_drew1) | exact HB.out)⟩
      · replace c6 := Bool.eq_false_iff.mpr c6
        subst c6
        have H1 : ((fuglemanref05_Next.f kj3 a0 a1).bind fun t274 => (if t274 < 0 then (fuglemanref05_Gap.j1 kj3 a1 a2 a1) else (fuglemanref05_Gap.j1 kj3 a1 a2 t274))) = some r := by rw [if_neg (show ¬ (false = true) by decide)] at H; exact H
        clear H
        have H := H1
        clear H1
        replace H := Option.bind_eq_some_iff.mp H
        obtain ⟨t274, A70, H⟩ := H
        replace H : (if t274 < 0 then (fuglemanref05_Gap.j1 kj3 a1 a2 a1) else (fuglemanref05_Gap.j1 kj3 a1 a2 t274)) = some r := H
        have A7 := Aside0.mk A70
        clear A70
        have HC8 := Aside0.mk H
        clear H
        go_upto_if 21 with (first | ((with_reducible refine gate_callee (f := 18) rfl ?_); refine goesL_ (some 19) rfl rfl Tryd.func18 (by kernel_rfl) rfl #[.int .u32 a0, .int .i64 a1] rfl (by (try simp only [List.map_toArray, List.map_cons, List.map_nil]); first | done | rfl | (simp only [List.length_drop, List.length_take]; rfl)) ?_; (with_reducible refine (fuglemanref05_Next.calls kj3 a0 a1 t274 _ A7.out).mono ?_); rintro e w9 ⟨rfl, hb⟩; refine ⟨_, rfl, ?_⟩; have n0_ := Aside0.mk (below_step (by repeat (first | (with_reducible first | exact HB.out | apply below_alloc | apply pw_below_drewN | apply below_drew1) | exact HB.out)) hb); clear HB; have HB := n0_; clear n0_; (try clear hb); (try clear hb2); (try clear hk); (try clear hi)))
        (try simp only [Act.put, List.setIfInBounds_toArray, List.set_cons_zero, List.set_cons_succ])
        go_cut [7] (fun v7 wc => ∃ (kq : Nat) (x7_7 : Int), v7 = .int .i64 x7_7 ∧ Aside0 (fuglemanref05_Gap.j1 kq a1 a2 x7_7 = some r) ∧ Aside0 (kq ≤ kj3) ∧ Aside0 (Below w.heap.size w wc))
        case first =>
          have H := HC8.out
          clear HC8
          by_cases c10 : t274 < 0
          · rw [if_pos c10] at H
            have c10b0 : decide (t274 < 0) = true := decide_eq_true c10
            clear c10
            (first | rw [c10b0] | (simp only [i64_w, i32_w]; rw [c10b0]) | skip)
            have H' := Aside0.mk H
            clear H
            go_wp2
            go_meet
            case rel => exact ⟨_, (a1), (by first | rfl | (simp; done) | (simp [*]; done)), H', ⟨by have := HJ3.out; first | omega | exact Nat.le_refl _⟩, ⟨by repeat (first | (with_reducible first | exact HB.out | apply below_alloc | apply pw_below_drewN | apply below_drew1) | exact HB.out)⟩⟩
          · rw [if_neg c10] at H
            have c10b0 : decide (t274 < 0) = false := decide_eq_false c10
            clear c10
            (first | rw [c10b0] | (simp only [i64_w, i32_w]; rw [c10b0]) | skip)
            have H' := Aside0.mk H
            clear H
            go_wp2
            go_meet
            case rel => exact ⟨_, (t274), (by first | rfl | (simp; done) | (simp [*]; done)), H', ⟨by have := HJ3.out; first | omega | exact Nat.le_refl _⟩, ⟨by repeat (first | (with_reducible first | exact HB.out | apply below_alloc | apply pw_below_drewN | apply below_drew1) | exact HB.out)⟩⟩
        case rest =>
          clear HC8
          try clear c1
          try clear p2
          try clear c3
          try clear c5
          try clear c5b0
          try clear c6
          try clear c10
          try clear c10b0
          try clear p2
          obtain ⟨kq, x7_7, rfl, HA, HJ7, HB⟩ := hcut
          cases kq with
          | zero => exact absurd HA.out (by simp [fuglemanref05_Gap.j1])
          | succ kj7 =>
            have H := HA.out
            clear HA
            simp only [fuglemanref05_Gap.j1] at H
            replace H := Option.bind_eq_some_iff.mp H
            obtain ⟨t275, A110, H⟩ := H
            replace H : ((fuglemanref05_List.f kj7 t275).bind fun t276 => (fuglemanref05_Gap.l0 kj7 a2 t276 0 0)) = some r := H
            have A11 := Aside0.mk A110
            clear A110
            replace H := Option.bind_eq_some_iff.mp H
            obtain ⟨t276, A120, H⟩ := H
            replace H : (fuglemanref05_Gap.l0 kj7 a2 t276 0 0) = some r := H
            have A12 := Aside0.mk A120
            clear A120
            have H' := Aside0.mk H
            clear H
            go_wp2_with (first | ((with_reducible refine gate_callee (f := 35) rfl ?_); refine goesL_ (some 25) rfl rfl Tryd.func35 (by kernel_rfl) rfl #[.int .i64 a1, .int .i64 x7_7] rfl (by (try simp only [List.map_toArray, List.map_cons, List.map_nil]); first | done | rfl | (simp only [List.length_drop, List.length_take]; rfl)) ?_; (with_reducible refine (fuglemanref05_Between.calls kj7 a1 x7_7 t275 _ A11.out).mono ?_); rintro e w' ⟨rfl, ⟨nd, rfl⟩⟩; refine ⟨_, rfl, ?_⟩) | ((with_reducible refine gate_callee (f := 21) rfl ?_); refine goesL_ (some 26) rfl rfl Tryd.func21 (by kernel_rfl) rfl #[.int .u32 t275] rfl (by (try simp only [List.map_toArray, List.map_cons, List.map_nil]); first | done | rfl | (simp only [List.length_drop, List.length_take]; rfl)) ?_; (with_reducible refine (fuglemanref05_List.calls kj7 t275 t276 _ A12.out).mono ?_); rintro e w13 ⟨v277, rfl, ho0, hb⟩; refine ⟨_, rfl, ?_⟩; have n0_ := Aside0.mk (Kd.R_lower ho0 (below_size (by repeat (first | (with_reducible first | exact HB.out | apply below_alloc | apply pw_below_drewN | apply below_drew1) | exact HB.out)))); have n1_ := Aside0.mk (below_step (by repeat (first | (with_reducible first | exact HB.out | apply below_alloc | apply pw_below_drewN | apply below_drew1) | exact HB.out)) hb); clear HB; have HO278 := n0_; have HB := n1_; clear n0_ n1_; (try clear hb); (try clear hb2); (try clear hk); (try clear hi); (try clear ho0)))
            go_loopg [9, 10] kj7 (fun kq v9 v10 w' => ∃ (x9_3 : Int) (x10_3 : Int), v9 = .int .u32 x9_3 ∧ v10 = .int .i64 x10_3 ∧ Aside0 (fuglemanref05_Gap.l0 kq a2 t276 x9_3 x10_3 = some r) ∧ Aside0 (kq ≤ kj7) ∧ Aside0 (Kd.R (Kd.int .i64) 3 w' w.heap.size (fun _ => True) v277 t276) ∧ Aside0 (Below w.heap.size w w'))
            case atStart => exact ⟨(0), (0), (by first | rfl | (simp; done) | (simp [*]; done)), (by first | rfl | (simp; done) | (simp [*]; done)), H', ⟨Nat.le_refl _⟩, ⟨by (with_reducible repeat (first | apply Kd.R_alloc | apply Kd.R_drewN | apply Kd.R_drew)); exact HO278.out⟩, ⟨by repeat (first | (with_reducible first | exact HB.out | apply below_alloc | apply pw_below_drewN | apply below_drew1) | exact HB.out)⟩⟩
            case round =>
              clear H'
              try clear c1
              try clear c2
              try clear p2
              try clear c3
              try clear c5
              try clear c5b0
              try clear c6
              try clear c10
              try clear c10b0
              try clear p2
              obtain ⟨x9_3, x10_3, rfl, rfl, HA, HK3, HO_8, HB⟩ := hrel
              cases gk with
              | zero => exact absurd HA.out (by simp [fuglemanref05_Gap.l0])
              | succ k3 =>
                have H := HA.out
                clear HA
                simp only [fuglemanref05_Gap.l0] at H
                by_cases c14 : x10_3 < (t276.length : Int)
                · rw [if_pos c14] at H
                  have c14b0 : decide (x10_3 < (t276.length : Int)) = true := decide_eq_true c14
                  clear c14
                  by_cases c15 : 0 ≤ x10_3
                  · rw [if_pos c15] at H
                    have c15b0 : decide (0 ≤ x10_3) = true := decide_eq_true c15
                    clear c15
                    by_cases c16 : (rd t276 x10_3) ≤ a2
                    · rw [if_pos c16] at H
                      have c16b0 : decide ((rd t276 x10_3) ≤ a2) = true := decide_eq_true c16
                      clear c16
                      replace H := Option.bind_eq_some_iff.mp H
                      obtain ⟨t281, A170, H⟩ := H
                      replace H : (fuglemanref05_Gap.l0 k3 a2 t276 t281 (wrap64 (x10_3 + 1))) = some r := H
                      have A17 := Aside0.mk A170
                      clear A170
                      have H' := Aside0.mk H
                      clear H
                      obtain ⟨Ao18, co18, eo18⟩ := Kd.R_slice HO_8.out
                      subst eo18
                      have p279 : 0 ≤ (x10_3 : Int) := of_decide_eq_true (by first | (with_reducible assumption) | assumption)
                      have q279 : x10_3 < (t276.length : Int) := of_decide_eq_true (by first | (with_reducible assumption) | assumption)
                      obtain ⟨ad279, e279, hx279_0⟩ := Kd.at_int (Kd.R_reads' HO_8.out).2.2 x10_3 p279 q279
                      cases e279
                      replace p279 := eq_true p279
                      replace q279 := eq_true q279
                      have p280 : 0 ≤ (x10_3 : Int) := of_decide_eq_true (by first | (with_reducible assumption) | assumption)
                      have q280 : x10_3 < (t276.length : Int) := of_decide_eq_true (by first | (with_reducible assumption) | assumption)
                      obtain ⟨ad280, e280, hx280_0⟩ := Kd.at_int (Kd.R_reads' HO_8.out).2.2 x10_3 p280 q280
                      obtain rfl : ad279 = ad280 := (by injection e280)
                      replace p280 := eq_true p280
                      replace q280 := eq_true q280
                      go_wp2_with (first | ((with_reducible refine gate_callee (f := 25) rfl ?_); refine goesL_ (some 44) rfl rfl Tryd.func25 (by kernel_rfl) rfl #[.int .u32 x9_3, .int .i64 (rd t276 x10_3)] rfl (by (try simp only [List.map_toArray, List.map_cons, List.map_nil]); first | done | rfl | (simp only [List.length_drop, List.length_take]; rfl)) ?_; (with_reducible refine (fuglemanref05_With.calls k3 x9_3 (rd t276 x10_3) t281 _ A17.out).mono ?_); rintro e w' ⟨rfl, ⟨nd, rfl⟩⟩; refine ⟨_, rfl, ?_⟩))
                      go_roundg k3
                      case measure => have := HJ3.out; have := HJ7.out; have := HK3.out; omega
                      case rel => exact ⟨(t281), (wrap64 (x10_3 + 1)), (by first | rfl | (simp; done) | (simp [*]; done)), (by first | rfl | (simp; done) | (simp [*]; done)), H', ⟨by have := HJ3.out; have := HJ7.out; have := HK3.out; omega⟩, ⟨by (with_reducible repeat (first | apply Kd.R_alloc | apply Kd.R_drewN | apply Kd.R_drew)); exact HO_8.out⟩, ⟨by repeat (first | (with_reducible first | exact HB.out | apply below_alloc | apply pw_below_drewN | apply below_drew1) | exact HB.out)⟩⟩
                    · rw [if_neg c16] at H
                      have c16b0 : decide ((rd t276 x10_3) ≤ a2) = false := decide_eq_false c16
                      clear c16
                      have H' := Aside0.mk H
                      clear H
                      obtain ⟨Ao19, co19, eo19⟩ := Kd.R_slice HO_8.out
                      subst eo19
                      have p279 : 0 ≤ (x10_3 : Int) := of_decide_eq_true (by first | (with_reducible assumption) | assumption)
                      have q279 : x10_3 < (t276.length : Int) := of_decide_eq_true (by first | (with_reducible assumption) | assumption)
                      obtain ⟨ad279, e279, hx279_0⟩ := Kd.at_int (Kd.R_reads' HO_8.out).2.2 x10_3 p279 q279
                      cases e279
                      replace p279 := eq_true p279
                      replace q279 := eq_true q279
                      go_wp2
                      go_roundg k3
                      case measure => have := HJ3.out; have := HJ7.out; have := HK3.out; omega
                      case rel => exact ⟨(x9_3), (wrap64 (x10_3 + 1)), (by first | rfl | (simp; done) | (simp [*]; done)), (by first | rfl | (simp; done) | (simp [*]; done)), H', ⟨by have := HJ3.out; have := HJ7.out; have := HK3.out; omega⟩, ⟨by (with_reducible repeat (first | apply Kd.R_alloc | apply Kd.R_drewN | apply Kd.R_drew)); exact HO_8.out⟩, ⟨by repeat (first | (with_reducible first | exact HB.out | apply below_alloc | apply pw_below_drewN | apply below_drew1) | exact HB.out)⟩⟩
                  · rw [if_neg c15] at H
                    exact absurd H (by simp)
                · rw [if_neg c14] at H
                  have c14b0 : decide (x10_3 < (t276.length : Int)) = false := decide_eq_false c14
                  clear c14
                  obtain rfl := Option.some.inj H
                  obtain ⟨Ao20, co20, eo20⟩ := Kd.R_slice HO_8.out
                  subst eo20
                  go_wp2
                  go_ret
                  exact ⟨by first | rfl | (simp [errW_none, errW_some] <;> rfl) | (simp [*, errW_none, errW_some] <;> rfl), by repeat (first | (with_reducible first | exact HB.out | apply below_alloc | apply pw_below_drewN | apply below_drew1) | exact HB.out)⟩

/-! ### fuglemanlaw05_MembersBetween: function 6 -/
def fuglemanlaw05_MembersBetween.f (k : Nat) (a0 : Int) (a1 : Int) (a2 : Int) : Option (Bool) := (fuglemanlaw05_awake.f k).bind fun t282 => (if t282 = true then ((members_Between.f k a1 a2).bind fun t283 => ((fuglemanref05_Between.f k a1 a2).bind fun t284 => (if t283 = t284 then ((members_Pass.f k a0 a1 a2).bind fun t285 => ((fuglemanref05_Pass.f k a0 a1 a2).bind fun t286 => (if t285 = t286 then ((members_Gap.f k a0 a1 a2).bind fun t287 => ((fuglemanref05_Gap.f k a0 a1 a2).bind fun t288 => (some (t287 == t288)))) else (some false)))) else (some false)))) else (some false))
theorem fuglemanlaw05_MembersBetween.mono : ∀ a0 a1 a2 k, LeO (fuglemanlaw05_MembersBetween.f k a0 a1 a2) (fuglemanlaw05_MembersBetween.f (k + 1) a0 a1 a2) := by
  intro a0 a1 a2 k
  unfold fuglemanlaw05_MembersBetween.f
  repeat' first
      | (with_reducible exact fuglemanlaw05_awake.mono _)
      | (with_reducible exact fuglemanref05_Between.mono _ _ _)
      | (with_reducible exact fuglemanref05_Gap.mono _ _ _ _)
      | (with_reducible exact fuglemanref05_Pass.mono _ _ _ _)
      | (with_reducible exact members_Between.mono _ _ _)
      | (with_reducible exact members_Gap.mono _ _ _ _)
      | (with_reducible exact members_Pass.mono _ _ _ _)
      | (with_reducible exact LeO.refl _)
      | (with_reducible exact LeO.none _)
      | (with_reducible refine LeO.ite ?_ ?_)
      | (with_reducible refine LeO.bind ?_ (fun _ => ?_))
      | exact fuglemanlaw05_awake.mono _
      | exact fuglemanref05_Between.mono _ _ _
      | exact fuglemanref05_Gap.mono _ _ _ _
      | exact fuglemanref05_Pass.mono _ _ _ _
      | exact members_Between.mono _ _ _
      | exact members_Gap.mono _ _ _ _
      | exact members_Pass.mono _ _ _ _
      | exact LeO.none _
      | refine LeO.ite ?_ ?_
      | refine LeO.bind ?_ (fun _ => ?_)
set_option maxHeartbeats 8000000 in
set_option maxRecDepth 100000 in
theorem fuglemanlaw05_MembersBetween.calls (k : Nat) (a0 : Int) (a1 : Int) (a2 : Int) (r : Bool) (w : World) (h : fuglemanlaw05_MembersBetween.f k a0 a1 a2 = some r) (hG : LaidW w) :
    Calls Tryd.prog 6 #[.int .u32 a0, .int .i64 a1, .int .i64 a2] w fun e w' => e = .returned (.bool r) ∧ Below w.heap.size w w' := by
  have HG := Aside0.mk hG
  clear hG
  have HB := Aside0.mk (Below.refl w.heap.size w)
  have H : ((fuglemanlaw05_awake.f k).bind fun t282 => (if t282 = true then ((members_Between.f k a1 a2).bind fun t283 => ((fuglemanref05_Between.f k a1 a2).bind fun t284 => (if t283 = t284 then ((members_Pass.f k a0 a1 a2).bind fun t285 => ((fuglemanref05_Pass.f k a0 a1 a2).bind fun t286 => (if t285 = t286 then ((members_Gap.f k a0 a1 a2).bind fun t287 => ((fuglemanref05_Gap.f k a0 a1 a2).bind fun t288 => (some (t287 == t288)))) else (some false)))) else (some false)))) else (some false))) = some r := h
  clear h
  replace H := Option.bind_eq_some_iff.mp H
  obtain ⟨t282, A40, H⟩ := H
  replace H : (if t282 = true then ((members_Between.f k a1 a2).bind fun t283 => ((fuglemanref05_Between.f k a1 a2).bind fun t284 => (if t283 = t284 then ((members_Pass.f k a0 a1 a2).bind fun t285 => ((fuglemanref05_Pass.f k a0 a1 a2).bind fun t286 => (if t285 = t286 then ((members_Gap.f k a0 a1 a2).bind fun t287 => ((fuglemanref05_Gap.f k a0 a1 a2).bind fun t288 => (some (t287 == t288)))) else (some false)))) else (some false)))) else (some false)) = some r := H
  have A4 := Aside0.mk A40
  clear A40
  by_cases c5 : t282 = true
  · subst c5
    have H1 : ((members_Between.f k a1 a2).bind fun t283 => ((fuglemanref05_Between.f k a1 a2).bind fun t284 => (if t283 = t284 then ((members_Pass.f k a0 a1 a2).bind fun t285 => ((fuglemanref05_Pass.f k a0 a1 a2).bind fun t286 => (if t285 = t286 then ((members_Gap.f k a0 a1 a2).bind fun t287 => ((fuglemanref05_Gap.f k a0 a1 a2).bind fun t288 => (some (t287 == t288)))) else (some false)))) else (some false)))) = some r := by rw [if_pos rfl] at H; exact H
    clear H
    have H := H1
    clear H1
    replace H := Option.bind_eq_some_iff.mp H
    obtain ⟨t283, A60, H⟩ := H
    replace H : ((fuglemanref05_Between.f k a1 a2).bind fun t284 => (if t283 = t284 then ((members_Pass.f k a0 a1 a2).bind fun t285 => ((fuglemanref05_Pass.f k a0 a1 a2).bind fun t286 => (if t285 = t286 then ((members_Gap.f k a0 a1 a2).bind fun t287 => ((fuglemanref05_Gap.f k a0 a1 a2).bind fun t288 => (some (t287 == t288)))) else (some false)))) else (some false))) = some r := H
    have A6 := Aside0.mk A60
    clear A60
    replace H := Option.bind_eq_some_iff.mp H
    obtain ⟨t284, A70, H⟩ := H
    replace H : (if t283 = t284 then ((members_Pass.f k a0 a1 a2).bind fun t285 => ((fuglemanref05_Pass.f k a0 a1 a2).bind fun t286 => (if t285 = t286 then ((members_Gap.f k a0 a1 a2).bind fun t287 => ((fuglemanref05_Gap.f k a0 a1 a2).bind fun t288 => (some (t287 == t288)))) else (some false)))) else (some false)) = some r := H
    have A7 := Aside0.mk A70
    clear A70
    by_cases c8 : t283 = t284
    · rw [if_pos c8] at H
      have c8b0 : (t283 == t284) = true := beq_iff_eq.mpr c8
      have c8b1 : (t283 != t284) = false := bne_eq_false_iff_eq.mpr c8
      clear c8
      replace H := Option.bind_eq_some_iff.mp H
      obtain ⟨t285, A90, H⟩ := H
      replace H : ((fuglemanref05_Pass.f k a0 a1 a2).bind fun t286 => (if t285 = t286 then ((members_Gap.f k a0 a1 a2).bind fun t287 => ((fuglemanref05_Gap.f k a0 a1 a2).bind fun t288 => (some (t287 == t288)))) else (some false))) = some r := H
      have A9 := Aside0.mk A90
      clear A90
      replace H := Option.bind_eq_some_iff.mp H
      obtain ⟨t286, A100, H⟩ := H
      replace H : (if t285 = t286 then ((members_Gap.f k a0 a1 a2).bind fun t287 => ((fuglemanref05_Gap.f k a0 a1 a2).bind fun t288 => (some (t287 == t288)))) else (some false)) = some r := H
      have A10 := Aside0.mk A100
      clear A100
      by_cases c11 : t285 = t286
      · rw [if_pos c11] at H
        have c11b0 : (t285 == t286) = true := beq_iff_eq.mpr c11
        have c11b1 : (t285 != t286) = false := bne_eq_false_iff_eq.mpr c11
        clear c11
        replace H := Option.bind_eq_some_iff.mp H
        obtain ⟨t287, A120, H⟩ := H
        replace H : ((fuglemanref05_Gap.f k a0 a1 a2).bind fun t288 => (some (t287 == t288))) = some r := H
        have A12 := Aside0.mk A120
        clear A120
        replace H := Option.bind_eq_some_iff.mp H
        obtain ⟨t288, A130, H⟩ := H
        replace H : (some (t287 == t288)) = some r := H
        have A13 := Aside0.mk A130
        clear A130
        obtain rfl := Option.some.inj H
        go_enter Tryd.func6, Tryd.ntmps6
        go_wp2_with (first | ((with_reducible refine gate_callee (f := 13) rfl ?_); refine goesL_ (some 7) rfl rfl Tryd.func13 (by kernel_rfl) rfl #[] rfl (by (try simp only [List.map_toArray, List.map_cons, List.map_nil]); first | done | rfl | (simp only [List.length_drop, List.length_take]; rfl)) ?_; (with_reducible refine (fuglemanlaw05_awake.calls k  true _ A4.out ?sideG).mono ?_); (case sideG => first | exact HG.out | exact laidW_heap HG.out rfl | exact laidW_below HG.out (show Below w.heap.size w _ by repeat (first | (with_reducible first | exact HB.out | apply below_alloc | apply pw_below_drewN | apply below_drew1) | exact HB.out)) (Nat.le_refl _)); rintro e w14 ⟨rfl, hb⟩; refine ⟨_, rfl, ?_⟩; have n0_ := Aside0.mk (below_step (by repeat (first | (with_reducible first | exact HB.out | apply below_alloc | apply pw_below_drewN | apply below_drew1) | exact HB.out)) hb); clear HB; have HB := n0_; clear n0_; (try clear hb); (try clear hb2); (try clear hk); (try clear hi)) | ((with_reducible refine gate_callee (f := 34) rfl ?_); refine goesL_ (some 11) rfl rfl Tryd.func34 (by kernel_rfl) rfl #[.int .i64 a1, .int .i64 a2] rfl (by (try simp only [List.map_toArray, List.map_cons, List.map_nil]); first | done | rfl | (simp only [List.length_drop, List.length_take]; rfl)) ?_; (with_reducible refine (members_Between.calls k a1 a2 t283 _ A6.out).mono ?_); rintro e w' ⟨rfl, ⟨nd, rfl⟩⟩; refine ⟨_, rfl, ?_⟩) | ((with_reducible refine gate_callee (f := 35) rfl ?_); refine goesL_ (some 14) rfl rfl Tryd.func35 (by kernel_rfl) rfl #[.int .i64 a1, .int .i64 a2] rfl (by (try simp only [List.map_toArray, List.map_cons, List.map_nil]); first | done | rfl | (simp only [List.length_drop, List.length_take]; rfl)) ?_; (with_reducible refine (fuglemanref05_Between.calls k a1 a2 t284 _ A7.out).mono ?_); rintro e w' ⟨rfl, ⟨nd, rfl⟩⟩; refine ⟨_, rfl, ?_⟩) | (go_at_call 36; (with_reducible refine (members_Pass.calls k a0 a1 a2 t285 _ A9.out).mono ?_); rintro e w' ⟨rfl, ⟨nd, rfl⟩⟩) | (go_at_call 37; (with_reducible refine (fuglemanref05_Pass.calls k a0 a1 a2 t286 _ A10.out).mono ?_); rintro e w15 ⟨rfl, hb⟩; have n0_ := Aside0.mk (below_step (by repeat (first | (with_reducible first | exact HB.out | apply below_alloc | apply pw_below_drewN | apply below_drew1) | exact HB.out)) hb); clear HB; have HB := n0_; clear n0_; (try clear hb); (try clear hb2); (try clear hk); (try clear hi)) | (go_at_call 38; (with_reducible refine (members_Gap.calls k a0 a1 a2 t287 _ A12.out ?sideG).mono ?_); (case sideG => first | exact HG.out | exact laidW_heap HG.out rfl | exact laidW_below HG.out (show Below w.heap.size w _ by repeat (first | (with_reducible first | exact HB.out | apply below_alloc | apply pw_below_drewN | apply below_drew1) | exact HB.out)) (Nat.le_refl _)); rintro e w' ⟨rfl, ⟨nd, rfl⟩⟩) | (go_at_call 39; (with_reducible refine (fuglemanref05_Gap.calls k a0 a1 a2 t288 _ A13.out).mono ?_); rintro e w16 ⟨rfl, hb⟩; have n0_ := Aside0.mk (below_step (by repeat (first | (with_reducible first | exact HB.out | apply below_alloc | apply pw_below_drewN | apply below_drew1) | exact HB.out)) hb); clear HB; have HB := n0_; clear n0_; (try clear hb); (try clear hb2); (try clear hk); (try clear hi)))
        go_ret
        exact ⟨by first | rfl | (simp [errW_none, errW_some] <;> rfl) | (simp [*, errW_none, errW_some] <;> rfl), by repeat (first | (with_reducible first | exact HB.out | apply below_alloc | apply pw_below_drewN | apply below_drew1) | exact HB.out)⟩
      · rw [if_neg c11] at H
        have c11b0 : (t285 == t286) = false := beq_eq_false_iff_ne.mpr c11
        have c11b1 : (t285 != t286) = true := bne_iff_ne.mpr c11
        obtain rfl := Option.some.inj H
        go_enter Tryd.func6, Tryd.ntmps6
        go_wp2_with (first | ((with_reducible refine gate_callee (f := 13) rfl ?_); refine goesL_ (some 7) rfl rfl Tryd.func13 (by kernel_rfl) rfl #[] rfl (by (try simp only [List.map_toArray, List.map_cons, List.map_nil]); first | done | rfl | (simp only [List.length_drop, List.length_take]; rfl)) ?_; (with_reducible refine (fuglemanlaw05_awake.calls k  true _ A4.out ?sideG).mono ?_); (case sideG => first | exact HG.out | exact laidW_heap HG.out rfl | exact laidW_below HG.out (show Below w.heap.size w _ by repeat (first | (with_reducible first | exact HB.out | apply below_alloc | apply pw_below_drewN | apply below_drew1) | exact HB.out)) (Nat.le_refl _)); rintro e w17 ⟨rfl, hb⟩; refine ⟨_, rfl, ?_⟩; have n0_ := Aside0.mk (below_step (by repeat (first | (with_reducible first | exact HB.out | apply below_alloc | apply pw_below_drewN | apply below_drew1) | exact HB.out)) hb); clear HB; have HB := n0_; clear n0_; (try clear hb); (try clear hb2); (try clear hk); (try clear hi)) | ((with_reducible refine gate_callee (f := 34) rfl ?_); refine goesL_ (some 11) rfl rfl Tryd.func34 (by kernel_rfl) rfl #[.int .i64 a1, .int .i64 a2] rfl (by (try simp only [List.map_toArray, List.map_cons, List.map_nil]); first | done | rfl | (simp only [List.length_drop, List.length_take]; rfl)) ?_; (with_reducible refine (members_Between.calls k a1 a2 t283 _ A6.out).mono ?_); rintro e w' ⟨rfl, ⟨nd, rfl⟩⟩; refine ⟨_, rfl, ?_⟩) | ((with_reducible refine gate_callee (f := 35) rfl ?_); refine goesL_ (some 14) rfl rfl Tryd.func35 (by kernel_rfl) rfl #[.int .i64 a1, .int .i64 a2] rfl (by (try simp only [List.map_toArray, List.map_cons, List.map_nil]); first | done | rfl | (simp only [List.length_drop, List.length_take]; rfl)) ?_; (with_reducible refine (fuglemanref05_Between.calls k a1 a2 t284 _ A7.out).mono ?_); rintro e w' ⟨rfl, ⟨nd, rfl⟩⟩; refine ⟨_, rfl, ?_⟩) | (go_at_call 36; (with_reducible refine (members_Pass.calls k a0 a1 a2 t285 _ A9.out).mono ?_); rintro e w' ⟨rfl, ⟨nd, rfl⟩⟩) | (go_at_call 37; (with_reducible refine (fuglemanref05_Pass.calls k a0 a1 a2 t286 _ A10.out).mono ?_); rintro e w18 ⟨rfl, hb⟩; have n0_ := Aside0.mk (below_step (by repeat (first | (with_reducible first | exact HB.out | apply below_alloc | apply pw_below_drewN | apply below_drew1) | exact HB.out)) hb); clear HB; have HB := n0_; clear n0_; (try clear hb); (try clear hb2); (try clear hk); (try clear hi)))
        go_ret
        exact ⟨by first | rfl | (simp [errW_none, errW_some] <;> rfl) | (simp [*, errW_none, errW_some] <;> rfl), by repeat (first | (with_reducible first | exact HB.out | apply below_alloc | apply pw_below_drewN | apply below_drew1) | exact HB.out)⟩
    · rw [if_neg c8] at H
      have c8b0 : (t283 == t284) = false := beq_eq_false_iff_ne.mpr c8
      have c8b1 : (t283 != t284) = true := bne_iff_ne.mpr c8
      obtain rfl := Option.some.inj H
      go_enter Tryd.func6, Tryd.ntmps6
      go_wp2_with (first | ((with_reducible refine gate_callee (f := 13) rfl ?_); refine goesL_ (some 7) rfl rfl Tryd.func13 (by kernel_rfl) rfl #[] rfl (by (try simp only [List.map_toArray, List.map_cons, List.map_nil]); first | done | rfl | (simp only [List.length_drop, List.length_take]; rfl)) ?_; (with_reducible refine (fuglemanlaw05_awake.calls k  true _ A4.out ?sideG).mono ?_); (case sideG => first | exact HG.out | exact laidW_heap HG.out rfl | exact laidW_below HG.out (show Below w.heap.size w _ by repeat (first | (with_reducible first | exact HB.out | apply below_alloc | apply pw_below_drewN | apply below_drew1) | exact HB.out)) (Nat.le_refl _)); rintro e w19 ⟨rfl, hb⟩; refine ⟨_, rfl, ?_⟩; have n0_ := Aside0.mk (below_step (by repeat (first | (with_reducible first | exact HB.out | apply below_alloc | apply pw_below_drewN | apply below_drew1) | exact HB.out)) hb); clear HB; have HB := n0_; clear n0_; (try clear hb); (try clear hb2); (try clear hk); (try clear hi)) | ((with_reducible refine gate_callee (f := 34) rfl ?_); refine goesL_ (some 11) rfl rfl Tryd.func34 (by kernel_rfl) rfl #[.int .i64 a1, .int .i64 a2] rfl (by (try simp only [List.map_toArray, List.map_cons, List.map_nil]); first | done | rfl | (simp only [List.length_drop, List.length_take]; rfl)) ?_; (with_reducible refine (members_Between.calls k a1 a2 t283 _ A6.out).mono ?_); rintro e w' ⟨rfl, ⟨nd, rfl⟩⟩; refine ⟨_, rfl, ?_⟩) | ((with_reducible refine gate_callee (f := 35) rfl ?_); refine goesL_ (some 14) rfl rfl Tryd.func35 (by kernel_rfl) rfl #[.int .i64 a1, .int .i64 a2] rfl (by (try simp only [List.map_toArray, List.map_cons, List.map_nil]); first | done | rfl | (simp only [List.length_drop, List.length_take]; rfl)) ?_; (with_reducible refine (fuglemanref05_Between.calls k a1 a2 t284 _ A7.out).mono ?_); rintro e w' ⟨rfl, ⟨nd, rfl⟩⟩; refine ⟨_, rfl, ?_⟩))
      go_ret
      exact ⟨by first | rfl | (simp [errW_none, errW_some] <;> rfl) | (simp [*, errW_none, errW_some] <;> rfl), by repeat (first | (with_reducible first | exact HB.out | apply below_alloc | apply pw_below_drewN | apply below_drew1) | exact HB.out)⟩
  · replace c5 := Bool.eq_false_iff.mpr c5
    subst c5
    have H1 : (some false) = some r := by rw [if_neg (show ¬ (false = true) by decide)] at H; exact H
    clear H
    have H := H1
    clear H1
    obtain rfl := Option.some.inj H
    go_enter Tryd.func6, Tryd.ntmps6
    go_wp2_with (first | ((with_reducible refine gate_callee (f := 13) rfl ?_); refine goesL_ (some 7) rfl rfl Tryd.func13 (by kernel_rfl) rfl #[] rfl (by (try simp only [List.map_toArray, List.map_cons, List.map_nil]); first | done | rfl | (simp only [List.length_drop, List.length_take]; rfl)) ?_; (with_reducible refine (fuglemanlaw05_awake.calls k  false _ A4.out ?sideG).mono ?_); (case sideG => first | exact HG.out | exact laidW_heap HG.out rfl | exact laidW_below HG.out (show Below w.heap.size w _ by repeat (first | (with_reducible first | exact HB.out | apply below_alloc | apply pw_below_drewN | apply below_drew1) | exact HB.out)) (Nat.le_refl _)); rintro e w20 ⟨rfl, hb⟩; refine ⟨_, rfl, ?_⟩; have n0_ := Aside0.mk (below_step (by repeat (first | (with_reducible first | exact HB.out | apply below_alloc | apply pw_below_drewN | apply below_drew1) | exact HB.out)) hb); clear HB; have HB := n0_; clear n0_; (try clear hb); (try clear hb2); (try clear hk); (try clear hi)))
    go_ret
    exact ⟨by first | rfl | (simp [errW_none, errW_some] <;> rfl) | (simp [*, errW_none, errW_some] <;> rfl), by repeat (first | (with_reducible first | exact HB.out | apply below_alloc | apply pw_below_drewN | apply below_drew1) | exact HB.out)⟩

-- NOT PRINTED: function 7 (fuglemanlaw05_MembersParts)

end Go.Proofs.YtmehafolnpkmhaaDoor.PMem
