/- Functions of the program as plain Lean functions, and that the machine's calls do what these say (written by a program of mine, wip/myprint.py, over the kit's print). -/
import Derived.Test.YtmehafolnpkmhaaDoorPMemx0
import Derived.Test.YtmehafolnpkmhaaDoorPMemx1
import Derived.Test.YtmehafolnpkmhaaDoorPMemx2
import Derived.Test.YtmehafolnpkmhaaDoorPMemx3
import Derived.Test.YtmehafolnpkmhaaDoorPMemx4
namespace Go.Proofs.YtmehafolnpkmhaaDoor.PMem
open Go.RowKit Go.Proofs.YtmehafolnpkmhaaDoorW.PrintWords Go.Proofs.YtmehafolnpkmhaaDoorW.PrintLast Go.Proofs.YtmehafolnpkmhaaDoorW.PrintMore
attribute [local go_sem] max2_int min2_int max_two min_two max_three min_three max_four min_four   -- for this text's walks alone
set_option linter.unusedVariables false
set_option linter.unusedSimpArgs false

/-! ### fuglemanref05_Between: function 35 -/
mutual
def fuglemanref05_Between.j0 : Nat → Int → Int → Bool → Option (Int)
  | 0, _, _, _ => none
  | k + 1, x0, x1, x20 => if x20 = true then (some 0) else (fuglemanref05_Between.l0 k x0 x1 0 (Int.tmod (wrap64 (x0 + 1)) 32))
def fuglemanref05_Between.l0 : Nat → Int → Int → Int → Int → Option (Int)
  | 0, _, _, _, _ => none
  | k + 1, x0, x1, x5, x6 => if x6 = x1 then (some x5) else (if x6 = x0 then (some x5) else ((fuglemanref05_With.f k x5 x6).bind fun t260 => (fuglemanref05_Between.l0 k x0 x1 t260 (Int.tmod (wrap64 (x6 + 1)) 32))))
end
def fuglemanref05_Between.f (k : Nat) (a0 : Int) (a1 : Int) : Option (Int) := if a0 < 0 then (fuglemanref05_Between.j0 k a0 a1 true) else (if a0 > 31 then (fuglemanref05_Between.j0 k a0 a1 true) else (if a1 < 0 then (fuglemanref05_Between.j0 k a0 a1 true) else (fuglemanref05_Between.j0 k a0 a1 (decide (a1 > 31)))))
theorem fuglemanref05_Between.mono_l : ∀ k, (∀ y0 y1 y2, LeO (fuglemanref05_Between.j0 k y0 y1 y2) (fuglemanref05_Between.j0 (k + 1) y0 y1 y2)) ∧ (∀ y0 y1 y2 y3, LeO (fuglemanref05_Between.l0 k y0 y1 y2 y3) (fuglemanref05_Between.l0 (k + 1) y0 y1 y2 y3))
  | 0 => ⟨fun _ _ _ r h => by simp [fuglemanref05_Between.j0] at h, fun _ _ _ _ r h => by simp [fuglemanref05_Between.l0] at h⟩
  | k + 1 => by
    obtain ⟨ih0, ih1⟩ := fuglemanref05_Between.mono_l k
    refine ⟨?_, ?_⟩
    · intro y0 y1 y2
      unfold fuglemanref05_Between.j0
      repeat' first
      | (with_reducible exact ih0 _ _ _)
      | (with_reducible exact ih1 _ _ _ _)
      | (with_reducible exact fuglemanref05_With.mono _ _ _)
      | (with_reducible exact LeO.refl _)
      | (with_reducible exact LeO.none _)
      | (with_reducible refine LeO.ite ?_ ?_)
      | (with_reducible refine LeO.bind ?_ (fun _ => ?_))
      | exact ih0 _ _ _
      | exact ih1 _ _ _ _
      | exact fuglemanref05_With.mono _ _ _
      | exact LeO.none _
      | refine LeO.ite ?_ ?_
      | refine LeO.bind ?_ (fun _ => ?_)
    · intro y0 y1 y2 y3
      unfold fuglemanref05_Between.l0
      repeat' first
      | (with_reducible exact ih0 _ _ _)
      | (with_reducible exact ih1 _ _ _ _)
      | (with_reducible exact fuglemanref05_With.mono _ _ _)
      | (with_reducible exact LeO.refl _)
      | (with_reducible exact LeO.none _)
      | (with_reducible refine LeO.ite ?_ ?_)
      | (with_reducible refine LeO.bind ?_ (fun _ => ?_))
      | exact ih0 _ _ _
      | exact ih1 _ _ _ _
      | exact fuglemanref05_With.mono _ _ _
      | exact LeO.none _
      | refine LeO.ite ?_ ?_
      | refine LeO.bind ?_ (fun _ => ?_)
theorem fuglemanref05_Between.mono : ∀ a0 a1 k, LeO (fuglemanref05_Between.f k a0 a1) (fuglemanref05_Between.f (k + 1) a0 a1) := by
  intro a0 a1 k
  obtain ⟨ih0, ih1⟩ := fuglemanref05_Between.mono_l k
  unfold fuglemanref05_Between.f
  repeat' first
      | (with_reducible exact ih0 _ _ _)
      | (with_reducible exact ih1 _ _ _ _)
      | (with_reducible exact fuglemanref05_With.mono _ _ _)
      | (with_reducible exact LeO.refl _)
      | (with_reducible exact LeO.none _)
      | (with_reducible refine LeO.ite ?_ ?_)
      | (with_reducible refine LeO.bind ?_ (fun _ => ?_))
      | exact ih0 _ _ _
      | exact ih1 _ _ _ _
      | exact fuglemanref05_With.mono _ _ _
      | exact LeO.none _
      | refine LeO.ite ?_ ?_
      | refine LeO.bind ?_ (fun _ => ?_)
set_option maxHeartbeats 8000000 in
set_option maxRecDepth 100000 in
theorem fuglemanref05_Between.calls (k : Nat) (a0 : Int) (a1 : Int) (r : Int) (w : World) (h : fuglemanref05_Between.f k a0 a1 = some r) :
    Calls Tryd.prog 35 #[.int .i64 a0, .int .i64 a1] w fun e w' => e = .returned (.int .u32 r) ∧ Drawn0 w w' := by
  have H : (if a0 < 0 then (fuglemanref05_Between.j0 k a0 a1 true) else (if a0 > 31 then (fuglemanref05_Between.j0 k a0 a1 true) else (if a1 < 0 then (fuglemanref05_Between.j0 k a0 a1 true) else (fuglemanref05_Between.j0 k a0 a1 (decide (a1 > 31)))))) = some r := h
  clear h
  have HC3 := Aside0.mk H
  clear H
  go_enter Tryd.func35, Tryd.ntmps35
  go_upto_region 1 with (fail)
  go_cut [20] (fun v20 wc => ∃ (kq : Nat) (x20_2 : Bool), v20 = .bool x20_2 ∧ Aside0 (fuglemanref05_Between.j0 kq a0 a1 x20_2 = some r) ∧ Aside0 (kq ≤ k) ∧ Drawn0 w wc)
  case first =>
    have H := HC3.out
    clear HC3
    by_cases c4 : a0 < 0
    · rw [if_pos c4] at H
      have c4b0 : decide (a0 < 0) = true := decide_eq_true c4
      clear c4
      (first | rw [c4b0] | (simp only [i64_w, i32_w]; rw [c4b0]) | skip)
      have H' := Aside0.mk H
      clear H
      go_wp2
      go_meet
      case rel => exact ⟨_, (true), (by first | rfl | (simp; done) | (simp [*]; done)), H', ⟨by first | omega | exact Nat.le_refl _⟩, by repeat (first | exact Drawn0.refl _ | apply Drawn0.step)⟩
    · rw [if_neg c4] at H
      have c4b0 : decide (a0 < 0) = false := decide_eq_false c4
      clear c4
      (first | rw [c4b0] | (simp only [i64_w, i32_w]; rw [c4b0]) | skip)
      by_cases c5 : a0 > 31
      · rw [if_pos c5] at H
        have c5b0 : decide (31 < a0) = true := decide_eq_true c5
        clear c5
        have H' := Aside0.mk H
        clear H
        go_wp2
        go_meet
        case rel => exact ⟨_, (true), (by first | rfl | (simp; done) | (simp [*]; done)), H', ⟨by first | omega | exact Nat.le_refl _⟩, by repeat (first | exact Drawn0.refl _ | apply Drawn0.step)⟩
      · rw [if_neg c5] at H
        have c5b0 : decide (31 < a0) = false := decide_eq_false c5
        clear c5
        by_cases c6 : a1 < 0
        · rw [if_pos c6] at H
          have c6b0 : decide (a1 < 0) = true := decide_eq_true c6
          clear c6
          have H' := Aside0.mk H
          clear H
          go_wp2
          go_meet
          case rel => exact ⟨_, (true), (by first | rfl | (simp; done) | (simp [*]; done)), H', ⟨by first | omega | exact Nat.le_refl _⟩, by repeat (first | exact Drawn0.refl _ | apply Drawn0.step)⟩
        · rw [if_neg c6] at H
          have c6b0 : decide (a1 < 0) = false := decide_eq_false c6
          clear c6
          have H' := Aside0.mk H
          clear H
          go_wp2
          go_meet
          case rel => exact ⟨_, (decide (a1 > 31)), (by first | rfl | (simp; done) | (simp [*]; done)), H', ⟨by first | omega | exact Nat.le_refl _⟩, by repeat (first | exact Drawn0.refl _ | apply Drawn0.step)⟩
  case rest =>
    clear HC3
    try clear p2
    try clear c3
    try clear c4
    try clear c4b0
    try clear c5
    try clear c5b0
    try clear c6
    try clear c6b0
    obtain ⟨kq, x20_2, rfl, HA, HJ2, ⟨mc2, rfl⟩⟩ := hcut
    cases kq with
    | zero => exact absurd HA.out (by simp [fuglemanref05_Between.j0])
    | succ kj2 =>
      have H := HA.out
      clear HA
      simp only [fuglemanref05_Between.j0] at H
      by_cases c7 : x20_2 = true
      · subst c7
        have H1 : (some 0) = some r := by rw [if_pos rfl] at H; exact H
        clear H
        have H := H1
        clear H1
        obtain rfl := Option.some.inj H
        go_wp2
        go_ret
        exact ⟨by first | rfl | (simp; done) | (simp [*]; done), by repeat (first | exact Drawn0.refl _ | apply Drawn0.step)⟩
      · replace c7 := Bool.eq_false_iff.mpr c7
        subst c7
        have H1 : (fuglemanref05_Between.l0 kj2 a0 a1 0 (Int.tmod (wrap64 (a0 + 1)) 32)) = some r := by rw [if_neg (show ¬ (false = true) by decide)] at H; exact H
        clear H
        have H := H1
        clear H1
        have H' := Aside0.mk H
        clear H
        go_wp2
        go_loopg [5, 6] kj2 (fun kq v5 v6 w' => ∃ (x5_2 : Int) (x6_2 : Int), v5 = .int .u32 x5_2 ∧ v6 = .int .i64 x6_2 ∧ Aside0 (fuglemanref05_Between.l0 kq a0 a1 x5_2 x6_2 = some r) ∧ Aside0 (kq ≤ kj2) ∧ Drawn0 w w')
        case atStart => exact ⟨(0), (Int.tmod (wrap64 (a0 + 1)) 32), (by first | rfl | (simp; done) | (simp [*]; done)), (by first | rfl | (simp; done) | (simp [*]; done)), H', ⟨Nat.le_refl _⟩, by repeat (first | exact Drawn0.refl _ | apply Drawn0.step)⟩
        case round =>
          clear H'
          try clear c2
          try clear p2
          try clear c3
          try clear c4
          try clear c4b0
          try clear c5
          try clear c5b0
          try clear c6
          try clear c6b0
          try clear p6
          try clear c7
          try clear p2
          obtain ⟨x5_2, x6_2, rfl, rfl, HA, HK2, ⟨m2, rfl⟩⟩ := hrel
          cases gk with
          | zero => exact absurd HA.out (by simp [fuglemanref05_Between.l0])
          | succ k2 =>
            have H := HA.out
            clear HA
            simp only [fuglemanref05_Between.l0] at H
            by_cases c8 : x6_2 = a1
            · rw [if_pos c8] at H
              have c8b0 : (x6_2 == a1) = true := beq_iff_eq.mpr c8
              have c8b1 : (x6_2 != a1) = false := bne_eq_false_iff_eq.mpr c8
              clear c8
              obtain rfl := Option.some.inj H
              go_wp2
              go_ret
              exact ⟨by first | rfl | (simp; done) | (simp [*]; done), by repeat (first | exact Drawn0.refl _ | apply Drawn0.step)⟩
            · rw [if_neg c8] at H
              have c8b0 : (x6_2 == a1) = false := beq_eq_false_iff_ne.mpr c8
              have c8b1 : (x6_2 != a1) = true := bne_iff_ne.mpr c8
              by_cases c9 : x6_2 = a0
              · rw [if_pos c9] at H
                have c9b0 : (x6_2 == a0) = true := beq_iff_eq.mpr c9
                have c9b1 : (x6_2 != a0) = false := bne_eq_false_iff_eq.mpr c9
                clear c9
                obtain rfl := Option.some.inj H
                go_wp2
                go_ret
                exact ⟨by first | rfl | (simp; done) | (simp [*]; done), by repeat (first | exact Drawn0.refl _ | apply Drawn0.step)⟩
              · rw [if_neg c9] at H
                have c9b0 : (x6_2 == a0) = false := beq_eq_false_iff_ne.mpr c9
                have c9b1 : (x6_2 != a0) = true := bne_iff_ne.mpr c9
                replace H := Option.bind_eq_some_iff.mp H
                obtain ⟨t260, A100, H⟩ := H
                replace H : (fuglemanref05_Between.l0 k2 a0 a1 t260 (Int.tmod (wrap64 (x6_2 + 1)) 32)) = some r := H
                have A10 := Aside0.mk A100
                clear A100
                have H' := Aside0.mk H
                clear H
                go_wp2_with (first | ((with_reducible refine gate_callee (f := 25) rfl ?_); refine goesL_ (some 37) rfl rfl Tryd.func25 (by kernel_rfl) rfl #[.int .u32 x5_2, .int .i64 x6_2] rfl (by (try simp only [List.map_toArray, List.map_cons, List.map_nil]); first | done | rfl | (simp only [List.length_drop, List.length_take]; rfl)) ?_; (with_reducible refine (fuglemanref05_With.calls k2 x5_2 x6_2 t260 _ A10.out).mono ?_); rintro e w' ⟨rfl, ⟨nd, rfl⟩⟩; refine ⟨_, rfl, ?_⟩))
                go_roundg k2
                case measure => have := HJ2.out; have := HK2.out; omega
                case rel => exact ⟨(t260), (Int.tmod (wrap64 (x6_2 + 1)) 32), (by first | rfl | (simp; done) | (simp [*]; done)), (by first | rfl | (simp; done) | (simp [*]; done)), H', ⟨by have := HJ2.out; have := HK2.out; omega⟩, by repeat (first | exact Drawn0.refl _ | apply Drawn0.step)⟩

/-! ### members_Pass: function 36 -/
def members_Pass.j0 : Nat → Int → Int → Int → Bool → Option (Int)
  | 0, _, _, _, _ => none
  | k + 1, x0, x1, x2, x14 => if x14 = true then (some x0) else ((members_Between.f k x1 x2).bind fun t263 => ((members_one.f x1).bind fun t264 => ((members_one.f x2).bind fun t265 => (some (Go.bits .or .u32 (Go.bits .or .u32 (Go.bits .andNot .u32 x0 t263) t264) t265)))))
def members_Pass.f (k : Nat) (a0 : Int) (a1 : Int) (a2 : Int) : Option (Int) := (members_is.f a1).bind fun t261 => (if t261 = true then ((members_is.f a2).bind fun t262 => (members_Pass.j0 k a0 a1 a2 (!t262))) else (members_Pass.j0 k a0 a1 a2 true))
theorem members_Pass.mono_l : ∀ k, (∀ y0 y1 y2 y3, LeO (members_Pass.j0 k y0 y1 y2 y3) (members_Pass.j0 (k + 1) y0 y1 y2 y3))
  | 0 => fun _ _ _ _ r h => by simp [members_Pass.j0] at h
  | k + 1 => by
    have ih0 := members_Pass.mono_l k
    · intro y0 y1 y2 y3
      unfold members_Pass.j0
      repeat' first
      | (with_reducible exact ih0 _ _ _ _)
      | (with_reducible exact members_Between.mono _ _ _)
      | (with_reducible exact LeO.refl _)
      | (with_reducible exact LeO.none _)
      | (with_reducible refine LeO.ite ?_ ?_)
      | (with_reducible refine LeO.bind ?_ (fun _ => ?_))
      | exact ih0 _ _ _ _
      | exact members_Between.mono _ _ _
      | exact LeO.none _
      | refine LeO.ite ?_ ?_
      | refine LeO.bind ?_ (fun _ => ?_)
theorem members_Pass.mono : ∀ a0 a1 a2 k, LeO (members_Pass.f k a0 a1 a2) (members_Pass.f (k + 1) a0 a1 a2) := by
  intro a0 a1 a2 k
  have ih0 := members_Pass.mono_l k
  unfold members_Pass.f
  repeat' first
      | (with_reducible exact ih0 _ _ _ _)
      | (with_reducible exact members_Between.mono _ _ _)
      | (with_reducible exact LeO.refl _)
      | (with_reducible exact LeO.none _)
      | (with_reducible refine LeO.ite ?_ ?_)
      | (with_reducible refine LeO.bind ?_ (fun _ => ?_))
      | exact ih0 _ _ _ _
      | exact members_Between.mono _ _ _
      | exact LeO.none _
      | refine LeO.ite ?_ ?_
      | refine LeO.bind ?_ (fun _ => ?_)
set_option maxHeartbeats 8000000 in
set_option maxRecDepth 100000 in
theorem members_Pass.calls (k : Nat) (a0 : Int) (a1 : Int) (a2 : Int) (r : Int) (w : World) (h : members_Pass.f k a0 a1 a2 = some r) :
    Calls Tryd.prog 36 #[.int .u32 a0, .int .i64 a1, .int .i64 a2] w fun e w' => e = .returned (.int .u32 r) ∧ Drawn0 w w' := by
  have H : ((members_is.f a1).bind fun t261 => (if t261 = true then ((members_is.f a2).bind fun t262 => (members_Pass.j0 k a0 a1 a2 (!t262))) else (members_Pass.j0 k a0 a1 a2 true))) = some r := h
  clear h
  have HC4 := Aside0.mk H
  clear H
  go_enter Tryd.func36, Tryd.ntmps36
  go_upto_region 1 with (fail)
  go_cut [14] (fun v14 wc => ∃ (kq : Nat) (x14_3 : Bool), v14 = .bool x14_3 ∧ Aside0 (members_Pass.j0 kq a0 a1 a2 x14_3 = some r) ∧ Aside0 (kq ≤ k) ∧ Drawn0 w wc)
  case first =>
    have H := HC4.out
    clear HC4
    replace H := Option.bind_eq_some_iff.mp H
    obtain ⟨t261, A50, H⟩ := H
    replace H : (if t261 = true then ((members_is.f a2).bind fun t262 => (members_Pass.j0 k a0 a1 a2 (!t262))) else (members_Pass.j0 k a0 a1 a2 true)) = some r := H
    have A5 := Aside0.mk A50
    clear A50
    by_cases c6 : t261 = true
    · subst c6
      have H1 : ((members_is.f a2).bind fun t262 => (members_Pass.j0 k a0 a1 a2 (!t262))) = some r := by rw [if_pos rfl] at H; exact H
      clear H
      have H := H1
      clear H1
      replace H := Option.bind_eq_some_iff.mp H
      obtain ⟨t262, A70, H⟩ := H
      replace H : (members_Pass.j0 k a0 a1 a2 (!t262)) = some r := H
      have A7 := Aside0.mk A70
      clear A70
      have H' := Aside0.mk H
      clear H
      go_wp2_with (first | ((with_reducible refine gate_callee (f := 53) rfl ?_); refine goesL_ (some 8) rfl rfl Tryd.func53 (by kernel_rfl) rfl #[.int .i64 a1] rfl (by (try simp only [List.map_toArray, List.map_cons, List.map_nil]); first | done | rfl | (simp only [List.length_drop, List.length_take]; rfl)) ?_; (with_reducible refine (members_is.calls a1 true _ A5.out).mono ?_); rintro e w' ⟨rfl, ⟨nd, rfl⟩⟩; refine ⟨_, rfl, ?_⟩) | (go_at_call 53; (with_reducible refine (members_is.calls a2 t262 _ A7.out).mono ?_); rintro e w' ⟨rfl, ⟨nd, rfl⟩⟩))
      go_meet
      case rel => exact ⟨_, (!t262), (by first | rfl | (simp; done) | (simp [*]; done)), H', ⟨by first | omega | exact Nat.le_refl _⟩, by repeat (first | exact Drawn0.refl _ | apply Drawn0.step)⟩
    · replace c6 := Bool.eq_false_iff.mpr c6
      subst c6
      have H1 : (members_Pass.j0 k a0 a1 a2 true) = some r := by rw [if_neg (show ¬ (false = true) by decide)] at H; exact H
      clear H
      have H := H1
      clear H1
      have H' := Aside0.mk H
      clear H
      go_wp2_with (first | ((with_reducible refine gate_callee (f := 53) rfl ?_); refine goesL_ (some 8) rfl rfl Tryd.func53 (by kernel_rfl) rfl #[.int .i64 a1] rfl (by (try simp only [List.map_toArray, List.map_cons, List.map_nil]); first | done | rfl | (simp only [List.length_drop, List.length_take]; rfl)) ?_; (with_reducible refine (members_is.calls a1 false _ A5.out).mono ?_); rintro e w' ⟨rfl, ⟨nd, rfl⟩⟩; refine ⟨_, rfl, ?_⟩))
      go_meet
      case rel => exact ⟨_, (true), (by first | rfl | (simp; done) | (simp [*]; done)), H', ⟨by first | omega | exact Nat.le_refl _⟩, by repeat (first | exact Drawn0.refl _ | apply Drawn0.step)⟩
  case rest =>
    clear HC4
    try clear p2
    try clear c3
    try clear c5
    try clear c6
    obtain ⟨kq, x14_3, rfl, HA, HJ3, ⟨mc3, rfl⟩⟩ := hcut
    cases kq with
    | zero => exact absurd HA.out (by simp [members_Pass.j0])
    | succ kj3 =>
      have H := HA.out
      clear HA
      simp only [members_Pass.j0] at H
      by_cases c8 : x14_3 = true
      · subst c8
        have H1 : (some a0) = some r := by rw [if_pos rfl] at H; exact H
        clear H
        have H := H1
        clear H1
        obtain rfl := Option.some.inj H
        go_wp2
        go_ret
        exact ⟨by first | rfl | (simp; done) | (simp [*]; done), by repeat (first | exact Drawn0.refl _ | apply Drawn0.step)⟩
      · replace c8 := Bool.eq_false_iff.mpr c8
        subst c8
        have H1 : ((members_Between.f kj3 a1 a2).bind fun t263 => ((members_one.f a1).bind fun t264 => ((members_one.f a2).bind fun t265 => (some (Go.bits .or .u32 (Go.bits .or .u32 (Go.bits .andNot .u32 a0 t263) t264) t265))))) = some r := by rw [if_neg (show ¬ (false = true) by decide)] at H; exact H
        clear H
        have H := H1
        clear H1
        replace H := Option.bind_eq_some_iff.mp H
        obtain ⟨t263, A90, H⟩ := H
        replace H : ((members_one.f a1).bind fun t264 => ((members_one.f a2).bind fun t265 => (some (Go.bits .or .u32 (Go.bits .or .u32 (Go.bits .andNot .u32 a0 t263) t264) t265)))) = some r := H
        have A9 := Aside0.mk A90
        clear A90
        replace H := Option.bind_eq_some_iff.mp H
        obtain ⟨t264, A100, H⟩ := H
        replace H : ((members_one.f a2).bind fun t265 => (some (Go.bits .or .u32 (Go.bits .or .u32 (Go.bits .andNot .u32 a0 t263) t264) t265))) = some r := H
        have A10 := Aside0.mk A100
        clear A100
        replace H := Option.bind_eq_some_iff.mp H
        obtain ⟨t265, A110, H⟩ := H
        replace H : (some (Go.bits .or .u32 (Go.bits .or .u32 (Go.bits .andNot .u32 a0 t263) t264) t265)) = some r := H
        have A11 := Aside0.mk A110
        clear A110
        obtain rfl := Option.some.inj H
        go_wp2_with (first | ((with_reducible refine gate_callee (f := 34) rfl ?_); refine goesL_ (some 19) rfl rfl Tryd.func34 (by kernel_rfl) rfl #[.int .i64 a1, .int .i64 a2] rfl (by (try simp only [List.map_toArray, List.map_cons, List.map_nil]); first | done | rfl | (simp only [List.length_drop, List.length_take]; rfl)) ?_; (with_reducible refine (members_Between.calls kj3 a1 a2 t263 _ A9.out).mono ?_); rintro e w' ⟨rfl, ⟨nd, rfl⟩⟩; refine ⟨_, rfl, ?_⟩) | ((with_reducible refine gate_callee (f := 57) rfl ?_); refine goesL_ (some 22) rfl rfl Tryd.func57 (by kernel_rfl) rfl #[.int .i64 a1] rfl (by (try simp only [List.map_toArray, List.map_cons, List.map_nil]); first | done | rfl | (simp only [List.length_drop, List.length_take]; rfl)) ?_; (with_reducible refine (members_one.calls a1 t264 _ A10.out).mono ?_); rintro e w' ⟨rfl, ⟨nd, rfl⟩⟩; refine ⟨_, rfl, ?_⟩) | ((with_reducible refine gate_callee (f := 57) rfl ?_); refine goesL_ (some 25) rfl rfl Tryd.func57 (by kernel_rfl) rfl #[.int .i64 a2] rfl (by (try simp only [List.map_toArray, List.map_cons, List.map_nil]); first | done | rfl | (simp only [List.length_drop, List.length_take]; rfl)) ?_; (with_reducible refine (members_one.calls a2 t265 _ A11.out).mono ?_); rintro e w' ⟨rfl, ⟨nd, rfl⟩⟩; refine ⟨_, rfl, ?_⟩))
        go_ret
        exact ⟨by first | rfl | (simp; done) | (simp [*]; done), by repeat (first | exact Drawn0.refl _ | apply Drawn0.step)⟩

/-! ### fuglemanref05_Pass: function 37 -/
mutual
def fuglemanref05_Pass.j0 : Nat → Int → Int → Int → Bool → Option (Int)
  | 0, _, _, _, _ => none
  | k + 1, x0, x1, x2, x22 => if x22 = true then (some x0) else ((fuglemanref05_Between.f k x1 x2).bind fun t266 => ((fuglemanref05_List.f k t266).bind fun t267 => (fuglemanref05_Pass.l0 k x0 x1 x2 t267 0)))
def fuglemanref05_Pass.l0 : Nat → Int → Int → Int → List Int → Int → Option (Int)
  | 0, _, _, _, _, _ => none
  | k + 1, x0, x1, x2, x7, x8 => if x8 < (x7.length : Int) then (if 0 ≤ x8 then ((fuglemanref05_Without.f k x0 (rd x7 x8)).bind fun t271 => (fuglemanref05_Pass.l0 k t271 x1 x2 x7 (wrap64 (x8 + 1)))) else (none)) else ((fuglemanref05_With.f k x0 x1).bind fun t272 => ((fuglemanref05_With.f k t272 x2).bind fun t273 => (some t273)))
end
def fuglemanref05_Pass.f (k : Nat) (a0 : Int) (a1 : Int) (a2 : Int) : Option (Int) := if a1 < 0 then (fuglemanref05_Pass.j0 k a0 a1 a2 true) else (if a1 > 31 then (fuglemanref05_Pass.j0 k a0 a1 a2 true) else (if a2 < 0 then (fuglemanref05_Pass.j0 k a0 a1 a2 true) else (fuglemanref05_Pass.j0 k a0 a1 a2 (decide (a2 > 31)))))
theorem fuglemanref05_Pass.mono_l : ∀ k, (∀ y0 y1 y2 y3, LeO (fuglemanref05_Pass.j0 k y0 y1 y2 y3) (fuglemanref05_Pass.j0 (k + 1) y0 y1 y2 y3)) ∧ (∀ y0 y1 y2 y3 y4, LeO (fuglemanref05_Pass.l0 k y0 y1 y2 y3 y4) (fuglemanref05_Pass.l0 (k + 1) y0 y1 y2 y3 y4))
  | 0 => ⟨fun _ _ _ _ r h => by simp [fuglemanref05_Pass.j0] at h, fun _ _ _ _ _ r h => by simp [fuglemanref05_Pass.l0] at h⟩
  | k + 1 => by
    obtain ⟨ih0, ih1⟩ := fuglemanref05_Pass.mono_l k
    refine ⟨?_, ?_⟩
    · intro y0 y1 y2 y3
      unfold fuglemanref05_Pass.j0
      repeat' first
      | (with_reducible exact ih0 _ _ _ _)
      | (with_reducible exact ih1 _ _ _ _ _)
      | (with_reducible exact fuglemanref05_Between.mono _ _ _)
      | (with_reducible exact fuglemanref05_List.mono _ _)
      | (with_reducible exact fuglemanref05_With.mono _ _ _)
      | (with_reducible exact fuglemanref05_Without.mono _ _ _)
      | (with_reducible exact LeO.refl _)
      | (with_reducible exact LeO.none _)
      | (with_reducible refine LeO.ite ?_ ?_)
      | (with_reducible refine LeO.bind ?_ (fun _ => ?_))
      | exact ih0 _ _ _ _
      | exact ih1 _ _ _ _ _
      | exact fuglemanref05_Between.mono _ _ _
      | exact fuglemanref05_List.mono _ _
      | exact fuglemanref05_With.mono _ _ _
      | exact fuglemanref05_Without.mono _ _ _
      | exact LeO.none _
      | refine LeO.ite ?_ ?_
      | refine LeO.bind ?_ (fun _ => ?_)
    · intro y0 y1 y2 y3 y4
      unfold fuglemanref05_Pass.l0
      repeat' first
      | (with_reducible exact ih0 _ _ _ _)
      | (with_reducible exact ih1 _ _ _ _ _)
      | (with_reducible exact fuglemanref05_Between.mono _ _ _)
      | (with_reducible exact fuglemanref05_List.mono _ _)
      | (with_reducible exact fuglemanref05_With.mono _ _ _)
      | (with_reducible exact fuglemanref05_Without.mono _ _ _)
      | (with_reducible exact LeO.refl _)
      | (with_reducible exact LeO.none _)
      | (with_reducible refine LeO.ite ?_ ?_)
      | (with_reducible refine LeO.bind ?_ (fun _ => ?_))
      | exact ih0 _ _ _ _
      | exact ih1 _ _ _ _ _
      | exact fuglemanref05_Between.mono _ _ _
      | exact fuglemanref05_List.mono _ _
      | exact fuglemanref05_With.mono _ _ _
      | exact fuglemanref05_Without.mono _ _ _
      | exact LeO.none _
      | refine LeO.ite ?_ ?_
      | refine LeO.bind ?_ (fun _ => ?_)
theorem fuglemanref05_Pass.mono : ∀ a0 a1 a2 k, LeO (fuglemanref05_Pass.f k a0 a1 a2) (fuglemanref05_Pass.f (k + 1) a0 a1 a2) := by
  intro a0 a1 a2 k
  obtain ⟨ih0, ih1⟩ := fuglemanref05_Pass.mono_l k
  unfold fuglemanref05_Pass.f
  repeat' first
      | (with_reducible exact ih0 _ _ _ _)
      | (with_reducible exact ih1 _ _ _ _ _)
      | (with_reducible exact fuglemanref05_Between.mono _ _ _)
      | (with_reducible exact fuglemanref05_List.mono _ _)
      | (with_reducible exact fuglemanref05_With.mono _ _ _)
      | (with_reducible exact fuglemanref05_Without.mono _ _ _)
      | (with_reducible exact LeO.refl _)
      | (with_reducible exact LeO.none _)
      | (with_reducible refine LeO.ite ?_ ?_)
      | (with_reducible refine LeO.bind ?_ (fun _ => ?_))
      | exact ih0 _ _ _ _
      | exact ih1 _ _ _ _ _
      | exact fuglemanref05_Between.mono _ _ _
      | exact fuglemanref05_List.mono _ _
      | exact fuglemanref05_With.mono _ _ _
      | exact fuglemanref05_Without.mono _ _ _
      | exact LeO.none _
      | refine LeO.ite ?_ ?_
      | refine LeO.bind ?_ (fun _ => ?_)
set_option maxHeartbeats 8000000 in
set_option maxRecDepth 100000 in
theorem fuglemanref05_Pass.calls (k : Nat) (a0 : Int) (a1 : Int) (a2 : Int) (r : Int) (w : World) (h : fuglemanref05_Pass.f k a0 a1 a2 = some r) :
    Calls Tryd.prog 37 #[.int .u32 a0, .int .i64 a1, .int .i64 a2] w fun e w' => e = .returned (.int .u32 r) ∧ Below w.heap.size w w' := by
  have HB := Aside0.mk (Below.refl w.heap.size w)
  have H : (if a1 < 0 then (fuglemanref05_Pass.j0 k a0 a1 a2 true) else (if a1 > 31 then (fuglemanref05_Pass.j0 k a0 a1 a2 true) else (if a2 < 0 then (fuglemanref05_Pass.j0 k a0 a1 a2 true) else (fuglemanref05_Pass.j0 k a0 a1 a2 (decide (a2 > 31)))))) = some r := h
  clear h
  have HC4 := Aside0.mk H
  clear H
  go_enter Tryd.func37, Tryd.ntmps37
  go_upto_region 1 with (fail)
  go_cut [22] (fun v22 wc => ∃ (kq : Nat) (x22_3 : Bool), v22 = .bool x22_3 ∧ Aside0 (fuglemanref05_Pass.j0 kq a0 a1 a2 x22_3 = some r) ∧ Aside0 (kq ≤ k) ∧ Aside0 (Below w.heap.size w wc))
  case first =>
    have H := HC4.out
    clear HC4
    by_cases c5 : a1 < 0
    · rw [if_pos c5] at H
      have c5b0 : decide (a1 < 0) = true := decide_eq_true c5
      clear c5
      (first | rw [c5b0] | (simp only [i64_w, i32_w]; rw [c5b0]) | skip)
      have H' := Aside0.mk H
      clear H
      go_wp2
      go_meet
      case rel => exact ⟨_, (true), (by first | rfl | (simp; done) | (simp [*]; done)), H', ⟨by first | omega | exact Nat.le_refl _⟩, ⟨by repeat (first | (with_reducible first | exact HB.out | apply below_alloc | apply pw_below_drewN | apply below_drew1) | exact HB.out)⟩⟩
    · rw [if_neg c5] at H
      have c5b0 : decide (a1 < 0) = false := decide_eq_false c5
      clear c5
      (first | rw [c5b0] | (simp only [i64_w, i32_w]; rw [c5b0]) | skip)
      by_cases c6 : a1 > 31
      · rw [if_pos c6] at H
        have c6b0 : decide (31 < a1) = true := decide_eq_true c6
        clear c6
        have H' := Aside0.mk H
        clear H
        go_wp2
        go_meet
        case rel => exact ⟨_, (true), (by first | rfl | (simp; done) | (simp [*]; done)), H', ⟨by first | omega | exact Nat.le_refl _⟩, ⟨by repeat (first | (with_reducible first | exact HB.out | apply below_alloc | apply pw_below_drewN | apply below_drew1) | exact HB.out)⟩⟩
      · rw [if_neg c6] at H
        have c6b0 : decide (31 < a1) = false := decide_eq_false c6
        clear c6
        by_cases c7 : a2 < 0
        · rw [if_pos c7] at H
          have c7b0 : decide (a2 < 0) = true := decide_eq_true c7
          clear c7
          have H' := Aside0.mk H
          clear H
          go_wp2
          go_meet
          case rel => exact ⟨_, (true), (by first | rfl | (simp; done) | (simp [*]; done)), H', ⟨by first | omega | exact Nat.le_refl _⟩, ⟨by repeat (first | (with_reducible first | exact HB.out | apply below_alloc | apply pw_below_drewN | apply below_drew1) | exact HB.out)⟩⟩
        · rw [if_neg c7] at H
          have c7b0 : decide (a2 < 0) = false := decide_eq_false c7
          clear c7
          have H' := Aside0.mk H
          clear H
          go_wp2
          go_meet
          case rel => exact ⟨_, (decide (a2 > 31)), (by first | rfl | (simp; done) | (simp [*]; done)), H', ⟨by first | omega | exact Nat.le_refl _⟩, ⟨by repeat (first | (with_reducible first | exact HB.out | apply below_alloc | apply pw_below_drewN | apply below_drew1) | exact HB.out)⟩⟩
  case rest =>
    clear HC4
    try clear p2
    try clear c3
    try clear c5
    try clear c5b0
    try clear c6
    try clear c6b0
    try clear c7
    try clear c7b0
    obtain ⟨kq, x22_3, rfl, HA, HJ3, HB⟩ := hcut
    cases kq with
    | zero => exact absurd HA.out (by simp [fuglemanref05_Pass.j0])
    | succ kj3 =>
      have H := HA.out
      clear HA
      simp only [fuglemanref05_Pass.j0] at H
      by_cases c8 : x22_3 = true
      · subst c8
        have H1 : (some a0) = some r := by rw [if_pos rfl] at H; exact H
        clear H
        have H := H1
        clear H1
        obtain rfl := Option.some.inj H
        go_wp2
        go_ret
        exact ⟨by first | rfl | (simp [errW_none, errW_some] <;> rfl) | (simp [*, errW_none, errW_some] <;> rfl), by repeat (first | (with_reducible first | exact HB.out | apply below_alloc | apply pw_below_drewN | apply below_drew1) | exact HB.out)⟩
      · replace c8 := Bool.eq_false_iff.mpr c8
        subst c8
        have H1 : ((fuglemanref05_Between.f kj3 a1 a2).bind fun t266 => ((fuglemanref05_List.f kj3 t266).bind fun t267 => (fuglemanref05_Pass.l0 kj3 a0 a1 a2 t267 0))) = some r := by rw [if_neg (show ¬ (false = true) by decide)] at H; exact H
        clear H
        have H := H1
        clear H1
        replace H := Option.bind_eq_some_iff.mp H
        obtain ⟨t266, A90, H⟩ := H
        replace H : ((fuglemanref05_List.f kj3 t266).bind fun t267 => (fuglemanref05_Pass.l0 kj3 a0 a1 a2 t267 0)) = some r := H
        have A9 := Aside0.mk A90
        clear A90
        replace H := Option.bind_eq_some_iff.mp H
        obtain ⟨t267, A100, H⟩ := H
        replace H : (fuglemanref05_Pass.l0 kj3 a0 a1 a2 t267 0) = some r := H
        have A10 := Aside0.mk A100
        clear A100
        have H' := Aside0.mk H
        clear H
        go_wp2_with (first | ((with_reducible refine gate_callee (f := 35) rfl ?_); refine goesL_ (some 26) rfl rfl Tryd.func35 (by kernel_rfl) rfl #[.int .i64 a1, .int .i64 a2] rfl (by (try simp only [List.map_toArray, List.map_cons, List.map_nil]); first | done | rfl | (simp only [List.length_drop, List.length_take]; rfl)) ?_; (with_reducible refine (fuglemanref05_Between.calls kj3 a1 a2 t266 _ A9.out).mono ?_); rintro e w' ⟨rfl, ⟨nd, rfl⟩⟩; refine ⟨_, rfl, ?_⟩) | ((with_reducible refine gate_callee (f := 21) rfl ?_); refine goesL_ (some 27) rfl rfl Tryd.func21 (by kernel_rfl) rfl #[.int .u32 t266] rfl (by (try simp only [List.map_toArray, List.map_cons, List.map_nil]); first | done | rfl | (simp only [List.length_drop, List.length_take]; rfl)) ?_; (with_reducible refine (fuglemanref05_List.calls kj3 t266 t267 _ A10.out).mono ?_); rintro e w11 ⟨v268, rfl, ho0, hb⟩; refine ⟨_, rfl, ?_⟩; have n0_ := Aside0.mk (Kd.R_lower ho0 (below_size (by repeat (first | (with_reducible first | exact HB.out | apply below_alloc | apply pw_below_drewN | apply below_drew1) | exact HB.out)))); have n1_ := Aside0.mk (below_step (by repeat (first | (with_reducible first | exact HB.out | apply below_alloc | apply pw_below_drewN | apply below_drew1) | exact HB.out)) hb); clear HB; have HO269 := n0_; have HB := n1_; clear n0_ n1_; (try clear hb); (try clear hb2); (try clear hk); (try clear hi); (try clear ho0)))
        go_loopg [0, 8] kj3 (fun kq v0 v8 w' => ∃ (x0_2 : Int) (x8_2 : Int), v0 = .int .u32 x0_2 ∧ v8 = .int .i64 x8_2 ∧ Aside0 (fuglemanref05_Pass.l0 kq x0_2 a1 a2 t267 x8_2 = some r) ∧ Aside0 (kq ≤ kj3) ∧ Aside0 (Kd.R (Kd.int .i64) 3 w' w.heap.size (fun _ => True) v268 t267) ∧ Aside0 (Below w.heap.size w w'))
        case atStart => exact ⟨(a0), (0), (by first | rfl | (simp; done) | (simp [*]; done)), (by first | rfl | (simp; done) | (simp [*]; done)), H', ⟨Nat.le_refl _⟩, ⟨by (with_reducible repeat (first | apply Kd.R_alloc | apply Kd.R_drewN | apply Kd.R_drew)); exact HO269.out⟩, ⟨by repeat (first | (with_reducible first | exact HB.out | apply below_alloc | apply pw_below_drewN | apply below_drew1) | exact HB.out)⟩⟩
        case round =>
          clear H'
          try clear c2
          try clear p2
          try clear c3
          try clear c5
          try clear c5b0
          try clear c6
          try clear c6b0
          try clear c7
          try clear c7b0
          try clear c8
          try clear p2
          obtain ⟨x0_2, x8_2, rfl, rfl, HA, HK2, HO_7, HB⟩ := hrel
          cases gk with
          | zero => exact absurd HA.out (by simp [fuglemanref05_Pass.l0])
          | succ k2 =>
            have H := HA.out
            clear HA
            simp only [fuglemanref05_Pass.l0] at H
            by_cases c12 : x8_2 < (t267.length : Int)
            · rw [if_pos c12] at H
              have c12b0 : decide (x8_2 < (t267.length : Int)) = true := decide_eq_true c12
              clear c12
              by_cases c13 : 0 ≤ x8_2
              · rw [if_pos c13] at H
                have c13b0 : decide (0 ≤ x8_2) = true := decide_eq_true c13
                clear c13
                replace H := Option.bind_eq_some_iff.mp H
                obtain ⟨t271, A140, H⟩ := H
                replace H : (fuglemanref05_Pass.l0 k2 t271 a1 a2 t267 (wrap64 (x8_2 + 1))) = some r := H
                have A14 := Aside0.mk A140
                clear A140
                have H' := Aside0.mk H
                clear H
                obtain ⟨Ao15, co15, eo15⟩ := Kd.R_slice HO_7.out
                subst eo15
                have p270 : 0 ≤ (x8_2 : Int) := of_decide_eq_true (by first | (with_reducible assumption) | assumption)
                have q270 : x8_2 < (t267.length : Int) := of_decide_eq_true (by first | (with_reducible assumption) | assumption)
                obtain ⟨ad270, e270, hx270_0⟩ := Kd.at_int (Kd.R_reads' HO_7.out).2.2 x8_2 p270 q270
                cases e270
                replace p270 := eq_true p270
                replace q270 := eq_true q270
                go_wp2_with (first | ((with_reducible refine gate_callee (f := 27) rfl ?_); refine goesL_ (some 39) rfl rfl Tryd.func27 (by kernel_rfl) rfl #[.int .u32 x0_2, .int .i64 (rd t267 x8_2)] rfl (by (try simp only [List.map_toArray, List.map_cons, List.map_nil]); first | done | rfl | (simp only [List.length_drop, List.length_take]; rfl)) ?_; (with_reducible refine (fuglemanref05_Without.calls k2 x0_2 (rd t267 x8_2) t271 _ A14.out).mono ?_); rintro e w16 ⟨rfl, hb⟩; refine ⟨_, rfl, ?_⟩; have n0_ := Aside0.mk (Kd.R_below (by (with_reducible repeat (first | apply Kd.R_alloc | apply Kd.R_drewN | apply Kd.R_drew)); exact HO_7.out) hb); have n1_ := Aside0.mk (below_step (by repeat (first | (with_reducible first | exact HB.out | apply below_alloc | apply pw_below_drewN | apply below_drew1) | exact HB.out)) hb); clear HO_7; clear HB; have HO_7 := n0_; have HB := n1_; clear n0_ n1_; (try clear hb); (try clear hb2); (try clear hk); (try clear hi)))
                go_roundg k2
                case measure => have := HJ3.out; have := HK2.out; omega
                case rel => exact ⟨(t271), (wrap64 (x8_2 + 1)), (by first | rfl | (simp; done) | (simp [*]; done)), (by first | rfl | (simp; done) | (simp [*]; done)), H', ⟨by have := HJ3.out; have := HK2.out; omega⟩, ⟨by (with_reducible repeat (first | apply Kd.R_alloc | apply Kd.R_drewN | apply Kd.R_drew)); exact HO_7.out⟩, ⟨by repeat (first | (with_reducible first | exact HB.out | apply below_alloc | apply pw_below_drewN | apply below_drew1) | exact HB.out)⟩⟩
              · rw [if_neg c13] at H
                exact absurd H (by simp)
            · rw [if_neg c12] at H
              have c12b0 : decide (x8_2 < (t267.length : Int)) = false := decide_eq_false c12
              clear c12
              replace H := Option.bind_eq_some_iff.mp H
              obtain ⟨t272, A170, H⟩ := H
              replace H : ((fuglemanref05_With.f k2 t272 a2).bind fun t273 => (some t273)) = some r := H
              have A17 := Aside0.mk A170
              clear A170
              replace H := Option.bind_eq_some_iff.mp H
              obtain ⟨t273, A180, H⟩ := H
              replace H : (some t273) = some r := H
              have A18 := Aside0.mk A180
              clear A180
              obtain rfl := Option.some.inj H
              obtain ⟨Ao19, co19, eo19⟩ := Kd.R_slice HO_7.out
              subst eo19
              go_wp2_with (first | ((with_reducible refine gate_callee (f := 25) rfl ?_); refine goesL_ (some 42) rfl rfl Tryd.func25 (by kernel_rfl) rfl #[.int .u32 x0_2, .int .i64 a1] rfl (by (try simp only [List.map_toArray, List.map_cons, List.map_nil]); first | done | rfl | (simp only [List.length_drop, List.length_take]; rfl)) ?_; (with_reducible refine (fuglemanref05_With.calls k2 x0_2 a1 t272 _ A17.out).mono ?_); rintro e w' ⟨rfl, ⟨nd, rfl⟩⟩; refine ⟨_, rfl, ?_⟩) | ((with_reducible refine gate_callee (f := 25) rfl ?_); refine goesL_ (some 44) rfl rfl Tryd.func25 (by kernel_rfl) rfl #[.int .u32 t272, .int .i64 a2] rfl (by (try simp only [List.map_toArray, List.map_cons, List.map_nil]); first | done | rfl | (simp only [List.length_drop, List.length_take]; rfl)) ?_; (with_reducible refine (fuglemanref05_With.calls k2 t272 a2 t273 _ A18.out).mono ?_); rintro e w' ⟨rfl, ⟨nd, rfl⟩⟩; refine ⟨_, rfl, ?_⟩))
              go_ret
              exact ⟨by first | rfl | (simp [errW_none, errW_some] <;> rfl) | (simp [*, errW_none, errW_some] <;> rfl), by repeat (first | (with_reducible first | exact HB.out | apply below_alloc | apply pw_below_drewN | apply below_drew1) | exact HB.out)⟩

end Go.Proofs.YtmehafolnpkmhaaDoor.PMem
