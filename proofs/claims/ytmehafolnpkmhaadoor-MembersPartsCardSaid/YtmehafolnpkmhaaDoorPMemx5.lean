/- Functions of the program as plain Lean functions, and that the machine's calls do what these say (written by a program of mine, wip/myprint.py, over the kit's print). -/
import Derived.Test.YtmehafolnpkmhaaDoorPMemx0
import Derived.Test.YtmehafolnpkmhaaDoorPMemx1
import Derived.Test.YtmehafolnpkmhaaDoorPMemx2
import Derived.Test.YtmehafolnpkmhaaDoorPMemx3
import Derived.Test.YtmehafolnpkmhaaDoorPMemx4
namespace Go.Proofs.YtmehafolnpkmhaaDoor.PMem
open Go.RowKit Go.Proofs.YtmehafolnpkmhaaDoorW.PrintWords Go.Proofs.YtmehafolnpkmhaaDoorW.PrintLast Go.Proofs.YtmehafolnpkmhaaDoorW.PrintMore
attribute [local go_sem] max2_int min2_int max_two min_two max_three min_three max_four min_four   -- for this text's walks alone
set_option linter.unusedVariables false
set_option linter.unusedSimpArgs false

/-! ### fuglemanref05_Text: function 32 -/
def fuglemanref05_Text.l0 : Nat → List Int → ByteArray → Int → Option (ByteArray)
  | 0, _, _, _ => none
  | k + 1, x3, x4, x5 => if x5 < (x3.length : Int) then (if x5 > 0 then (if x4.size + 1 ≤ 9223372036854775807 then (if 0 ≤ x5 then ((fuglemanref03_Digits.f k (rd x3 x5)).bind fun t225 => (if (x4 ++ (⟨#[44]⟩ : ByteArray)).size + t225.size ≤ 9223372036854775807 then (fuglemanref05_Text.l0 k x3 ((x4 ++ (⟨#[44]⟩ : ByteArray)) ++ t225) (wrap64 (x5 + 1))) else (none))) else (none)) else (none)) else (if 0 ≤ x5 then ((fuglemanref03_Digits.f k (rd x3 x5)).bind fun t227 => (if x4.size + t227.size ≤ 9223372036854775807 then (fuglemanref05_Text.l0 k x3 (x4 ++ t227) (wrap64 (x5 + 1))) else (none))) else (none))) else (if x4.size + 1 ≤ 9223372036854775807 then (some (x4 ++ (⟨#[125]⟩ : ByteArray))) else (none))
def fuglemanref05_Text.f (k : Nat) (a0 : Int) : Option (ByteArray) := (fuglemanref05_List.f k a0).bind fun t221 => (fuglemanref05_Text.l0 k t221 (⟨#[123]⟩ : ByteArray) 0)
theorem fuglemanref05_Text.mono_l : ∀ k, (∀ y0 y1 y2, LeO (fuglemanref05_Text.l0 k y0 y1 y2) (fuglemanref05_Text.l0 (k + 1) y0 y1 y2))
  | 0 => fun _ _ _ r h => by simp [fuglemanref05_Text.l0] at h
  | k + 1 => by
    have ih0 := fuglemanref05_Text.mono_l k
    · intro y0 y1 y2
      unfold fuglemanref05_Text.l0
      repeat' first
      | (with_reducible exact ih0 _ _ _)
      | (with_reducible exact fuglemanref03_Digits.mono _ _)
      | (with_reducible exact fuglemanref05_List.mono _ _)
      | (with_reducible exact LeO.refl _)
      | (with_reducible exact LeO.none _)
      | (with_reducible refine LeO.ite ?_ ?_)
      | (with_reducible refine LeO.bind ?_ (fun _ => ?_))
      | exact ih0 _ _ _
      | exact fuglemanref03_Digits.mono _ _
      | exact fuglemanref05_List.mono _ _
      | exact LeO.none _
      | refine LeO.ite ?_ ?_
      | refine LeO.bind ?_ (fun _ => ?_)
theorem fuglemanref05_Text.mono : ∀ a0 k, LeO (fuglemanref05_Text.f k a0) (fuglemanref05_Text.f (k + 1) a0) := by
  intro a0 k
  have ih0 := fuglemanref05_Text.mono_l k
  unfold fuglemanref05_Text.f
  repeat' first
      | (with_reducible exact ih0 _ _ _)
      | (with_reducible exact fuglemanref03_Digits.mono _ _)
      | (with_reducible exact fuglemanref05_List.mono _ _)
      | (with_reducible exact LeO.refl _)
      | (with_reducible exact LeO.none _)
      | (with_reducible refine LeO.ite ?_ ?_)
      | (with_reducible refine LeO.bind ?_ (fun _ => ?_))
      | exact ih0 _ _ _
      | exact fuglemanref03_Digits.mono _ _
      | exact fuglemanref05_List.mono _ _
      | exact LeO.none _
      | refine LeO.ite ?_ ?_
      | refine LeO.bind ?_ (fun _ => ?_)
set_option maxHeartbeats 8000000 in
set_option maxRecDepth 100000 in
theorem fuglemanref05_Text.calls (k : Nat) (a0 : Int) (r : ByteArray) (w : World) (h : fuglemanref05_Text.f k a0 = some r) :
    Calls Tryd.prog 32 #[.int .u32 a0] w fun e w' => e = .returned (.string r) ∧ Below w.heap.size w w' := by
  have HB := Aside0.mk (Below.refl w.heap.size w)
  have H : ((fuglemanref05_List.f k a0).bind fun t221 => (fuglemanref05_Text.l0 k t221 (⟨#[123]⟩ : ByteArray) 0)) = some r := h
  clear h
  replace H := Option.bind_eq_some_iff.mp H
  obtain ⟨t221, A20, H⟩ := H
  replace H : (fuglemanref05_Text.l0 k t221 (⟨#[123]⟩ : ByteArray) 0) = some r := H
  have A2 := Aside0.mk A20
  clear A20
  have H' := Aside0.mk H
  clear H
  go_enter Tryd.func32, Tryd.ntmps32
  go_wp2_with (first | ((with_reducible refine gate_callee (f := 21) rfl ?_); refine goesL_ (some 7) rfl rfl Tryd.func21 (by kernel_rfl) rfl #[.int .u32 a0] rfl (by (try simp only [List.map_toArray, List.map_cons, List.map_nil]); first | done | rfl | (simp only [List.length_drop, List.length_take]; rfl)) ?_; (with_reducible refine (fuglemanref05_List.calls k a0 t221 _ A2.out).mono ?_); rintro e w3 ⟨v222, rfl, ho0, hb⟩; refine ⟨_, rfl, ?_⟩; have n0_ := Aside0.mk (Kd.R_lower ho0 (below_size (by repeat (first | (with_reducible first | exact HB.out | apply below_alloc | apply pw_below_drewN | apply below_drew1) | exact HB.out)))); have n1_ := Aside0.mk (below_step (by repeat (first | (with_reducible first | exact HB.out | apply below_alloc | apply pw_below_drewN | apply below_drew1) | exact HB.out)) hb); clear HB; have HO223 := n0_; have HB := n1_; clear n0_ n1_; (try clear hb); (try clear hb2); (try clear hk); (try clear hi); (try clear ho0)))
  go_loopg [4, 5] k (fun kq v4 v5 w' => ∃ (x4_1 : ByteArray) (x5_1 : Int), v4 = .string x4_1 ∧ v5 = .int .i64 x5_1 ∧ Aside0 (fuglemanref05_Text.l0 kq t221 x4_1 x5_1 = some r) ∧ Aside0 (kq ≤ k) ∧ Aside0 (Kd.R (Kd.int .i64) 3 w' w.heap.size (fun _ => True) v222 t221) ∧ Aside0 (Below w.heap.size w w'))
  case atStart => exact ⟨((⟨#[123]⟩ : ByteArray)), (0), (by first | rfl | (simp; done) | (simp [*]; done)), (by first | rfl | (simp; done) | (simp [*]; done)), H', ⟨Nat.le_refl _⟩, ⟨by (with_reducible repeat (first | apply Kd.R_alloc | apply Kd.R_drewN | apply Kd.R_drew)); exact HO223.out⟩, ⟨by repeat (first | (with_reducible first | exact HB.out | apply below_alloc | apply pw_below_drewN | apply below_drew1) | exact HB.out)⟩⟩
  case round =>
    clear H'
    try clear c2
    try clear p2
    try clear c3
    obtain ⟨x4_1, x5_1, rfl, rfl, HA, HK1, HO_3, HB⟩ := hrel
    cases gk with
    | zero => exact absurd HA.out (by simp [fuglemanref05_Text.l0])
    | succ k1 =>
      have H := HA.out
      clear HA
      simp only [fuglemanref05_Text.l0] at H
      by_cases c4 : x5_1 < (t221.length : Int)
      · rw [if_pos c4] at H
        have c4b0 : decide (x5_1 < (t221.length : Int)) = true := decide_eq_true c4
        clear c4
        by_cases c5 : x5_1 > 0
        · rw [if_pos c5] at H
          have c5b0 : decide (0 < x5_1) = true := decide_eq_true c5
          clear c5
          by_cases c6 : x4_1.size + 1 ≤ 9223372036854775807
          · rw [if_pos c6] at H
            have c6b0 := eq_true c6
            have c6b1 : decide (x4_1.size + 1 ≤ 9223372036854775807) = true := decide_eq_true c6
            try have c6b2 : (9223372036854775807 < x4_1.size + 1) = False := eq_false (Nat.not_lt.2 c6)
            by_cases c7 : 0 ≤ x5_1
            · rw [if_pos c7] at H
              have c7b0 : decide (0 ≤ x5_1) = true := decide_eq_true c7
              clear c7
              replace H := Option.bind_eq_some_iff.mp H
              obtain ⟨t225, A80, H⟩ := H
              replace H : (if (x4_1 ++ (⟨#[44]⟩ : ByteArray)).size + t225.size ≤ 9223372036854775807 then (fuglemanref05_Text.l0 k1 t221 ((x4_1 ++ (⟨#[44]⟩ : ByteArray)) ++ t225) (wrap64 (x5_1 + 1))) else (none)) = some r := H
              have A8 := Aside0.mk A80
              clear A80
              by_cases c9 : (x4_1 ++ (⟨#[44]⟩ : ByteArray)).size + t225.size ≤ 9223372036854775807
              · rw [if_pos c9] at H
                have c9b0 := eq_true c9
                have c9b1 : decide ((x4_1 ++ (⟨#[44]⟩ : ByteArray)).size + t225.size ≤ 9223372036854775807) = true := decide_eq_true c9
                try have c9b2 : (9223372036854775807 < (x4_1 ++ (⟨#[44]⟩ : ByteArray)).size + t225.size) = False := eq_false (Nat.not_lt.2 c9)
                try have c9b3 := c9b2
                try simp only [ByteArray.size_append] at c9b3
                try simp only [show (⟨#[44]⟩ : ByteArray).size = 1 from rfl] at c9b3
                have H' := Aside0.mk H
                clear H
                obtain ⟨Ao10, co10, eo10⟩ := Kd.R_slice HO_3.out
                subst eo10
                have p224 : 0 ≤ (x5_1 : Int) := of_decide_eq_true (by first | (with_reducible assumption) | assumption)
                have q224 : x5_1 < (t221.length : Int) := of_decide_eq_true (by first | (with_reducible assumption) | assumption)
                obtain ⟨ad224, e224, hx224_0⟩ := Kd.at_int (Kd.R_reads' HO_3.out).2.2 x5_1 p224 q224
                cases e224
                replace p224 := eq_true p224
                replace q224 := eq_true q224
                go_wp2_with (first | ((with_reducible refine gate_callee (f := 61) rfl ?_); refine goesL_ (some 23) rfl rfl Tryd.func61 (by kernel_rfl) rfl #[.int .i64 (rd t221 x5_1)] rfl (by (try simp only [List.map_toArray, List.map_cons, List.map_nil]); first | done | rfl | (simp only [List.length_drop, List.length_take]; rfl)) ?_; (with_reducible refine (fuglemanref03_Digits.calls k1 (rd t221 x5_1) t225 _ A8.out).mono ?_); rintro e w11 ⟨rfl, hb⟩; refine ⟨_, rfl, ?_⟩; have n0_ := Aside0.mk (Kd.R_below (by (with_reducible repeat (first | apply Kd.R_alloc | apply Kd.R_drewN | apply Kd.R_drew)); exact HO_3.out) hb); have n1_ := Aside0.mk (below_step (by repeat (first | (with_reducible first | exact HB.out | apply below_alloc | apply pw_below_drewN | apply below_drew1) | exact HB.out)) hb); clear HO_3; clear HB; have HO_3 := n0_; have HB := n1_; clear n0_ n1_; (try clear hb); (try clear hb2); (try clear hk); (try clear hi)))
                go_roundg k1
                case measure => have := HK1.out; omega
                case rel => exact ⟨((x4_1 ++ (⟨#[44]⟩ : ByteArray)) ++ t225), (wrap64 (x5_1 + 1)), (by first | rfl | (simp; done) | (simp [*]; done)), (by first | rfl | (simp; done) | (simp [*]; done)), H', ⟨by have := HK1.out; omega⟩, ⟨by (with_reducible repeat (first | apply Kd.R_alloc | apply Kd.R_drewN | apply Kd.R_drew)); exact HO_3.out⟩, ⟨by repeat (first | (with_reducible first | exact HB.out | apply below_alloc | apply pw_below_drewN | apply below_drew1) | exact HB.out)⟩⟩
              · rw [if_neg c9] at H
                exact absurd H (by simp)
            · rw [if_neg c7] at H
              exact absurd H (by simp)
          · rw [if_neg c6] at H
            exact absurd H (by simp)
        · rw [if_neg c5] at H
          have c5b0 : decide (0 < x5_1) = false := decide_eq_false c5
          clear c5
          by_cases c12 : 0 ≤ x5_1
          · rw [if_pos c12] at H
            have c12b0 : decide (0 ≤ x5_1) = true := decide_eq_true c12
            clear c12
            replace H := Option.bind_eq_some_iff.mp H
            obtain ⟨t227, A130, H⟩ := H
            replace H : (if x4_1.size + t227.size ≤ 9223372036854775807 then (fuglemanref05_Text.l0 k1 t221 (x4_1 ++ t227) (wrap64 (x5_1 + 1))) else (none)) = some r := H
            have A13 := Aside0.mk A130
            clear A130
            by_cases c14 : x4_1.size + t227.size ≤ 9223372036854775807
            · rw [if_pos c14] at H
              have c14b0 := eq_true c14
              have c14b1 : decide (x4_1.size + t227.size ≤ 9223372036854775807) = true := decide_eq_true c14
              try have c14b2 : (9223372036854775807 < x4_1.size + t227.size) = False := eq_false (Nat.not_lt.2 c14)
              have H' := Aside0.mk H
              clear H
              obtain ⟨Ao15, co15, eo15⟩ := Kd.R_slice HO_3.out
              subst eo15
              have p226 : 0 ≤ (x5_1 : Int) := of_decide_eq_true (by first | (with_reducible assumption) | assumption)
              have q226 : x5_1 < (t221.length : Int) := of_decide_eq_true (by first | (with_reducible assumption) | assumption)
              obtain ⟨ad226, e226, hx226_0⟩ := Kd.at_int (Kd.R_reads' HO_3.out).2.2 x5_1 p226 q226
              cases e226
              replace p226 := eq_true p226
              replace q226 := eq_true q226
              go_wp2_with (first | ((with_reducible refine gate_callee (f := 61) rfl ?_); refine goesL_ (some 23) rfl rfl Tryd.func61 (by kernel_rfl) rfl #[.int .i64 (rd t221 x5_1)] rfl (by (try simp only [List.map_toArray, List.map_cons, List.map_nil]); first | done | rfl | (simp only [List.length_drop, List.length_take]; rfl)) ?_; (with_reducible refine (fuglemanref03_Digits.calls k1 (rd t221 x5_1) t227 _ A13.out).mono ?_); rintro e w16 ⟨rfl, hb⟩; refine ⟨_, rfl, ?_⟩; have n0_ := Aside0.mk (Kd.R_below (by (with_reducible repeat (first | apply Kd.R_alloc | apply Kd.R_drewN | apply Kd.R_drew)); exact HO_3.out) hb); have n1_ := Aside0.mk (below_step (by repeat (first | (with_reducible first | exact HB.out | apply below_alloc | apply pw_below_drewN | apply below_drew1) | exact HB.out)) hb); clear HO_3; clear HB; have HO_3 := n0_; have HB := n1_; clear n0_ n1_; (try clear hb); (try clear hb2); (try clear hk); (try clear hi)))
              go_roundg k1
              case measure => have := HK1.out; omega
              case rel => exact ⟨(x4_1 ++ t227), (wrap64 (x5_1 + 1)), (by first | rfl | (simp; done) | (simp [*]; done)), (by first | rfl | (simp; done) | (simp [*]; done)), H', ⟨by have := HK1.out; omega⟩, ⟨by (with_reducible repeat (first | apply Kd.R_alloc | apply Kd.R_drewN | apply Kd.R_drew)); exact HO_3.out⟩, ⟨by repeat (first | (with_reducible first | exact HB.out | apply below_alloc | apply pw_below_drewN | apply below_drew1) | exact HB.out)⟩⟩
            · rw [if_neg c14] at H
              exact absurd H (by simp)
          · rw [if_neg c12] at H
            exact absurd H (by simp)
      · rw [if_neg c4] at H
        have c4b0 : decide (x5_1 < (t221.length : Int)) = false := decide_eq_false c4
        clear c4
        by_cases c17 : x4_1.size + 1 ≤ 9223372036854775807
        · rw [if_pos c17] at H
          have c17b0 := eq_true c17
          have c17b1 : decide (x4_1.size + 1 ≤ 9223372036854775807) = true := decide_eq_true c17
          try have c17b2 : (9223372036854775807 < x4_1.size + 1) = False := eq_false (Nat.not_lt.2 c17)
          obtain rfl := Option.some.inj H
          obtain ⟨Ao18, co18, eo18⟩ := Kd.R_slice HO_3.out
          subst eo18
          go_wp2
          go_ret
          exact ⟨by first | rfl | (simp [errW_none, errW_some] <;> rfl) | (simp [*, errW_none, errW_some] <;> rfl), by repeat (first | (with_reducible first | exact HB.out | apply below_alloc | apply pw_below_drewN | apply below_drew1) | exact HB.out)⟩
        · rw [if_neg c17] at H
          exact absurd H (by simp)

/-! ### fuglemanref05_Of: function 33 -/
def fuglemanref05_Of.l0 : Nat → List Int → Int → Int → Option (Int)
  | 0, _, _, _ => none
  | k + 1, x0, x3, x4 => if x4 < (x0.length : Int) then (if 0 ≤ x4 then ((fuglemanref05_With.f k x3 (rd x0 x4)).bind fun t229 => (fuglemanref05_Of.l0 k x0 t229 (wrap64 (x4 + 1)))) else (none)) else (some x3)
def fuglemanref05_Of.f (k : Nat) (l0 : List Int) : Option (Int) := fuglemanref05_Of.l0 k l0 0 0
theorem fuglemanref05_Of.mono_l : ∀ k, (∀ y0 y1 y2, LeO (fuglemanref05_Of.l0 k y0 y1 y2) (fuglemanref05_Of.l0 (k + 1) y0 y1 y2))
  | 0 => fun _ _ _ r h => by simp [fuglemanref05_Of.l0] at h
  | k + 1 => by
    have ih0 := fuglemanref05_Of.mono_l k
    · intro y0 y1 y2
      unfold fuglemanref05_Of.l0
      repeat' first
      | (with_reducible exact ih0 _ _ _)
      | (with_reducible exact fuglemanref05_With.mono _ _ _)
      | (with_reducible exact LeO.refl _)
      | (with_reducible exact LeO.none _)
      | (with_reducible refine LeO.ite ?_ ?_)
      | (with_reducible refine LeO.bind ?_ (fun _ => ?_))
      | exact ih0 _ _ _
      | exact fuglemanref05_With.mono _ _ _
      | exact LeO.none _
      | refine LeO.ite ?_ ?_
      | refine LeO.bind ?_ (fun _ => ?_)
theorem fuglemanref05_Of.mono : ∀ a0 k, LeO (fuglemanref05_Of.f k a0) (fuglemanref05_Of.f (k + 1) a0) := by
  intro a0 k
  have ih0 := fuglemanref05_Of.mono_l k
  unfold fuglemanref05_Of.f
  repeat' first
      | (with_reducible exact ih0 _ _ _)
      | (with_reducible exact fuglemanref05_With.mono _ _ _)
      | (with_reducible exact LeO.refl _)
      | (with_reducible exact LeO.none _)
      | (with_reducible refine LeO.ite ?_ ?_)
      | (with_reducible refine LeO.bind ?_ (fun _ => ?_))
      | exact ih0 _ _ _
      | exact fuglemanref05_With.mono _ _ _
      | exact LeO.none _
      | refine LeO.ite ?_ ?_
      | refine LeO.bind ?_ (fun _ => ?_)
set_option maxHeartbeats 8000000 in
set_option maxRecDepth 100000 in
theorem fuglemanref05_Of.calls (k : Nat) (A0 : Option Addr) (c0 : Nat) (l0 : List Int) (r : Int) (w : World) (hr0 : Kd.C (Kd.int .i64) w A0 l0.length l0) (hc0 : l0.length ≤ c0) (h : fuglemanref05_Of.f k l0 = some r) :
    Calls Tryd.prog 33 #[.slice A0 l0.length c0] w fun e w' => e = .returned (.int .u32 r) ∧ Drawn0 w w' := by
  have HR0 := Aside0.mk hr0
  have HC0 := Aside0.mk hc0
  clear hr0 hc0
  have H : (fuglemanref05_Of.l0 k l0 0 0) = some r := h
  clear h
  have H' := Aside0.mk H
  clear H
  go_enter Tryd.func33, Tryd.ntmps33
  go_wp2
  go_loopg [3, 4] k (fun kq v3 v4 w' => ∃ (x3_1 : Int) (x4_1 : Int), v3 = .int .u32 x3_1 ∧ v4 = .int .i64 x4_1 ∧ Aside0 (fuglemanref05_Of.l0 kq l0 x3_1 x4_1 = some r) ∧ Aside0 (kq ≤ k) ∧ Drawn0 w w')
  case atStart => exact ⟨(0), (0), (by first | rfl | (simp; done) | (simp [*]; done)), (by first | rfl | (simp; done) | (simp [*]; done)), H', ⟨Nat.le_refl _⟩, by repeat (first | exact Drawn0.refl _ | apply Drawn0.step)⟩
  case round =>
    clear H'
    obtain ⟨x3_1, x4_1, rfl, rfl, HA, HK1, ⟨m1, rfl⟩⟩ := hrel
    cases gk with
    | zero => exact absurd HA.out (by simp [fuglemanref05_Of.l0])
    | succ k1 =>
      have H := HA.out
      clear HA
      simp only [fuglemanref05_Of.l0] at H
      by_cases c2 : x4_1 < (l0.length : Int)
      · rw [if_pos c2] at H
        have c2b0 : decide (x4_1 < (l0.length : Int)) = true := decide_eq_true c2
        clear c2
        by_cases c3 : 0 ≤ x4_1
        · rw [if_pos c3] at H
          have c3b0 : decide (0 ≤ x4_1) = true := decide_eq_true c3
          clear c3
          replace H := Option.bind_eq_some_iff.mp H
          obtain ⟨t229, A40, H⟩ := H
          replace H : (fuglemanref05_Of.l0 k1 l0 t229 (wrap64 (x4_1 + 1))) = some r := H
          have A4 := Aside0.mk A40
          clear A40
          have H' := Aside0.mk H
          clear H
          have p228 : 0 ≤ (x4_1 : Int) := of_decide_eq_true (by first | (with_reducible assumption) | assumption)
          have q228 : x4_1 < (l0.length : Int) := of_decide_eq_true (by first | (with_reducible assumption) | assumption)
          obtain ⟨ad228, e228, hx228_0⟩ := Kd.at_int HR0.out x4_1 p228 q228
          cases e228
          replace p228 := eq_true p228
          replace q228 := eq_true q228
          go_wp2_with (first | ((with_reducible refine gate_callee (f := 25) rfl ?_); refine goesL_ (some 16) rfl rfl Tryd.func25 (by kernel_rfl) rfl #[.int .u32 x3_1, .int .i64 (rd l0 x4_1)] rfl (by (try simp only [List.map_toArray, List.map_cons, List.map_nil]); first | done | rfl | (simp only [List.length_drop, List.length_take]; rfl)) ?_; (with_reducible refine (fuglemanref05_With.calls k1 x3_1 (rd l0 x4_1) t229 _ A4.out).mono ?_); rintro e w' ⟨rfl, ⟨nd, rfl⟩⟩; refine ⟨_, rfl, ?_⟩))
          go_roundg k1
          case measure => have := HK1.out; omega
          case rel => exact ⟨(t229), (wrap64 (x4_1 + 1)), (by first | rfl | (simp; done) | (simp [*]; done)), (by first | rfl | (simp; done) | (simp [*]; done)), H', ⟨by have := HK1.out; omega⟩, by repeat (first | exact Drawn0.refl _ | apply Drawn0.step)⟩
        · rw [if_neg c3] at H
          exact absurd H (by simp)
      · rw [if_neg c2] at H
        have c2b0 : decide (x4_1 < (l0.length : Int)) = false := decide_eq_false c2
        clear c2
        obtain rfl := Option.some.inj H
        go_wp2
        go_ret
        exact ⟨by first | rfl | (simp; done) | (simp [*]; done), by repeat (first | exact Drawn0.refl _ | apply Drawn0.step)⟩

/-! ### fuglemanlaw05_MembersSets: function 4 -/
def fuglemanlaw05_MembersSets.f (k : Nat) (a0 : Int) (a1 : Int) : Option (Bool) := (fuglemanlaw05_awake.f k).bind fun t230 => (if t230 = true then ((fuglemanref05_List.f k a0).bind fun t231 => ((members_Has.f a0 a1).bind fun t234 => ((fuglemanref05_Has.f k a0 a1).bind fun t235 => (if (t234 == t235) = true then ((members_With.f a0 a1).bind fun t236 => ((fuglemanref05_With.f k a0 a1).bind fun t237 => (if t236 = t237 then ((members_Without.f a0 a1).bind fun t238 => ((fuglemanref05_Without.f k a0 a1).bind fun t239 => (if t238 = t239 then ((members_List.f k a0).bind fun t240 => ((fuglemanlaw05_list.f k t240 t231).bind fun t243 => (if t243 = true then ((members_Len.f a0).bind fun t244 => (if t244 = (t231.length : Int) then ((members_Text.f k a0).bind fun t245 => ((fuglemanref05_Text.f k a0).bind fun t246 => (if t245.toList = t246.toList then ((fuglemanref05_Of.f k t231).bind fun t247 => (some (t247 == a0))) else (some false)))) else (some false))) else (some false)))) else (some false)))) else (some false)))) else (some false))))) else (some false))
theorem fuglemanlaw05_MembersSets.mono : ∀ a0 a1 k, LeO (fuglemanlaw05_MembersSets.f k a0 a1) (fuglemanlaw05_MembersSets.f (k + 1) a0 a1) := by
  intro a0 a1 k
  unfold fuglemanlaw05_MembersSets.f
  repeat' first
      | (with_reducible exact fuglemanlaw05_awake.mono _)
      | (with_reducible exact fuglemanlaw05_list.mono _ _ _)
      | (with_reducible exact fuglemanref05_Has.mono _ _ _)
      | (with_reducible exact fuglemanref05_List.mono _ _)
      | (with_reducible exact fuglemanref05_Of.mono _ _)
      | (with_reducible exact fuglemanref05_Text.mono _ _)
      | (with_reducible exact fuglemanref05_With.mono _ _ _)
      | (with_reducible exact fuglemanref05_Without.mono _ _ _)
      | (with_reducible exact members_List.mono _ _)
      | (with_reducible exact members_Text.mono _ _)
      | (with_reducible exact LeO.refl _)
      | (with_reducible exact LeO.none _)
      | (with_reducible refine LeO.ite ?_ ?_)
      | (with_reducible refine LeO.bind ?_ (fun _ => ?_))
      | exact fuglemanlaw05_awake.mono _
      | exact fuglemanlaw05_list.mono _ _ _
      | exact fuglemanref05_Has.mono _ _ _
      | exact fuglemanref05_List.mono _ _
      | exact fuglemanref05_Of.mono _ _
      | exact fuglemanref05_Text.mono _ _
      | exact fuglemanref05_With.mono _ _ _
      | exact fuglemanref05_Without.mono _ _ _
      | exact members_List.mono _ _
      | exact members_Text.mono _ _
      | exact LeO.none _
      | refine LeO.ite ?_ ?_
      | refine LeO.bind ?_ (fun _ => ?_)
set_option maxHeartbeats 8000000 in
set_option maxRecDepth 100000 in
theorem fuglemanlaw05_MembersSets.calls (k : Nat) (a0 : Int) (a1 : Int) (r : Bool) (w : World) (h : fuglemanlaw05_MembersSets.f k a0 a1 = some r) (hG : LaidW w) :
    Calls Tryd.prog 4 #[.int .u32 a0, .int .i64 a1] w fun e w' => e = .returned (.bool r) ∧ Below w.heap.size w w' := by
  have HG := Aside0.mk hG
  clear hG
  have HB := Aside0.mk (Below.refl w.heap.size w)
  have H : ((fuglemanlaw05_awake.f k).bind fun t230 => (if t230 = true then ((fuglemanref05_List.f k a0).bind fun t231 => ((members_Has.f a0 a1).bind fun t234 => ((fuglemanref05_Has.f k a0 a1).bind fun t235 => (if (t234 == t235) = true then ((members_With.f a0 a1).bind fun t236 => ((fuglemanref05_With.f k a0 a1).bind fun t237 => (if t236 = t237 then ((members_Without.f a0 a1).bind fun t238 => ((fuglemanref05_Without.f k a0 a1).bind fun t239 => (if t238 = t239 then ((members_List.f k a0).bind fun t240 => ((fuglemanlaw05_list.f k t240 t231).bind fun t243 => (if t243 = true then ((members_Len.f a0).bind fun t244 => (if t244 = (t231.length : Int) then ((members_Text.f k a0).bind fun t245 => ((fuglemanref05_Text.f k a0).bind fun t246 => (if t245.toList = t246.toList then ((fuglemanref05_Of.f k t231).bind fun t247 => (some (t247 == a0))) else (some false)))) else (some false))) else (some false)))) else (some false)))) else (some false)))) else (some false))))) else (some false))) = some r := h
  clear h
  replace H := Option.bind_eq_some_iff.mp H
  obtain ⟨t230, A30, H⟩ := H
  replace H : (if t230 = true then ((fuglemanref05_List.f k a0).bind fun t231 => ((members_Has.f a0 a1).bind fun t234 => ((fuglemanref05_Has.f k a0 a1).bind fun t235 => (if (t234 == t235) = true then ((members_With.f a0 a1).bind fun t236 => ((fuglemanref05_With.f k a0 a1).bind fun t237 => (if t236 = t237 then ((members_Without.f a0 a1).bind fun t238 => ((fuglemanref05_Without.f k a0 a1).bind fun t239 => (if t238 = t239 then ((members_List.f k a0).bind fun t240 => ((fuglemanlaw05_list.f k t240 t231).bind fun t243 => (if t243 = true then ((members_Len.f a0).bind fun t244 => (if t244 = (t231.length : Int) then ((members_Text.f k a0).bind fun t245 => ((fuglemanref05_Text.f k a0).bind fun t246 => (if t245.toList = t246.toList then ((fuglemanref05_Of.f k t231).bind fun t247 => (some (t247 == a0))) else (some false)))) else (some false))) else (some false)))) else (some false)))) else (some false)))) else (some false))))) else (some false)) = some r := H
  have A3 := Aside0.mk A30
  clear A30
  by_cases c4 : t230 = true
  · subst c4
    have H1 : ((fuglemanref05_List.f k a0).bind fun t231 => ((members_Has.f a0 a1).bind fun t234 => ((fuglemanref05_Has.f k a0 a1).bind fun t235 => (if (t234 == t235) = true then ((members_With.f a0 a1).bind fun t236 => ((fuglemanref05_With.f k a0 a1).bind fun t237 => (if t236 = t237 then ((members_Without.f a0 a1).bind fun t238 => ((fuglemanref05_Without.f k a0 a1).bind fun t239 => (if t238 = t239 then ((members_List.f k a0).bind fun t240 => ((fuglemanlaw05_list.f k t240 t231).bind fun t243 => (if t243 = true then ((members_Len.f a0).bind fun t244 => (if t244 = (t231.length : Int) then ((members_Text.f k a0).bind fun t245 => ((fuglemanref05_Text.f k a0).bind fun t246 => (if t245.toList = t246.toList then ((fuglemanref05_Of.f k t231).bind fun t247 => (some (t247 == a0))) else (some false)))) else (some false))) else (some false)))) else (some false)))) else (some false)))) else (some false))))) = some r := by rw [if_pos rfl] at H; exact H
    clear H
    have H := H1
    clear H1
    replace H := Option.bind_eq_some_iff.mp H
    obtain ⟨t231, A50, H⟩ := H
    replace H : ((members_Has.f a0 a1).bind fun t234 => ((fuglemanref05_Has.f k a0 a1).bind fun t235 => (if (t234 == t235) = true then ((members_With.f a0 a1).bind fun t236 => ((fuglemanref05_With.f k a0 a1).bind fun t237 => (if t236 = t237 then ((members_Without.f a0 a1).bind fun t238 => ((fuglemanref05_Without.f k a0 a1).bind fun t239 => (if t238 = t239 then ((members_List.f k a0).bind fun t240 => ((fuglemanlaw05_list.f k t240 t231).bind fun t243 => (if t243 = true then ((members_Len.f a0).bind fun t244 => (if t244 = (t231.length : Int) then ((members_Text.f k a0).bind fun t245 => ((fuglemanref05_Text.f k a0).bind fun t246 => (if t245.toList = t246.toList then ((fuglemanref05_Of.f k t231).bind fun t247 => (some (t247 == a0))) else (some false)))) else (some false))) else (some false)))) else (some false)))) else (some false)))) else (some false)))) = some r := H
    have A5 := Aside0.mk A50
    clear A50
    replace H := Option.bind_eq_some_iff.mp H
    obtain ⟨t234, A60, H⟩ := H
    replace H : ((fuglemanref05_Has.f k a0 a1).bind fun t235 => (if (t234 == t235) = true then ((members_With.f a0 a1).bind fun t236 => ((fuglemanref05_With.f k a0 a1).bind fun t237 => (if t236 = t237 then ((members_Without.f a0 a1).bind fun t238 => ((fuglemanref05_Without.f k a0 a1).bind fun t239 => (if t238 = t239 then ((members_List.f k a0).bind fun t240 => ((fuglemanlaw05_list.f k t240 t231).bind fun t243 => (if t243 = true then ((members_Len.f a0).bind fun t244 => (if t244 = (t231.length : Int) then ((members_Text.f k a0).bind fun t245 => ((fuglemanref05_Text.f k a0).bind fun t246 => (if t245.toList = t246.toList then ((fuglemanref05_Of.f k t231).bind fun t247 => (some (t247 == a0))) else (some false)))) else (some false))) else (some false)))) else (some false)))) else (some false)))) else (some false))) = some r := H
    have A6 := Aside0.mk A60
    clear A60
    replace H := Option.bind_eq_some_iff.mp H
    obtain ⟨t235, A70, H⟩ := H
    replace H : (if (t234 == t235) = true then ((members_With.f a0 a1).bind fun t236 => ((fuglemanref05_With.f k a0 a1).bind fun t237 => (if t236 = t237 then ((members_Without.f a0 a1).bind fun t238 => ((fuglemanref05_Without.f k a0 a1).bind fun t239 => (if t238 = t239 then ((members_List.f k a0).bind fun t240 => ((fuglemanlaw05_list.f k t240 t231).bind fun t243 => (if t243 = true then ((members_Len.f a0).bind fun t244 => (if t244 = (t231.length : Int) then ((members_Text.f k a0).bind fun t245 => ((fuglemanref05_Text.f k a0).bind fun t246 => (if t245.toList = t246.toList then ((fuglemanref05_Of.f k t231).bind fun t247 => (some (t247 == a0))) else (some false)))) else (some false))) else (some false)))) else (some false)))) else (some false)))) else (some false)) = some r := H
    have A7 := Aside0.mk A70
    clear A70
    by_cases c8 : (t234 == t235) = true
    · rw [if_pos c8] at H
      have c8b0 : (t234 == t235) = true := c8
      (try (have c8b1 : decide (t234 = t235) = true := by simpa using c8))
      (try (have c8b2 : (t234 == t235) = true := by simpa using c8))
      clear c8
      replace H := Option.bind_eq_some_iff.mp H
      obtain ⟨t236, A90, H⟩ := H
      replace H : ((fuglemanref05_With.f k a0 a1).bind fun t237 => (if t236 = t237 then ((members_Without.f a0 a1).bind fun t238 => ((fuglemanref05_Without.f k a0 a1).bind fun t239 => (if t238 = t239 then ((members_List.f k a0).bind fun t240 => ((fuglemanlaw05_list.f k t240 t231).bind fun t243 => (if t243 = true then ((members_Len.f a0).bind fun t244 => (if t244 = (t231.length : Int) then ((members_Text.f k a0).bind fun t245 => ((fuglemanref05_Text.f k a0).bind fun t246 => (if t245.toList = t246.toList then ((fuglemanref05_Of.f k t231).bind fun t247 => (some (t247 == a0))) else (some false)))) else (some false))) else (some false)))) else (some false)))) else (some false))) = some r := H
      have A9 := Aside0.mk A90
      clear A90
      replace H := Option.bind_eq_some_iff.mp H
      obtain ⟨t237, A100, H⟩ := H
      replace H : (if t236 = t237 then ((members_Without.f a0 a1).bind fun t238 => ((fuglemanref05_Without.f k a0 a1).bind fun t239 => (if t238 = t239 then ((members_List.f k a0).bind fun t240 => ((fuglemanlaw05_list.f k t240 t231).bind fun t243 => (if t243 = true then ((members_Len.f a0).bind fun t244 => (if t244 = (t231.length : Int) then ((members_Text.f k a0).bind fun t245 => ((fuglemanref05_Text.f k a0).bind fun t246 => (if t245.toList = t246.toList then ((fuglemanref05_Of.f k t231).bind fun t247 => (some (t247 == a0))) else (some false)))) else (some false))) else (some false)))) else (some false)))) else (some false)) = some r := H
      have A10 := Aside0.mk A100
      clear A100
      by_cases c11 : t236 = t237
      · rw [if_pos c11] at H
        have c11b0 : (t236 == t237) = true := beq_iff_eq.mpr c11
        have c11b1 : (t236 != t237) = false := bne_eq_false_iff_eq.mpr c11
        clear c11
        replace H := Option.bind_eq_some_iff.mp H
        obtain ⟨t238, A120, H⟩ := H
        replace H : ((fuglemanref05_Without.f k a0 a1).bind fun t239 => (if t238 = t239 then ((members_List.f k a0).bind fun t240 => ((fuglemanlaw05_list.f k t240 t231).bind fun t243 => (if t243 = true then ((members_Len.f a0).bind fun t244 => (if t244 = (t231.length : Int) then ((members_Text.f k a0).bind fun t245 => ((fuglemanref05_Text.f k a0).bind fun t246 => (if t245.toList = t246.toList then ((fuglemanref05_Of.f k t231).bind fun t247 => (some (t247 == a0))) else (some false)))) else (some false))) else (some false)))) else (some false))) = some r := H
        have A12 := Aside0.mk A120
        clear A120
        replace H := Option.bind_eq_some_iff.mp H
        obtain ⟨t239, A130, H⟩ := H
        replace H : (if t238 = t239 then ((members_List.f k a0).bind fun t240 => ((fuglemanlaw05_list.f k t240 t231).bind fun t243 => (if t243 = true then ((members_Len.f a0).bind fun t244 => (if t244 = (t231.length : Int) then ((members_Text.f k a0).bind fun t245 => ((fuglemanref05_Text.f k a0).bind fun t246 => (if t245.toList = t246.toList then ((fuglemanref05_Of.f k t231).bind fun t247 => (some (t247 == a0))) else (some false)))) else (some false))) else (some false)))) else (some false)) = some r := H
        have A13 := Aside0.mk A130
        clear A130
        by_cases c14 : t238 = t239
        · rw [if_pos c14] at H
          have c14b0 : (t238 == t239) = true := beq_iff_eq.mpr c14
          have c14b1 : (t238 != t239) = false := bne_eq_false_iff_eq.mpr c14
          clear c14
          replace H := Option.bind_eq_some_iff.mp H
          obtain ⟨t240, A150, H⟩ := H
          replace H : ((fuglemanlaw05_list.f k t240 t231).bind fun t243 => (if t243 = true then ((members_Len.f a0).bind fun t244 => (if t244 = (t231.length : Int) then ((members_Text.f k a0).bind fun t245 => ((fuglemanref05_Text.f k a0).bind fun t246 => (if t245.toList = t246.toList then ((fuglemanref05_Of.f k t231).bind fun t247 => (some (t247 == a0))) else (some false)))) else (some false))) else (some false))) = some r := H
          have A15 := Aside0.mk A150
          clear A150
          replace H := Option.bind_eq_some_iff.mp H
          obtain ⟨t243, A160, H⟩ := H
          replace H : (if t243 = true then ((members_Len.f a0).bind fun t244 => (if t244 = (t231.length : Int) then ((members_Text.f k a0).bind fun t245 => ((fuglemanref05_Text.f k a0).bind fun t246 => (if t245.toList = t246.toList then ((fuglemanref05_Of.f k t231).bind fun t247 => (some (t247 == a0))) else (some false)))) else (some false))) else (some false)) = some r := H
          have A16 := Aside0.mk A160
          clear A160
          by_cases c17 : t243 = true
          · subst c17
            have H1 : ((members_Len.f a0).bind fun t244 => (if t244 = (t231.length : Int) then ((members_Text.f k a0).bind fun t245 => ((fuglemanref05_Text.f k a0).bind fun t246 => (if t245.toList = t246.toList then ((fuglemanref05_Of.f k t231).bind fun t247 => (some (t247 == a0))) else (some false)))) else (some false))) = some r := by rw [if_pos rfl] at H; exact H
            clear H
            have H := H1
            clear H1
            replace H := Option.bind_eq_some_iff.mp H
            obtain ⟨t244, A180, H⟩ := H
            replace H : (if t244 = (t231.length : Int) then ((members_Text.f k a0).bind fun t245 => ((fuglemanref05_Text.f k a0).bind fun t246 => (if t245.toList = t246.toList then ((fuglemanref05_Of.f k t231).bind fun t247 => (some (t247 == a0))) else (some false)))) else (some false)) = some r := H
            have A18 := Aside0.mk A180
            clear A180
            by_cases c19 : t244 = (t231.length : Int)
            · rw [if_pos c19] at H
              have c19b0 : (t244 == (t231.length : Int)) = true := beq_iff_eq.mpr c19
              have c19b1 : (t244 != (t231.length : Int)) = false := bne_eq_false_iff_eq.mpr c19
              clear c19
              replace H := Option.bind_eq_some_iff.mp H
              obtain ⟨t245, A200, H⟩ := H
              replace H : ((fuglemanref05_Text.f k a0).bind fun t246 => (if t245.toList = t246.toList then ((fuglemanref05_Of.f k t231).bind fun t247 => (some (t247 == a0))) else (some false))) = some r := H
              have A20 := Aside0.mk A200
              clear A200
              replace H := Option.bind_eq_some_iff.mp H
              obtain ⟨t246, A210, H⟩ := H
              replace H : (if t245.toList = t246.toList then ((fuglemanref05_Of.f k t231).bind fun t247 => (some (t247 == a0))) else (some false)) = some r := H
              have A21 := Aside0.mk A210
              clear A210
              by_cases c22 : t245.toList = t246.toList
              · rw [if_pos c22] at H
                have c22b0 : (t245.toList == t246.toList) = true := beq_iff_eq.mpr c22
                have c22b1 : (t245.toList != t246.toList) = false := bne_eq_false_iff_eq.mpr c22
                clear c22
                replace H := Option.bind_eq_some_iff.mp H
                obtain ⟨t247, A230, H⟩ := H
                replace H : (some (t247 == a0)) = some r := H
                have A23 := Aside0.mk A230
                clear A230
                obtain rfl := Option.some.inj H
                go_enter Tryd.func4, Tryd.ntmps4
                go_wp2_with (first | ((with_reducible refine gate_callee (f := 13) rfl ?_); refine goesL_ (some 6) rfl rfl Tryd.func13 (by kernel_rfl) rfl #[] rfl (by (try simp only [List.map_toArray, List.map_cons, List.map_nil]); first | done | rfl | (simp only [List.length_drop, List.length_take]; rfl)) ?_; (with_reducible refine (fuglemanlaw05_awake.calls k  true _ A3.out ?sideG).mono ?_); (case sideG => first | exact HG.out | exact laidW_heap HG.out rfl | exact laidW_below HG.out (show Below w.heap.size w _ by repeat (first | (with_reducible first | exact HB.out | apply below_alloc | apply pw_below_drewN | apply below_drew1) | exact HB.out)) (Nat.le_refl _)); rintro e w24 ⟨rfl, hb⟩; refine ⟨_, rfl, ?_⟩; have n0_ := Aside0.mk (below_step (by repeat (first | (with_reducible first | exact HB.out | apply below_alloc | apply pw_below_drewN | apply below_drew1) | exact HB.out)) hb); clear HB; have HB := n0_; clear n0_; (try clear hb); (try clear hb2); (try clear hk); (try clear hi)) | ((with_reducible refine gate_callee (f := 21) rfl ?_); refine goesL_ (some 9) rfl rfl Tryd.func21 (by kernel_rfl) rfl #[.int .u32 a0] rfl (by (try simp only [List.map_toArray, List.map_cons, List.map_nil]); first | done | rfl | (simp only [List.length_drop, List.length_take]; rfl)) ?_; (with_reducible refine (fuglemanref05_List.calls k a0 t231 _ A5.out).mono ?_); rintro e w25 ⟨v232, rfl, ho0, hb⟩; refine ⟨_, rfl, ?_⟩; have n0_ := Aside0.mk (Kd.R_lower ho0 (below_size (by repeat (first | (with_reducible first | exact HB.out | apply below_alloc | apply pw_below_drewN | apply below_drew1) | exact HB.out)))); have n1_ := Aside0.mk (below_step (by repeat (first | (with_reducible first | exact HB.out | apply below_alloc | apply pw_below_drewN | apply below_drew1) | exact HB.out)) hb); clear HB; have HO233 := n0_; have HB := n1_; clear n0_ n1_; (try clear hb); (try clear hb2); (try clear hk); (try clear hi); (try clear ho0)) | ((with_reducible refine gate_callee (f := 22) rfl ?_); refine goesL_ (some 12) rfl rfl Tryd.func22 (by kernel_rfl) rfl #[.int .u32 a0, .int .i64 a1] rfl (by (try simp only [List.map_toArray, List.map_cons, List.map_nil]); first | done | rfl | (simp only [List.length_drop, List.length_take]; rfl)) ?_; (with_reducible refine (members_Has.calls a0 a1 t234 _ A6.out).mono ?_); rintro e w' ⟨rfl, ⟨nd, rfl⟩⟩; refine ⟨_, rfl, ?_⟩) | ((with_reducible refine gate_callee (f := 23) rfl ?_); refine goesL_ (some 15) rfl rfl Tryd.func23 (by kernel_rfl) rfl #[.int .u32 a0, .int .i64 a1] rfl (by (try simp only [List.map_toArray, List.map_cons, List.map_nil]); first | done | rfl | (simp only [List.length_drop, List.length_take]; rfl)) ?_; (with_reducible refine (fuglemanref05_Has.calls k a0 a1 t235 _ A7.out).mono ?_); rintro e w' ⟨rfl, ⟨nd, rfl⟩⟩; refine ⟨_, rfl, ?_⟩) | (go_at_call 24; (with_reducible refine (members_With.calls a0 a1 t236 _ A9.out).mono ?_); rintro e w' ⟨rfl, ⟨nd, rfl⟩⟩) | (go_at_call 25; (with_reducible refine (fuglemanref05_With.calls k a0 a1 t237 _ A10.out).mono ?_); rintro e w' ⟨rfl, ⟨nd, rfl⟩⟩) | (go_at_call 26; (with_reducible refine (members_Without.calls a0 a1 t238 _ A12.out).mono ?_); rintro e w' ⟨rfl, ⟨nd, rfl⟩⟩) | (go_at_call 27; (with_reducible refine (fuglemanref05_Without.calls k a0 a1 t239 _ A13.out).mono ?_); rintro e w26 ⟨rfl, hb⟩; have n0_ := Aside0.mk (Kd.R_below (by (with_reducible repeat (first | apply Kd.R_alloc | apply Kd.R_drewN | apply Kd.R_drew)); exact HO233.out) hb); have n1_ := Aside0.mk (below_step (by repeat (first | (with_reducible first | exact HB.out | apply below_alloc | apply pw_below_drewN | apply below_drew1) | exact HB.out)) hb); clear HO233; clear HB; have HO233 := n0_; have HB := n1_; clear n0_ n1_; (try clear hb); (try clear hb2); (try clear hk); (try clear hi)) | (go_at_call 29; (with_reducible refine (members_List.calls k a0 t240 _ A15.out ?sideG).mono ?_); (case sideG => first | exact HG.out | exact laidW_heap HG.out rfl | exact laidW_below HG.out (show Below w.heap.size w _ by repeat (first | (with_reducible first | exact HB.out | apply below_alloc | apply pw_below_drewN | apply below_drew1) | exact HB.out)) (Nat.le_refl _)); rintro e w27 ⟨v241, rfl, ho0, hb⟩; have n0_ := Aside0.mk (Kd.R_elder' (by (with_reducible repeat (first | apply Kd.R_alloc | apply Kd.R_drewN | apply Kd.R_drew)); exact HO233.out) (Kd.R_base ho0) hb); have n1_ := Aside0.mk (Kd.R_lower (Kd.R_new' ho0 (Kd.R_lt (by (with_reducible repeat (first | apply Kd.R_alloc | apply Kd.R_drewN | apply Kd.R_drew)); exact HO233.out))) (below_size (by repeat (first | (with_reducible first | exact HB.out | apply below_alloc | apply pw_below_drewN | apply below_drew1) | exact HB.out)))); have n2_ := Aside0.mk (below_step (by repeat (first | (with_reducible first | exact HB.out | apply below_alloc | apply pw_below_drewN | apply below_drew1) | exact HB.out)) hb); clear HO233; clear HB; have HO233 := n0_; have HO242 := n1_; have HB := n2_; clear n0_ n1_ n2_; (try clear hb); (try clear hb2); (try clear hk); (try clear hi); (try clear ho0); obtain ⟨Ao28, co28, eo28⟩ := Kd.R_slice HO242.out; subst eo28; obtain ⟨Ao29, co29, eo29⟩ := Kd.R_slice HO233.out; subst eo29) | (go_at_call 28; (with_reducible refine (fuglemanlaw05_list.calls k _ _ t240 _ _ t231 true _ ?side1 ?side2 ?side3 ?side4 A16.out).mono ?_); (case side1 => repeat (first | exact (Kd.R_reads' HO242.out).2.2 | (with_reducible refine Kd.C_alloc ?_ _) | (with_reducible refine Kd.C_drewN ?_ _) | (with_reducible refine Kd.C_drew ?_))); (case side2 => exact (Kd.R_reads' HO242.out).2.1); (case side3 => repeat (first | exact (Kd.R_reads' HO233.out).2.2 | (with_reducible refine Kd.C_alloc ?_ _) | (with_reducible refine Kd.C_drewN ?_ _) | (with_reducible refine Kd.C_drew ?_))); (case side4 => exact (Kd.R_reads' HO233.out).2.1); rintro e w' ⟨rfl, ⟨nd, rfl⟩⟩) | (go_at_call 30; (with_reducible refine (members_Len.calls a0 t244 _ A18.out).mono ?_); rintro e w' ⟨rfl, ⟨nd, rfl⟩⟩) | (go_at_call 31; (with_reducible refine (members_Text.calls k a0 t245 _ A20.out ?sideG).mono ?_); (case sideG => first | exact HG.out | exact laidW_heap HG.out rfl | exact laidW_below HG.out (show Below w.heap.size w _ by repeat (first | (with_reducible first | exact HB.out | apply below_alloc | apply pw_below_drewN | apply below_drew1) | exact HB.out)) (Nat.le_refl _)); rintro e w30 ⟨rfl, hb⟩; have n0_ := Aside0.mk (Kd.R_below (by (with_reducible repeat (first | apply Kd.R_alloc | apply Kd.R_drewN | apply Kd.R_drew)); exact HO233.out) hb); have n1_ := Aside0.mk (Kd.R_below (by (with_reducible repeat (first | apply Kd.R_alloc | apply Kd.R_drewN | apply Kd.R_drew)); exact HO242.out) hb); have n2_ := Aside0.mk (below_step (by repeat (first | (with_reducible first | exact HB.out | apply below_alloc | apply pw_below_drewN | apply below_drew1) | exact HB.out)) hb); clear HO233; clear HO242; clear HB; have HO233 := n0_; have HO242 := n1_; have HB := n2_; clear n0_ n1_ n2_; (try clear hb); (try clear hb2); (try clear hk); (try clear hi)) | (go_at_call 32; (with_reducible refine (fuglemanref05_Text.calls k a0 t246 _ A21.out).mono ?_); rintro e w31 ⟨rfl, hb⟩; have n0_ := Aside0.mk (Kd.R_below (by (with_reducible repeat (first | apply Kd.R_alloc | apply Kd.R_drewN | apply Kd.R_drew)); exact HO233.out) hb); have n1_ := Aside0.mk (Kd.R_below (by (with_reducible repeat (first | apply Kd.R_alloc | apply Kd.R_drewN | apply Kd.R_drew)); exact HO242.out) hb); have n2_ := Aside0.mk (below_step (by repeat (first | (with_reducible first | exact HB.out | apply below_alloc | apply pw_below_drewN | apply below_drew1) | exact HB.out)) hb); clear HO233; clear HO242; clear HB; have HO233 := n0_; have HO242 := n1_; have HB := n2_; clear n0_ n1_ n2_; (try clear hb); (try clear hb2); (try clear hk); (try clear hi)) | (go_at_call 33; (with_reducible refine (fuglemanref05_Of.calls k _ _ t231 t247 _ ?side1 ?side2 A23.out).mono ?_); (case side1 => repeat (first | exact (Kd.R_reads' HO233.out).2.2 | (with_reducible refine Kd.C_alloc ?_ _) | (with_reducible refine Kd.C_drewN ?_ _) | (with_reducible refine Kd.C_drew ?_))); (case side2 => exact (Kd.R_reads' HO233.out).2.1); rintro e w' ⟨rfl, ⟨nd, rfl⟩⟩))
                go_ret
                exact ⟨by first | rfl | (simp [errW_none, errW_some] <;> rfl) | (simp [*, errW_none, errW_some] <;> rfl), by repeat (first | (with_reducible first | exact HB.out | apply below_alloc | apply pw_below_drewN | apply below_drew1) | exact HB.out)⟩
              · rw [if_neg c22] at H
                have c22b0 : (t245.toList == t246.toList) = false := beq_eq_false_iff_ne.mpr c22
                have c22b1 : (t245.toList != t246.toList) = true := bne_iff_ne.mpr c22
                obtain rfl := Option.some.inj H
                go_enter Tryd.func4, Tryd.ntmps4
                go_wp2_with (first | ((with_reducible refine gate_callee (f := 13) rfl ?_); refine goesL_ (some 6) rfl rfl Tryd.func13 (by kernel_rfl) rfl #[] rfl (by (try simp only [List.map_toArray, List.map_cons, List.map_nil]); first | done | rfl | (simp only [List.length_drop, List.length_take]; rfl)) ?_; (with_reducible refine (fuglemanlaw05_awake.calls k  true _ A3.out ?sideG).mono ?_); (case sideG => first | exact HG.out | exact laidW_heap HG.out rfl | exact laidW_below HG.out (show Below w.heap.size w _ by repeat (first | (with_reducible first | exact HB.out | apply below_alloc | apply pw_below_drewN | apply below_drew1) | exact HB.out)) (Nat.le_refl _)); rintro e w32 ⟨rfl, hb⟩; refine ⟨_, rfl, ?_⟩; have n0_ := Aside0.mk (below_step (by repeat (first | (with_reducible first | exact HB.out | apply below_alloc | apply pw_below_drewN | apply below_drew1) | exact HB.out)) hb); clear HB; have HB := n0_; clear n0_; (try clear hb); (try clear hb2); (try clear hk); (try clear hi)) | ((with_reducible refine gate_callee (f := 21) rfl ?_); refine goesL_ (some 9) rfl rfl Tryd.func21 (by kernel_rfl) rfl #[.int .u32 a0] rfl (by (try simp only [List.map_toArray, List.map_cons, List.map_nil]); first | done | rfl | (simp only [List.length_drop, List.length_take]; rfl)) ?_; (with_reducible refine (fuglemanref05_List.calls k a0 t231 _ A5.out).mono ?_); rintro e w33 ⟨v232, rfl, ho0, hb⟩; refine ⟨_, rfl, ?_⟩; have n0_ := Aside0.mk (Kd.R_lower ho0 (below_size (by repeat (first | (with_reducible first | exact HB.out | apply below_alloc | apply pw_below_drewN | apply below_drew1) | exact HB.out)))); have n1_ := Aside0.mk (below_step (by repeat (first | (with_reducible first | exact HB.out | apply below_alloc | apply pw_below_drewN | apply below_drew1) | exact HB.out)) hb); clear HB; have HO233 := n0_; have HB := n1_; clear n0_ n1_; (try clear hb); (try clear hb2); (try clear hk); (try clear hi); (try clear ho0)) | ((with_reducible refine gate_callee (f := 22) rfl ?_); refine goesL_ (some 12) rfl rfl Tryd.func22 (by kernel_rfl) rfl #[.int .u32 a0, .int .i64 a1] rfl (by (try simp only [List.map_toArray, List.map_cons, List.map_nil]); first | done | rfl | (simp only [List.length_drop, List.length_take]; rfl)) ?_; (with_reducible refine (members_Has.calls a0 a1 t234 _ A6.out).mono ?_); rintro e w' ⟨rfl, ⟨nd, rfl⟩⟩; refine ⟨_, rfl, ?_⟩) | ((with_reducible refine gate_callee (f := 23) rfl ?_); refine goesL_ (some 15) rfl rfl Tryd.func23 (by kernel_rfl) rfl #[.int .u32 a0, .int .i64 a1] rfl (by (try simp only [List.map_toArray, List.map_cons, List.map_nil]); first | done | rfl | (simp only [List.length_drop, List.length_take]; rfl)) ?_; (with_reducible refine (fuglemanref05_Has.calls k a0 a1 t235 _ A7.out).mono ?_); rintro e w' ⟨rfl, ⟨nd, rfl⟩⟩; refine ⟨_, rfl, ?_⟩) | (go_at_call 24; (with_reducible refine (members_With.calls a0 a1 t236 _ A9.out).mono ?_); rintro e w' ⟨rfl, ⟨nd, rfl⟩⟩) | (go_at_call 25; (with_reducible refine (fuglemanref05_With.calls k a0 a1 t237 _ A10.out).mono ?_); rintro e w' ⟨rfl, ⟨nd, rfl⟩⟩) | (go_at_call 26; (with_reducible refine (members_Without.calls a0 a1 t238 _ A12.out).mono ?_); rintro e w' ⟨rfl, ⟨nd, rfl⟩⟩) | (go_at_call 27; (with_reducible refine (fuglemanref05_Without.calls k a0 a1 t239 _ A13.out).mono ?_); rintro e w34 ⟨rfl, hb⟩; have n0_ := Aside0.mk (Kd.R_below (by (with_reducible repeat (first | apply Kd.R_alloc | apply Kd.R_drewN | apply Kd.R_drew)); exact HO233.out) hb); have n1_ := Aside0.mk (below_step (by repeat (first | (with_reducible first | exact HB.out | apply below_alloc | apply pw_below_drewN | apply below_drew1) | exact HB.out)) hb); clear HO233; clear HB; have HO233 := n0_; have HB := n1_; clear n0_ n1_; (try clear hb); (try clear hb2); (try clear hk); (try clear hi)) | (go_at_call 29; (with_reducible refine (members_List.calls k a0 t240 _ A15.out ?sideG).mono ?_); (case sideG => first | exact HG.out | exact laidW_heap HG.out rfl | exact laidW_below HG.out (show Below w.heap.size w _ by repeat (first | (with_reducible first | exact HB.out | apply below_alloc | apply pw_below_drewN | apply below_drew1) | exact HB.out)) (Nat.le_refl _)); rintro e w35 ⟨v241, rfl, ho0, hb⟩; have n0_ := Aside0.mk (Kd.R_elder' (by (with_reducible repeat (first | apply Kd.R_alloc | apply Kd.R_drewN | apply Kd.R_drew)); exact HO233.out) (Kd.R_base ho0) hb); have n1_ := Aside0.mk (Kd.R_lower (Kd.R_new' ho0 (Kd.R_lt (by (with_reducible repeat (first | apply Kd.R_alloc | apply Kd.R_drewN | apply Kd.R_drew)); exact HO233.out))) (below_size (by repeat (first | (with_reducible first | exact HB.out | apply below_alloc | apply pw_below_drewN | apply below_drew1) | exact HB.out)))); have n2_ := Aside0.mk (below_step (by repeat (first | (with_reducible first | exact HB.out | apply below_alloc | apply pw_below_drewN | apply below_drew1) | exact HB.out)) hb); clear HO233; clear HB; have HO233 := n0_; have HO242 := n1_; have HB := n2_; clear n0_ n1_ n2_; (try clear hb); (try clear hb2); (try clear hk); (try clear hi); (try clear ho0); obtain ⟨Ao36, co36, eo36⟩ := Kd.R_slice HO242.out; subst eo36; obtain ⟨Ao37, co37, eo37⟩ := Kd.R_slice HO233.out; subst eo37) | (go_at_call 28; (with_reducible refine (fuglemanlaw05_list.calls k _ _ t240 _ _ t231 true _ ?side1 ?side2 ?side3 ?side4 A16.out).mono ?_); (case side1 => repeat (first | exact (Kd.R_reads' HO242.out).2.2 | (with_reducible refine Kd.C_alloc ?_ _) | (with_reducible refine Kd.C_drewN ?_ _) | (with_reducible refine Kd.C_drew ?_))); (case side2 => exact (Kd.R_reads' HO242.out).2.1); (case side3 => repeat (first | exact (Kd.R_reads' HO233.out).2.2 | (with_reducible refine Kd.C_alloc ?_ _) | (with_reducible refine Kd.C_drewN ?_ _) | (with_reducible refine Kd.C_drew ?_))); (case side4 => exact (Kd.R_reads' HO233.out).2.1); rintro e w' ⟨rfl, ⟨nd, rfl⟩⟩) | (go_at_call 30; (with_reducible refine (members_Len.calls a0 t244 _ A18.out).mono ?_); rintro e w' ⟨rfl, ⟨nd, rfl⟩⟩) | (go_at_call 31; (with_reducible refine (members_Text.calls k a0 t245 _ A20.out ?sideG).mono ?_); (case sideG => first | exact HG.out | exact laidW_heap HG.out rfl | exact laidW_below HG.out (show Below w.heap.size w _ by repeat (first | (with_reducible first | exact HB.out | apply below_alloc | apply pw_below_drewN | apply below_drew1) | exact HB.out)) (Nat.le_refl _)); rintro e w38 ⟨rfl, hb⟩; have n0_ := Aside0.mk (Kd.R_below (by (with_reducible repeat (first | apply Kd.R_alloc | apply Kd.R_drewN | apply Kd.R_drew)); exact HO233.out) hb); have n1_ := Aside0.mk (Kd.R_below (by (with_reducible repeat (first | apply Kd.R_alloc | apply Kd.R_drewN | apply Kd.R_drew)); exact HO242.out) hb); have n2_ := Aside0.mk (below_step (by repeat (first | (with_reducible first | exact HB.out | apply below_alloc | apply pw_below_drewN | apply below_drew1) | exact HB.out)) hb); clear HO233; clear HO242; clear HB; have HO233 := n0_; have HO242 := n1_; have HB := n2_; clear n0_ n1_ n2_; (try clear hb); (try clear hb2); (try clear hk); (try clear hi)) | (go_at_call 32; (with_reducible refine (fuglemanref05_Text.calls k a0 t246 _ A21.out).mono ?_); rintro e w39 ⟨rfl, hb⟩; have n0_ := Aside0.mk (Kd.R_below (by (with_reducible repeat (first | apply Kd.R_alloc | apply Kd.R_drewN | apply Kd.R_drew)); exact HO233.out) hb); have n1_ := Aside0.mk (Kd.R_below (by (with_reducible repeat (first | apply Kd.R_alloc | apply Kd.R_drewN | apply Kd.R_drew)); exact HO242.out) hb); have n2_ := Aside0.mk (below_step (by repeat (first | (with_reducible first | exact HB.out | apply below_alloc | apply pw_below_drewN | apply below_drew1) | exact HB.out)) hb); clear HO233; clear HO242; clear HB; have HO233 := n0_; have HO242 := n1_; have HB := n2_; clear n0_ n1_ n2_; (try clear hb); (try clear hb2); (try clear hk); (try clear hi)))
                go_ret
                exact ⟨by first | rfl | (simp [errW_none, errW_some] <;> rfl) | (simp [*, errW_none, errW_some] <;> rfl), by repeat (first | (with_reducible first | exact HB.out | apply below_alloc | apply pw_below_drewN | apply below_drew1) | exact HB.out)⟩
            · rw [if_neg c19] at H
              have c19b0 : (t244 == (t231.length : Int)) = false := beq_eq_false_iff_ne.mpr c19
              have c19b1 : (t244 != (t231.length : Int)) = true := bne_iff_ne.mpr c19
              obtain rfl := Option.some.inj H
              go_enter Tryd.func4, Tryd.ntmps4
              go_wp2_with (first | ((with_reducible refine gate_callee (f := 13) rfl ?_); refine goesL_ (some 6) rfl rfl Tryd.func13 (by kernel_rfl) rfl #[] rfl (by (try simp only [List.map_toArray, List.map_cons, List.map_nil]); first | done | rfl | (simp only [List.length_drop, List.length_take]; rfl)) ?_; (with_reducible refine (fuglemanlaw05_awake.calls k  true _ A3.out ?sideG).mono ?_); (case sideG => first | exact HG.out | exact laidW_heap HG.out rfl | exact laidW_below HG.out (show Below w.heap.size w _ by repeat (first | (with_reducible first | exact HB.out | apply below_alloc | apply pw_below_drewN | apply below_drew1) | exact HB.out)) (Nat.le_refl _)); rintro e w40 ⟨rfl, hb⟩; refine ⟨_, rfl, ?_⟩; have n0_ := Aside0.mk (below_step (by repeat (first | (with_reducible first | exact HB.out | apply below_alloc | apply pw_below_drewN | apply below_drew1) | exact HB.out)) hb); clear HB; have HB := n0_; clear n0_; (try clear hb); (try clear hb2); (try clear hk); (try clear hi)) | ((with_reducible refine gate_callee (f := 21) rfl ?_); refine goesL_ (some 9) rfl rfl Tryd.func21 (by kernel_rfl) rfl #[.int .u32 a0] rfl (by (try simp only [List.map_toArray, List.map_cons, List.map_nil]); first | done | rfl | (simp only [List.length_drop, List.length_take]; rfl)) ?_; (with_reducible refine (fuglemanref05_List.calls k a0 t231 _ A5.out).mono ?_); rintro e w41 ⟨v232, rfl, ho0, hb⟩; refine ⟨_, rfl, ?_⟩; have n0_ := Aside0.mk (Kd.R_lower ho0 (below_size (by repeat (first | (with_reducible first | exact HB.out | apply below_alloc | apply pw_below_drewN | apply below_drew1) | exact HB.out)))); have n1_ := Aside0.mk (below_step (by repeat (first | (with_reducible first | exact HB.out | apply below_alloc | apply pw_below_drewN | apply below_drew1) | exact HB.out)) hb); clear HB; have HO233 := n0_; have HB := n1_; clear n0_ n1_; (try clear hb); (try clear hb2); (try clear hk); (try clear hi); (try clear ho0)) | ((with_reducible refine gate_callee (f := 22) rfl ?_); refine goesL_ (some 12) rfl rfl Tryd.func22 (by kernel_rfl) rfl #[.int .u32 a0, .int .i64 a1] rfl (by (try simp only [List.map_toArray, List.map_cons, List.map_nil]); first | done | rfl | (simp only [List.length_drop, List.length_take]; rfl)) ?_; (with_reducible refine (members_Has.calls a0 a1 t234 _ A6.out).mono ?_); rintro e w' ⟨rfl, ⟨nd, rfl⟩⟩; refine ⟨_, rfl, ?_⟩) | ((with_reducible refine gate_callee (f := 23) rfl ?_); refine goesL_ (some 15) rfl rfl Tryd.func23 (by kernel_rfl) rfl #[.int .u32 a0, .int .i64 a1] rfl (by (try simp only [List.map_toArray, List.map_cons, List.map_nil]); first | done | rfl | (simp only [List.length_drop, List.length_take]; rfl)) ?_; (with_reducible refine (fuglemanref05_Has.calls k a0 a1 t235 _ A7.out).mono ?_); rintro e w' ⟨rfl, ⟨nd, rfl⟩⟩; refine ⟨_, rfl, ?_⟩) | (go_at_call 24; (with_reducible refine (members_With.calls a0 a1 t236 _ A9.out).mono ?_); rintro e w' ⟨rfl, ⟨nd, rfl⟩⟩) | (go_at_call 25; (with_reducible refine (fuglemanref05_With.calls k a0 a1 t237 _ A10.out).mono ?_); rintro e w' ⟨rfl, ⟨nd, rfl⟩⟩) | (go_at_call 26; (with_reducible refine (members_Without.calls a0 a1 t238 _ A12.out).mono ?_); rintro e w' ⟨rfl, ⟨nd, rfl⟩⟩) | (go_at_call 27; (with_reducible refine (fuglemanref05_Without.calls k a0 a1 t239 _ A13.out).mono ?_); rintro e w42 ⟨rfl, hb⟩; have n0_ := Aside0.mk (Kd.R_below (by (with_reducible repeat (first | apply Kd.R_alloc | apply Kd.R_drewN | apply Kd.R_drew)); exact HO233.out) hb); have n1_ := Aside0.mk (below_step (by repeat (first | (with_reducible first | exact HB.out | apply below_alloc | apply pw_below_drewN | apply below_drew1) | exact HB.out)) hb); clear HO233; clear HB; have HO233 := n0_; have HB := n1_; clear n0_ n1_; (try clear hb); (try clear hb2); (try clear hk); (try clear hi)) | (go_at_call 29; (with_reducible refine (members_List.calls k a0 t240 _ A15.out ?sideG).mono ?_); (case sideG => first | exact HG.out | exact laidW_heap HG.out rfl | exact laidW_below HG.out (show Below w.heap.size w _ by repeat (first | (with_reducible first | exact HB.out | apply below_alloc | apply pw_below_drewN | apply below_drew1) | exact HB.out)) (Nat.le_refl _)); rintro e w43 ⟨v241, rfl, ho0, hb⟩; have n0_ := Aside0.mk (Kd.R_elder' (by (with_reducible repeat (first | apply Kd.R_alloc | apply Kd.R_drewN | apply Kd.R_drew)); exact HO233.out) (Kd.R_base ho0) hb); have n1_ := Aside0.mk (Kd.R_lower (Kd.R_new' ho0 (Kd.R_lt (by (with_reducible repeat (first | apply Kd.R_alloc | apply Kd.R_drewN | apply Kd.R_drew)); exact HO233.out))) (below_size (by repeat (first | (with_reducible first | exact HB.out | apply below_alloc | apply pw_below_drewN | apply below_drew1) | exact HB.out)))); have n2_ := Aside0.mk (below_step (by repeat (first | (with_reducible first | exact HB.out | apply below_alloc | apply pw_below_drewN | apply below_drew1) | exact HB.out)) hb); clear HO233; clear HB; have HO233 := n0_; have HO242 := n1_; have HB := n2_; clear n0_ n1_ n2_; (try clear hb); (try clear hb2); (try clear hk); (try clear hi); (try clear ho0); obtain ⟨Ao44, co44, eo44⟩ := Kd.R_slice HO242.out; subst eo44; obtain ⟨Ao45, co45, eo45⟩ := Kd.R_slice HO233.out; subst eo45) | (go_at_call 28; (with_reducible refine (fuglemanlaw05_list.calls k _ _ t240 _ _ t231 true _ ?side1 ?side2 ?side3 ?side4 A16.out).mono ?_); (case side1 => repeat (first | exact (Kd.R_reads' HO242.out).2.2 | (with_reducible refine Kd.C_alloc ?_ _) | (with_reducible refine Kd.C_drewN ?_ _) | (with_reducible refine Kd.C_drew ?_))); (case side2 => exact (Kd.R_reads' HO242.out).2.1); (case side3 => repeat (first | exact (Kd.R_reads' HO233.out).2.2 | (with_reducible refine Kd.C_alloc ?_ _) | (with_reducible refine Kd.C_drewN ?_ _) | (with_reducible refine Kd.C_drew ?_))); (case side4 => exact (Kd.R_reads' HO233.out).2.1); rintro e w' ⟨rfl, ⟨nd, rfl⟩⟩) | (go_at_call 30; (with_reducible refine (members_Len.calls a0 t244 _ A18.out).mono ?_); rintro e w' ⟨rfl, ⟨nd, rfl⟩⟩))
              go_ret
              exact ⟨by first | rfl | (simp [errW_none, errW_some] <;> rfl) | (simp [*, errW_none, errW_some] <;> rfl), by repeat (first | (with_reducible first | exact HB.out | apply below_alloc | apply pw_below_drewN | apply below_drew1) | exact HB.out)⟩
          · replace c17 := Bool.eq_false_iff.mpr c17
            subst c17
            have H1 : (some false) = some r := by rw [if_neg (show ¬ (false = true) by decide)] at H; exact H
            clear H
            have H := H1
            clear H1
            obtain rfl := Option.some.inj H
            go_enter Tryd.func4, Tryd.ntmps4
            go_wp2_with (first | ((with_reducible refine gate_callee (f := 13) rfl ?_); refine goesL_ (some 6) rfl rfl Tryd.func13 (by kernel_rfl) rfl #[] rfl (by (try simp only [List.map_toArray, List.map_cons, List.map_nil]); first | done | rfl | (simp only [List.length_drop, List.length_take]; rfl)) ?_; (with_reducible refine (fuglemanlaw05_awake.calls k  true _ A3.out ?sideG).mono ?_); (case sideG => first | exact HG.out | exact laidW_heap HG.out rfl | exact laidW_below HG.out (show Below w.heap.size w _ by repeat (first | (with_reducible first | exact HB.out | apply below_alloc | apply pw_below_drewN | apply below_drew1) | exact HB.out)) (Nat.le_refl _)); rintro e w46 ⟨rfl, hb⟩; refine ⟨_, rfl, ?_⟩; have n0_ := Aside0.mk (below_step (by repeat (first | (with_reducible first | exact HB.out | apply below_alloc | apply pw_below_drewN | apply below_drew1) | exact HB.out)) hb); clear HB; have HB := n0_; clear n0_; (try clear hb); (try clear hb2); (try clear hk); (try clear hi)) | ((with_reducible refine gate_callee (f := 21) rfl ?_); refine goesL_ (some 9) rfl rfl Tryd.func21 (by kernel_rfl) rfl #[.int .u32 a0] rfl (by (try simp only [List.map_toArray, List.map_cons, List.map_nil]); first | done | rfl | (simp only [List.length_drop, List.length_take]; rfl)) ?_; (with_reducible refine (fuglemanref05_List.calls k a0 t231 _ A5.out).mono ?_); rintro e w47 ⟨v232, rfl, ho0, hb⟩; refine ⟨_, rfl, ?_⟩; have n0_ := Aside0.mk (Kd.R_lower ho0 (below_size (by repeat (first | (with_reducible first | exact HB.out | apply below_alloc | apply pw_below_drewN | apply below_drew1) | exact HB.out)))); have n1_ := Aside0.mk (below_step (by repeat (first | (with_reducible first | exact HB.out | apply below_alloc | apply pw_below_drewN | apply below_drew1) | exact HB.out)) hb); clear HB; have HO233 := n0_; have HB := n1_; clear n0_ n1_; (try clear hb); (try clear hb2); (try clear hk); (try clear hi); (try clear ho0)) | ((with_reducible refine gate_callee (f := 22) rfl ?_); refine goesL_ (some 12) rfl rfl Tryd.func22 (by kernel_rfl) rfl #[.int .u32 a0, .int .i64 a1] rfl (by (try simp only [List.map_toArray, List.map_cons, List.map_nil]); first | done | rfl | (simp only [List.length_drop, List.length_take]; rfl)) ?_; (with_reducible refine (members_Has.calls a0 a1 t234 _ A6.out).mono ?_); rintro e w' ⟨rfl, ⟨nd, rfl⟩⟩; refine ⟨_, rfl, ?_⟩) | ((with_reducible refine gate_callee (f := 23) rfl ?_); refine goesL_ (some 15) rfl rfl Tryd.func23 (by kernel_rfl) rfl #[.int .u32 a0, .int .i64 a1] rfl (by (try simp only [List.map_toArray, List.map_cons, List.map_nil]); first | done | rfl | (simp only [List.length_drop, List.length_take]; rfl)) ?_; (with_reducible refine (fuglemanref05_Has.calls k a0 a1 t235 _ A7.out).mono ?_); rintro e w' ⟨rfl, ⟨nd, rfl⟩⟩; refine ⟨_, rfl, ?_⟩) | (go_at_call 24; (with_reducible refine (members_With.calls a0 a1 t236 _ A9.out).mono ?_); rintro e w' ⟨rfl, ⟨nd, rfl⟩⟩) | (go_at_call 25; (with_reducible refine (fuglemanref05_With.calls k a0 a1 t237 _ A10.out).mono ?_); rintro e w' ⟨rfl, ⟨nd, rfl⟩⟩) | (go_at_call 26; (with_reducible refine (members_Without.calls a0 a1 t238 _ A12.out).mono ?_); rintro e w' ⟨rfl, ⟨nd, rfl⟩⟩) | (go_at_call 27; (with_reducible refine (fuglemanref05_Without.calls k a0 a1 t239 _ A13.out).mono ?_); rintro e w48 ⟨rfl, hb⟩; have n0_ := Aside0.mk (Kd.R_below (by (with_reducible repeat (first | apply Kd.R_alloc | apply Kd.R_drewN | apply Kd.R_drew)); exact HO233.out) hb); have n1_ := Aside0.mk (below_step (by repeat (first | (with_reducible first | exact HB.out | apply below_alloc | apply pw_below_drewN | apply below_drew1) | exact HB.out)) hb); clear HO233; clear HB; have HO233 := n0_; have HB := n1_; clear n0_ n1_; (try clear hb); (try clear hb2); (try clear hk); (try clear hi)) | (go_at_call 29; (with_reducible refine (members_List.calls k a0 t240 _ A15.out ?sideG).mono ?_); (case sideG => first | exact HG.out | exact laidW_heap HG.out rfl | exact laidW_below HG.out (show Below w.heap.size w _ by repeat (first | (with_reducible first | exact HB.out | apply below_alloc | apply pw_below_drewN | apply below_drew1) | exact HB.out)) (Nat.le_refl _)); rintro e w49 ⟨v241, rfl, ho0, hb⟩; have n0_ := Aside0.mk (Kd.R_elder' (by (with_reducible repeat (first | apply Kd.R_alloc | apply Kd.R_drewN | apply Kd.R_drew)); exact HO233.out) (Kd.R_base ho0) hb); have n1_ := Aside0.mk (Kd.R_lower (Kd.R_new' ho0 (Kd.R_lt (by (with_reducible repeat (first | apply Kd.R_alloc | apply Kd.R_drewN | apply Kd.R_drew)); exact HO233.out))) (below_size (by repeat (first | (with_reducible first | exact HB.out | apply below_alloc | apply pw_below_drewN | apply below_drew1) | exact HB.out)))); have n2_ := Aside0.mk (below_step (by repeat (first | (with_reducible first | exact HB.out | apply below_alloc | apply pw_below_drewN | apply below_drew1) | exact HB.out)) hb); clear HO233; clear HB; have HO233 := n0_; have HO242 := n1_; have HB := n2_; clear n0_ n1_ n2_; (try clear hb); (try clear hb2); (try clear hk); (try clear hi); (try clear ho0); obtain ⟨Ao50, co50, eo50⟩ := Kd.R_slice HO242.out; subst eo50; obtain ⟨Ao51, co51, eo51⟩ := Kd.R_slice HO233.out; subst eo51) | (go_at_call 28; (with_reducible refine (fuglemanlaw05_list.calls k _ _ t240 _ _ t231 false _ ?side1 ?side2 ?side3 ?side4 A16.out).mono ?_); (case side1 => repeat (first | exact (Kd.R_reads' HO242.out).2.2 | (with_reducible refine Kd.C_alloc ?_ _) | (with_reducible refine Kd.C_drewN ?_ _) | (with_reducible refine Kd.C_drew ?_))); (case side2 => exact (Kd.R_reads' HO242.out).2.1); (case side3 => repeat (first | exact (Kd.R_reads' HO233.out).2.2 | (with_reducible refine Kd.C_alloc ?_ _) | (with_reducible refine Kd.C_drewN ?_ _) | (with_reducible refine Kd.C_drew ?_))); (case side4 => exact (Kd.R_reads' HO233.out).2.1); rintro e w' ⟨rfl, ⟨nd, rfl⟩⟩))
            go_ret
            exact ⟨by first | rfl | (simp [errW_none, errW_some] <;> rfl) | (simp [*, errW_none, errW_some] <;> rfl), by repeat (first | (with_reducible first | exact HB.out | apply below_alloc | apply pw_below_drewN | apply below_drew1) | exact HB.out)⟩
        · rw [if_neg c14] at H
          have c14b0 : (t238 == t239) = false := beq_eq_false_iff_ne.mpr c14
          have c14b1 : (t238 != t239) = true := bne_iff_ne.mpr c14
          obtain rfl := Option.some.inj H
          go_enter Tryd.func4, Tryd.ntmps4
          go_wp2_with (first | ((with_reducible refine gate_callee (f := 13) rfl ?_); refine goesL_ (some 6) rfl rfl Tryd.func13 (by kernel_rfl) rfl #[] rfl (by (try simp only [List.map_toArray, List.map_cons, List.map_nil]); first | done | rfl | (simp only [List.length_drop, List.length_take]; rfl)) ?_; (with_reducible refine (fuglemanlaw05_awake.calls k  true _ A3.out ?sideG).mono ?_); (case sideG => first | exact HG.out | exact laidW_heap HG.out rfl | exact laidW_below HG.out (show Below w.heap.size w _ by repeat (first | (with_reducible first | exact HB.out | apply below_alloc | apply pw_below_drewN | apply below_drew1) | exact HB.out)) (Nat.le_refl _)); rintro e w52 ⟨rfl, hb⟩; refine ⟨_, rfl, ?_⟩; have n0_ := Aside0.mk (below_step (by repeat (first | (with_reducible first | exact HB.out | apply below_alloc | apply pw_below_drewN | apply below_drew1) | exact HB.out)) hb); clear HB; have HB := n0_; clear n0_; (try clear hb); (try clear hb2); (try clear hk); (try clear hi)) | ((with_reducible refine gate_callee (f := 21) rfl ?_); refine goesL_ (some 9) rfl rfl Tryd.func21 (by kernel_rfl) rfl #[.int .u32 a0] rfl (by (try simp only [List.map_toArray, List.map_cons, List.map_nil]); first | done | rfl | (simp only [List.length_drop, List.length_take]; rfl)) ?_; (with_reducible refine (fuglemanref05_List.calls k a0 t231 _ A5.out).mono ?_); rintro e w53 ⟨v232, rfl, ho0, hb⟩; refine ⟨_, rfl, ?_⟩; have n0_ := Aside0.mk (Kd.R_lower ho0 (below_size (by repeat (first | (with_reducible first | exact HB.out | apply below_alloc | apply pw_below_drewN | apply below_drew1) | exact HB.out)))); have n1_ := Aside0.mk (below_step (by repeat (first | (with_reducible first | exact HB.out | apply below_alloc | apply pw_below_drewN | apply below_drew1) | exact HB.out)) hb); clear HB; have HO233 := n0_; have HB := n1_; clear n0_ n1_; (try clear hb); (try clear hb2); (try clear hk); (try clear hi); (try clear ho0)) | ((with_reducible refine gate_callee (f := 22) rfl ?_); refine goesL_ (some 12) rfl rfl Tryd.func22 (by kernel_rfl) rfl #[.int .u32 a0, .int .i64 a1] rfl (by (try simp only [List.map_toArray, List.map_cons, List.map_nil]); first | done | rfl | (simp only [List.length_drop, List.length_take]; rfl)) ?_; (with_reducible refine (members_Has.calls a0 a1 t234 _ A6.out).mono ?_); rintro e w' ⟨rfl, ⟨nd, rfl⟩⟩; refine ⟨_, rfl, ?_⟩) | ((with_reducible refine gate_callee (f := 23) rfl ?_); refine goesL_ (some 15) rfl rfl Tryd.func23 (by kernel_rfl) rfl #[.int .u32 a0, .int .i64 a1] rfl (by (try simp only [List.map_toArray, List.map_cons, List.map_nil]); first | done | rfl | (simp only [List.length_drop, List.length_take]; rfl)) ?_; (with_reducible refine (fuglemanref05_Has.calls k a0 a1 t235 _ A7.out).mono ?_); rintro e w' ⟨rfl, ⟨nd, rfl⟩⟩; refine ⟨_, rfl, ?_⟩) | (go_at_call 24; (with_reducible refine (members_With.calls a0 a1 t236 _ A9.out).mono ?_); rintro e w' ⟨rfl, ⟨nd, rfl⟩⟩) | (go_at_call 25; (with_reducible refine (fuglemanref05_With.calls k a0 a1 t237 _ A10.out).mono ?_); rintro e w' ⟨rfl, ⟨nd, rfl⟩⟩) | (go_at_call 26; (with_reducible refine (members_Without.calls a0 a1 t238 _ A12.out).mono ?_); rintro e w' ⟨rfl, ⟨nd, rfl⟩⟩) | (go_at_call 27; (with_reducible refine (fuglemanref05_Without.calls k a0 a1 t239 _ A13.out).mono ?_); rintro e w54 ⟨rfl, hb⟩; have n0_ := Aside0.mk (Kd.R_below (by (with_reducible repeat (first | apply Kd.R_alloc | apply Kd.R_drewN | apply Kd.R_drew)); exact HO233.out) hb); have n1_ := Aside0.mk (below_step (by repeat (first | (with_reducible first | exact HB.out | apply below_alloc | apply pw_below_drewN | apply below_drew1) | exact HB.out)) hb); clear HO233; clear HB; have HO233 := n0_; have HB := n1_; clear n0_ n1_; (try clear hb); (try clear hb2); (try clear hk); (try clear hi)))
          go_ret
          exact ⟨by first | rfl | (simp [errW_none, errW_some] <;> rfl) | (simp [*, errW_none, errW_some] <;> rfl), by repeat (first | (with_reducible first | exact HB.out | apply below_alloc | apply pw_below_drewN | apply below_drew1) | exact HB.out)⟩
      · rw [if_neg c11] at H
        have c11b0 : (t236 == t237) = false := beq_eq_false_iff_ne.mpr c11
        have c11b1 : (t236 != t237) = true := bne_iff_ne.mpr c11
        obtain rfl := Option.some.inj H
        go_enter Tryd.func4, Tryd.ntmps4
        go_wp2_with (first | ((with_reducible refine gate_callee (f := 13) rfl ?_); refine goesL_ (some 6) rfl rfl Tryd.func13 (by kernel_rfl) rfl #[] rfl (by (try simp only [List.map_toArray, List.map_cons, List.map_nil]); first | done | rfl | (simp only [List.length_drop, List.length_take]; rfl)) ?_; (with_reducible refine (fuglemanlaw05_awake.calls k  true _ A3.out ?sideG).mono ?_); (case sideG => first | exact HG.out | exact laidW_heap HG.out rfl | exact laidW_below HG.out (show Below w.heap.size w _ by repeat (first | (with_reducible first | exact HB.out | apply below_alloc | apply pw_below_drewN | apply below_drew1) | exact HB.out)) (Nat.le_refl _)); rintro e w55 ⟨rfl, hb⟩; refine ⟨_, rfl, ?_⟩; have n0_ := Aside0.mk (below_step (by repeat (first | (with_reducible first | exact HB.out | apply below_alloc | apply pw_below_drewN | apply below_drew1) | exact HB.out)) hb); clear HB; have HB := n0_; clear n0_; (try clear hb); (try clear hb2); (try clear hk); (try clear hi)) | ((with_reducible refine gate_callee (f := 21) rfl ?_); refine goesL_ (some 9) rfl rfl Tryd.func21 (by kernel_rfl) rfl #[.int .u32 a0] rfl (by (try simp only [List.map_toArray, List.map_cons, List.map_nil]); first | done | rfl | (simp only [List.length_drop, List.length_take]; rfl)) ?_; (with_reducible refine (fuglemanref05_List.calls k a0 t231 _ A5.out).mono ?_); rintro e w56 ⟨v232, rfl, ho0, hb⟩; refine ⟨_, rfl, ?_⟩; have n0_ := Aside0.mk (Kd.R_lower ho0 (below_size (by repeat (first | (with_reducible first | exact HB.out | apply below_alloc | apply pw_below_drewN | apply below_drew1) | exact HB.out)))); have n1_ := Aside0.mk (below_step (by repeat (first | (with_reducible first | exact HB.out | apply below_alloc | apply pw_below_drewN | apply below_drew1) | exact HB.out)) hb); clear HB; have HO233 := n0_; have HB := n1_; clear n0_ n1_; (try clear hb); (try clear hb2); (try clear hk); (try clear hi); (try clear ho0)) | ((with_reducible refine gate_callee (f := 22) rfl ?_); refine goesL_ (some 12) rfl rfl Tryd.func22 (by kernel_rfl) rfl #[.int .u32 a0, .int .i64 a1] rfl (by (try simp only [List.map_toArray, List.map_cons, List.map_nil]); first | done | rfl | (simp only [List.length_drop, List.length_take]; rfl)) ?_; (with_reducible refine (members_Has.calls a0 a1 t234 _ A6.out).mono ?_); rintro e w' ⟨rfl, ⟨nd, rfl⟩⟩; refine ⟨_, rfl, ?_⟩) | ((with_reducible refine gate_callee (f := 23) rfl ?_); refine goesL_ (some 15) rfl rfl Tryd.func23 (by kernel_rfl) rfl #[.int .u32 a0, .int .i64 a1] rfl (by (try simp only [List.map_toArray, List.map_cons, List.map_nil]); first | done | rfl | (simp only [List.length_drop, List.length_take]; rfl)) ?_; (with_reducible refine (fuglemanref05_Has.calls k a0 a1 t235 _ A7.out).mono ?_); rintro e w' ⟨rfl, ⟨nd, rfl⟩⟩; refine ⟨_, rfl, ?_⟩) | (go_at_call 24; (with_reducible refine (members_With.calls a0 a1 t236 _ A9.out).mono ?_); rintro e w' ⟨rfl, ⟨nd, rfl⟩⟩) | (go_at_call 25; (with_reducible refine (fuglemanref05_With.calls k a0 a1 t237 _ A10.out).mono ?_); rintro e w' ⟨rfl, ⟨nd, rfl⟩⟩))
        go_ret
        exact ⟨by first | rfl | (simp [errW_none, errW_some] <;> rfl) | (simp [*, errW_none, errW_some] <;> rfl), by repeat (first | (with_reducible first | exact HB.out | apply below_alloc | apply pw_below_drewN | apply below_drew1) | exact HB.out)⟩
    · rw [if_neg c8] at H
      have c8b0 : (t234 == t235) = false := by simpa using c8
      (try (have c8b1 : decide (t234 = t235) = false := by simpa using c8))
      (try (have c8b2 : (t234 == t235) = false := by simpa using c8))
      (try (have c8b3 : ¬ (t234 = t235) := by simpa using c8))
      clear c8
      obtain rfl := Option.some.inj H
      go_enter Tryd.func4, Tryd.ntmps4
      go_wp2_with (first | ((with_reducible refine gate_callee (f := 13) rfl ?_); refine goesL_ (some 6) rfl rfl Tryd.func13 (by kernel_rfl) rfl #[] rfl (by (try simp only [List.map_toArray, List.map_cons, List.map_nil]); first | done | rfl | (simp only [List.length_drop, List.length_take]; rfl)) ?_; (with_reducible refine (fuglemanlaw05_awake.calls k  true _ A3.out ?sideG).mono ?_); (case sideG => first | exact HG.out | exact laidW_heap HG.out rfl | exact laidW_below HG.out (show Below w.heap.size w _ by repeat (first | (with_reducible first | exact HB.out | apply below_alloc | apply pw_below_drewN | apply below_drew1) | exact HB.out)) (Nat.le_refl _)); rintro e w57 ⟨rfl, hb⟩; refine ⟨_, rfl, ?_⟩; have n0_ := Aside0.mk (below_step (by repeat (first | (with_reducible first | exact HB.out | apply below_alloc | apply pw_below_drewN | apply below_drew1) | exact HB.out)) hb); clear HB; have HB := n0_; clear n0_; (try clear hb); (try clear hb2); (try clear hk); (try clear hi)) | ((with_reducible refine gate_callee (f := 21) rfl ?_); refine goesL_ (some 9) rfl rfl Tryd.func21 (by kernel_rfl) rfl #[.int .u32 a0] rfl (by (try simp only [List.map_toArray, List.map_cons, List.map_nil]); first | done | rfl | (simp only [List.length_drop, List.length_take]; rfl)) ?_; (with_reducible refine (fuglemanref05_List.calls k a0 t231 _ A5.out).mono ?_); rintro e w58 ⟨v232, rfl, ho0, hb⟩; refine ⟨_, rfl, ?_⟩; have n0_ := Aside0.mk (Kd.R_lower ho0 (below_size (by repeat (first | (with_reducible first | exact HB.out | apply below_alloc | apply pw_below_drewN | apply below_drew1) | exact HB.out)))); have n1_ := Aside0.mk (below_step (by repeat (first | (with_reducible first | exact HB.out | apply below_alloc | apply pw_below_drewN | apply below_drew1) | exact HB.out)) hb); clear HB; have HO233 := n0_; have HB := n1_; clear n0_ n1_; (try clear hb); (try clear hb2); (try clear hk); (try clear hi); (try clear ho0)) | ((with_reducible refine gate_callee (f := 22) rfl ?_); refine goesL_ (some 12) rfl rfl Tryd.func22 (by kernel_rfl) rfl #[.int .u32 a0, .int .i64 a1] rfl (by (try simp only [List.map_toArray, List.map_cons, List.map_nil]); first | done | rfl | (simp only [List.length_drop, List.length_take]; rfl)) ?_; (with_reducible refine (members_Has.calls a0 a1 t234 _ A6.out).mono ?_); rintro e w' ⟨rfl, ⟨nd, rfl⟩⟩; refine ⟨_, rfl, ?_⟩) | ((with_reducible refine gate_callee (f := 23) rfl ?_); refine goesL_ (some 15) rfl rfl Tryd.func23 (by kernel_rfl) rfl #[.int .u32 a0, .int .i64 a1] rfl (by (try simp only [List.map_toArray, List.map_cons, List.map_nil]); first | done | rfl | (simp only [List.length_drop, List.length_take]; rfl)) ?_; (with_reducible refine (fuglemanref05_Has.calls k a0 a1 t235 _ A7.out).mono ?_); rintro e w' ⟨rfl, ⟨nd, rfl⟩⟩; refine ⟨_, rfl, ?_⟩))
      go_ret
      exact ⟨by first | rfl | (simp [errW_none, errW_some] <;> rfl) | (simp [*, errW_none, errW_some] <;> rfl), by repeat (first | (with_reducible first | exact HB.out | apply below_alloc | apply pw_below_drewN | apply below_drew1) | exact HB.out)⟩
  · replace c4 := Bool.eq_false_iff.mpr c4
    subst c4
    have H1 : (some false) = some r := by rw [if_neg (show ¬ (false = true) by decide)] at H; exact H
    clear H
    have H := H1
    clear H1
    obtain rfl := Option.some.inj H
    go_enter Tryd.func4, Tryd.ntmps4
    go_wp2_with (first | ((with_reducible refine gate_callee (f := 13) rfl ?_); refine goesL_ (some 6) rfl rfl Tryd.func13 (by kernel_rfl) rfl #[] rfl (by (try simp only [List.map_toArray, List.map_cons, List.map_nil]); first | done | rfl | (simp only [List.length_drop, List.length_take]; rfl)) ?_; (with_reducible refine (fuglemanlaw05_awake.calls k  false _ A3.out ?sideG).mono ?_); (case sideG => first | exact HG.out | exact laidW_heap HG.out rfl | exact laidW_below HG.out (show Below w.heap.size w _ by repeat (first | (with_reducible first | exact HB.out | apply below_alloc | apply pw_below_drewN | apply below_drew1) | exact HB.out)) (Nat.le_refl _)); rintro e w59 ⟨rfl, hb⟩; refine ⟨_, rfl, ?_⟩; have n0_ := Aside0.mk (below_step (by repeat (first | (with_reducible first | exact HB.out | apply below_alloc | apply pw_below_drewN | apply below_drew1) | exact HB.out)) hb); clear HB; have HB := n0_; clear n0_; (try clear hb); (try clear hb2); (try clear hk); (try clear hi)))
    go_ret
    exact ⟨by first | rfl | (simp [errW_none, errW_some] <;> rfl) | (simp [*, errW_none, errW_some] <;> rfl), by repeat (first | (with_reducible first | exact HB.out | apply below_alloc | apply pw_below_drewN | apply below_drew1) | exact HB.out)⟩

/-! ### fuglemanlaw05_MembersRound: function 5 -/
def fuglemanlaw05_MembersRound.l0 : Nat → Int → Int → Int → Int → Int → Int → Option (Bool)
  | 0, _, _, _, _, _, _ => none
  | k + 1, x0, x6, x7, x8, x30, x31 => if x31 < x30 then ((members_Next.f x0 x8).bind fun bt253 => ((members_Prev.f x0 bt253.1).bind fun bt255 => (if bt253.2 = true then (if bt255.2 = true then (if bt255.1 = x8 then ((members_Has.f x7 bt253.1).bind fun t257 => (if t257 = true then (some false) else ((members_Between.f k x8 bt253.1).bind fun t258 => (if (Go.bits .and .u32 t258 x0) = 0 then ((members_With.f x7 bt253.1).bind fun t259 => (fuglemanlaw05_MembersRound.l0 k x0 x6 t259 bt253.1 x30 (wrap64 (x31 + 1)))) else (some false))))) else (some false)) else (some false)) else (some false)))) else (if x8 = x6 then (some (x7 == x0)) else (some false))
def fuglemanlaw05_MembersRound.f (k : Nat) (a0 : Int) (a1 : Int) : Option (Bool) := (fuglemanlaw05_awake.f k).bind fun t248 => (if t248 = true then ((members_List.f k a0).bind fun t249 => (if (t249.length : Int) < 2 then (some true) else (if (t249.length : Int) = 0 then (none) else (if 0 ≤ (Int.tmod (wrap64 (a1)) (t249.length : Int)) then (if (Int.tmod (wrap64 (a1)) (t249.length : Int)) < (t249.length : Int) then (fuglemanlaw05_MembersRound.l0 k a0 (rd t249 (Int.tmod (wrap64 (a1)) (t249.length : Int))) 0 (rd t249 (Int.tmod (wrap64 (a1)) (t249.length : Int))) (t249.length : Int) 0) else (none)) else (none))))) else (some false))
theorem fuglemanlaw05_MembersRound.mono_l : ∀ k, (∀ y0 y1 y2 y3 y4 y5, LeO (fuglemanlaw05_MembersRound.l0 k y0 y1 y2 y3 y4 y5) (fuglemanlaw05_MembersRound.l0 (k + 1) y0 y1 y2 y3 y4 y5))
  | 0 => fun _ _ _ _ _ _ r h => by simp [fuglemanlaw05_MembersRound.l0] at h
  | k + 1 => by
    have ih0 := fuglemanlaw05_MembersRound.mono_l k
    · intro y0 y1 y2 y3 y4 y5
      unfold fuglemanlaw05_MembersRound.l0
      repeat' first
      | (with_reducible exact ih0 _ _ _ _ _ _)
      | (with_reducible exact fuglemanlaw05_awake.mono _)
      | (with_reducible exact members_Between.mono _ _ _)
      | (with_reducible exact members_List.mono _ _)
      | (with_reducible exact LeO.refl _)
      | (with_reducible exact LeO.none _)
      | (with_reducible refine LeO.ite ?_ ?_)
      | (with_reducible refine LeO.bind ?_ (fun _ => ?_))
      | exact ih0 _ _ _ _ _ _
      | exact fuglemanlaw05_awake.mono _
      | exact members_Between.mono _ _ _
      | exact members_List.mono _ _
      | exact LeO.none _
      | refine LeO.ite ?_ ?_
      | refine LeO.bind ?_ (fun _ => ?_)
theorem fuglemanlaw05_MembersRound.mono : ∀ a0 a1 k, LeO (fuglemanlaw05_MembersRound.f k a0 a1) (fuglemanlaw05_MembersRound.f (k + 1) a0 a1) := by
  intro a0 a1 k
  have ih0 := fuglemanlaw05_MembersRound.mono_l k
  unfold fuglemanlaw05_MembersRound.f
  repeat' first
      | (with_reducible exact ih0 _ _ _ _ _ _)
      | (with_reducible exact fuglemanlaw05_awake.mono _)
      | (with_reducible exact members_Between.mono _ _ _)
      | (with_reducible exact members_List.mono _ _)
      | (with_reducible exact LeO.refl _)
      | (with_reducible exact LeO.none _)
      | (with_reducible refine LeO.ite ?_ ?_)
      | (with_reducible refine LeO.bind ?_ (fun _ => ?_))
      | exact ih0 _ _ _ _ _ _
      | exact fuglemanlaw05_awake.mono _
      | exact members_Between.mono _ _ _
      | exact members_List.mono _ _
      | exact LeO.none _
      | refine LeO.ite ?_ ?_
      | refine LeO.bind ?_ (fun _ => ?_)
set_option maxHeartbeats 8000000 in
set_option maxRecDepth 100000 in
theorem fuglemanlaw05_MembersRound.calls (k : Nat) (a0 : Int) (a1 : Int) (r : Bool) (w : World) (h : fuglemanlaw05_MembersRound.f k a0 a1 = some r) (hG : LaidW w) :
    Calls Tryd.prog 5 #[.int .u32 a0, .int .u8 a1] w fun e w' => e = .returned (.bool r) ∧ Below w.heap.size w w' := by
  have HG := Aside0.mk hG
  clear hG
  have HB := Aside0.mk (Below.refl w.heap.size w)
  have H : ((fuglemanlaw05_awake.f k).bind fun t248 => (if t248 = true then ((members_List.f k a0).bind fun t249 => (if (t249.length : Int) < 2 then (some true) else (if (t249.length : Int) = 0 then (none) else (if 0 ≤ (Int.tmod (wrap64 (a1)) (t249.length : Int)) then (if (Int.tmod (wrap64 (a1)) (t249.length : Int)) < (t249.length : Int) then (fuglemanlaw05_MembersRound.l0 k a0 (rd t249 (Int.tmod (wrap64 (a1)) (t249.length : Int))) 0 (rd t249 (Int.tmod (wrap64 (a1)) (t249.length : Int))) (t249.length : Int) 0) else (none)) else (none))))) else (some false))) = some r := h
  clear h
  replace H := Option.bind_eq_some_iff.mp H
  obtain ⟨t248, A30, H⟩ := H
  replace H : (if t248 = true then ((members_List.f k a0).bind fun t249 => (if (t249.length : Int) < 2 then (some true) else (if (t249.length : Int) = 0 then (none) else (if 0 ≤ (Int.tmod (wrap64 (a1)) (t249.length : Int)) then (if (Int.tmod (wrap64 (a1)) (t249.length : Int)) < (t249.length : Int) then (fuglemanlaw05_MembersRound.l0 k a0 (rd t249 (Int.tmod (wrap64 (a1)) (t249.length : Int))) 0 (rd t249 (Int.tmod (wrap64 (a1)) (t249.length : Int))) (t249.length : Int) 0) else (none)) else (none))))) else (some false)) = some r := H
  have A3 := Aside0.mk A30
  clear A30
  by_cases c4 : t248 = true
  · subst c4
    have H1 : ((members_List.f k a0).bind fun t249 => (if (t249.length : Int) < 2 then (some true) else (if (t249.length : Int) = 0 then (none) else (if 0 ≤ (Int.tmod (wrap64 (a1)) (t249.length : Int)) then (if (Int.tmod (wrap64 (a1)) (t249.length : Int)) < (t249.length : Int) then (fuglemanlaw05_MembersRound.l0 k a0 (rd t249 (Int.tmod (wrap64 (a1)) (t249.length : Int))) 0 (rd t249 (Int.tmod (wrap64 (a1)) (t249.length : Int))) (t249.length : Int) 0) else (none)) else (none))))) = some r := by rw [if_pos rfl] at H; exact H
    clear H
    have H := H1
    clear H1
    replace H := Option.bind_eq_some_iff.mp H
    obtain ⟨t249, A50, H⟩ := H
    replace H : (if (t249.length : Int) < 2 then (some true) else (if (t249.length : Int) = 0 then (none) else (if 0 ≤ (Int.tmod (wrap64 (a1)) (t249.length : Int)) then (if (Int.tmod (wrap64 (a1)) (t249.length : Int)) < (t249.length : Int) then (fuglemanlaw05_MembersRound.l0 k a0 (rd t249 (Int.tmod (wrap64 (a1)) (t249.length : Int))) 0 (rd t249 (Int.tmod (wrap64 (a1)) (t249.length : Int))) (t249.length : Int) 0) else (none)) else (none)))) = some r := H
    have A5 := Aside0.mk A50
    clear A50
    by_cases c6 : (t249.length : Int) < 2
    · rw [if_pos c6] at H
      have c6b0 : decide ((t249.length : Int) < 2) = true := decide_eq_true c6
      have c6b1 : decide (t249.length < 2) = true := decide_eq_true (by omega)
      clear c6
      obtain rfl := Option.some.inj H
      go_enter Tryd.func5, Tryd.ntmps5
      go_wp2_with (first | ((with_reducible refine gate_callee (f := 13) rfl ?_); refine goesL_ (some 13) rfl rfl Tryd.func13 (by kernel_rfl) rfl #[] rfl (by (try simp only [List.map_toArray, List.map_cons, List.map_nil]); first | done | rfl | (simp only [List.length_drop, List.length_take]; rfl)) ?_; (with_reducible refine (fuglemanlaw05_awake.calls k  true _ A3.out ?sideG).mono ?_); (case sideG => first | exact HG.out | exact laidW_heap HG.out rfl | exact laidW_below HG.out (show Below w.heap.size w _ by repeat (first | (with_reducible first | exact HB.out | apply below_alloc | apply pw_below_drewN | apply below_drew1) | exact HB.out)) (Nat.le_refl _)); rintro e w7 ⟨rfl, hb⟩; refine ⟨_, rfl, ?_⟩; have n0_ := Aside0.mk (below_step (by repeat (first | (with_reducible first | exact HB.out | apply below_alloc | apply pw_below_drewN | apply below_drew1) | exact HB.out)) hb); clear HB; have HB := n0_; clear n0_; (try clear hb); (try clear hb2); (try clear hk); (try clear hi)) | ((with_reducible refine gate_callee (f := 29) rfl ?_); refine goesL_ (some 16) rfl rfl Tryd.func29 (by kernel_rfl) rfl #[.int .u32 a0] rfl (by (try simp only [List.map_toArray, List.map_cons, List.map_nil]); first | done | rfl | (simp only [List.length_drop, List.length_take]; rfl)) ?_; (with_reducible refine (members_List.calls k a0 t249 _ A5.out ?sideG).mono ?_); (case sideG => first | exact HG.out | exact laidW_heap HG.out rfl | exact laidW_below HG.out (show Below w.heap.size w _ by repeat (first | (with_reducible first | exact HB.out | apply below_alloc | apply pw_below_drewN | apply below_drew1) | exact HB.out)) (Nat.le_refl _)); rintro e w8 ⟨v250, rfl, ho0, hb⟩; refine ⟨_, rfl, ?_⟩; have n0_ := Aside0.mk (Kd.R_lower ho0 (below_size (by repeat (first | (with_reducible first | exact HB.out | apply below_alloc | apply pw_below_drewN | apply below_drew1) | exact HB.out)))); have n1_ := Aside0.mk (below_step (by repeat (first | (with_reducible first | exact HB.out | apply below_alloc | apply pw_below_drewN | apply below_drew1) | exact HB.out)) hb); clear HB; have HO251 := n0_; have HB := n1_; clear n0_ n1_; (try clear hb); (try clear hb2); (try clear hk); (try clear hi); (try clear ho0); obtain ⟨Ao9, co9, eo9⟩ := Kd.R_slice HO251.out; subst eo9))
      go_ret
      exact ⟨by first | rfl | (simp [errW_none, errW_some] <;> rfl) | (simp [*, errW_none, errW_some] <;> rfl), by repeat (first | (with_reducible first | exact HB.out | apply below_alloc | apply pw_below_drewN | apply below_drew1) | exact HB.out)⟩
    · rw [if_neg c6] at H
      have c6b0 : decide ((t249.length : Int) < 2) = false := decide_eq_false c6
      have c6b1 : decide (t249.length < 2) = false := decide_eq_false (by omega)
      clear c6
      by_cases c10 : (t249.length : Int) = 0
      · rw [if_pos c10] at H
        exact absurd H (by simp)
      · rw [if_neg c10] at H
        have c10b0 : ((t249.length : Int) == 0) = false := beq_eq_false_iff_ne.mpr c10
        have c10b1 : ((t249.length : Int) != 0) = true := bne_iff_ne.mpr c10
        have c10b2 : ¬ (t249 = []) := fun h_ => c10 (by rw [h_]; rfl)
        obtain ⟨ji11, hji11⟩ : ∃ j_ : Int, (Int.tmod (wrap64 (a1)) (t249.length : Int)) = j_ := ⟨_, rfl⟩
        replace H : (if 0 ≤ (ji11) then (if (ji11) < (t249.length : Int) then (fuglemanlaw05_MembersRound.l0 k a0 (rd t249 (ji11)) 0 (rd t249 (ji11)) (t249.length : Int) 0) else (none)) else (none)) = some r := by first | (rw [hji11] at H; exact H) | (simp only [hji11] at H ⊢; exact H)
        (try rw [hji11] at A3)
        (try rw [hji11] at A5)
        by_cases c12 : 0 ≤ (ji11)
        · rw [if_pos c12] at H
          have c12b0 : decide (0 ≤ (ji11)) = true := decide_eq_true c12
          clear c12
          by_cases c13 : (ji11) < (t249.length : Int)
          · rw [if_pos c13] at H
            have c13b0 : decide ((ji11) < (t249.length : Int)) = true := decide_eq_true c13
            clear c13
            have H' := Aside0.mk H
            clear H
            go_enter Tryd.func5, Tryd.ntmps5
            go_wp2_with (first | ((with_reducible refine gate_callee (f := 13) rfl ?_); refine goesL_ (some 13) rfl rfl Tryd.func13 (by kernel_rfl) rfl #[] rfl (by (try simp only [List.map_toArray, List.map_cons, List.map_nil]); first | done | rfl | (simp only [List.length_drop, List.length_take]; rfl)) ?_; (with_reducible refine (fuglemanlaw05_awake.calls k  true _ A3.out ?sideG).mono ?_); (case sideG => first | exact HG.out | exact laidW_heap HG.out rfl | exact laidW_below HG.out (show Below w.heap.size w _ by repeat (first | (with_reducible first | exact HB.out | apply below_alloc | apply pw_below_drewN | apply below_drew1) | exact HB.out)) (Nat.le_refl _)); rintro e w14 ⟨rfl, hb⟩; refine ⟨_, rfl, ?_⟩; have n0_ := Aside0.mk (below_step (by repeat (first | (with_reducible first | exact HB.out | apply below_alloc | apply pw_below_drewN | apply below_drew1) | exact HB.out)) hb); clear HB; have HB := n0_; clear n0_; (try clear hb); (try clear hb2); (try clear hk); (try clear hi)) | ((with_reducible refine gate_callee (f := 29) rfl ?_); refine goesL_ (some 16) rfl rfl Tryd.func29 (by kernel_rfl) rfl #[.int .u32 a0] rfl (by (try simp only [List.map_toArray, List.map_cons, List.map_nil]); first | done | rfl | (simp only [List.length_drop, List.length_take]; rfl)) ?_; (with_reducible refine (members_List.calls k a0 t249 _ A5.out ?sideG).mono ?_); (case sideG => first | exact HG.out | exact laidW_heap HG.out rfl | exact laidW_below HG.out (show Below w.heap.size w _ by repeat (first | (with_reducible first | exact HB.out | apply below_alloc | apply pw_below_drewN | apply below_drew1) | exact HB.out)) (Nat.le_refl _)); rintro e w15 ⟨v250, rfl, ho0, hb⟩; refine ⟨_, rfl, ?_⟩; have n0_ := Aside0.mk (Kd.R_lower ho0 (below_size (by repeat (first | (with_reducible first | exact HB.out | apply below_alloc | apply pw_below_drewN | apply below_drew1) | exact HB.out)))); have n1_ := Aside0.mk (below_step (by repeat (first | (with_reducible first | exact HB.out | apply below_alloc | apply pw_below_drewN | apply below_drew1) | exact HB.out)) hb); clear HB; have HO251 := n0_; have HB := n1_; clear n0_ n1_; (try clear hb); (try clear hb2); (try clear hk); (try clear hi); (try clear ho0); obtain ⟨Ao16, co16, eo16⟩ := Kd.R_slice HO251.out; subst eo16; have p252 : 0 ≤ ((ji11) : Int) := of_decide_eq_true (by first | (with_reducible assumption) | assumption); have q252 : (ji11) < (t249.length : Int) := of_decide_eq_true (by first | (with_reducible assumption) | assumption); obtain ⟨ad252, e252, hx252_0⟩ := Kd.at_int (Kd.R_reads' HO251.out).2.2 (ji11) p252 q252; cases e252; replace p252 := eq_true p252; replace q252 := eq_true q252))
            go_loopg [7, 8, 31] k (fun kq v7 v8 v31 w' => ∃ (x7_1 : Int) (x8_1 : Int) (x31_1 : Int), v7 = .int .u32 x7_1 ∧ v8 = .int .i64 x8_1 ∧ v31 = .int .i64 x31_1 ∧ Aside0 (fuglemanlaw05_MembersRound.l0 kq a0 (rd t249 (ji11)) x7_1 x8_1 (t249.length : Int) x31_1 = some r) ∧ Aside0 (kq ≤ k) ∧ Aside0 (Below w.heap.size w w'))
            case atStart => exact ⟨(0), (rd t249 (ji11)), (0), (by first | rfl | (simp; done) | (simp [*]; done)), (by first | rfl | (simp; done) | (simp only [← hji11] <;> (first | rfl | simp)) | (simp [*]; done)), (by first | rfl | (simp; done) | (simp [*]; done)), H', ⟨Nat.le_refl _⟩, ⟨by repeat (first | (with_reducible first | exact HB.out | apply below_alloc | apply pw_below_drewN | apply below_drew1) | exact HB.out)⟩⟩
            case round =>
              clear H'
              try clear c1
              try clear c2
              try clear p2
              try clear q2
              try clear hx2
              try clear c4
              try clear c5
              try clear c6
              try clear c6b0
              try clear c6b1
              try clear p6
              try clear c10
              try clear c10b0
              try clear c10b1
              try clear c10b2
              try clear c12
              try clear c12b0
              try clear c13
              try clear c13b0
              try clear hx252_0
              try clear p252
              try clear q252
              obtain ⟨x7_1, x8_1, x31_1, rfl, rfl, rfl, HA, HK1, HB⟩ := hrel
              cases gk with
              | zero => exact absurd HA.out (by simp [fuglemanlaw05_MembersRound.l0])
              | succ k1 =>
                have H := HA.out
                clear HA
                simp only [fuglemanlaw05_MembersRound.l0] at H
                by_cases c17 : x31_1 < (t249.length : Int)
                · rw [if_pos c17] at H
                  have c17b0 : decide (x31_1 < (t249.length : Int)) = true := decide_eq_true c17
                  clear c17
                  replace H := Option.bind_eq_some_iff.mp H
                  obtain ⟨⟨t253, t254⟩, A180, H⟩ := H
                  replace H : ((members_Prev.f a0 t253).bind fun bt255 => (if t254 = true then (if bt255.2 = true then (if bt255.1 = x8_1 then ((members_Has.f x7_1 t253).bind fun t257 => (if t257 = true then (some false) else ((members_Between.f k1 x8_1 t253).bind fun t258 => (if (Go.bits .and .u32 t258 a0) = 0 then ((members_With.f x7_1 t253).bind fun t259 => (fuglemanlaw05_MembersRound.l0 k1 a0 (rd t249 (ji11)) t259 t253 (t249.length : Int) (wrap64 (x31_1 + 1)))) else (some false))))) else (some false)) else (some false)) else (some false))) = some r := H
                  have A18 := Aside0.mk A180
                  clear A180
                  replace H := Option.bind_eq_some_iff.mp H
                  obtain ⟨⟨t255, t256⟩, A190, H⟩ := H
                  replace H : (if t254 = true then (if t256 = true then (if t255 = x8_1 then ((members_Has.f x7_1 t253).bind fun t257 => (if t257 = true then (some false) else ((members_Between.f k1 x8_1 t253).bind fun t258 => (if (Go.bits .and .u32 t258 a0) = 0 then ((members_With.f x7_1 t253).bind fun t259 => (fuglemanlaw05_MembersRound.l0 k1 a0 (rd t249 (ji11)) t259 t253 (t249.length : Int) (wrap64 (x31_1 + 1)))) else (some false))))) else (some false)) else (some false)) else (some false)) = some r := H
                  have A19 := Aside0.mk A190
                  clear A190
                  by_cases c20 : t254 = true
                  · subst c20
                    have H1 : (if t256 = true then (if t255 = x8_1 then ((members_Has.f x7_1 t253).bind fun t257 => (if t257 = true then (some false) else ((members_Between.f k1 x8_1 t253).bind fun t258 => (if (Go.bits .and .u32 t258 a0) = 0 then ((members_With.f x7_1 t253).bind fun t259 => (fuglemanlaw05_MembersRound.l0 k1 a0 (rd t249 (ji11)) t259 t253 (t249.length : Int) (wrap64 (x31_1 + 1)))) else (some false))))) else (some false)) else (some false)) = some r := by rw [if_pos rfl] at H; exact H
                    clear H
                    have H := H1
                    clear H1
                    by_cases c21 : t256 = true
                    · subst c21
                      have H1 : (if t255 = x8_1 then ((members_Has.f x7_1 t253).bind fun t257 => (if t257 = true then (some false) else ((members_Between.f k1 x8_1 t253).bind fun t258 => (if (Go.bits .and .u32 t258 a0) = 0 then ((members_With.f x7_1 t253).bind fun t259 => (fuglemanlaw05_MembersRound.l0 k1 a0 (rd t249 (ji11)) t259 t253 (t249.length : Int) (wrap64 (x31_1 + 1)))) else (some false))))) else (some false)) = some r := by rw [if_pos rfl] at H; exact H
                      clear H
                      have H := H1
                      clear H1
                      by_cases c22 : t255 = x8_1
                      · rw [if_pos c22] at H
                        have c22b0 : (t255 == x8_1) = true := beq_iff_eq.mpr c22
                        have c22b1 : (t255 != x8_1) = false := bne_eq_false_iff_eq.mpr c22
                        clear c22
                        replace H := Option.bind_eq_some_iff.mp H
                        obtain ⟨t257, A230, H⟩ := H
                        replace H : (if t257 = true then (some false) else ((members_Between.f k1 x8_1 t253).bind fun t258 => (if (Go.bits .and .u32 t258 a0) = 0 then ((members_With.f x7_1 t253).bind fun t259 => (fuglemanlaw05_MembersRound.l0 k1 a0 (rd t249 (ji11)) t259 t253 (t249.length : Int) (wrap64 (x31_1 + 1)))) else (some false)))) = some r := H
                        have A23 := Aside0.mk A230
                        clear A230
                        by_cases c24 : t257 = true
                        · subst c24
                          have H1 : (some false) = some r := by rw [if_pos rfl] at H; exact H
                          clear H
                          have H := H1
                          clear H1
                          obtain rfl := Option.some.inj H
                          go_wp2_with (first | ((with_reducible refine gate_callee (f := 14) rfl ?_); refine goesL_ (some 36) rfl rfl Tryd.func14 (by kernel_rfl) rfl #[.int .u32 a0, .int .i64 x8_1] rfl (by (try simp only [List.map_toArray, List.map_cons, List.map_nil]); first | done | rfl | (simp only [List.length_drop, List.length_take]; rfl)) ?_; (with_reducible refine (members_Next.calls a0 x8_1 t253 true _ A18.out ?sideG).mono ?_); (case sideG => first | exact HG.out | exact laidW_heap HG.out rfl | exact laidW_below HG.out (show Below w.heap.size w _ by repeat (first | (with_reducible first | exact HB.out | apply below_alloc | apply pw_below_drewN | apply below_drew1) | exact HB.out)) (Nat.le_refl _)); rintro e w' ⟨rfl, ⟨nd, rfl⟩⟩; refine ⟨_, rfl, ?_⟩) | ((with_reducible refine gate_callee (f := 15) rfl ?_); refine goesL_ (some 42) rfl rfl Tryd.func15 (by kernel_rfl) rfl #[.int .u32 a0, .int .i64 t253] rfl (by (try simp only [List.map_toArray, List.map_cons, List.map_nil]); first | done | rfl | (simp only [List.length_drop, List.length_take]; rfl)) ?_; (with_reducible refine (members_Prev.calls a0 t253 t255 true _ A19.out).mono ?_); rintro e w' ⟨rfl, ⟨nd, rfl⟩⟩; refine ⟨_, rfl, ?_⟩) | (go_at_call 22; (with_reducible refine (members_Has.calls x7_1 t253 true _ A23.out).mono ?_); rintro e w' ⟨rfl, ⟨nd, rfl⟩⟩))
                          go_ret
                          exact ⟨by first | rfl | (simp [errW_none, errW_some] <;> rfl) | (simp only [← hji11]; first | rfl | (simp [errW_none, errW_some] <;> rfl)) | (simp [*, errW_none, errW_some] <;> rfl), by repeat (first | (with_reducible first | exact HB.out | apply below_alloc | apply pw_below_drewN | apply below_drew1) | exact HB.out)⟩
                        · replace c24 := Bool.eq_false_iff.mpr c24
                          subst c24
                          have H1 : ((members_Between.f k1 x8_1 t253).bind fun t258 => (if (Go.bits .and .u32 t258 a0) = 0 then ((members_With.f x7_1 t253).bind fun t259 => (fuglemanlaw05_MembersRound.l0 k1 a0 (rd t249 (ji11)) t259 t253 (t249.length : Int) (wrap64 (x31_1 + 1)))) else (some false))) = some r := by rw [if_neg (show ¬ (false = true) by decide)] at H; exact H
                          clear H
                          have H := H1
                          clear H1
                          replace H := Option.bind_eq_some_iff.mp H
                          obtain ⟨t258, A250, H⟩ := H
                          replace H : (if (Go.bits .and .u32 t258 a0) = 0 then ((members_With.f x7_1 t253).bind fun t259 => (fuglemanlaw05_MembersRound.l0 k1 a0 (rd t249 (ji11)) t259 t253 (t249.length : Int) (wrap64 (x31_1 + 1)))) else (some false)) = some r := H
                          have A25 := Aside0.mk A250
                          clear A250
                          by_cases c26 : (Go.bits .and .u32 t258 a0) = 0
                          · rw [if_pos c26] at H
                            have c26b0 : ((Go.bits .and .u32 t258 a0) == 0) = true := beq_iff_eq.mpr c26
                            have c26b1 : ((Go.bits .and .u32 t258 a0) != 0) = false := bne_eq_false_iff_eq.mpr c26
                            clear c26
                            replace H := Option.bind_eq_some_iff.mp H
                            obtain ⟨t259, A270, H⟩ := H
                            replace H : (fuglemanlaw05_MembersRound.l0 k1 a0 (rd t249 (ji11)) t259 t253 (t249.length : Int) (wrap64 (x31_1 + 1))) = some r := H
                            have A27 := Aside0.mk A270
                            clear A270
                            have H' := Aside0.mk H
                            clear H
                            go_wp2_with (first | ((with_reducible refine gate_callee (f := 14) rfl ?_); refine goesL_ (some 36) rfl rfl Tryd.func14 (by kernel_rfl) rfl #[.int .u32 a0, .int .i64 x8_1] rfl (by (try simp only [List.map_toArray, List.map_cons, List.map_nil]); first | done | rfl | (simp only [List.length_drop, List.length_take]; rfl)) ?_; (with_reducible refine (members_Next.calls a0 x8_1 t253 true _ A18.out ?sideG).mono ?_); (case sideG => first | exact HG.out | exact laidW_heap HG.out rfl | exact laidW_below HG.out (show Below w.heap.size w _ by repeat (first | (with_reducible first | exact HB.out | apply below_alloc | apply pw_below_drewN | apply below_drew1) | exact HB.out)) (Nat.le_refl _)); rintro e w' ⟨rfl, ⟨nd, rfl⟩⟩; refine ⟨_, rfl, ?_⟩) | ((with_reducible refine gate_callee (f := 15) rfl ?_); refine goesL_ (some 42) rfl rfl Tryd.func15 (by kernel_rfl) rfl #[.int .u32 a0, .int .i64 t253] rfl (by (try simp only [List.map_toArray, List.map_cons, List.map_nil]); first | done | rfl | (simp only [List.length_drop, List.length_take]; rfl)) ?_; (with_reducible refine (members_Prev.calls a0 t253 t255 true _ A19.out).mono ?_); rintro e w' ⟨rfl, ⟨nd, rfl⟩⟩; refine ⟨_, rfl, ?_⟩) | (go_at_call 22; (with_reducible refine (members_Has.calls x7_1 t253 false _ A23.out).mono ?_); rintro e w' ⟨rfl, ⟨nd, rfl⟩⟩) | (go_at_call 34; (with_reducible refine (members_Between.calls k1 x8_1 t253 t258 _ A25.out).mono ?_); rintro e w' ⟨rfl, ⟨nd, rfl⟩⟩) | ((with_reducible refine gate_callee (f := 24) rfl ?_); refine goesL_ (some 71) rfl rfl Tryd.func24 (by kernel_rfl) rfl #[.int .u32 x7_1, .int .i64 t253] rfl (by (try simp only [List.map_toArray, List.map_cons, List.map_nil]); first | done | rfl | (simp only [List.length_drop, List.length_take]; rfl)) ?_; (with_reducible refine (members_With.calls x7_1 t253 t259 _ A27.out).mono ?_); rintro e w' ⟨rfl, ⟨nd, rfl⟩⟩; refine ⟨_, rfl, ?_⟩))
                            go_roundg k1
                            case measure => have := HK1.out; omega
                            case rel => exact ⟨(t259), (t253), (wrap64 (x31_1 + 1)), (by first | rfl | (simp; done) | (simp [*]; done)), (by first | rfl | (simp; done) | (simp [*]; done)), (by first | rfl | (simp; done) | (simp [*]; done)), H', ⟨by have := HK1.out; omega⟩, ⟨by repeat (first | (with_reducible first | exact HB.out | apply below_alloc | apply pw_below_drewN | apply below_drew1) | exact HB.out)⟩⟩
                          · rw [if_neg c26] at H
                            have c26b0 : ((Go.bits .and .u32 t258 a0) == 0) = false := beq_eq_false_iff_ne.mpr c26
                            have c26b1 : ((Go.bits .and .u32 t258 a0) != 0) = true := bne_iff_ne.mpr c26
                            obtain rfl := Option.some.inj H
                            go_wp2_with (first | ((with_reducible refine gate_callee (f := 14) rfl ?_); refine goesL_ (some 36) rfl rfl Tryd.func14 (by kernel_rfl) rfl #[.int .u32 a0, .int .i64 x8_1] rfl (by (try simp only [List.map_toArray, List.map_cons, List.map_nil]); first | done | rfl | (simp only [List.length_drop, List.length_take]; rfl)) ?_; (with_reducible refine (members_Next.calls a0 x8_1 t253 true _ A18.out ?sideG).mono ?_); (case sideG => first | exact HG.out | exact laidW_heap HG.out rfl | exact laidW_below HG.out (show Below w.heap.size w _ by repeat (first | (with_reducible first | exact HB.out | apply below_alloc | apply pw_below_drewN | apply below_drew1) | exact HB.out)) (Nat.le_refl _)); rintro e w' ⟨rfl, ⟨nd, rfl⟩⟩; refine ⟨_, rfl, ?_⟩) | ((with_reducible refine gate_callee (f := 15) rfl ?_); refine goesL_ (some 42) rfl rfl Tryd.func15 (by kernel_rfl) rfl #[.int .u32 a0, .int .i64 t253] rfl (by (try simp only [List.map_toArray, List.map_cons, List.map_nil]); first | done | rfl | (simp only [List.length_drop, List.length_take]; rfl)) ?_; (with_reducible refine (members_Prev.calls a0 t253 t255 true _ A19.out).mono ?_); rintro e w' ⟨rfl, ⟨nd, rfl⟩⟩; refine ⟨_, rfl, ?_⟩) | (go_at_call 22; (with_reducible refine (members_Has.calls x7_1 t253 false _ A23.out).mono ?_); rintro e w' ⟨rfl, ⟨nd, rfl⟩⟩) | (go_at_call 34; (with_reducible refine (members_Between.calls k1 x8_1 t253 t258 _ A25.out).mono ?_); rintro e w' ⟨rfl, ⟨nd, rfl⟩⟩))
                            go_ret
                            exact ⟨by first | rfl | (simp [errW_none, errW_some] <;> rfl) | (simp only [← hji11]; first | rfl | (simp [errW_none, errW_some] <;> rfl)) | (simp [*, errW_none, errW_some] <;> rfl), by repeat (first | (with_reducible first | exact HB.out | apply below_alloc | apply pw_below_drewN | apply below_drew1) | exact HB.out)⟩
                      · rw [if_neg c22] at H
                        have c22b0 : (t255 == x8_1) = false := beq_eq_false_iff_ne.mpr c22
                        have c22b1 : (t255 != x8_1) = true := bne_iff_ne.mpr c22
                        obtain rfl := Option.some.inj H
                        go_wp2_with (first | ((with_reducible refine gate_callee (f := 14) rfl ?_); refine goesL_ (some 36) rfl rfl Tryd.func14 (by kernel_rfl) rfl #[.int .u32 a0, .int .i64 x8_1] rfl (by (try simp only [List.map_toArray, List.map_cons, List.map_nil]); first | done | rfl | (simp only [List.length_drop, List.length_take]; rfl)) ?_; (with_reducible refine (members_Next.calls a0 x8_1 t253 true _ A18.out ?sideG).mono ?_); (case sideG => first | exact HG.out | exact laidW_heap HG.out rfl | exact laidW_below HG.out (show Below w.heap.size w _ by repeat (first | (with_reducible first | exact HB.out | apply below_alloc | apply pw_below_drewN | apply below_drew1) | exact HB.out)) (Nat.le_refl _)); rintro e w' ⟨rfl, ⟨nd, rfl⟩⟩; refine ⟨_, rfl, ?_⟩) | ((with_reducible refine gate_callee (f := 15) rfl ?_); refine goesL_ (some 42) rfl rfl Tryd.func15 (by kernel_rfl) rfl #[.int .u32 a0, .int .i64 t253] rfl (by (try simp only [List.map_toArray, List.map_cons, List.map_nil]); first | done | rfl | (simp only [List.length_drop, List.length_take]; rfl)) ?_; (with_reducible refine (members_Prev.calls a0 t253 t255 true _ A19.out).mono ?_); rintro e w' ⟨rfl, ⟨nd, rfl⟩⟩; refine ⟨_, rfl, ?_⟩))
                        go_ret
                        exact ⟨by first | rfl | (simp [errW_none, errW_some] <;> rfl) | (simp only [← hji11]; first | rfl | (simp [errW_none, errW_some] <;> rfl)) | (simp [*, errW_none, errW_some] <;> rfl), by repeat (first | (with_reducible first | exact HB.out | apply below_alloc | apply pw_below_drewN | apply below_drew1) | exact HB.out)⟩
                    · replace c21 := Bool.eq_false_iff.mpr c21
                      subst c21
                      have H1 : (some false) = some r := by rw [if_neg (show ¬ (false = true) by decide)] at H; exact H
                      clear H
                      have H := H1
                      clear H1
                      obtain rfl := Option.some.inj H
                      go_wp2_with (first | ((with_reducible refine gate_callee (f := 14) rfl ?_); refine goesL_ (some 36) rfl rfl Tryd.func14 (by kernel_rfl) rfl #[.int .u32 a0, .int .i64 x8_1] rfl (by (try simp only [List.map_toArray, List.map_cons, List.map_nil]); first | done | rfl | (simp only [List.length_drop, List.length_take]; rfl)) ?_; (with_reducible refine (members_Next.calls a0 x8_1 t253 true _ A18.out ?sideG).mono ?_); (case sideG => first | exact HG.out | exact laidW_heap HG.out rfl | exact laidW_below HG.out (show Below w.heap.size w _ by repeat (first | (with_reducible first | exact HB.out | apply below_alloc | apply pw_below_drewN | apply below_drew1) | exact HB.out)) (Nat.le_refl _)); rintro e w' ⟨rfl, ⟨nd, rfl⟩⟩; refine ⟨_, rfl, ?_⟩) | ((with_reducible refine gate_callee (f := 15) rfl ?_); refine goesL_ (some 42) rfl rfl Tryd.func15 (by kernel_rfl) rfl #[.int .u32 a0, .int .i64 t253] rfl (by (try simp only [List.map_toArray, List.map_cons, List.map_nil]); first | done | rfl | (simp only [List.length_drop, List.length_take]; rfl)) ?_; (with_reducible refine (members_Prev.calls a0 t253 t255 false _ A19.out).mono ?_); rintro e w' ⟨rfl, ⟨nd, rfl⟩⟩; refine ⟨_, rfl, ?_⟩))
                      go_ret
                      exact ⟨by first | rfl | (simp [errW_none, errW_some] <;> rfl) | (simp only [← hji11]; first | rfl | (simp [errW_none, errW_some] <;> rfl)) | (simp [*, errW_none, errW_some] <;> rfl), by repeat (first | (with_reducible first | exact HB.out | apply below_alloc | apply pw_below_drewN | apply below_drew1) | exact HB.out)⟩
                  · replace c20 := Bool.eq_false_iff.mpr c20
                    subst c20
                    have H1 : (some false) = some r := by rw [if_neg (show ¬ (false = true) by decide)] at H; exact H
                    clear H
                    have H := H1
                    clear H1
                    obtain rfl := Option.some.inj H
                    go_wp2_with (first | ((with_reducible refine gate_callee (f := 14) rfl ?_); refine goesL_ (some 36) rfl rfl Tryd.func14 (by kernel_rfl) rfl #[.int .u32 a0, .int .i64 x8_1] rfl (by (try simp only [List.map_toArray, List.map_cons, List.map_nil]); first | done | rfl | (simp only [List.length_drop, List.length_take]; rfl)) ?_; (with_reducible refine (members_Next.calls a0 x8_1 t253 false _ A18.out ?sideG).mono ?_); (case sideG => first | exact HG.out | exact laidW_heap HG.out rfl | exact laidW_below HG.out (show Below w.heap.size w _ by repeat (first | (with_reducible first | exact HB.out | apply below_alloc | apply pw_below_drewN | apply below_drew1) | exact HB.out)) (Nat.le_refl _)); rintro e w' ⟨rfl, ⟨nd, rfl⟩⟩; refine ⟨_, rfl, ?_⟩) | ((with_reducible refine gate_callee (f := 15) rfl ?_); refine goesL_ (some 42) rfl rfl Tryd.func15 (by kernel_rfl) rfl #[.int .u32 a0, .int .i64 t253] rfl (by (try simp only [List.map_toArray, List.map_cons, List.map_nil]); first | done | rfl | (simp only [List.length_drop, List.length_take]; rfl)) ?_; (with_reducible refine (members_Prev.calls a0 t253 t255 t256 _ A19.out).mono ?_); rintro e w' ⟨rfl, ⟨nd, rfl⟩⟩; refine ⟨_, rfl, ?_⟩))
                    go_ret
                    exact ⟨by first | rfl | (simp [errW_none, errW_some] <;> rfl) | (simp only [← hji11]; first | rfl | (simp [errW_none, errW_some] <;> rfl)) | (simp [*, errW_none, errW_some] <;> rfl), by repeat (first | (with_reducible first | exact HB.out | apply below_alloc | apply pw_below_drewN | apply below_drew1) | exact HB.out)⟩
                · rw [if_neg c17] at H
                  have c17b0 : decide (x31_1 < (t249.length : Int)) = false := decide_eq_false c17
                  clear c17
                  by_cases c28 : x8_1 = (rd t249 (ji11))
                  · rw [if_pos c28] at H
                    have c28b0 : (x8_1 == (rd t249 (ji11))) = true := beq_iff_eq.mpr c28
                    have c28b1 : (x8_1 != (rd t249 (ji11))) = false := bne_eq_false_iff_eq.mpr c28
                    clear c28
                    obtain rfl := Option.some.inj H
                    go_wp2
                    go_ret
                    exact ⟨by first | rfl | (simp [errW_none, errW_some] <;> rfl) | (simp only [← hji11]; first | rfl | (simp [errW_none, errW_some] <;> rfl)) | (simp [*, errW_none, errW_some] <;> rfl), by repeat (first | (with_reducible first | exact HB.out | apply below_alloc | apply pw_below_drewN | apply below_drew1) | exact HB.out)⟩
                  · rw [if_neg c28] at H
                    have c28b0 : (x8_1 == (rd t249 (ji11))) = false := beq_eq_false_iff_ne.mpr c28
                    have c28b1 : (x8_1 != (rd t249 (ji11))) = true := bne_iff_ne.mpr c28
                    obtain rfl := Option.some.inj H
                    go_wp2
                    go_ret
                    exact ⟨by first | rfl | (simp [errW_none, errW_some] <;> rfl) | (simp only [← hji11]; first | rfl | (simp [errW_none, errW_some] <;> rfl)) | (simp [*, errW_none, errW_some] <;> rfl), by repeat (first | (with_reducible first | exact HB.out | apply below_alloc | apply pw_below_drewN | apply below_drew1) | exact HB.out)⟩
          · rw [if_neg c13] at H
            exact absurd H (by simp)
        · rw [if_neg c12] at H
          exact absurd H (by simp)
  · replace c4 := Bool.eq_false_iff.mpr c4
    subst c4
    have H1 : (some false) = some r := by rw [if_neg (show ¬ (false = true) by decide)] at H; exact H
    clear H
    have H := H1
    clear H1
    obtain rfl := Option.some.inj H
    go_enter Tryd.func5, Tryd.ntmps5
    go_wp2_with (first | ((with_reducible refine gate_callee (f := 13) rfl ?_); refine goesL_ (some 13) rfl rfl Tryd.func13 (by kernel_rfl) rfl #[] rfl (by (try simp only [List.map_toArray, List.map_cons, List.map_nil]); first | done | rfl | (simp only [List.length_drop, List.length_take]; rfl)) ?_; (with_reducible refine (fuglemanlaw05_awake.calls k  false _ A3.out ?sideG).mono ?_); (case sideG => first | exact HG.out | exact laidW_heap HG.out rfl | exact laidW_below HG.out (show Below w.heap.size w _ by repeat (first | (with_reducible first | exact HB.out | apply below_alloc | apply pw_below_drewN | apply below_drew1) | exact HB.out)) (Nat.le_refl _)); rintro e w29 ⟨rfl, hb⟩; refine ⟨_, rfl, ?_⟩; have n0_ := Aside0.mk (below_step (by repeat (first | (with_reducible first | exact HB.out | apply below_alloc | apply pw_below_drewN | apply below_drew1) | exact HB.out)) hb); clear HB; have HB := n0_; clear n0_; (try clear hb); (try clear hb2); (try clear hk); (try clear hi)))
    go_ret
    exact ⟨by first | rfl | (simp [errW_none, errW_some] <;> rfl) | (simp [*, errW_none, errW_some] <;> rfl), by repeat (first | (with_reducible first | exact HB.out | apply below_alloc | apply pw_below_drewN | apply below_drew1) | exact HB.out)⟩

end Go.Proofs.YtmehafolnpkmhaaDoor.PMem
