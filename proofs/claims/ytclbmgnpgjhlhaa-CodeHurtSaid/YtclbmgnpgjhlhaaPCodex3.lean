/- Functions of the program as plain Lean functions, and that the machine's calls do what these say (written by a program of mine, wip/myprint.py, over the kit's print). -/
import Derived.Test.YtclbmgnpgjhlhaaPCodex0
import Derived.Test.YtclbmgnpgjhlhaaPCodex2
namespace Go.Proofs.Ytclbmgnpgjhlhaa.PCode
open Go.RowKit Go.Proofs.YtclbmgnpgjhlhaaW.PrintWords Go.Proofs.YtclbmgnpgjhlhaaW.PrintLast Go.Proofs.YtclbmgnpgjhlhaaW.PrintMore
attribute [local go_sem] max2_int min2_int max_two min_two max_three min_three max_four min_four   -- for this text's walks alone
set_option linter.unusedVariables false
set_option linter.unusedSimpArgs false

/-! ### il_Right: function 76 -/
def il_Right.j0 : Nat → Int → Bool → Int → Int → Int → Int → Int → Option (Bool)
  | 0, _, _, _, _, _, _, _ => none
  | k + 1, x3, x4, x107000, x107001, x107002, x107003, x107004 => if x3 = 1 then (if x107002 = 0 then (if x107003 = 0 then ((iec_Is.f x107001 x107004).bind fun t109 => (some t109)) else (some false)) else ((il_stands.f x107000 x107001 x107002 x107003 x107004 1).bind fun t110 => (some t110))) else (if x3 = 2 then ((il_stands.f x107000 x107001 x107002 x107003 x107004 2).bind fun t111 => (some t111)) else (if x3 = 3 then (if x4 = true then (if x107001 = 0 then (if x107003 ≥ 0 then (some (decide (x107003 ≤ 200))) else (some false)) else (some false)) else (some false)) else (if x3 = 4 then (if x4 = true then (if x107001 = 0 then (some (x107003 == 0)) else (some false)) else (some false)) else (if x3 = 5 then (if x4 = true then (if x107003 = 0 then ((iec_Size.f x107001).bind fun t112 => (some (decide (t112 > 0)))) else (some false)) else (some false)) else (if x3 = 6 then (if x4 = true then (if x107001 = 0 then ((il_within.f x107003).bind fun t113 => (some t113)) else (some false)) else (some false)) else (if x3 = 7 then (if x107001 = 0 then ((il_keeps.f x107002).bind fun t114 => (if t114 = true then (if x107003 ≥ 0 then (if x107003 ≤ 59 then (if x107004 ≥ 1 then (some (decide (x107004 ≤ 9999))) else (some false)) else (some false)) else (some false)) else (some false))) else (some false)) else (if x3 = 8 then (if x107001 = 0 then ((il_keeps.f x107002).bind fun t115 => (if t115 = true then (if x107003 ≥ 0 then (if x107003 < 64 then (some (x107004 == 0)) else (some false)) else (some false)) else (some false))) else (some false)) else (some false))))))))
def il_Right.f (k : Nat) (a0_0 : Int) (a0_1 : Int) (a0_2 : Int) (a0_3 : Int) (a0_4 : Int) : Option (Bool) := (il_of.f a0_0).bind fun bt107 => (if a0_2 = 0 then (il_Right.j0 k bt107.2 (a0_4 == 0) a0_0 a0_1 a0_2 a0_3 a0_4) else (il_Right.j0 k bt107.2 false a0_0 a0_1 a0_2 a0_3 a0_4))
theorem il_Right.mono_l : ∀ k, (∀ y0 y1 y2 y3 y4 y5 y6, LeO (il_Right.j0 k y0 y1 y2 y3 y4 y5 y6) (il_Right.j0 (k + 1) y0 y1 y2 y3 y4 y5 y6))
  | 0 => fun _ _ _ _ _ _ _ r h => by simp [il_Right.j0] at h
  | k + 1 => by
    have ih0 := il_Right.mono_l k
    · intro y0 y1 y2 y3 y4 y5 y6
      unfold il_Right.j0
      repeat' first
      | (with_reducible exact ih0 _ _ _ _ _ _ _)
      | (with_reducible exact LeO.refl _)
      | (with_reducible exact LeO.none _)
      | (with_reducible refine LeO.ite ?_ ?_)
      | (with_reducible refine LeO.bind ?_ (fun _ => ?_))
      | exact ih0 _ _ _ _ _ _ _
      | exact LeO.none _
      | refine LeO.ite ?_ ?_
      | refine LeO.bind ?_ (fun _ => ?_)
theorem il_Right.mono : ∀ a0 a1 a2 a3 a4 k, LeO (il_Right.f k a0 a1 a2 a3 a4) (il_Right.f (k + 1) a0 a1 a2 a3 a4) := by
  intro a0 a1 a2 a3 a4 k
  have ih0 := il_Right.mono_l k
  unfold il_Right.f
  repeat' first
      | (with_reducible exact ih0 _ _ _ _ _ _ _)
      | (with_reducible exact LeO.refl _)
      | (with_reducible exact LeO.none _)
      | (with_reducible refine LeO.ite ?_ ?_)
      | (with_reducible refine LeO.bind ?_ (fun _ => ?_))
      | exact ih0 _ _ _ _ _ _ _
      | exact LeO.none _
      | refine LeO.ite ?_ ?_
      | refine LeO.bind ?_ (fun _ => ?_)
set_option maxHeartbeats 8000000 in
set_option maxRecDepth 100000 in
theorem il_Right.calls (k : Nat) (a0_0 : Int) (a0_1 : Int) (a0_2 : Int) (a0_3 : Int) (a0_4 : Int) (r : Bool) (w : World) (h : il_Right.f k a0_0 a0_1 a0_2 a0_3 a0_4 = some r) :
    Calls Try.prog 76 #[.agg #[.int .i64 a0_0, .int .i64 a0_1, .int .i64 a0_2, .int .i64 a0_3, .int .i64 a0_4]] w fun e w' => e = .returned (.bool r) ∧ Below w.heap.size w w' := by
  have hu89 := Try.underlying89
  have hu120 := Try.underlying120
  have hfd120_1 : ∀ (x0_ : ByteArray) (x1_ : Int) (W : World), (Instr.field 120 (.agg #[.string x0_, .int .i64 x1_]) 1).run Try.prog W = .ok (.int .i64 x1_) W := fun _ _ _ => by kernel_rfl
  have HB := Aside0.mk (Below.refl w.heap.size w)
  have H : ((il_of.f a0_0).bind fun bt107 => (if a0_2 = 0 then (il_Right.j0 k bt107.2 (a0_4 == 0) a0_0 a0_1 a0_2 a0_3 a0_4) else (il_Right.j0 k bt107.2 false a0_0 a0_1 a0_2 a0_3 a0_4))) = some r := h
  clear h
  replace H := Option.bind_eq_some_iff.mp H
  obtain ⟨⟨t107, t108⟩, A20, H⟩ := H
  replace H : (if a0_2 = 0 then (il_Right.j0 k t108 (a0_4 == 0) a0_0 a0_1 a0_2 a0_3 a0_4) else (il_Right.j0 k t108 false a0_0 a0_1 a0_2 a0_3 a0_4)) = some r := H
  have A2 := Aside0.mk A20
  clear A20
  have HC3 := Aside0.mk H
  clear H
  go_enter Try.func76, Try.ntmps76
  go_upto_region 2 with (first | ((with_reducible refine gate_dst (N := 1) rfl ?_); refine box_event ?hg (N := 1) ?hd (cs := #[.int .i64 a0_0, .int .i64 a0_1, .int .i64 a0_2, .int .i64 a0_3, .int .i64 a0_4]) (t := 89) ?hr ?_; (case hd => rfl); (case hg => rfl); (case hr => first | (go_simp; done) | (go_simp; rfl)); intro gb106 hg w4 hbox hb; have n0_ := Aside0.mk (below_step (by repeat (first | (with_reducible first | exact HB.out | apply below_alloc | apply pw_below_drewN | apply below_drew1) | exact HB.out)) hb); have n1_ := Aside0.mk (hbox); have n2_ := Aside0.mk ((by rw [hg]; exact (below_size (by repeat (first | (with_reducible first | exact HB.out | apply below_alloc | apply pw_below_drewN | apply below_drew1) | exact HB.out))) : w.heap.size ≤ gb106)); have n3_ := Aside0.mk ((by rw [hg]; exact (below_size (by repeat (first | (with_reducible first | exact HB.out | apply below_alloc | apply pw_below_drewN | apply below_drew1) | exact HB.out))) : w.heap.size ≤ gb106)); clear HB; have HB := n0_; have BK106 := n1_; have GW106 := n2_; have GE106 := n3_; clear n0_ n1_ n2_ n3_; clear hb hbox hg; have hcz5_0 : w4.cell? ⟨gb106, 0, none⟩ = some (.int .i64 a0_0) := (blk_cell BK106.out 0).trans rfl; have hcz5_1 : w4.cell? ⟨gb106, 1, none⟩ = some (.int .i64 a0_1) := (blk_cell BK106.out 1).trans rfl; have hcz5_2 : w4.cell? ⟨gb106, 2, none⟩ = some (.int .i64 a0_2) := (blk_cell BK106.out 2).trans rfl; have hcz5_3 : w4.cell? ⟨gb106, 3, none⟩ = some (.int .i64 a0_3) := (blk_cell BK106.out 3).trans rfl; have hcz5_4 : w4.cell? ⟨gb106, 4, none⟩ = some (.int .i64 a0_4) := (blk_cell BK106.out 4).trans rfl; have hfz5_0 := blk_frozen BK106.out 0; have hfz5_1 := blk_frozen BK106.out 1; have hfz5_2 := blk_frozen BK106.out 2; have hfz5_3 := blk_frozen BK106.out 3; have hfz5_4 := blk_frozen BK106.out 4) | ((with_reducible refine gate_callee (f := 87) rfl ?_); refine goesL_ (some 7) rfl rfl Try.func87 (by kernel_rfl) rfl #[.int .i64 a0_0] rfl (by (try simp only [List.map_toArray, List.map_cons, List.map_nil]); first | done | rfl | (simp only [List.length_drop, List.length_take]; rfl)) ?_; (with_reducible refine (il_of.calls a0_0 t107 t108 _ A2.out).mono ?_); rintro e w6 ⟨rfl, hb⟩; refine ⟨_, rfl, ?_⟩; have n0_ := Aside0.mk (blk_below (g := gb106) (o := .cells #[.int .i64 a0_0, .int .i64 a0_1, .int .i64 a0_2, .int .i64 a0_3, .int .i64 a0_4] 89 (0, 0)) (by (with_reducible repeat (first | refine blk_drewN ?_ _ | refine blk_drew ?_ | refine blk_alloc ?_ _)); exact BK106.out) hb); have n1_ := Aside0.mk (below_step (by repeat (first | (with_reducible first | exact HB.out | apply below_alloc | apply pw_below_drewN | apply below_drew1 | refine below_set ?_ GE106.out) | exact HB.out)) hb); clear BK106; clear HB; have BK106 := n0_; have HB := n1_; clear n0_ n1_; (try clear hb); (try clear hb2); (try clear hk); (try clear hi)))
  (try simp only [Act.put, List.setIfInBounds_toArray, List.set_cons_zero, List.set_cons_succ])
  go_cut [4] (fun v4 wc => ∃ (kq : Nat) (x4_2 : Bool), v4 = .bool x4_2 ∧ Aside0 (il_Right.j0 kq t108 x4_2 a0_0 a0_1 a0_2 a0_3 a0_4 = some r) ∧ Aside0 (kq ≤ k) ∧ Aside0 (wc.heap[gb106]? = some (.cells #[.int .i64 a0_0, .int .i64 a0_1, .int .i64 a0_2, .int .i64 a0_3, .int .i64 a0_4] 89 (0, 0))) ∧ Aside0 (Below w.heap.size w wc))
  case first =>
    have H := HC3.out
    clear HC3
    by_cases c7 : a0_2 = 0
    · rw [if_pos c7] at H
      have c7b0 : (a0_2 == 0) = true := beq_iff_eq.mpr c7
      have c7b1 : (a0_2 != 0) = false := bne_eq_false_iff_eq.mpr c7
      clear c7
      (first | rw [c7b0] | (simp only [i64_w, i32_w]; rw [c7b0]) | skip)
      have H' := Aside0.mk H
      clear H
      have hcz8_0 : w6.cell? ⟨gb106, 0, none⟩ = some (.int .i64 a0_0) := (blk_cell BK106.out 0).trans rfl
      have hcz8_1 : w6.cell? ⟨gb106, 1, none⟩ = some (.int .i64 a0_1) := (blk_cell BK106.out 1).trans rfl
      have hcz8_2 : w6.cell? ⟨gb106, 2, none⟩ = some (.int .i64 a0_2) := (blk_cell BK106.out 2).trans rfl
      have hcz8_3 : w6.cell? ⟨gb106, 3, none⟩ = some (.int .i64 a0_3) := (blk_cell BK106.out 3).trans rfl
      have hcz8_4 : w6.cell? ⟨gb106, 4, none⟩ = some (.int .i64 a0_4) := (blk_cell BK106.out 4).trans rfl
      have hfz8_0 := blk_frozen BK106.out 0
      have hfz8_1 := blk_frozen BK106.out 1
      have hfz8_2 := blk_frozen BK106.out 2
      have hfz8_3 := blk_frozen BK106.out 3
      have hfz8_4 := blk_frozen BK106.out 4
      go_wp2
      go_meet
      case rel => exact ⟨_, ((a0_4 == 0)), (by first | rfl | (simp; done) | (simp [*]; done)), H', ⟨by first | omega | exact Nat.le_refl _⟩, ⟨by (with_reducible repeat (first | refine blk_drewN ?_ _ | refine blk_drew ?_ | refine blk_alloc ?_ _)); exact BK106.out⟩, ⟨by repeat (first | (with_reducible first | exact HB.out | apply below_alloc | apply pw_below_drewN | apply below_drew1 | refine below_set ?_ GE106.out) | exact HB.out)⟩⟩
    · rw [if_neg c7] at H
      have c7b0 : (a0_2 == 0) = false := beq_eq_false_iff_ne.mpr c7
      have c7b1 : (a0_2 != 0) = true := bne_iff_ne.mpr c7
      (first | rw [c7b0] | (simp only [i64_w, i32_w]; rw [c7b0]) | skip)
      have H' := Aside0.mk H
      clear H
      have hcz9_0 : w6.cell? ⟨gb106, 0, none⟩ = some (.int .i64 a0_0) := (blk_cell BK106.out 0).trans rfl
      have hcz9_1 : w6.cell? ⟨gb106, 1, none⟩ = some (.int .i64 a0_1) := (blk_cell BK106.out 1).trans rfl
      have hcz9_2 : w6.cell? ⟨gb106, 2, none⟩ = some (.int .i64 a0_2) := (blk_cell BK106.out 2).trans rfl
      have hcz9_3 : w6.cell? ⟨gb106, 3, none⟩ = some (.int .i64 a0_3) := (blk_cell BK106.out 3).trans rfl
      have hcz9_4 : w6.cell? ⟨gb106, 4, none⟩ = some (.int .i64 a0_4) := (blk_cell BK106.out 4).trans rfl
      have hfz9_0 := blk_frozen BK106.out 0
      have hfz9_1 := blk_frozen BK106.out 1
      have hfz9_2 := blk_frozen BK106.out 2
      have hfz9_3 := blk_frozen BK106.out 3
      have hfz9_4 := blk_frozen BK106.out 4
      go_wp2
      go_meet
      case rel => exact ⟨_, (false), (by first | rfl | (simp; done) | (simp [*]; done)), H', ⟨by first | omega | exact Nat.le_refl _⟩, ⟨by (with_reducible repeat (first | refine blk_drewN ?_ _ | refine blk_drew ?_ | refine blk_alloc ?_ _)); exact BK106.out⟩, ⟨by repeat (first | (with_reducible first | exact HB.out | apply below_alloc | apply pw_below_drewN | apply below_drew1 | refine below_set ?_ GE106.out) | exact HB.out)⟩⟩
  case rest =>
    clear HC3
    try clear p2
    try clear c7
    try clear c7b0
    try clear c7b1
    try clear c8
    try clear hcz5_0
    try clear hcz5_1
    try clear hcz5_2
    try clear hcz5_3
    try clear hcz5_4
    try clear hcz8_0
    try clear hcz8_1
    try clear hcz8_2
    try clear hcz8_3
    try clear hcz8_4
    try clear hcz9_0
    try clear hcz9_1
    try clear hcz9_2
    try clear hcz9_3
    try clear hcz9_4
    try clear hfz5_0
    try clear hfz5_1
    try clear hfz5_2
    try clear hfz5_3
    try clear hfz5_4
    try clear hfz8_0
    try clear hfz8_1
    try clear hfz8_2
    try clear hfz8_3
    try clear hfz8_4
    try clear hfz9_0
    try clear hfz9_1
    try clear hfz9_2
    try clear hfz9_3
    try clear hfz9_4
    obtain ⟨kq, x4_2, rfl, HA, HJ2, BK106, HB⟩ := hcut
    cases kq with
    | zero => exact absurd HA.out (by simp [il_Right.j0])
    | succ kj2 =>
      have H := HA.out
      clear HA
      simp only [il_Right.j0] at H
      by_cases c10 : t108 = 1
      · rw [if_pos c10] at H
        have c10b0 : (t108 == 1) = true := beq_iff_eq.mpr c10
        have c10b1 : (t108 != 1) = false := bne_eq_false_iff_eq.mpr c10
        clear c10
        by_cases c11 : a0_2 = 0
        · rw [if_pos c11] at H
          have c11b0 : (a0_2 == 0) = true := beq_iff_eq.mpr c11
          have c11b1 : (a0_2 != 0) = false := bne_eq_false_iff_eq.mpr c11
          clear c11
          by_cases c12 : a0_3 = 0
          · rw [if_pos c12] at H
            have c12b0 : (a0_3 == 0) = true := beq_iff_eq.mpr c12
            have c12b1 : (a0_3 != 0) = false := bne_eq_false_iff_eq.mpr c12
            clear c12
            replace H := Option.bind_eq_some_iff.mp H
            obtain ⟨t109, A130, H⟩ := H
            replace H : (some t109) = some r := H
            have A13 := Aside0.mk A130
            clear A130
            obtain rfl := Option.some.inj H
            have hcz14_0 : wc.cell? ⟨gb106, 0, none⟩ = some (.int .i64 a0_0) := (blk_cell BK106.out 0).trans rfl
            have hcz14_1 : wc.cell? ⟨gb106, 1, none⟩ = some (.int .i64 a0_1) := (blk_cell BK106.out 1).trans rfl
            have hcz14_2 : wc.cell? ⟨gb106, 2, none⟩ = some (.int .i64 a0_2) := (blk_cell BK106.out 2).trans rfl
            have hcz14_3 : wc.cell? ⟨gb106, 3, none⟩ = some (.int .i64 a0_3) := (blk_cell BK106.out 3).trans rfl
            have hcz14_4 : wc.cell? ⟨gb106, 4, none⟩ = some (.int .i64 a0_4) := (blk_cell BK106.out 4).trans rfl
            have hfz14_0 := blk_frozen BK106.out 0
            have hfz14_1 := blk_frozen BK106.out 1
            have hfz14_2 := blk_frozen BK106.out 2
            have hfz14_3 := blk_frozen BK106.out 3
            have hfz14_4 := blk_frozen BK106.out 4
            go_wp2_with (first | (go_at_call 27; (with_reducible refine (iec_Is.calls a0_1 a0_4 t109 _ A13.out).mono ?_); rintro e w15 ⟨rfl, hb⟩; have n0_ := Aside0.mk (blk_below (g := gb106) (o := .cells #[.int .i64 a0_0, .int .i64 a0_1, .int .i64 a0_2, .int .i64 a0_3, .int .i64 a0_4] 89 (0, 0)) (by (with_reducible repeat (first | refine blk_drewN ?_ _ | refine blk_drew ?_ | refine blk_alloc ?_ _)); exact BK106.out) hb); have n1_ := Aside0.mk (below_step (by repeat (first | (with_reducible first | exact HB.out | apply below_alloc | apply pw_below_drewN | apply below_drew1 | refine below_set ?_ GE106.out) | exact HB.out)) hb); clear BK106; clear HB; have BK106 := n0_; have HB := n1_; clear n0_ n1_; (try clear hb); (try clear hb2); (try clear hk); (try clear hi)))
            go_ret
            exact ⟨by first | rfl | (simp [errW_none, errW_some] <;> rfl) | (simp [*, errW_none, errW_some] <;> rfl), by repeat (first | (with_reducible first | exact HB.out | apply below_alloc | apply pw_below_drewN | apply below_drew1 | refine below_set ?_ GE106.out) | exact HB.out)⟩
          · rw [if_neg c12] at H
            have c12b0 : (a0_3 == 0) = false := beq_eq_false_iff_ne.mpr c12
            have c12b1 : (a0_3 != 0) = true := bne_iff_ne.mpr c12
            obtain rfl := Option.some.inj H
            have hcz16_0 : wc.cell? ⟨gb106, 0, none⟩ = some (.int .i64 a0_0) := (blk_cell BK106.out 0).trans rfl
            have hcz16_1 : wc.cell? ⟨gb106, 1, none⟩ = some (.int .i64 a0_1) := (blk_cell BK106.out 1).trans rfl
            have hcz16_2 : wc.cell? ⟨gb106, 2, none⟩ = some (.int .i64 a0_2) := (blk_cell BK106.out 2).trans rfl
            have hcz16_3 : wc.cell? ⟨gb106, 3, none⟩ = some (.int .i64 a0_3) := (blk_cell BK106.out 3).trans rfl
            have hcz16_4 : wc.cell? ⟨gb106, 4, none⟩ = some (.int .i64 a0_4) := (blk_cell BK106.out 4).trans rfl
            have hfz16_0 := blk_frozen BK106.out 0
            have hfz16_1 := blk_frozen BK106.out 1
            have hfz16_2 := blk_frozen BK106.out 2
            have hfz16_3 := blk_frozen BK106.out 3
            have hfz16_4 := blk_frozen BK106.out 4
            go_wp2
            go_ret
            exact ⟨by first | rfl | (simp [errW_none, errW_some] <;> rfl) | (simp [*, errW_none, errW_some] <;> rfl), by repeat (first | (with_reducible first | exact HB.out | apply below_alloc | apply pw_below_drewN | apply below_drew1 | refine below_set ?_ GE106.out) | exact HB.out)⟩
        · rw [if_neg c11] at H
          have c11b0 : (a0_2 == 0) = false := beq_eq_false_iff_ne.mpr c11
          have c11b1 : (a0_2 != 0) = true := bne_iff_ne.mpr c11
          replace H := Option.bind_eq_some_iff.mp H
          obtain ⟨t110, A170, H⟩ := H
          replace H : (some t110) = some r := H
          have A17 := Aside0.mk A170
          clear A170
          obtain rfl := Option.some.inj H
          have hcz18_0 : wc.cell? ⟨gb106, 0, none⟩ = some (.int .i64 a0_0) := (blk_cell BK106.out 0).trans rfl
          have hcz18_1 : wc.cell? ⟨gb106, 1, none⟩ = some (.int .i64 a0_1) := (blk_cell BK106.out 1).trans rfl
          have hcz18_2 : wc.cell? ⟨gb106, 2, none⟩ = some (.int .i64 a0_2) := (blk_cell BK106.out 2).trans rfl
          have hcz18_3 : wc.cell? ⟨gb106, 3, none⟩ = some (.int .i64 a0_3) := (blk_cell BK106.out 3).trans rfl
          have hcz18_4 : wc.cell? ⟨gb106, 4, none⟩ = some (.int .i64 a0_4) := (blk_cell BK106.out 4).trans rfl
          have hfz18_0 := blk_frozen BK106.out 0
          have hfz18_1 := blk_frozen BK106.out 1
          have hfz18_2 := blk_frozen BK106.out 2
          have hfz18_3 := blk_frozen BK106.out 3
          have hfz18_4 := blk_frozen BK106.out 4
          go_wp2_with (first | ((with_reducible refine gate_callee (f := 88) rfl ?_); refine goesL_ (some 34) rfl rfl Try.func88 (by kernel_rfl) rfl #[.agg #[.int .i64 a0_0, .int .i64 a0_1, .int .i64 a0_2, .int .i64 a0_3, .int .i64 a0_4], .int .i64 1] rfl (by (try simp only [List.map_toArray, List.map_cons, List.map_nil]); first | done | rfl | (simp only [List.length_drop, List.length_take]; rfl)) ?_; (with_reducible refine (il_stands.calls a0_0 a0_1 a0_2 a0_3 a0_4 1 t110 _ A17.out).mono ?_); rintro e w19 ⟨rfl, hb⟩; refine ⟨_, rfl, ?_⟩; have n0_ := Aside0.mk (blk_below (g := gb106) (o := .cells #[.int .i64 a0_0, .int .i64 a0_1, .int .i64 a0_2, .int .i64 a0_3, .int .i64 a0_4] 89 (0, 0)) (by (with_reducible repeat (first | refine blk_drewN ?_ _ | refine blk_drew ?_ | refine blk_alloc ?_ _)); exact BK106.out) hb); have n1_ := Aside0.mk (below_step (by repeat (first | (with_reducible first | exact HB.out | apply below_alloc | apply pw_below_drewN | apply below_drew1 | refine below_set ?_ GE106.out) | exact HB.out)) hb); clear BK106; clear HB; have BK106 := n0_; have HB := n1_; clear n0_ n1_; (try clear hb); (try clear hb2); (try clear hk); (try clear hi)))
          go_ret
          exact ⟨by first | rfl | (simp [errW_none, errW_some] <;> rfl) | (simp [*, errW_none, errW_some] <;> rfl), by repeat (first | (with_reducible first | exact HB.out | apply below_alloc | apply pw_below_drewN | apply below_drew1 | refine below_set ?_ GE106.out) | exact HB.out)⟩
      · rw [if_neg c10] at H
        have c10b0 : (t108 == 1) = false := beq_eq_false_iff_ne.mpr c10
        have c10b1 : (t108 != 1) = true := bne_iff_ne.mpr c10
        by_cases c20 : t108 = 2
        · rw [if_pos c20] at H
          have c20b0 : (t108 == 2) = true := beq_iff_eq.mpr c20
          have c20b1 : (t108 != 2) = false := bne_eq_false_iff_eq.mpr c20
          clear c20
          replace H := Option.bind_eq_some_iff.mp H
          obtain ⟨t111, A210, H⟩ := H
          replace H : (some t111) = some r := H
          have A21 := Aside0.mk A210
          clear A210
          obtain rfl := Option.some.inj H
          have hcz22_0 : wc.cell? ⟨gb106, 0, none⟩ = some (.int .i64 a0_0) := (blk_cell BK106.out 0).trans rfl
          have hcz22_1 : wc.cell? ⟨gb106, 1, none⟩ = some (.int .i64 a0_1) := (blk_cell BK106.out 1).trans rfl
          have hcz22_2 : wc.cell? ⟨gb106, 2, none⟩ = some (.int .i64 a0_2) := (blk_cell BK106.out 2).trans rfl
          have hcz22_3 : wc.cell? ⟨gb106, 3, none⟩ = some (.int .i64 a0_3) := (blk_cell BK106.out 3).trans rfl
          have hcz22_4 : wc.cell? ⟨gb106, 4, none⟩ = some (.int .i64 a0_4) := (blk_cell BK106.out 4).trans rfl
          have hfz22_0 := blk_frozen BK106.out 0
          have hfz22_1 := blk_frozen BK106.out 1
          have hfz22_2 := blk_frozen BK106.out 2
          have hfz22_3 := blk_frozen BK106.out 3
          have hfz22_4 := blk_frozen BK106.out 4
          go_wp2_with (first | ((with_reducible refine gate_callee (f := 88) rfl ?_); refine goesL_ (some 38) rfl rfl Try.func88 (by kernel_rfl) rfl #[.agg #[.int .i64 a0_0, .int .i64 a0_1, .int .i64 a0_2, .int .i64 a0_3, .int .i64 a0_4], .int .i64 2] rfl (by (try simp only [List.map_toArray, List.map_cons, List.map_nil]); first | done | rfl | (simp only [List.length_drop, List.length_take]; rfl)) ?_; (with_reducible refine (il_stands.calls a0_0 a0_1 a0_2 a0_3 a0_4 2 t111 _ A21.out).mono ?_); rintro e w23 ⟨rfl, hb⟩; refine ⟨_, rfl, ?_⟩; have n0_ := Aside0.mk (blk_below (g := gb106) (o := .cells #[.int .i64 a0_0, .int .i64 a0_1, .int .i64 a0_2, .int .i64 a0_3, .int .i64 a0_4] 89 (0, 0)) (by (with_reducible repeat (first | refine blk_drewN ?_ _ | refine blk_drew ?_ | refine blk_alloc ?_ _)); exact BK106.out) hb); have n1_ := Aside0.mk (below_step (by repeat (first | (with_reducible first | exact HB.out | apply below_alloc | apply pw_below_drewN | apply below_drew1 | refine below_set ?_ GE106.out) | exact HB.out)) hb); clear BK106; clear HB; have BK106 := n0_; have HB := n1_; clear n0_ n1_; (try clear hb); (try clear hb2); (try clear hk); (try clear hi)))
          go_ret
          exact ⟨by first | rfl | (simp [errW_none, errW_some] <;> rfl) | (simp [*, errW_none, errW_some] <;> rfl), by repeat (first | (with_reducible first | exact HB.out | apply below_alloc | apply pw_below_drewN | apply below_drew1 | refine below_set ?_ GE106.out) | exact HB.out)⟩
        · rw [if_neg c20] at H
          have c20b0 : (t108 == 2) = false := beq_eq_false_iff_ne.mpr c20
          have c20b1 : (t108 != 2) = true := bne_iff_ne.mpr c20
          by_cases c24 : t108 = 3
          · rw [if_pos c24] at H
            have c24b0 : (t108 == 3) = true := beq_iff_eq.mpr c24
            have c24b1 : (t108 != 3) = false := bne_eq_false_iff_eq.mpr c24
            clear c24
            by_cases c25 : x4_2 = true
            · subst c25
              have H1 : (if a0_1 = 0 then (if a0_3 ≥ 0 then (some (decide (a0_3 ≤ 200))) else (some false)) else (some false)) = some r := by rw [if_pos rfl] at H; exact H
              clear H
              have H := H1
              clear H1
              by_cases c26 : a0_1 = 0
              · rw [if_pos c26] at H
                have c26b0 : (a0_1 == 0) = true := beq_iff_eq.mpr c26
                have c26b1 : (a0_1 != 0) = false := bne_eq_false_iff_eq.mpr c26
                clear c26
                by_cases c27 : a0_3 ≥ 0
                · rw [if_pos c27] at H
                  have c27b0 : decide (0 ≤ a0_3) = true := decide_eq_true c27
                  clear c27
                  obtain rfl := Option.some.inj H
                  have hcz28_0 : wc.cell? ⟨gb106, 0, none⟩ = some (.int .i64 a0_0) := (blk_cell BK106.out 0).trans rfl
                  have hcz28_1 : wc.cell? ⟨gb106, 1, none⟩ = some (.int .i64 a0_1) := (blk_cell BK106.out 1).trans rfl
                  have hcz28_2 : wc.cell? ⟨gb106, 2, none⟩ = some (.int .i64 a0_2) := (blk_cell BK106.out 2).trans rfl
                  have hcz28_3 : wc.cell? ⟨gb106, 3, none⟩ = some (.int .i64 a0_3) := (blk_cell BK106.out 3).trans rfl
                  have hcz28_4 : wc.cell? ⟨gb106, 4, none⟩ = some (.int .i64 a0_4) := (blk_cell BK106.out 4).trans rfl
                  have hfz28_0 := blk_frozen BK106.out 0
                  have hfz28_1 := blk_frozen BK106.out 1
                  have hfz28_2 := blk_frozen BK106.out 2
                  have hfz28_3 := blk_frozen BK106.out 3
                  have hfz28_4 := blk_frozen BK106.out 4
                  go_wp2
                  go_ret
                  exact ⟨by first | rfl | (simp [errW_none, errW_some] <;> rfl) | (simp [*, errW_none, errW_some] <;> rfl), by repeat (first | (with_reducible first | exact HB.out | apply below_alloc | apply pw_below_drewN | apply below_drew1 | refine below_set ?_ GE106.out) | exact HB.out)⟩
                · rw [if_neg c27] at H
                  have c27b0 : decide (0 ≤ a0_3) = false := decide_eq_false c27
                  clear c27
                  obtain rfl := Option.some.inj H
                  have hcz29_0 : wc.cell? ⟨gb106, 0, none⟩ = some (.int .i64 a0_0) := (blk_cell BK106.out 0).trans rfl
                  have hcz29_1 : wc.cell? ⟨gb106, 1, none⟩ = some (.int .i64 a0_1) := (blk_cell BK106.out 1).trans rfl
                  have hcz29_2 : wc.cell? ⟨gb106, 2, none⟩ = some (.int .i64 a0_2) := (blk_cell BK106.out 2).trans rfl
                  have hcz29_3 : wc.cell? ⟨gb106, 3, none⟩ = some (.int .i64 a0_3) := (blk_cell BK106.out 3).trans rfl
                  have hcz29_4 : wc.cell? ⟨gb106, 4, none⟩ = some (.int .i64 a0_4) := (blk_cell BK106.out 4).trans rfl
                  have hfz29_0 := blk_frozen BK106.out 0
                  have hfz29_1 := blk_frozen BK106.out 1
                  have hfz29_2 := blk_frozen BK106.out 2
                  have hfz29_3 := blk_frozen BK106.out 3
                  have hfz29_4 := blk_frozen BK106.out 4
                  go_wp2
                  go_ret
                  exact ⟨by first | rfl | (simp [errW_none, errW_some] <;> rfl) | (simp [*, errW_none, errW_some] <;> rfl), by repeat (first | (with_reducible first | exact HB.out | apply below_alloc | apply pw_below_drewN | apply below_drew1 | refine below_set ?_ GE106.out) | exact HB.out)⟩
              · rw [if_neg c26] at H
                have c26b0 : (a0_1 == 0) = false := beq_eq_false_iff_ne.mpr c26
                have c26b1 : (a0_1 != 0) = true := bne_iff_ne.mpr c26
                obtain rfl := Option.some.inj H
                have hcz30_0 : wc.cell? ⟨gb106, 0, none⟩ = some (.int .i64 a0_0) := (blk_cell BK106.out 0).trans rfl
                have hcz30_1 : wc.cell? ⟨gb106, 1, none⟩ = some (.int .i64 a0_1) := (blk_cell BK106.out 1).trans rfl
                have hcz30_2 : wc.cell? ⟨gb106, 2, none⟩ = some (.int .i64 a0_2) := (blk_cell BK106.out 2).trans rfl
                have hcz30_3 : wc.cell? ⟨gb106, 3, none⟩ = some (.int .i64 a0_3) := (blk_cell BK106.out 3).trans rfl
                have hcz30_4 : wc.cell? ⟨gb106, 4, none⟩ = some (.int .i64 a0_4) := (blk_cell BK106.out 4).trans rfl
                have hfz30_0 := blk_frozen BK106.out 0
                have hfz30_1 := blk_frozen BK106.out 1
                have hfz30_2 := blk_frozen BK106.out 2
                have hfz30_3 := blk_frozen BK106.out 3
                have hfz30_4 := blk_frozen BK106.out 4
                go_wp2
                go_ret
                exact ⟨by first | rfl | (simp [errW_none, errW_some] <;> rfl) | (simp [*, errW_none, errW_some] <;> rfl), by repeat (first | (with_reducible first | exact HB.out | apply below_alloc | apply pw_below_drewN | apply below_drew1 | refine below_set ?_ GE106.out) | exact HB.out)⟩
            · replace c25 := Bool.eq_false_iff.mpr c25
              subst c25
              have H1 : (some false) = some r := by rw [if_neg (show ¬ (false = true) by decide)] at H; exact H
              clear H
              have H := H1
              clear H1
              obtain rfl := Option.some.inj H
              go_wp2
              go_ret
              exact ⟨by first | rfl | (simp [errW_none, errW_some] <;> rfl) | (simp [*, errW_none, errW_some] <;> rfl), by repeat (first | (with_reducible first | exact HB.out | apply below_alloc | apply pw_below_drewN | apply below_drew1 | refine below_set ?_ GE106.out) | exact HB.out)⟩
          · rw [if_neg c24] at H
            have c24b0 : (t108 == 3) = false := beq_eq_false_iff_ne.mpr c24
            have c24b1 : (t108 != 3) = true := bne_iff_ne.mpr c24
            by_cases c31 : t108 = 4
            · rw [if_pos c31] at H
              have c31b0 : (t108 == 4) = true := beq_iff_eq.mpr c31
              have c31b1 : (t108 != 4) = false := bne_eq_false_iff_eq.mpr c31
              clear c31
              by_cases c32 : x4_2 = true
              · subst c32
                have H1 : (if a0_1 = 0 then (some (a0_3 == 0)) else (some false)) = some r := by rw [if_pos rfl] at H; exact H
                clear H
                have H := H1
                clear H1
                by_cases c33 : a0_1 = 0
                · rw [if_pos c33] at H
                  have c33b0 : (a0_1 == 0) = true := beq_iff_eq.mpr c33
                  have c33b1 : (a0_1 != 0) = false := bne_eq_false_iff_eq.mpr c33
                  clear c33
                  obtain rfl := Option.some.inj H
                  have hcz34_0 : wc.cell? ⟨gb106, 0, none⟩ = some (.int .i64 a0_0) := (blk_cell BK106.out 0).trans rfl
                  have hcz34_1 : wc.cell? ⟨gb106, 1, none⟩ = some (.int .i64 a0_1) := (blk_cell BK106.out 1).trans rfl
                  have hcz34_2 : wc.cell? ⟨gb106, 2, none⟩ = some (.int .i64 a0_2) := (blk_cell BK106.out 2).trans rfl
                  have hcz34_3 : wc.cell? ⟨gb106, 3, none⟩ = some (.int .i64 a0_3) := (blk_cell BK106.out 3).trans rfl
                  have hcz34_4 : wc.cell? ⟨gb106, 4, none⟩ = some (.int .i64 a0_4) := (blk_cell BK106.out 4).trans rfl
                  have hfz34_0 := blk_frozen BK106.out 0
                  have hfz34_1 := blk_frozen BK106.out 1
                  have hfz34_2 := blk_frozen BK106.out 2
                  have hfz34_3 := blk_frozen BK106.out 3
                  have hfz34_4 := blk_frozen BK106.out 4
                  go_wp2
                  go_ret
                  exact ⟨by first | rfl | (simp [errW_none, errW_some] <;> rfl) | (simp [*, errW_none, errW_some] <;> rfl), by repeat (first | (with_reducible first | exact HB.out | apply below_alloc | apply pw_below_drewN | apply below_drew1 | refine below_set ?_ GE106.out) | exact HB.out)⟩
                · rw [if_neg c33] at H
                  have c33b0 : (a0_1 == 0) = false := beq_eq_false_iff_ne.mpr c33
                  have c33b1 : (a0_1 != 0) = true := bne_iff_ne.mpr c33
                  obtain rfl := Option.some.inj H
                  have hcz35_0 : wc.cell? ⟨gb106, 0, none⟩ = some (.int .i64 a0_0) := (blk_cell BK106.out 0).trans rfl
                  have hcz35_1 : wc.cell? ⟨gb106, 1, none⟩ = some (.int .i64 a0_1) := (blk_cell BK106.out 1).trans rfl
                  have hcz35_2 : wc.cell? ⟨gb106, 2, none⟩ = some (.int .i64 a0_2) := (blk_cell BK106.out 2).trans rfl
                  have hcz35_3 : wc.cell? ⟨gb106, 3, none⟩ = some (.int .i64 a0_3) := (blk_cell BK106.out 3).trans rfl
                  have hcz35_4 : wc.cell? ⟨gb106, 4, none⟩ = some (.int .i64 a0_4) := (blk_cell BK106.out 4).trans rfl
                  have hfz35_0 := blk_frozen BK106.out 0
                  have hfz35_1 := blk_frozen BK106.out 1
                  have hfz35_2 := blk_frozen BK106.out 2
                  have hfz35_3 := blk_frozen BK106.out 3
                  have hfz35_4 := blk_frozen BK106.out 4
                  go_wp2
                  go_ret
                  exact ⟨by first | rfl | (simp [errW_none, errW_some] <;> rfl) | (simp [*, errW_none, errW_some] <;> rfl), by repeat (first | (with_reducible first | exact HB.out | apply below_alloc | apply pw_below_drewN | apply below_drew1 | refine below_set ?_ GE106.out) | exact HB.out)⟩
              · replace c32 := Bool.eq_false_iff.mpr c32
                subst c32
                have H1 : (some false) = some r := by rw [if_neg (show ¬ (false = true) by decide)] at H; exact H
                clear H
                have H := H1
                clear H1
                obtain rfl := Option.some.inj H
                go_wp2
                go_ret
                exact ⟨by first | rfl | (simp [errW_none, errW_some] <;> rfl) | (simp [*, errW_none, errW_some] <;> rfl), by repeat (first | (with_reducible first | exact HB.out | apply below_alloc | apply pw_below_drewN | apply below_drew1 | refine below_set ?_ GE106.out) | exact HB.out)⟩
            · rw [if_neg c31] at H
              have c31b0 : (t108 == 4) = false := beq_eq_false_iff_ne.mpr c31
              have c31b1 : (t108 != 4) = true := bne_iff_ne.mpr c31
              by_cases c36 : t108 = 5
              · rw [if_pos c36] at H
                have c36b0 : (t108 == 5) = true := beq_iff_eq.mpr c36
                have c36b1 : (t108 != 5) = false := bne_eq_false_iff_eq.mpr c36
                clear c36
                by_cases c37 : x4_2 = true
                · subst c37
                  have H1 : (if a0_3 = 0 then ((iec_Size.f a0_1).bind fun t112 => (some (decide (t112 > 0)))) else (some false)) = some r := by rw [if_pos rfl] at H; exact H
                  clear H
                  have H := H1
                  clear H1
                  by_cases c38 : a0_3 = 0
                  · rw [if_pos c38] at H
                    have c38b0 : (a0_3 == 0) = true := beq_iff_eq.mpr c38
                    have c38b1 : (a0_3 != 0) = false := bne_eq_false_iff_eq.mpr c38
                    clear c38
                    replace H := Option.bind_eq_some_iff.mp H
                    obtain ⟨t112, A390, H⟩ := H
                    replace H : (some (decide (t112 > 0))) = some r := H
                    have A39 := Aside0.mk A390
                    clear A390
                    obtain rfl := Option.some.inj H
                    have hcz40_0 : wc.cell? ⟨gb106, 0, none⟩ = some (.int .i64 a0_0) := (blk_cell BK106.out 0).trans rfl
                    have hcz40_1 : wc.cell? ⟨gb106, 1, none⟩ = some (.int .i64 a0_1) := (blk_cell BK106.out 1).trans rfl
                    have hcz40_2 : wc.cell? ⟨gb106, 2, none⟩ = some (.int .i64 a0_2) := (blk_cell BK106.out 2).trans rfl
                    have hcz40_3 : wc.cell? ⟨gb106, 3, none⟩ = some (.int .i64 a0_3) := (blk_cell BK106.out 3).trans rfl
                    have hcz40_4 : wc.cell? ⟨gb106, 4, none⟩ = some (.int .i64 a0_4) := (blk_cell BK106.out 4).trans rfl
                    have hfz40_0 := blk_frozen BK106.out 0
                    have hfz40_1 := blk_frozen BK106.out 1
                    have hfz40_2 := blk_frozen BK106.out 2
                    have hfz40_3 := blk_frozen BK106.out 3
                    have hfz40_4 := blk_frozen BK106.out 4
                    go_wp2_with (first | (go_at_call 25; (with_reducible refine (iec_Size.calls a0_1 t112 _ A39.out).mono ?_); rintro e w41 ⟨rfl, hb⟩; have n0_ := Aside0.mk (blk_below (g := gb106) (o := .cells #[.int .i64 a0_0, .int .i64 a0_1, .int .i64 a0_2, .int .i64 a0_3, .int .i64 a0_4] 89 (0, 0)) (by (with_reducible repeat (first | refine blk_drewN ?_ _ | refine blk_drew ?_ | refine blk_alloc ?_ _)); exact BK106.out) hb); have n1_ := Aside0.mk (below_step (by repeat (first | (with_reducible first | exact HB.out | apply below_alloc | apply pw_below_drewN | apply below_drew1 | refine below_set ?_ GE106.out) | exact HB.out)) hb); clear BK106; clear HB; have BK106 := n0_; have HB := n1_; clear n0_ n1_; (try clear hb); (try clear hb2); (try clear hk); (try clear hi)))
                    go_ret
                    exact ⟨by first | rfl | (simp [errW_none, errW_some] <;> rfl) | (simp [*, errW_none, errW_some] <;> rfl), by repeat (first | (with_reducible first | exact HB.out | apply below_alloc | apply pw_below_drewN | apply below_drew1 | refine below_set ?_ GE106.out) | exact HB.out)⟩
                  · rw [if_neg c38] at H
                    have c38b0 : (a0_3 == 0) = false := beq_eq_false_iff_ne.mpr c38
                    have c38b1 : (a0_3 != 0) = true := bne_iff_ne.mpr c38
                    obtain rfl := Option.some.inj H
                    have hcz42_0 : wc.cell? ⟨gb106, 0, none⟩ = some (.int .i64 a0_0) := (blk_cell BK106.out 0).trans rfl
                    have hcz42_1 : wc.cell? ⟨gb106, 1, none⟩ = some (.int .i64 a0_1) := (blk_cell BK106.out 1).trans rfl
                    have hcz42_2 : wc.cell? ⟨gb106, 2, none⟩ = some (.int .i64 a0_2) := (blk_cell BK106.out 2).trans rfl
                    have hcz42_3 : wc.cell? ⟨gb106, 3, none⟩ = some (.int .i64 a0_3) := (blk_cell BK106.out 3).trans rfl
                    have hcz42_4 : wc.cell? ⟨gb106, 4, none⟩ = some (.int .i64 a0_4) := (blk_cell BK106.out 4).trans rfl
                    have hfz42_0 := blk_frozen BK106.out 0
                    have hfz42_1 := blk_frozen BK106.out 1
                    have hfz42_2 := blk_frozen BK106.out 2
                    have hfz42_3 := blk_frozen BK106.out 3
                    have hfz42_4 := blk_frozen BK106.out 4
                    go_wp2
                    go_ret
                    exact ⟨by first | rfl | (simp [errW_none, errW_some] <;> rfl) | (simp [*, errW_none, errW_some] <;> rfl), by repeat (first | (with_reducible first | exact HB.out | apply below_alloc | apply pw_below_drewN | apply below_drew1 | refine below_set ?_ GE106.out) | exact HB.out)⟩
                · replace c37 := Bool.eq_false_iff.mpr c37
                  subst c37
                  have H1 : (some false) = some r := by rw [if_neg (show ¬ (false = true) by decide)] at H; exact H
                  clear H
                  have H := H1
                  clear H1
                  obtain rfl := Option.some.inj H
                  go_wp2
                  go_ret
                  exact ⟨by first | rfl | (simp [errW_none, errW_some] <;> rfl) | (simp [*, errW_none, errW_some] <;> rfl), by repeat (first | (with_reducible first | exact HB.out | apply below_alloc | apply pw_below_drewN | apply below_drew1 | refine below_set ?_ GE106.out) | exact HB.out)⟩
              · rw [if_neg c36] at H
                have c36b0 : (t108 == 5) = false := beq_eq_false_iff_ne.mpr c36
                have c36b1 : (t108 != 5) = true := bne_iff_ne.mpr c36
                by_cases c43 : t108 = 6
                · rw [if_pos c43] at H
                  have c43b0 : (t108 == 6) = true := beq_iff_eq.mpr c43
                  have c43b1 : (t108 != 6) = false := bne_eq_false_iff_eq.mpr c43
                  clear c43
                  by_cases c44 : x4_2 = true
                  · subst c44
                    have H1 : (if a0_1 = 0 then ((il_within.f a0_3).bind fun t113 => (some t113)) else (some false)) = some r := by rw [if_pos rfl] at H; exact H
                    clear H
                    have H := H1
                    clear H1
                    by_cases c45 : a0_1 = 0
                    · rw [if_pos c45] at H
                      have c45b0 : (a0_1 == 0) = true := beq_iff_eq.mpr c45
                      have c45b1 : (a0_1 != 0) = false := bne_eq_false_iff_eq.mpr c45
                      clear c45
                      replace H := Option.bind_eq_some_iff.mp H
                      obtain ⟨t113, A460, H⟩ := H
                      replace H : (some t113) = some r := H
                      have A46 := Aside0.mk A460
                      clear A460
                      obtain rfl := Option.some.inj H
                      have hcz47_0 : wc.cell? ⟨gb106, 0, none⟩ = some (.int .i64 a0_0) := (blk_cell BK106.out 0).trans rfl
                      have hcz47_1 : wc.cell? ⟨gb106, 1, none⟩ = some (.int .i64 a0_1) := (blk_cell BK106.out 1).trans rfl
                      have hcz47_2 : wc.cell? ⟨gb106, 2, none⟩ = some (.int .i64 a0_2) := (blk_cell BK106.out 2).trans rfl
                      have hcz47_3 : wc.cell? ⟨gb106, 3, none⟩ = some (.int .i64 a0_3) := (blk_cell BK106.out 3).trans rfl
                      have hcz47_4 : wc.cell? ⟨gb106, 4, none⟩ = some (.int .i64 a0_4) := (blk_cell BK106.out 4).trans rfl
                      have hfz47_0 := blk_frozen BK106.out 0
                      have hfz47_1 := blk_frozen BK106.out 1
                      have hfz47_2 := blk_frozen BK106.out 2
                      have hfz47_3 := blk_frozen BK106.out 3
                      have hfz47_4 := blk_frozen BK106.out 4
                      go_wp2_with (first | (go_at_call 89; (with_reducible refine (il_within.calls a0_3 t113 _ A46.out).mono ?_); rintro e w48 ⟨rfl, hb⟩; have n0_ := Aside0.mk (blk_below (g := gb106) (o := .cells #[.int .i64 a0_0, .int .i64 a0_1, .int .i64 a0_2, .int .i64 a0_3, .int .i64 a0_4] 89 (0, 0)) (by (with_reducible repeat (first | refine blk_drewN ?_ _ | refine blk_drew ?_ | refine blk_alloc ?_ _)); exact BK106.out) hb); have n1_ := Aside0.mk (below_step (by repeat (first | (with_reducible first | exact HB.out | apply below_alloc | apply pw_below_drewN | apply below_drew1 | refine below_set ?_ GE106.out) | exact HB.out)) hb); clear BK106; clear HB; have BK106 := n0_; have HB := n1_; clear n0_ n1_; (try clear hb); (try clear hb2); (try clear hk); (try clear hi)))
                      go_ret
                      exact ⟨by first | rfl | (simp [errW_none, errW_some] <;> rfl) | (simp [*, errW_none, errW_some] <;> rfl), by repeat (first | (with_reducible first | exact HB.out | apply below_alloc | apply pw_below_drewN | apply below_drew1 | refine below_set ?_ GE106.out) | exact HB.out)⟩
                    · rw [if_neg c45] at H
                      have c45b0 : (a0_1 == 0) = false := beq_eq_false_iff_ne.mpr c45
                      have c45b1 : (a0_1 != 0) = true := bne_iff_ne.mpr c45
                      obtain rfl := Option.some.inj H
                      have hcz49_0 : wc.cell? ⟨gb106, 0, none⟩ = some (.int .i64 a0_0) := (blk_cell BK106.out 0).trans rfl
                      have hcz49_1 : wc.cell? ⟨gb106, 1, none⟩ = some (.int .i64 a0_1) := (blk_cell BK106.out 1).trans rfl
                      have hcz49_2 : wc.cell? ⟨gb106, 2, none⟩ = some (.int .i64 a0_2) := (blk_cell BK106.out 2).trans rfl
                      have hcz49_3 : wc.cell? ⟨gb106, 3, none⟩ = some (.int .i64 a0_3) := (blk_cell BK106.out 3).trans rfl
                      have hcz49_4 : wc.cell? ⟨gb106, 4, none⟩ = some (.int .i64 a0_4) := (blk_cell BK106.out 4).trans rfl
                      have hfz49_0 := blk_frozen BK106.out 0
                      have hfz49_1 := blk_frozen BK106.out 1
                      have hfz49_2 := blk_frozen BK106.out 2
                      have hfz49_3 := blk_frozen BK106.out 3
                      have hfz49_4 := blk_frozen BK106.out 4
                      go_wp2
                      go_ret
                      exact ⟨by first | rfl | (simp [errW_none, errW_some] <;> rfl) | (simp [*, errW_none, errW_some] <;> rfl), by repeat (first | (with_reducible first | exact HB.out | apply below_alloc | apply pw_below_drewN | apply below_drew1 | refine below_set ?_ GE106.out) | exact HB.out)⟩
                  · replace c44 := Bool.eq_false_iff.mpr c44
                    subst c44
                    have H1 : (some false) = some r := by rw [if_neg (show ¬ (false = true) by decide)] at H; exact H
                    clear H
                    have H := H1
                    clear H1
                    obtain rfl := Option.some.inj H
                    go_wp2
                    go_ret
                    exact ⟨by first | rfl | (simp [errW_none, errW_some] <;> rfl) | (simp [*, errW_none, errW_some] <;> rfl), by repeat (first | (with_reducible first | exact HB.out | apply below_alloc | apply pw_below_drewN | apply below_drew1 | refine below_set ?_ GE106.out) | exact HB.out)⟩
                · rw [if_neg c43] at H
                  have c43b0 : (t108 == 6) = false := beq_eq_false_iff_ne.mpr c43
                  have c43b1 : (t108 != 6) = true := bne_iff_ne.mpr c43
                  by_cases c50 : t108 = 7
                  · rw [if_pos c50] at H
                    have c50b0 : (t108 == 7) = true := beq_iff_eq.mpr c50
                    have c50b1 : (t108 != 7) = false := bne_eq_false_iff_eq.mpr c50
                    clear c50
                    by_cases c51 : a0_1 = 0
                    · rw [if_pos c51] at H
                      have c51b0 : (a0_1 == 0) = true := beq_iff_eq.mpr c51
                      have c51b1 : (a0_1 != 0) = false := bne_eq_false_iff_eq.mpr c51
                      clear c51
                      replace H := Option.bind_eq_some_iff.mp H
                      obtain ⟨t114, A520, H⟩ := H
                      replace H : (if t114 = true then (if a0_3 ≥ 0 then (if a0_3 ≤ 59 then (if a0_4 ≥ 1 then (some (decide (a0_4 ≤ 9999))) else (some false)) else (some false)) else (some false)) else (some false)) = some r := H
                      have A52 := Aside0.mk A520
                      clear A520
                      by_cases c53 : t114 = true
                      · subst c53
                        have H1 : (if a0_3 ≥ 0 then (if a0_3 ≤ 59 then (if a0_4 ≥ 1 then (some (decide (a0_4 ≤ 9999))) else (some false)) else (some false)) else (some false)) = some r := by rw [if_pos rfl] at H; exact H
                        clear H
                        have H := H1
                        clear H1
                        by_cases c54 : a0_3 ≥ 0
                        · rw [if_pos c54] at H
                          have c54b0 : decide (0 ≤ a0_3) = true := decide_eq_true c54
                          clear c54
                          by_cases c55 : a0_3 ≤ 59
                          · rw [if_pos c55] at H
                            have c55b0 : decide (a0_3 ≤ 59) = true := decide_eq_true c55
                            clear c55
                            by_cases c56 : a0_4 ≥ 1
                            · rw [if_pos c56] at H
                              have c56b0 : decide (1 ≤ a0_4) = true := decide_eq_true c56
                              clear c56
                              obtain rfl := Option.some.inj H
                              have hcz57_0 : wc.cell? ⟨gb106, 0, none⟩ = some (.int .i64 a0_0) := (blk_cell BK106.out 0).trans rfl
                              have hcz57_1 : wc.cell? ⟨gb106, 1, none⟩ = some (.int .i64 a0_1) := (blk_cell BK106.out 1).trans rfl
                              have hcz57_2 : wc.cell? ⟨gb106, 2, none⟩ = some (.int .i64 a0_2) := (blk_cell BK106.out 2).trans rfl
                              have hcz57_3 : wc.cell? ⟨gb106, 3, none⟩ = some (.int .i64 a0_3) := (blk_cell BK106.out 3).trans rfl
                              have hcz57_4 : wc.cell? ⟨gb106, 4, none⟩ = some (.int .i64 a0_4) := (blk_cell BK106.out 4).trans rfl
                              have hfz57_0 := blk_frozen BK106.out 0
                              have hfz57_1 := blk_frozen BK106.out 1
                              have hfz57_2 := blk_frozen BK106.out 2
                              have hfz57_3 := blk_frozen BK106.out 3
                              have hfz57_4 := blk_frozen BK106.out 4
                              go_wp2_with (first | (go_at_call 90; (with_reducible refine (il_keeps.calls a0_2 true _ A52.out).mono ?_); rintro e w' ⟨rfl, ⟨nd, rfl⟩⟩))
                              go_ret
                              exact ⟨by first | rfl | (simp [errW_none, errW_some] <;> rfl) | (simp [*, errW_none, errW_some] <;> rfl), by repeat (first | (with_reducible first | exact HB.out | apply below_alloc | apply pw_below_drewN | apply below_drew1 | refine below_set ?_ GE106.out) | exact HB.out)⟩
                            · rw [if_neg c56] at H
                              have c56b0 : decide (1 ≤ a0_4) = false := decide_eq_false c56
                              clear c56
                              obtain rfl := Option.some.inj H
                              have hcz58_0 : wc.cell? ⟨gb106, 0, none⟩ = some (.int .i64 a0_0) := (blk_cell BK106.out 0).trans rfl
                              have hcz58_1 : wc.cell? ⟨gb106, 1, none⟩ = some (.int .i64 a0_1) := (blk_cell BK106.out 1).trans rfl
                              have hcz58_2 : wc.cell? ⟨gb106, 2, none⟩ = some (.int .i64 a0_2) := (blk_cell BK106.out 2).trans rfl
                              have hcz58_3 : wc.cell? ⟨gb106, 3, none⟩ = some (.int .i64 a0_3) := (blk_cell BK106.out 3).trans rfl
                              have hcz58_4 : wc.cell? ⟨gb106, 4, none⟩ = some (.int .i64 a0_4) := (blk_cell BK106.out 4).trans rfl
                              have hfz58_0 := blk_frozen BK106.out 0
                              have hfz58_1 := blk_frozen BK106.out 1
                              have hfz58_2 := blk_frozen BK106.out 2
                              have hfz58_3 := blk_frozen BK106.out 3
                              have hfz58_4 := blk_frozen BK106.out 4
                              go_wp2_with (first | (go_at_call 90; (with_reducible refine (il_keeps.calls a0_2 true _ A52.out).mono ?_); rintro e w' ⟨rfl, ⟨nd, rfl⟩⟩))
                              go_ret
                              exact ⟨by first | rfl | (simp [errW_none, errW_some] <;> rfl) | (simp [*, errW_none, errW_some] <;> rfl), by repeat (first | (with_reducible first | exact HB.out | apply below_alloc | apply pw_below_drewN | apply below_drew1 | refine below_set ?_ GE106.out) | exact HB.out)⟩
                          · rw [if_neg c55] at H
                            have c55b0 : decide (a0_3 ≤ 59) = false := decide_eq_false c55
                            clear c55
                            obtain rfl := Option.some.inj H
                            have hcz59_0 : wc.cell? ⟨gb106, 0, none⟩ = some (.int .i64 a0_0) := (blk_cell BK106.out 0).trans rfl
                            have hcz59_1 : wc.cell? ⟨gb106, 1, none⟩ = some (.int .i64 a0_1) := (blk_cell BK106.out 1).trans rfl
                            have hcz59_2 : wc.cell? ⟨gb106, 2, none⟩ = some (.int .i64 a0_2) := (blk_cell BK106.out 2).trans rfl
                            have hcz59_3 : wc.cell? ⟨gb106, 3, none⟩ = some (.int .i64 a0_3) := (blk_cell BK106.out 3).trans rfl
                            have hcz59_4 : wc.cell? ⟨gb106, 4, none⟩ = some (.int .i64 a0_4) := (blk_cell BK106.out 4).trans rfl
                            have hfz59_0 := blk_frozen BK106.out 0
                            have hfz59_1 := blk_frozen BK106.out 1
                            have hfz59_2 := blk_frozen BK106.out 2
                            have hfz59_3 := blk_frozen BK106.out 3
                            have hfz59_4 := blk_frozen BK106.out 4
                            go_wp2_with (first | (go_at_call 90; (with_reducible refine (il_keeps.calls a0_2 true _ A52.out).mono ?_); rintro e w' ⟨rfl, ⟨nd, rfl⟩⟩))
                            go_ret
                            exact ⟨by first | rfl | (simp [errW_none, errW_some] <;> rfl) | (simp [*, errW_none, errW_some] <;> rfl), by repeat (first | (with_reducible first | exact HB.out | apply below_alloc | apply pw_below_drewN | apply below_drew1 | refine below_set ?_ GE106.out) | exact HB.out)⟩
                        · rw [if_neg c54] at H
                          have c54b0 : decide (0 ≤ a0_3) = false := decide_eq_false c54
                          clear c54
                          obtain rfl := Option.some.inj H
                          have hcz60_0 : wc.cell? ⟨gb106, 0, none⟩ = some (.int .i64 a0_0) := (blk_cell BK106.out 0).trans rfl
                          have hcz60_1 : wc.cell? ⟨gb106, 1, none⟩ = some (.int .i64 a0_1) := (blk_cell BK106.out 1).trans rfl
                          have hcz60_2 : wc.cell? ⟨gb106, 2, none⟩ = some (.int .i64 a0_2) := (blk_cell BK106.out 2).trans rfl
                          have hcz60_3 : wc.cell? ⟨gb106, 3, none⟩ = some (.int .i64 a0_3) := (blk_cell BK106.out 3).trans rfl
                          have hcz60_4 : wc.cell? ⟨gb106, 4, none⟩ = some (.int .i64 a0_4) := (blk_cell BK106.out 4).trans rfl
                          have hfz60_0 := blk_frozen BK106.out 0
                          have hfz60_1 := blk_frozen BK106.out 1
                          have hfz60_2 := blk_frozen BK106.out 2
                          have hfz60_3 := blk_frozen BK106.out 3
                          have hfz60_4 := blk_frozen BK106.out 4
                          go_wp2_with (first | (go_at_call 90; (with_reducible refine (il_keeps.calls a0_2 true _ A52.out).mono ?_); rintro e w' ⟨rfl, ⟨nd, rfl⟩⟩))
                          go_ret
                          exact ⟨by first | rfl | (simp [errW_none, errW_some] <;> rfl) | (simp [*, errW_none, errW_some] <;> rfl), by repeat (first | (with_reducible first | exact HB.out | apply below_alloc | apply pw_below_drewN | apply below_drew1 | refine below_set ?_ GE106.out) | exact HB.out)⟩
                      · replace c53 := Bool.eq_false_iff.mpr c53
                        subst c53
                        have H1 : (some false) = some r := by rw [if_neg (show ¬ (false = true) by decide)] at H; exact H
                        clear H
                        have H := H1
                        clear H1
                        obtain rfl := Option.some.inj H
                        have hcz61_0 : wc.cell? ⟨gb106, 0, none⟩ = some (.int .i64 a0_0) := (blk_cell BK106.out 0).trans rfl
                        have hcz61_1 : wc.cell? ⟨gb106, 1, none⟩ = some (.int .i64 a0_1) := (blk_cell BK106.out 1).trans rfl
                        have hcz61_2 : wc.cell? ⟨gb106, 2, none⟩ = some (.int .i64 a0_2) := (blk_cell BK106.out 2).trans rfl
                        have hcz61_3 : wc.cell? ⟨gb106, 3, none⟩ = some (.int .i64 a0_3) := (blk_cell BK106.out 3).trans rfl
                        have hcz61_4 : wc.cell? ⟨gb106, 4, none⟩ = some (.int .i64 a0_4) := (blk_cell BK106.out 4).trans rfl
                        have hfz61_0 := blk_frozen BK106.out 0
                        have hfz61_1 := blk_frozen BK106.out 1
                        have hfz61_2 := blk_frozen BK106.out 2
                        have hfz61_3 := blk_frozen BK106.out 3
                        have hfz61_4 := blk_frozen BK106.out 4
                        go_wp2_with (first | (go_at_call 90; (with_reducible refine (il_keeps.calls a0_2 false _ A52.out).mono ?_); rintro e w' ⟨rfl, ⟨nd, rfl⟩⟩))
                        go_ret
                        exact ⟨by first | rfl | (simp [errW_none, errW_some] <;> rfl) | (simp [*, errW_none, errW_some] <;> rfl), by repeat (first | (with_reducible first | exact HB.out | apply below_alloc | apply pw_below_drewN | apply below_drew1 | refine below_set ?_ GE106.out) | exact HB.out)⟩
                    · rw [if_neg c51] at H
                      have c51b0 : (a0_1 == 0) = false := beq_eq_false_iff_ne.mpr c51
                      have c51b1 : (a0_1 != 0) = true := bne_iff_ne.mpr c51
                      obtain rfl := Option.some.inj H
                      have hcz62_0 : wc.cell? ⟨gb106, 0, none⟩ = some (.int .i64 a0_0) := (blk_cell BK106.out 0).trans rfl
                      have hcz62_1 : wc.cell? ⟨gb106, 1, none⟩ = some (.int .i64 a0_1) := (blk_cell BK106.out 1).trans rfl
                      have hcz62_2 : wc.cell? ⟨gb106, 2, none⟩ = some (.int .i64 a0_2) := (blk_cell BK106.out 2).trans rfl
                      have hcz62_3 : wc.cell? ⟨gb106, 3, none⟩ = some (.int .i64 a0_3) := (blk_cell BK106.out 3).trans rfl
                      have hcz62_4 : wc.cell? ⟨gb106, 4, none⟩ = some (.int .i64 a0_4) := (blk_cell BK106.out 4).trans rfl
                      have hfz62_0 := blk_frozen BK106.out 0
                      have hfz62_1 := blk_frozen BK106.out 1
                      have hfz62_2 := blk_frozen BK106.out 2
                      have hfz62_3 := blk_frozen BK106.out 3
                      have hfz62_4 := blk_frozen BK106.out 4
                      go_wp2
                      go_ret
                      exact ⟨by first | rfl | (simp [errW_none, errW_some] <;> rfl) | (simp [*, errW_none, errW_some] <;> rfl), by repeat (first | (with_reducible first | exact HB.out | apply below_alloc | apply pw_below_drewN | apply below_drew1 | refine below_set ?_ GE106.out) | exact HB.out)⟩
                  · rw [if_neg c50] at H
                    have c50b0 : (t108 == 7) = false := beq_eq_false_iff_ne.mpr c50
                    have c50b1 : (t108 != 7) = true := bne_iff_ne.mpr c50
                    by_cases c63 : t108 = 8
                    · rw [if_pos c63] at H
                      have c63b0 : (t108 == 8) = true := beq_iff_eq.mpr c63
                      have c63b1 : (t108 != 8) = false := bne_eq_false_iff_eq.mpr c63
                      clear c63
                      by_cases c64 : a0_1 = 0
                      · rw [if_pos c64] at H
                        have c64b0 : (a0_1 == 0) = true := beq_iff_eq.mpr c64
                        have c64b1 : (a0_1 != 0) = false := bne_eq_false_iff_eq.mpr c64
                        clear c64
                        replace H := Option.bind_eq_some_iff.mp H
                        obtain ⟨t115, A650, H⟩ := H
                        replace H : (if t115 = true then (if a0_3 ≥ 0 then (if a0_3 < 64 then (some (a0_4 == 0)) else (some false)) else (some false)) else (some false)) = some r := H
                        have A65 := Aside0.mk A650
                        clear A650
                        by_cases c66 : t115 = true
                        · subst c66
                          have H1 : (if a0_3 ≥ 0 then (if a0_3 < 64 then (some (a0_4 == 0)) else (some false)) else (some false)) = some r := by rw [if_pos rfl] at H; exact H
                          clear H
                          have H := H1
                          clear H1
                          by_cases c67 : a0_3 ≥ 0
                          · rw [if_pos c67] at H
                            have c67b0 : decide (0 ≤ a0_3) = true := decide_eq_true c67
                            clear c67
                            by_cases c68 : a0_3 < 64
                            · rw [if_pos c68] at H
                              have c68b0 : decide (a0_3 < 64) = true := decide_eq_true c68
                              clear c68
                              obtain rfl := Option.some.inj H
                              have hcz69_0 : wc.cell? ⟨gb106, 0, none⟩ = some (.int .i64 a0_0) := (blk_cell BK106.out 0).trans rfl
                              have hcz69_1 : wc.cell? ⟨gb106, 1, none⟩ = some (.int .i64 a0_1) := (blk_cell BK106.out 1).trans rfl
                              have hcz69_2 : wc.cell? ⟨gb106, 2, none⟩ = some (.int .i64 a0_2) := (blk_cell BK106.out 2).trans rfl
                              have hcz69_3 : wc.cell? ⟨gb106, 3, none⟩ = some (.int .i64 a0_3) := (blk_cell BK106.out 3).trans rfl
                              have hcz69_4 : wc.cell? ⟨gb106, 4, none⟩ = some (.int .i64 a0_4) := (blk_cell BK106.out 4).trans rfl
                              have hfz69_0 := blk_frozen BK106.out 0
                              have hfz69_1 := blk_frozen BK106.out 1
                              have hfz69_2 := blk_frozen BK106.out 2
                              have hfz69_3 := blk_frozen BK106.out 3
                              have hfz69_4 := blk_frozen BK106.out 4
                              go_wp2_with (first | (go_at_call 90; (with_reducible refine (il_keeps.calls a0_2 true _ A65.out).mono ?_); rintro e w' ⟨rfl, ⟨nd, rfl⟩⟩))
                              go_ret
                              exact ⟨by first | rfl | (simp [errW_none, errW_some] <;> rfl) | (simp [*, errW_none, errW_some] <;> rfl), by repeat (first | (with_reducible first | exact HB.out | apply below_alloc | apply pw_below_drewN | apply below_drew1 | refine below_set ?_ GE106.out) | exact HB.out)⟩
                            · rw [if_neg c68] at H
                              have c68b0 : decide (a0_3 < 64) = false := decide_eq_false c68
                              clear c68
                              obtain rfl := Option.some.inj H
                              have hcz70_0 : wc.cell? ⟨gb106, 0, none⟩ = some (.int .i64 a0_0) := (blk_cell BK106.out 0).trans rfl
                              have hcz70_1 : wc.cell? ⟨gb106, 1, none⟩ = some (.int .i64 a0_1) := (blk_cell BK106.out 1).trans rfl
                              have hcz70_2 : wc.cell? ⟨gb106, 2, none⟩ = some (.int .i64 a0_2) := (blk_cell BK106.out 2).trans rfl
                              have hcz70_3 : wc.cell? ⟨gb106, 3, none⟩ = some (.int .i64 a0_3) := (blk_cell BK106.out 3).trans rfl
                              have hcz70_4 : wc.cell? ⟨gb106, 4, none⟩ = some (.int .i64 a0_4) := (blk_cell BK106.out 4).trans rfl
                              have hfz70_0 := blk_frozen BK106.out 0
                              have hfz70_1 := blk_frozen BK106.out 1
                              have hfz70_2 := blk_frozen BK106.out 2
                              have hfz70_3 := blk_frozen BK106.out 3
                              have hfz70_4 := blk_frozen BK106.out 4
                              go_wp2_with (first | (go_at_call 90; (with_reducible refine (il_keeps.calls a0_2 true _ A65.out).mono ?_); rintro e w' ⟨rfl, ⟨nd, rfl⟩⟩))
                              go_ret
                              exact ⟨by first | rfl | (simp [errW_none, errW_some] <;> rfl) | (simp [*, errW_none, errW_some] <;> rfl), by repeat (first | (with_reducible first | exact HB.out | apply below_alloc | apply pw_below_drewN | apply below_drew1 | refine below_set ?_ GE106.out) | exact HB.out)⟩
                          · rw [if_neg c67] at H
                            have c67b0 : decide (0 ≤ a0_3) = false := decide_eq_false c67
                            clear c67
                            obtain rfl := Option.some.inj H
                            have hcz71_0 : wc.cell? ⟨gb106, 0, none⟩ = some (.int .i64 a0_0) := (blk_cell BK106.out 0).trans rfl
                            have hcz71_1 : wc.cell? ⟨gb106, 1, none⟩ = some (.int .i64 a0_1) := (blk_cell BK106.out 1).trans rfl
                            have hcz71_2 : wc.cell? ⟨gb106, 2, none⟩ = some (.int .i64 a0_2) := (blk_cell BK106.out 2).trans rfl
                            have hcz71_3 : wc.cell? ⟨gb106, 3, none⟩ = some (.int .i64 a0_3) := (blk_cell BK106.out 3).trans rfl
                            have hcz71_4 : wc.cell? ⟨gb106, 4, none⟩ = some (.int .i64 a0_4) := (blk_cell BK106.out 4).trans rfl
                            have hfz71_0 := blk_frozen BK106.out 0
                            have hfz71_1 := blk_frozen BK106.out 1
                            have hfz71_2 := blk_frozen BK106.out 2
                            have hfz71_3 := blk_frozen BK106.out 3
                            have hfz71_4 := blk_frozen BK106.out 4
                            go_wp2_with (first | (go_at_call 90; (with_reducible refine (il_keeps.calls a0_2 true _ A65.out).mono ?_); rintro e w' ⟨rfl, ⟨nd, rfl⟩⟩))
                            go_ret
                            exact ⟨by first | rfl | (simp [errW_none, errW_some] <;> rfl) | (simp [*, errW_none, errW_some] <;> rfl), by repeat (first | (with_reducible first | exact HB.out | apply below_alloc | apply pw_below_drewN | apply below_drew1 | refine below_set ?_ GE106.out) | exact HB.out)⟩
                        · replace c66 := Bool.eq_false_iff.mpr c66
                          subst c66
                          have H1 : (some false) = some r := by rw [if_neg (show ¬ (false = true) by decide)] at H; exact H
                          clear H
                          have H := H1
                          clear H1
                          obtain rfl := Option.some.inj H
                          have hcz72_0 : wc.cell? ⟨gb106, 0, none⟩ = some (.int .i64 a0_0) := (blk_cell BK106.out 0).trans rfl
                          have hcz72_1 : wc.cell? ⟨gb106, 1, none⟩ = some (.int .i64 a0_1) := (blk_cell BK106.out 1).trans rfl
                          have hcz72_2 : wc.cell? ⟨gb106, 2, none⟩ = some (.int .i64 a0_2) := (blk_cell BK106.out 2).trans rfl
                          have hcz72_3 : wc.cell? ⟨gb106, 3, none⟩ = some (.int .i64 a0_3) := (blk_cell BK106.out 3).trans rfl
                          have hcz72_4 : wc.cell? ⟨gb106, 4, none⟩ = some (.int .i64 a0_4) := (blk_cell BK106.out 4).trans rfl
                          have hfz72_0 := blk_frozen BK106.out 0
                          have hfz72_1 := blk_frozen BK106.out 1
                          have hfz72_2 := blk_frozen BK106.out 2
                          have hfz72_3 := blk_frozen BK106.out 3
                          have hfz72_4 := blk_frozen BK106.out 4
                          go_wp2_with (first | (go_at_call 90; (with_reducible refine (il_keeps.calls a0_2 false _ A65.out).mono ?_); rintro e w' ⟨rfl, ⟨nd, rfl⟩⟩))
                          go_ret
                          exact ⟨by first | rfl | (simp [errW_none, errW_some] <;> rfl) | (simp [*, errW_none, errW_some] <;> rfl), by repeat (first | (with_reducible first | exact HB.out | apply below_alloc | apply pw_below_drewN | apply below_drew1 | refine below_set ?_ GE106.out) | exact HB.out)⟩
                      · rw [if_neg c64] at H
                        have c64b0 : (a0_1 == 0) = false := beq_eq_false_iff_ne.mpr c64
                        have c64b1 : (a0_1 != 0) = true := bne_iff_ne.mpr c64
                        obtain rfl := Option.some.inj H
                        have hcz73_0 : wc.cell? ⟨gb106, 0, none⟩ = some (.int .i64 a0_0) := (blk_cell BK106.out 0).trans rfl
                        have hcz73_1 : wc.cell? ⟨gb106, 1, none⟩ = some (.int .i64 a0_1) := (blk_cell BK106.out 1).trans rfl
                        have hcz73_2 : wc.cell? ⟨gb106, 2, none⟩ = some (.int .i64 a0_2) := (blk_cell BK106.out 2).trans rfl
                        have hcz73_3 : wc.cell? ⟨gb106, 3, none⟩ = some (.int .i64 a0_3) := (blk_cell BK106.out 3).trans rfl
                        have hcz73_4 : wc.cell? ⟨gb106, 4, none⟩ = some (.int .i64 a0_4) := (blk_cell BK106.out 4).trans rfl
                        have hfz73_0 := blk_frozen BK106.out 0
                        have hfz73_1 := blk_frozen BK106.out 1
                        have hfz73_2 := blk_frozen BK106.out 2
                        have hfz73_3 := blk_frozen BK106.out 3
                        have hfz73_4 := blk_frozen BK106.out 4
                        go_wp2
                        go_ret
                        exact ⟨by first | rfl | (simp [errW_none, errW_some] <;> rfl) | (simp [*, errW_none, errW_some] <;> rfl), by repeat (first | (with_reducible first | exact HB.out | apply below_alloc | apply pw_below_drewN | apply below_drew1 | refine below_set ?_ GE106.out) | exact HB.out)⟩
                    · rw [if_neg c63] at H
                      have c63b0 : (t108 == 8) = false := beq_eq_false_iff_ne.mpr c63
                      have c63b1 : (t108 != 8) = true := bne_iff_ne.mpr c63
                      obtain rfl := Option.some.inj H
                      go_wp2
                      go_ret
                      exact ⟨by first | rfl | (simp [errW_none, errW_some] <;> rfl) | (simp [*, errW_none, errW_some] <;> rfl), by repeat (first | (with_reducible first | exact HB.out | apply below_alloc | apply pw_below_drewN | apply below_drew1 | refine below_set ?_ GE106.out) | exact HB.out)⟩

-- NOT PRINTED: function 92 (crc_quarter)

-- NOT PRINTED: function 84 (crc_More)

/-! ### crc_Sum: function 67 -/

def crc_Sum.f (a0 : ByteArray) : Option Int := if a0.size ≤ maxLen then some (((Crc.more 65535 a0.data.toList : Nat) : Int)) else none
theorem crc_Sum.calls (a0 : ByteArray) (r : Int) (w : World) (h : crc_Sum.f a0 = some r) :
    Calls Try.prog 67 #[.string a0] w fun e w' => e = .returned (.int .u16 r) ∧ Drawn0 w w' := by
  unfold crc_Sum.f at h
  split at h
  · next hs =>
    obtain rfl := Option.some.inj h
    exact (sum_any a0 hs w).mono fun e w' ⟨he, hw⟩ => ⟨he, by subst hw; exact Drawn0.refl _⟩
  · cases h



/-! ### crc_Open: function 56 -/

def crc_Open.f (a0 : ByteArray) : Option (ByteArray × Bool) := if a0.size ≤ maxLen then some (Crc.opened a0) else none
theorem crc_Open.calls (a0 : ByteArray) (r1 : ByteArray) (r2 : Bool) (w : World) (h : crc_Open.f a0 = some (r1, r2)) :
    Calls Try.prog 56 #[.string a0] w fun e w' => e = .returned (.tuple #[.string r1, .bool r2]) ∧ Drawn0 w w' := by
  unfold crc_Open.f at h
  split at h
  · next hs =>
    have h := Option.some.inj h
    have := open_any a0 hs w
    rw [h] at this
    exact this.mono fun e w' ⟨he, hw⟩ => ⟨he, by subst hw; exact Drawn0.refl _⟩
  · cases h



/-- A state of type 108 at block g of W; what its slices lead to came in by w0. -/
def IsS108 (w0 W : World) (g : Nat) (f0 : ByteArray) (f1 : Int) (f2 : Bool) : Prop := W.heap[g]? = some (.cells #[.string f0, .int .i64 f1, .bool f2] 108 (0, 0)) ∧ w0.heap.size ≤ g
theorem IsS108.grown {w0 W : World} {g : Nat} {f0 : ByteArray} {f1 : Int} {f2 : Bool} {W1 : World} {row : Option Nat} (h : IsS108 w0 W g f0 f1 f2) (hw : W.grownBy W1 row) (hne : some g ≠ row) : IsS108 w0 W1 g f0 f1 f2 := by
  obtain ⟨hb, hg⟩ := h
  exact ⟨blk_grown hb hw hne, hg⟩
theorem IsS108.own_neN {w0 W : World} {g : Nat} {f0 : ByteArray} {f1 : Int} {f2 : Bool} {α : Type} {d : Kd α} {e : Nat} {base : Nat} {ok : Nat → Prop} {v : Value} {xs : List α} (h : IsS108 w0 W g f0 f1 f2) (ho : Kd.N d e W base ok v xs) (ht : e ≠ 108) : some g ≠ v.ownBlock := by
  obtain ⟨hb, hg⟩ := h
  exact Kd.N_ne ho hb ht
theorem IsS108.fresh {w0 W : World} {g : Nat} {f0 : ByteArray} {f1 : Int} {f2 : Bool} (h : IsS108 w0 W g f0 f1 f2) : ∀ k, W.heap.size ≤ k → k ≠ g := by
  obtain ⟨hb, hg⟩ := h
  exact Kd.freshB hb
theorem IsS108.kept {w0 W : World} {g : Nat} {f0 : ByteArray} {f1 : Int} {f2 : Bool} {W1 : World} {S : Nat → Prop} (h : IsS108 w0 W g f0 f1 f2) (hk : Kept W W1 S) (hne : ¬ S g) : IsS108 w0 W1 g f0 f1 f2 := by
  obtain ⟨hb, hg⟩ := h
  exact ⟨blk_kept hb hk hne, hg⟩
theorem IsS108.below {w0 W : World} {g : Nat} {f0 : ByteArray} {f1 : Int} {f2 : Bool} {W1 : World} (h : IsS108 w0 W g f0 f1 f2) (hw : Below W.heap.size W W1) : IsS108 w0 W1 g f0 f1 f2 := h.grown (grown_of_below hw none) (by simp)
theorem IsS108.alloc {w0 W : World} {g : Nat} {f0 : ByteArray} {f1 : Int} {f2 : Bool} (h : IsS108 w0 W g f0 f1 f2) (o : Obj) : IsS108 w0 (W.alloc o) g f0 f1 f2 := h.below (below_alloc (Below.refl _ _) o)
theorem IsS108.drewN {w0 W : World} {g : Nat} {f0 : ByteArray} {f1 : Int} {f2 : Bool} (h : IsS108 w0 W g f0 f1 f2) (m : Nat) : IsS108 w0 (W.drewN m) g f0 f1 f2 := h
theorem IsS108.drew {w0 W : World} {g : Nat} {f0 : ByteArray} {f1 : Int} {f2 : Bool} (h : IsS108 w0 W g f0 f1 f2) : IsS108 w0 W.drew g f0 f1 f2 := h
theorem IsS108.at_ {w0 W : World} {g : Nat} {f0 : ByteArray} {f1 : Int} {f2 : Bool} {w' : World} {m : Nat} (hq : W.drewN m = w') (h : IsS108 w0 W g f0 f1 f2) : IsS108 w0 w' g f0 f1 f2 := by subst hq; exact IsS108.drewN h m
theorem IsS108.apart {w0 W : World} {g : Nat} {f0 : ByteArray} {f1 : Int} {f2 : Bool} {α : Type} {d : Kd α} {e : Nat} {base : Nat} {ok : Nat → Prop} {v : Value} {xs : List α} (h : IsS108 w0 W g f0 f1 f2) (ho : d.R e W base ok v xs) (ht : ∀ q, q ∈ e :: d.E → q ≠ 108) : d.R e W base (fun k => ok k ∧ k ≠ g) v xs := by
  obtain ⟨hb, hg⟩ := h
  exact Kd.R_types ho hb ht
theorem IsS108.own_ne {w0 W : World} {g : Nat} {f0 : ByteArray} {f1 : Int} {f2 : Bool} {α : Type} {d : Kd α} {e : Nat} {base : Nat} {ok : Nat → Prop} {v : Value} {xs : List α} (h : IsS108 w0 W g f0 f1 f2) (ho : d.R e W base ok v xs) (ht : e ≠ 108) : some g ≠ v.ownBlock := by
  obtain ⟨hb, hg⟩ := h
  exact Kd.R_ne ho hb ht
theorem IsS108.apartQ {w0 W : World} {g : Nat} {f0 : ByteArray} {f1 : Int} {f2 : Bool} {α : Type} {d : Kd α} {e : Nat} {base : Nat} {ok : Nat → Prop} {v : Value} {xs : List α} (h : IsS108 w0 W g f0 f1 f2) (ho : d.Q e W base ok v xs) (ht : ∀ q, q ∈ e :: d.E → q ≠ 108) : d.Q e W base (fun k => ok k ∧ k ≠ g) v xs := by
  obtain ⟨hb, hg⟩ := h
  exact Kd.Q_types ho hb ht
theorem IsS108.own_neQ {w0 W : World} {g : Nat} {f0 : ByteArray} {f1 : Int} {f2 : Bool} {α : Type} {d : Kd α} {e : Nat} {base : Nat} {ok : Nat → Prop} {v : Value} {xs : List α} (h : IsS108 w0 W g f0 f1 f2) (ho : d.Q e W base ok v xs) (ht : e ≠ 108) : some g ≠ v.ownBlock := by
  obtain ⟨hb, hg⟩ := h
  exact Kd.Q_ne ho hb ht
theorem IsS108.apartS {w0 W : World} {g : Nat} {f0 : ByteArray} {f1 : Int} {f2 : Bool} {α : Type} {d : Kd α} {e : Nat} {base : Nat} {ok : Nat → Prop} {v : Value} {xs : List α} (h : IsS108 w0 W g f0 f1 f2) (ho : d.S e W base ok v xs) (ht : ∀ q, q ∈ e :: d.E → q ≠ 108) : d.S e W base (fun k => ok k ∧ k ≠ g) v xs := by
  obtain ⟨hb, hg⟩ := h
  exact Kd.S_types ho hb ht
theorem IsS108.own_neS {w0 W : World} {g : Nat} {f0 : ByteArray} {f1 : Int} {f2 : Bool} {α : Type} {d : Kd α} {e : Nat} {base : Nat} {ok : Nat → Prop} {v : Value} {xs : List α} (h : IsS108 w0 W g f0 f1 f2) (ho : d.S e W base ok v xs) (ht : e ≠ 108) : some g ≠ v.ownBlock := by
  obtain ⟨hb, hg⟩ := h
  exact Kd.S_ne ho hb ht
theorem IsS108.lt {w0 W : World} {g : Nat} {f0 : ByteArray} {f1 : Int} {f2 : Bool} (h : IsS108 w0 W g f0 f1 f2) : g < W.heap.size := by
  obtain ⟨hb, hg⟩ := h
  exact blk_lt hb
theorem IsS108.ge {w0 W : World} {g : Nat} {f0 : ByteArray} {f1 : Int} {f2 : Bool} (h : IsS108 w0 W g f0 f1 f2) : w0.heap.size ≤ g := by
  obtain ⟨hb, hg⟩ := h
  exact hg
theorem IsS108.ne_blk {w0 W : World} {g : Nat} {f0 : ByteArray} {f1 : Int} {f2 : Bool} {a : Nat} {cs : Array Value} {t : TypeId} {fr : Nat × Nat} (h : IsS108 w0 W g f0 f1 f2) (hb2 : W.heap[a]? = some (.cells cs t fr)) (ht : t ≠ 108) : g ≠ a := by
  obtain ⟨hb, hg⟩ := h
  rintro rfl
  rw [hb] at hb2
  injection hb2 with hb2
  injection hb2 with _ ht2
  exact ht ht2.symm
theorem IsS108.far {w0 W : World} {g : Nat} {f0 : ByteArray} {f1 : Int} {f2 : Bool} {p : Addr} (h : IsS108 w0 W g f0 f1 f2) (hne : g ≠ p.block) (u : Value) : IsS108 w0 (W.setCell p u) g f0 f1 f2 := by
  obtain ⟨hb, hg⟩ := h
  exact ⟨blk_far hb hne u, hg⟩
theorem cellS108_0 {W : World} {g : Nat} {f0 : ByteArray} {f1 : Int} {f2 : Bool} (h : W.heap[g]? = some (.cells #[.string f0, .int .i64 f1, .bool f2] 108 (0, 0))) : W.cell? ⟨g, 0, none⟩ = some (.string f0) := (blk_cell h 0).trans rfl
theorem IsS108.set_0 {w0 W : World} {g : Nat} {f0 : ByteArray} {f1 : Int} {f2 : Bool} (h : IsS108 w0 W g f0 f1 f2) (x : ByteArray) : IsS108 w0 (W.setCell ⟨g, 0, none⟩ (.string x)) g x f1 f2 := by
  obtain ⟨hb, hg⟩ := h
  exact ⟨by simpa using blk_set hb 0 (.string x), hg⟩
theorem cellS108_1 {W : World} {g : Nat} {f0 : ByteArray} {f1 : Int} {f2 : Bool} (h : W.heap[g]? = some (.cells #[.string f0, .int .i64 f1, .bool f2] 108 (0, 0))) : W.cell? ⟨g, 1, none⟩ = some (.int .i64 f1) := (blk_cell h 1).trans rfl
theorem IsS108.set_1 {w0 W : World} {g : Nat} {f0 : ByteArray} {f1 : Int} {f2 : Bool} (h : IsS108 w0 W g f0 f1 f2) (x : Int) : IsS108 w0 (W.setCell ⟨g, 1, none⟩ (.int .i64 x)) g f0 x f2 := by
  obtain ⟨hb, hg⟩ := h
  exact ⟨by simpa using blk_set hb 1 (.int .i64 x), hg⟩
theorem cellS108_2 {W : World} {g : Nat} {f0 : ByteArray} {f1 : Int} {f2 : Bool} (h : W.heap[g]? = some (.cells #[.string f0, .int .i64 f1, .bool f2] 108 (0, 0))) : W.cell? ⟨g, 2, none⟩ = some (.bool f2) := (blk_cell h 2).trans rfl
theorem IsS108.set_2 {w0 W : World} {g : Nat} {f0 : ByteArray} {f1 : Int} {f2 : Bool} (h : IsS108 w0 W g f0 f1 f2) (x : Bool) : IsS108 w0 (W.setCell ⟨g, 2, none⟩ (.bool x)) g f0 f1 x := by
  obtain ⟨hb, hg⟩ := h
  exact ⟨by simpa using blk_set hb 2 (.bool x), hg⟩
theorem IsS108.new (w0 W : World) (f0 : ByteArray) (f1 : Int) (f2 : Bool) (hB : Below w0.heap.size w0 W) : IsS108 w0 (W.alloc (.cells #[.string f0, .int .i64 f1, .bool f2] 108)) W.heap.size f0 f1 f2 := ⟨by simpa using heap_alloc_new W _, hB.size⟩

/-! ### octets_NewEye: function 57 -/
def octets_NewEye.f (a0 : ByteArray) : Option (ByteArray × Int × Bool) := some (a0, 0, false)
set_option maxHeartbeats 8000000 in
set_option maxRecDepth 100000 in
theorem octets_NewEye.calls (a0 : ByteArray) (r1 : ByteArray) (r2 : Int) (r3 : Bool) (w0 w : World) (hB : Below w0.heap.size w0 w) (h : octets_NewEye.f a0 = some (r1, r2, r3)) :
    Calls Try.prog 57 #[.string a0] w fun e w' => ∃ g_ : Nat, e = .returned (.pointer (some ⟨g_, 0, none⟩)) ∧ IsS108 w0 w' g_ r1 r2 r3 ∧ Below w0.heap.size w0 w' ∧ Below w.heap.size w w' := by
  have hu108 := Try.underlying108
  have HBW := Aside0.mk (Below.refl w.heap.size w)
  have HW0 := Aside0.mk hB.size
  have HB := Aside0.mk hB
  clear hB
  have H : (some (a0, 0, false)) = some (r1, r2, r3) := h
  clear h
  simp only [Option.some.injEq, Prod.mk.injEq] at H
  obtain ⟨rfl, rfl, rfl⟩ := H
  go_enter Try.func57, Try.ntmps57
  go_wp2_with (first | ((with_reducible refine gate_dst (N := 5) rfl ?_); refine box_event ?hg (N := 5) ?hd (cs := #[.string a0, .int .i64 0, .bool false]) (t := 108) ?hr ?_; (case hd => rfl); (case hg => rfl); (case hr => first | (go_simp; done) | (go_simp; rfl)); intro gb116 hg w2 hbox hb; have n0_ := Aside0.mk (below_step HBW.out hb); have n1_ := Aside0.mk (below_step (by repeat (first | (with_reducible first | exact HB.out | apply below_alloc | apply pw_below_drewN | apply below_drew1) | exact HB.out)) hb); have n2_ := Aside0.mk (hbox); have n3_ := Aside0.mk ((by rw [hg]; exact (below_size (by repeat (first | (with_reducible first | exact HBW.out | apply below_alloc | apply pw_below_drewN | apply below_drew1) | exact HBW.out))) : w.heap.size ≤ gb116)); have n4_ := Aside0.mk ((Nat.le_trans HW0.out (by rw [hg]; exact (below_size (by repeat (first | (with_reducible first | exact HBW.out | apply below_alloc | apply pw_below_drewN | apply below_drew1) | exact HBW.out))) : w.heap.size ≤ gb116) : w0.heap.size ≤ gb116)); clear HBW; clear HB; have HBW := n0_; have HB := n1_; have BK116 := n2_; have GW116 := n3_; have GE116 := n4_; clear n0_ n1_ n2_ n3_ n4_; clear hb hbox hg))
  go_ret
  exact ⟨_, rfl, (show IsS108 w0 _ gb116 a0 0 false from ⟨by (with_reducible repeat (first | refine blk_drewN ?_ _ | refine blk_drew ?_ | refine blk_alloc ?_ _)); exact BK116.out, GE116.out⟩), by repeat (first | (with_reducible first | exact HB.out | apply below_alloc | apply pw_below_drewN | apply below_drew1 | refine below_set ?_ GE116.out) | exact HB.out), by repeat (first | (with_reducible first | exact HBW.out | apply below_alloc | apply pw_below_drewN | apply below_drew1 | refine below_set ?_ GW116.out) | exact HBW.out)⟩

end Go.Proofs.Ytclbmgnpgjhlhaa.PCode
