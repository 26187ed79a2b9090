/- Functions of the program as plain Lean functions, and that the machine's calls do what these say (written by a program of mine, wip/myprint.py, over the kit's print). -/
import Derived.Test.YtclbmgnpgjhlhaaPCodex0
import Derived.Test.YtclbmgnpgjhlhaaPCodex5
namespace Go.Proofs.Ytclbmgnpgjhlhaa.PCode
open Go.RowKit Go.Proofs.YtclbmgnpgjhlhaaW.PrintWords Go.Proofs.YtclbmgnpgjhlhaaW.PrintLast Go.Proofs.YtclbmgnpgjhlhaaW.PrintMore
attribute [local go_sem] max2_int min2_int max_two min_two max_three min_three max_four min_four   -- for this text's walks alone
set_option linter.unusedVariables false
set_option linter.unusedSimpArgs false

/-! ### fuglemanref13_Error: function 41 -/
def fuglemanref13_Error.l0 : Nat → List (S89) → Int → Option (Int)
  | 0, _, _ => none
  | k + 1, x0, x3 => if x3 < (x0.length : Int) then (if 0 ≤ x3 then ((fuglemanref12_Right.f ((rd_T89 x0 x3).f0) ((rd_T89 x0 x3).f1) ((rd_T89 x0 x3).f2) ((rd_T89 x0 x3).f3) ((rd_T89 x0 x3).f4)).bind fun t192 => (if t192 = true then (fuglemanref13_Error.l0 k x0 (wrap64 (x3 + 1))) else (some 3))) else (none)) else (some 0)
def fuglemanref13_Error.f (k : Nat) (l0 : List (S89)) : Option (Int) := if (l0.length : Int) > 200 then (some 2) else (fuglemanref13_Error.l0 k l0 0)
theorem fuglemanref13_Error.mono_l : ∀ k, (∀ y0 y1, LeO (fuglemanref13_Error.l0 k y0 y1) (fuglemanref13_Error.l0 (k + 1) y0 y1))
  | 0 => fun _ _ r h => by simp [fuglemanref13_Error.l0] at h
  | k + 1 => by
    have ih0 := fuglemanref13_Error.mono_l k
    · intro y0 y1
      unfold fuglemanref13_Error.l0
      repeat' first
      | (with_reducible exact ih0 _ _)
      | (with_reducible exact LeO.refl _)
      | (with_reducible exact LeO.none _)
      | (with_reducible refine LeO.ite ?_ ?_)
      | (with_reducible refine LeO.bind ?_ (fun _ => ?_))
      | exact ih0 _ _
      | exact LeO.none _
      | refine LeO.ite ?_ ?_
      | refine LeO.bind ?_ (fun _ => ?_)
theorem fuglemanref13_Error.mono : ∀ a0 k, LeO (fuglemanref13_Error.f k a0) (fuglemanref13_Error.f (k + 1) a0) := by
  intro a0 k
  have ih0 := fuglemanref13_Error.mono_l k
  unfold fuglemanref13_Error.f
  repeat' first
      | (with_reducible exact ih0 _ _)
      | (with_reducible exact LeO.refl _)
      | (with_reducible exact LeO.none _)
      | (with_reducible refine LeO.ite ?_ ?_)
      | (with_reducible refine LeO.bind ?_ (fun _ => ?_))
      | exact ih0 _ _
      | exact LeO.none _
      | refine LeO.ite ?_ ?_
      | refine LeO.bind ?_ (fun _ => ?_)
set_option maxHeartbeats 8000000 in
set_option maxRecDepth 100000 in
theorem fuglemanref13_Error.calls (k : Nat) (A0 : Option Addr) (c0 : Nat) (l0 : List (S89)) (r : Int) (w : World) (hr0 : Kd.C k89 w A0 l0.length l0) (hc0 : l0.length ≤ c0) (h : fuglemanref13_Error.f k l0 = some r) :
    Calls Try.prog 41 #[.slice A0 l0.length c0] w fun e w' => e = .returned (.int .i64 r) ∧ Below w.heap.size w w' := by
  have hu89 := Try.underlying89
  have HR0 := Aside0.mk hr0
  have HC0 := Aside0.mk hc0
  clear hr0 hc0
  have HB := Aside0.mk (Below.refl w.heap.size w)
  have H : (if (l0.length : Int) > 200 then (some 2) else (fuglemanref13_Error.l0 k l0 0)) = some r := h
  clear h
  by_cases c2 : (l0.length : Int) > 200
  · rw [if_pos c2] at H
    have c2b0 : decide (200 < (l0.length : Int)) = true := decide_eq_true c2
    have c2b1 : decide (200 < l0.length) = true := decide_eq_true (by omega)
    clear c2
    obtain rfl := Option.some.inj H
    go_enter Try.func41, Try.ntmps41
    go_wp2
    go_ret
    exact ⟨by first | rfl | (simp [errW_none, errW_some] <;> rfl) | (simp [*, errW_none, errW_some] <;> rfl), by repeat (first | (with_reducible first | exact HB.out | apply below_alloc | apply pw_below_drewN | apply below_drew1) | exact HB.out)⟩
  · rw [if_neg c2] at H
    have c2b0 : decide (200 < (l0.length : Int)) = false := decide_eq_false c2
    have c2b1 : decide (200 < l0.length) = false := decide_eq_false (by omega)
    clear c2
    have H' := Aside0.mk H
    clear H
    go_enter Try.func41, Try.ntmps41
    go_wp2
    go_loopg [3] k (fun kq v3 w' => ∃ (x3_1 : Int), v3 = .int .i64 x3_1 ∧ Aside0 (fuglemanref13_Error.l0 kq l0 x3_1 = some r) ∧ Aside0 (kq ≤ k) ∧ Aside0 (Below w.heap.size w w'))
    case atStart => exact ⟨(0), (by first | rfl | (simp; done) | (simp [*]; done)), H', ⟨Nat.le_refl _⟩, ⟨by repeat (first | (with_reducible first | exact HB.out | apply below_alloc | apply pw_below_drewN | apply below_drew1) | exact HB.out)⟩⟩
    case round =>
      clear H'
      try clear c2
      try clear c2b0
      try clear c2b1
      try clear p2
      obtain ⟨x3_1, rfl, HA, HK1, HB⟩ := hrel
      cases gk with
      | zero => exact absurd HA.out (by simp [fuglemanref13_Error.l0])
      | succ k1 =>
        have H := HA.out
        clear HA
        simp only [fuglemanref13_Error.l0] at H
        by_cases c3 : x3_1 < (l0.length : Int)
        · rw [if_pos c3] at H
          have c3b0 : decide (x3_1 < (l0.length : Int)) = true := decide_eq_true c3
          clear c3
          by_cases c4 : 0 ≤ x3_1
          · rw [if_pos c4] at H
            have c4b0 : decide (0 ≤ x3_1) = true := decide_eq_true c4
            clear c4
            replace H := Option.bind_eq_some_iff.mp H
            obtain ⟨t192, A50, H⟩ := H
            replace H : (if t192 = true then (fuglemanref13_Error.l0 k1 l0 (wrap64 (x3_1 + 1))) else (some 3)) = some r := H
            have A5 := Aside0.mk A50
            clear A50
            by_cases c6 : t192 = true
            · subst c6
              have H1 : (fuglemanref13_Error.l0 k1 l0 (wrap64 (x3_1 + 1))) = some r := by rw [if_pos rfl] at H; exact H
              clear H
              have H := H1
              clear H1
              have H' := Aside0.mk H
              clear H
              have p191 : 0 ≤ (x3_1 : Int) := of_decide_eq_true (by first | (with_reducible assumption) | assumption)
              have q191 : x3_1 < (l0.length : Int) := of_decide_eq_true (by first | (with_reducible assumption) | assumption)
              obtain ⟨ad191, e191, hx191_0, hx191_1, hx191_2, hx191_3, hx191_4⟩ := at_T89 HR0.out x3_1 p191 q191
              cases e191
              replace hx191_0 := (HB.out.cell (World.block_lt_of_cell? w _ hx191_0)).trans hx191_0
              replace hx191_1 := (HB.out.cell (World.block_lt_of_cell? w _ hx191_1)).trans hx191_1
              replace hx191_2 := (HB.out.cell (World.block_lt_of_cell? w _ hx191_2)).trans hx191_2
              replace hx191_3 := (HB.out.cell (World.block_lt_of_cell? w _ hx191_3)).trans hx191_3
              replace hx191_4 := (HB.out.cell (World.block_lt_of_cell? w _ hx191_4)).trans hx191_4
              replace p191 := eq_true p191
              replace q191 := eq_true q191
              go_wp2_with (first | ((with_reducible refine gate_callee (f := 66) rfl ?_); refine goesL_ (some 17) rfl rfl Try.func66 (by kernel_rfl) rfl #[.agg #[.int .i64 ((rd_T89 l0 x3_1).f0), .int .i64 ((rd_T89 l0 x3_1).f1), .int .i64 ((rd_T89 l0 x3_1).f2), .int .i64 ((rd_T89 l0 x3_1).f3), .int .i64 ((rd_T89 l0 x3_1).f4)]] rfl (by (try simp only [List.map_toArray, List.map_cons, List.map_nil]); first | done | rfl | (simp only [List.length_drop, List.length_take]; rfl)) ?_; (with_reducible refine (fuglemanref12_Right.calls ((rd_T89 l0 x3_1).f0) ((rd_T89 l0 x3_1).f1) ((rd_T89 l0 x3_1).f2) ((rd_T89 l0 x3_1).f3) ((rd_T89 l0 x3_1).f4) true _ A5.out).mono ?_); rintro e w7 ⟨rfl, hb⟩; refine ⟨_, rfl, ?_⟩; have n0_ := Aside0.mk (below_step (by repeat (first | (with_reducible first | exact HB.out | apply below_alloc | apply pw_below_drewN | apply below_drew1) | exact HB.out)) hb); clear HB; have HB := n0_; clear n0_; (try clear hb); (try clear hb2); (try clear hk); (try clear hi)))
              go_roundg k1
              case measure => have := HK1.out; omega
              case rel => exact ⟨(wrap64 (x3_1 + 1)), (by first | rfl | (simp; done) | (simp [*]; done)), H', ⟨by have := HK1.out; omega⟩, ⟨by repeat (first | (with_reducible first | exact HB.out | apply below_alloc | apply pw_below_drewN | apply below_drew1) | exact HB.out)⟩⟩
            · replace c6 := Bool.eq_false_iff.mpr c6
              subst c6
              have H1 : (some 3) = some r := by rw [if_neg (show ¬ (false = true) by decide)] at H; exact H
              clear H
              have H := H1
              clear H1
              obtain rfl := Option.some.inj H
              have p191 : 0 ≤ (x3_1 : Int) := of_decide_eq_true (by first | (with_reducible assumption) | assumption)
              have q191 : x3_1 < (l0.length : Int) := of_decide_eq_true (by first | (with_reducible assumption) | assumption)
              obtain ⟨ad191, e191, hx191_0, hx191_1, hx191_2, hx191_3, hx191_4⟩ := at_T89 HR0.out x3_1 p191 q191
              cases e191
              replace hx191_0 := (HB.out.cell (World.block_lt_of_cell? w _ hx191_0)).trans hx191_0
              replace hx191_1 := (HB.out.cell (World.block_lt_of_cell? w _ hx191_1)).trans hx191_1
              replace hx191_2 := (HB.out.cell (World.block_lt_of_cell? w _ hx191_2)).trans hx191_2
              replace hx191_3 := (HB.out.cell (World.block_lt_of_cell? w _ hx191_3)).trans hx191_3
              replace hx191_4 := (HB.out.cell (World.block_lt_of_cell? w _ hx191_4)).trans hx191_4
              replace p191 := eq_true p191
              replace q191 := eq_true q191
              go_wp2_with (first | ((with_reducible refine gate_callee (f := 66) rfl ?_); refine goesL_ (some 17) rfl rfl Try.func66 (by kernel_rfl) rfl #[.agg #[.int .i64 ((rd_T89 l0 x3_1).f0), .int .i64 ((rd_T89 l0 x3_1).f1), .int .i64 ((rd_T89 l0 x3_1).f2), .int .i64 ((rd_T89 l0 x3_1).f3), .int .i64 ((rd_T89 l0 x3_1).f4)]] rfl (by (try simp only [List.map_toArray, List.map_cons, List.map_nil]); first | done | rfl | (simp only [List.length_drop, List.length_take]; rfl)) ?_; (with_reducible refine (fuglemanref12_Right.calls ((rd_T89 l0 x3_1).f0) ((rd_T89 l0 x3_1).f1) ((rd_T89 l0 x3_1).f2) ((rd_T89 l0 x3_1).f3) ((rd_T89 l0 x3_1).f4) false _ A5.out).mono ?_); rintro e w8 ⟨rfl, hb⟩; refine ⟨_, rfl, ?_⟩; have n0_ := Aside0.mk (below_step (by repeat (first | (with_reducible first | exact HB.out | apply below_alloc | apply pw_below_drewN | apply below_drew1) | exact HB.out)) hb); clear HB; have HB := n0_; clear n0_; (try clear hb); (try clear hb2); (try clear hk); (try clear hi)))
              go_ret
              exact ⟨by first | rfl | (simp [errW_none, errW_some] <;> rfl) | (simp [*, errW_none, errW_some] <;> rfl), by repeat (first | (with_reducible first | exact HB.out | apply below_alloc | apply pw_below_drewN | apply below_drew1) | exact HB.out)⟩
          · rw [if_neg c4] at H
            exact absurd H (by simp)
        · rw [if_neg c3] at H
          have c3b0 : decide (x3_1 < (l0.length : Int)) = false := decide_eq_false c3
          clear c3
          obtain rfl := Option.some.inj H
          go_wp2
          go_ret
          exact ⟨by first | rfl | (simp [errW_none, errW_some] <;> rfl) | (simp [*, errW_none, errW_some] <;> rfl), by repeat (first | (with_reducible first | exact HB.out | apply below_alloc | apply pw_below_drewN | apply below_drew1) | exact HB.out)⟩

/-- A state of type 100 at block g of W; what its slices lead to came in by w0. -/
def IsS100 (w0 W : World) (g : Nat) (f0 : ByteArray) (f1 : Bool) : Prop := W.heap[g]? = some (.cells #[.string f0, .bool f1] 100 (0, 0)) ∧ w0.heap.size ≤ g
theorem IsS100.grown {w0 W : World} {g : Nat} {f0 : ByteArray} {f1 : Bool} {W1 : World} {row : Option Nat} (h : IsS100 w0 W g f0 f1) (hw : W.grownBy W1 row) (hne : some g ≠ row) : IsS100 w0 W1 g f0 f1 := by
  obtain ⟨hb, hg⟩ := h
  exact ⟨blk_grown hb hw hne, hg⟩
theorem IsS100.own_neN {w0 W : World} {g : Nat} {f0 : ByteArray} {f1 : Bool} {α : Type} {d : Kd α} {e : Nat} {base : Nat} {ok : Nat → Prop} {v : Value} {xs : List α} (h : IsS100 w0 W g f0 f1) (ho : Kd.N d e W base ok v xs) (ht : e ≠ 100) : some g ≠ v.ownBlock := by
  obtain ⟨hb, hg⟩ := h
  exact Kd.N_ne ho hb ht
theorem IsS100.fresh {w0 W : World} {g : Nat} {f0 : ByteArray} {f1 : Bool} (h : IsS100 w0 W g f0 f1) : ∀ k, W.heap.size ≤ k → k ≠ g := by
  obtain ⟨hb, hg⟩ := h
  exact Kd.freshB hb
theorem IsS100.kept {w0 W : World} {g : Nat} {f0 : ByteArray} {f1 : Bool} {W1 : World} {S : Nat → Prop} (h : IsS100 w0 W g f0 f1) (hk : Kept W W1 S) (hne : ¬ S g) : IsS100 w0 W1 g f0 f1 := by
  obtain ⟨hb, hg⟩ := h
  exact ⟨blk_kept hb hk hne, hg⟩
theorem IsS100.below {w0 W : World} {g : Nat} {f0 : ByteArray} {f1 : Bool} {W1 : World} (h : IsS100 w0 W g f0 f1) (hw : Below W.heap.size W W1) : IsS100 w0 W1 g f0 f1 := h.grown (grown_of_below hw none) (by simp)
theorem IsS100.alloc {w0 W : World} {g : Nat} {f0 : ByteArray} {f1 : Bool} (h : IsS100 w0 W g f0 f1) (o : Obj) : IsS100 w0 (W.alloc o) g f0 f1 := h.below (below_alloc (Below.refl _ _) o)
theorem IsS100.drewN {w0 W : World} {g : Nat} {f0 : ByteArray} {f1 : Bool} (h : IsS100 w0 W g f0 f1) (m : Nat) : IsS100 w0 (W.drewN m) g f0 f1 := h
theorem IsS100.drew {w0 W : World} {g : Nat} {f0 : ByteArray} {f1 : Bool} (h : IsS100 w0 W g f0 f1) : IsS100 w0 W.drew g f0 f1 := h
theorem IsS100.at_ {w0 W : World} {g : Nat} {f0 : ByteArray} {f1 : Bool} {w' : World} {m : Nat} (hq : W.drewN m = w') (h : IsS100 w0 W g f0 f1) : IsS100 w0 w' g f0 f1 := by subst hq; exact IsS100.drewN h m
theorem IsS100.apart {w0 W : World} {g : Nat} {f0 : ByteArray} {f1 : Bool} {α : Type} {d : Kd α} {e : Nat} {base : Nat} {ok : Nat → Prop} {v : Value} {xs : List α} (h : IsS100 w0 W g f0 f1) (ho : d.R e W base ok v xs) (ht : ∀ q, q ∈ e :: d.E → q ≠ 100) : d.R e W base (fun k => ok k ∧ k ≠ g) v xs := by
  obtain ⟨hb, hg⟩ := h
  exact Kd.R_types ho hb ht
theorem IsS100.own_ne {w0 W : World} {g : Nat} {f0 : ByteArray} {f1 : Bool} {α : Type} {d : Kd α} {e : Nat} {base : Nat} {ok : Nat → Prop} {v : Value} {xs : List α} (h : IsS100 w0 W g f0 f1) (ho : d.R e W base ok v xs) (ht : e ≠ 100) : some g ≠ v.ownBlock := by
  obtain ⟨hb, hg⟩ := h
  exact Kd.R_ne ho hb ht
theorem IsS100.apartQ {w0 W : World} {g : Nat} {f0 : ByteArray} {f1 : Bool} {α : Type} {d : Kd α} {e : Nat} {base : Nat} {ok : Nat → Prop} {v : Value} {xs : List α} (h : IsS100 w0 W g f0 f1) (ho : d.Q e W base ok v xs) (ht : ∀ q, q ∈ e :: d.E → q ≠ 100) : d.Q e W base (fun k => ok k ∧ k ≠ g) v xs := by
  obtain ⟨hb, hg⟩ := h
  exact Kd.Q_types ho hb ht
theorem IsS100.own_neQ {w0 W : World} {g : Nat} {f0 : ByteArray} {f1 : Bool} {α : Type} {d : Kd α} {e : Nat} {base : Nat} {ok : Nat → Prop} {v : Value} {xs : List α} (h : IsS100 w0 W g f0 f1) (ho : d.Q e W base ok v xs) (ht : e ≠ 100) : some g ≠ v.ownBlock := by
  obtain ⟨hb, hg⟩ := h
  exact Kd.Q_ne ho hb ht
theorem IsS100.apartS {w0 W : World} {g : Nat} {f0 : ByteArray} {f1 : Bool} {α : Type} {d : Kd α} {e : Nat} {base : Nat} {ok : Nat → Prop} {v : Value} {xs : List α} (h : IsS100 w0 W g f0 f1) (ho : d.S e W base ok v xs) (ht : ∀ q, q ∈ e :: d.E → q ≠ 100) : d.S e W base (fun k => ok k ∧ k ≠ g) v xs := by
  obtain ⟨hb, hg⟩ := h
  exact Kd.S_types ho hb ht
theorem IsS100.own_neS {w0 W : World} {g : Nat} {f0 : ByteArray} {f1 : Bool} {α : Type} {d : Kd α} {e : Nat} {base : Nat} {ok : Nat → Prop} {v : Value} {xs : List α} (h : IsS100 w0 W g f0 f1) (ho : d.S e W base ok v xs) (ht : e ≠ 100) : some g ≠ v.ownBlock := by
  obtain ⟨hb, hg⟩ := h
  exact Kd.S_ne ho hb ht
theorem IsS100.lt {w0 W : World} {g : Nat} {f0 : ByteArray} {f1 : Bool} (h : IsS100 w0 W g f0 f1) : g < W.heap.size := by
  obtain ⟨hb, hg⟩ := h
  exact blk_lt hb
theorem IsS100.ge {w0 W : World} {g : Nat} {f0 : ByteArray} {f1 : Bool} (h : IsS100 w0 W g f0 f1) : w0.heap.size ≤ g := by
  obtain ⟨hb, hg⟩ := h
  exact hg
theorem IsS100.ne_blk {w0 W : World} {g : Nat} {f0 : ByteArray} {f1 : Bool} {a : Nat} {cs : Array Value} {t : TypeId} {fr : Nat × Nat} (h : IsS100 w0 W g f0 f1) (hb2 : W.heap[a]? = some (.cells cs t fr)) (ht : t ≠ 100) : g ≠ a := by
  obtain ⟨hb, hg⟩ := h
  rintro rfl
  rw [hb] at hb2
  injection hb2 with hb2
  injection hb2 with _ ht2
  exact ht ht2.symm
theorem IsS100.far {w0 W : World} {g : Nat} {f0 : ByteArray} {f1 : Bool} {p : Addr} (h : IsS100 w0 W g f0 f1) (hne : g ≠ p.block) (u : Value) : IsS100 w0 (W.setCell p u) g f0 f1 := by
  obtain ⟨hb, hg⟩ := h
  exact ⟨blk_far hb hne u, hg⟩
theorem cellS100_0 {W : World} {g : Nat} {f0 : ByteArray} {f1 : Bool} (h : W.heap[g]? = some (.cells #[.string f0, .bool f1] 100 (0, 0))) : W.cell? ⟨g, 0, none⟩ = some (.string f0) := (blk_cell h 0).trans rfl
theorem IsS100.set_0 {w0 W : World} {g : Nat} {f0 : ByteArray} {f1 : Bool} (h : IsS100 w0 W g f0 f1) (x : ByteArray) : IsS100 w0 (W.setCell ⟨g, 0, none⟩ (.string x)) g x f1 := by
  obtain ⟨hb, hg⟩ := h
  exact ⟨by simpa using blk_set hb 0 (.string x), hg⟩
theorem cellS100_1 {W : World} {g : Nat} {f0 : ByteArray} {f1 : Bool} (h : W.heap[g]? = some (.cells #[.string f0, .bool f1] 100 (0, 0))) : W.cell? ⟨g, 1, none⟩ = some (.bool f1) := (blk_cell h 1).trans rfl
theorem IsS100.set_1 {w0 W : World} {g : Nat} {f0 : ByteArray} {f1 : Bool} (h : IsS100 w0 W g f0 f1) (x : Bool) : IsS100 w0 (W.setCell ⟨g, 1, none⟩ (.bool x)) g f0 x := by
  obtain ⟨hb, hg⟩ := h
  exact ⟨by simpa using blk_set hb 1 (.bool x), hg⟩
theorem IsS100.new (w0 W : World) (f0 : ByteArray) (f1 : Bool) (hB : Below w0.heap.size w0 W) : IsS100 w0 (W.alloc (.cells #[.string f0, .bool f1] 100)) W.heap.size f0 f1 := ⟨by simpa using heap_alloc_new W _, hB.size⟩

/-! ### fuglemanref02_Eye_Take: function 77 -/
def fuglemanref02_Eye_Take.f (s0_0 : ByteArray) (s0_1 : Bool) (a1 : Int) : Option (ByteArray × ByteArray × Bool) := if s0_1 = true then (some ((⟨#[]⟩ : ByteArray), s0_0, true)) else (if a1 < 0 then (some ((⟨#[]⟩ : ByteArray), s0_0, true)) else (if a1 > (s0_0.size : Int) then (some ((⟨#[]⟩ : ByteArray), s0_0, true)) else (if 0 ≤ a1 then (if a1 ≤ (s0_0.size : Int) then (some (s0_0.extract 0 (a1 : Int).toNat, s0_0.extract (a1 : Int).toNat s0_0.size, s0_1)) else (none)) else (none))))
set_option maxHeartbeats 8000000 in
set_option maxRecDepth 100000 in
theorem fuglemanref02_Eye_Take.calls (g : Nat) (s0_0 : ByteArray) (s0_1 : Bool) (a1 : Int) (r1 : ByteArray) (r2 : ByteArray) (r3 : Bool) (w0 w : World) (hI : IsS100 w0 w g s0_0 s0_1) (hB : Below w0.heap.size w0 w) (h : fuglemanref02_Eye_Take.f s0_0 s0_1 a1 = some (r1, r2, r3)) :
    Calls Try.prog 77 #[.pointer (some ⟨g, 0, none⟩), .int .i64 a1] w fun e w' => e = .returned (.string r1) ∧ IsS100 w0 w' g r2 r3 ∧ Below w0.heap.size w0 w' ∧ KeepBut w w' g none := by
  have HI0 := Aside0.mk hI
  have HK := Aside0.mk (KeepBut.refl w g none)
  have HL := Aside0.mk hB.size
  clear hI
  have HW0 := Aside0.mk hB.size
  have HB := Aside0.mk hB
  clear hB
  have H : (if s0_1 = true then (some ((⟨#[]⟩ : ByteArray), s0_0, true)) else (if a1 < 0 then (some ((⟨#[]⟩ : ByteArray), s0_0, true)) else (if a1 > (s0_0.size : Int) then (some ((⟨#[]⟩ : ByteArray), s0_0, true)) else (if 0 ≤ a1 then (if a1 ≤ (s0_0.size : Int) then (some (s0_0.extract 0 (a1 : Int).toNat, s0_0.extract (a1 : Int).toNat s0_0.size, s0_1)) else (none)) else (none))))) = some (r1, r2, r3) := h
  clear h
  by_cases c3 : s0_1 = true
  · subst c3
    have H1 : (some ((⟨#[]⟩ : ByteArray), s0_0, true)) = some (r1, r2, r3) := by rw [if_pos rfl] at H; exact H
    clear H
    have H := H1
    clear H1
    simp only [Option.some.injEq, Prod.mk.injEq] at H
    obtain ⟨rfl, rfl, rfl⟩ := H
    obtain ⟨HGz4, hgz4⟩ := HI0.out
    have hcz4_0 := cellS100_0 HGz4
    have hcz4_1 := cellS100_1 HGz4
    have hfz4_0 := blk_frozen HGz4 0
    have hfz4_1 := blk_frozen HGz4 1
    clear HGz4 hgz4
    go_enter Try.func77, Try.ntmps77
    go_wp2
    go_ret
    exact ⟨by first | rfl | (simp [errW_none, errW_some] <;> rfl) | (simp [*, errW_none, errW_some] <;> rfl), by repeat (first | (with_reducible first | exact HI0.out | apply IsS100.alloc | apply IsS100.drewN | apply IsS100.drew | apply IsS100.set_0 | apply IsS100.set_1) | exact HI0.out), by repeat (first | (with_reducible first | exact HB.out | apply below_alloc | apply pw_below_drewN | apply below_drew1 | refine below_set ?_ (IsS100.ge HI0.out)) | exact HB.out), by repeat (first | (with_reducible first | exact HK.out | apply KeepBut.set_ | apply keep_drewN | apply keep_drew | apply keep_alloc) | exact HK.out)⟩
  · replace c3 := Bool.eq_false_iff.mpr c3
    subst c3
    have H1 : (if a1 < 0 then (some ((⟨#[]⟩ : ByteArray), s0_0, true)) else (if a1 > (s0_0.size : Int) then (some ((⟨#[]⟩ : ByteArray), s0_0, true)) else (if 0 ≤ a1 then (if a1 ≤ (s0_0.size : Int) then (some (s0_0.extract 0 (a1 : Int).toNat, s0_0.extract (a1 : Int).toNat s0_0.size, false)) else (none)) else (none)))) = some (r1, r2, r3) := by rw [if_neg (show ¬ (false = true) by decide)] at H; exact H
    clear H
    have H := H1
    clear H1
    by_cases c5 : a1 < 0
    · rw [if_pos c5] at H
      have c5b0 : decide (a1 < 0) = true := decide_eq_true c5
      clear c5
      simp only [Option.some.injEq, Prod.mk.injEq] at H
      obtain ⟨rfl, rfl, rfl⟩ := H
      obtain ⟨HGz6, hgz6⟩ := HI0.out
      have hcz6_0 := cellS100_0 HGz6
      have hcz6_1 := cellS100_1 HGz6
      have hfz6_0 := blk_frozen HGz6 0
      have hfz6_1 := blk_frozen HGz6 1
      clear HGz6 hgz6
      go_enter Try.func77, Try.ntmps77
      go_wp2
      go_ret
      exact ⟨by first | rfl | (simp [errW_none, errW_some] <;> rfl) | (simp [*, errW_none, errW_some] <;> rfl), by repeat (first | (with_reducible first | exact HI0.out | apply IsS100.alloc | apply IsS100.drewN | apply IsS100.drew | apply IsS100.set_0 | apply IsS100.set_1) | exact HI0.out), by repeat (first | (with_reducible first | exact HB.out | apply below_alloc | apply pw_below_drewN | apply below_drew1 | refine below_set ?_ (IsS100.ge HI0.out)) | exact HB.out), by repeat (first | (with_reducible first | exact HK.out | apply KeepBut.set_ | apply keep_drewN | apply keep_drew | apply keep_alloc) | exact HK.out)⟩
    · rw [if_neg c5] at H
      have c5b0 : decide (a1 < 0) = false := decide_eq_false c5
      clear c5
      by_cases c7 : a1 > (s0_0.size : Int)
      · rw [if_pos c7] at H
        have c7b0 : decide ((s0_0.size : Int) < a1) = true := decide_eq_true c7
        clear c7
        simp only [Option.some.injEq, Prod.mk.injEq] at H
        obtain ⟨rfl, rfl, rfl⟩ := H
        obtain ⟨HGz8, hgz8⟩ := HI0.out
        have hcz8_0 := cellS100_0 HGz8
        have hcz8_1 := cellS100_1 HGz8
        have hfz8_0 := blk_frozen HGz8 0
        have hfz8_1 := blk_frozen HGz8 1
        clear HGz8 hgz8
        go_enter Try.func77, Try.ntmps77
        go_wp2
        go_ret
        exact ⟨by first | rfl | (simp [errW_none, errW_some] <;> rfl) | (simp [*, errW_none, errW_some] <;> rfl), by repeat (first | (with_reducible first | exact HI0.out | apply IsS100.alloc | apply IsS100.drewN | apply IsS100.drew | apply IsS100.set_0 | apply IsS100.set_1) | exact HI0.out), by repeat (first | (with_reducible first | exact HB.out | apply below_alloc | apply pw_below_drewN | apply below_drew1 | refine below_set ?_ (IsS100.ge HI0.out)) | exact HB.out), by repeat (first | (with_reducible first | exact HK.out | apply KeepBut.set_ | apply keep_drewN | apply keep_drew | apply keep_alloc) | exact HK.out)⟩
      · rw [if_neg c7] at H
        have c7b0 : decide ((s0_0.size : Int) < a1) = false := decide_eq_false c7
        clear c7
        by_cases c9 : 0 ≤ a1
        · rw [if_pos c9] at H
          have c9b0 := eq_true c9
          have c9b1 : decide (0 ≤ a1) = true := decide_eq_true c9
          clear c9
          by_cases c10 : a1 ≤ (s0_0.size : Int)
          · rw [if_pos c10] at H
            have c10b0 := eq_true c10
            have c10b1 : decide (a1 ≤ (s0_0.size : Int)) = true := decide_eq_true c10
            clear c10
            have c11b0 := eq_true (of_decide_eq_true (by first | (with_reducible assumption) | assumption) : 0 ≤ a1)
            have c12b0 := eq_true (of_decide_eq_true (by first | (with_reducible assumption) | assumption) : a1 ≤ (s0_0.size : Int))
            simp only [Option.some.injEq, Prod.mk.injEq] at H
            obtain ⟨rfl, rfl, rfl⟩ := H
            obtain ⟨HGz13, hgz13⟩ := HI0.out
            have hcz13_0 := cellS100_0 HGz13
            have hcz13_1 := cellS100_1 HGz13
            have hfz13_0 := blk_frozen HGz13 0
            have hfz13_1 := blk_frozen HGz13 1
            clear HGz13 hgz13
            go_enter Try.func77, Try.ntmps77
            go_wp2
            go_ret
            exact ⟨by first | rfl | (simp [errW_none, errW_some] <;> rfl) | (simp [*, errW_none, errW_some] <;> rfl), by repeat (first | (with_reducible first | exact HI0.out | apply IsS100.alloc | apply IsS100.drewN | apply IsS100.drew | apply IsS100.set_0 | apply IsS100.set_1) | exact HI0.out), by repeat (first | (with_reducible first | exact HB.out | apply below_alloc | apply pw_below_drewN | apply below_drew1 | refine below_set ?_ (IsS100.ge HI0.out)) | exact HB.out), by repeat (first | (with_reducible first | exact HK.out | apply KeepBut.set_ | apply keep_drewN | apply keep_drew | apply keep_alloc) | exact HK.out)⟩
          · rw [if_neg c10] at H
            exact absurd H (by simp)
        · rw [if_neg c9] at H
          exact absurd H (by simp)

/-! ### fuglemanref02_Eye_Number: function 63 -/

def fuglemanref02_Eye_Number.f (s0_0 : ByteArray) (s0_1 : Bool) (a1 : Int) : Option (Int × ByteArray × Bool) :=
  if s0_0.size ≤ maxLen then some (((Oct.num (Oct.rtake s0_0 s0_1 a1).1.data.toList : Nat) : Int), (Oct.rtake s0_0 s0_1 a1).2.1, (Oct.rtake s0_0 s0_1 a1).2.2) else none
theorem fuglemanref02_Eye_Number.calls (g : Nat) (s0_0 : ByteArray) (s0_1 : Bool) (a1 : Int) (r1 : Int) (r2 : ByteArray) (r3 : Bool) (w0 w : World) (hI : IsS100 w0 w g s0_0 s0_1) (hB : Below w0.heap.size w0 w) (h : fuglemanref02_Eye_Number.f s0_0 s0_1 a1 = some (r1, r2, r3)) :
    Calls Try.prog 63 #[.pointer (some ⟨g, 0, none⟩), .int .i64 a1] w fun e w' => e = .returned (.int .u32 r1) ∧ IsS100 w0 w' g r2 r3 ∧ Below w0.heap.size w0 w' ∧ KeepBut w w' g none := by
  unfold fuglemanref02_Eye_Number.f at h
  split at h
  · next hs =>
    simp only [Option.some.injEq, Prod.mk.injEq] at h
    obtain ⟨rfl, rfl, rfl⟩ := h
    refine (reyeNumber_any g s0_0 s0_1 a1 hs w hI.1).mono fun e w' ⟨he, hw, hk⟩ => ⟨he, ⟨hw, hI.2⟩, hB.trans (hk.below hB.size fun j hj he => by have := hI.2; omega), hk.size, fun i hi hg _ => hk.block i hi hg⟩
  · cases h



/-! ### fuglemanref13_Decode: function 38 -/

def rnum (s : ByteArray) (lost : Bool) (n : Int) : Int := ((Oct.num (Oct.rtake s lost n).1.data.toList : Nat) : Int)
/-- An instruction that the document's eye reads; what is left. -/
def rins (s : ByteArray) (lost : Bool) : S89 × ByteArray × Bool :=
  let a := Oct.rtake s lost 1
  let b := Oct.rtake a.2.1 a.2.2 1
  let c := Oct.rtake b.2.1 b.2.2 1
  let d := Oct.rtake c.2.1 c.2.2 1
  let e := Oct.rtake d.2.1 d.2.2 4
  (⟨rnum s lost 1, rnum a.2.1 a.2.2 1, rnum b.2.1 b.2.2 1, rnum c.2.1 c.2.2 1, if rnum a.2.1 a.2.2 1 ≠ 7 ∧ 2147483648 ≤ rnum d.2.1 d.2.2 4 then rnum d.2.1 d.2.2 4 - 4294967296 else rnum d.2.1 d.2.2 4⟩, e.2.1, e.2.2)
def rinss : Nat → ByteArray → Bool → List S89
  | 0, _, _ => []
  | m + 1, s, lost => (rins s lost).1 :: rinss m (rins s lost).2.1 (rins s lost).2.2
theorem rinss_length : ∀ (m : Nat) (s : ByteArray) (lost : Bool), (rinss m s lost).length = m
  | 0, _, _ => rfl
  | m + 1, s, lost => by simp [rinss, rinss_length m]
theorem rnum_bd (s : ByteArray) (lost : Bool) (n : Int) : 0 ≤ rnum s lost n ∧ rnum s lost n ≤ 4294967295 := by
  have := Oct.num_lt (Oct.rtake s lost n).1.data.toList
  unfold rnum
  omega
def rleft : Nat → ByteArray → Bool → ByteArray × Bool
  | 0, s, lost => (s, lost)
  | m + 1, s, lost => rleft m (rins s lost).2.1 (rins s lost).2.2
theorem rinss_succ : ∀ (m : Nat) (s : ByteArray) (lost : Bool), rinss (m + 1) s lost = rinss m s lost ++ [(rins (rleft m s lost).1 (rleft m s lost).2).1]
  | 0, _, _ => rfl
  | m + 1, s, lost => by
    rw [rinss, rinss_succ m]
    rfl
theorem rleft_succ : ∀ (m : Nat) (s : ByteArray) (lost : Bool), rleft (m + 1) s lost = (rins (rleft m s lost).1 (rleft m s lost).2).2
  | 0, _, _ => rfl
  | m + 1, s, lost => by
    rw [rleft, rleft_succ m]
    rfl
theorem rins_size (s : ByteArray) (lost : Bool) : (rins s lost).2.1.size ≤ s.size :=
  Nat.le_trans (Oct.rtake_left _ _ _) (Nat.le_trans (Oct.rtake_left _ _ _) (Nat.le_trans (Oct.rtake_left _ _ _) (Nat.le_trans (Oct.rtake_left _ _ _) (Oct.rtake_left _ _ _))))
theorem rleft_size : ∀ (m : Nat) (s : ByteArray) (lost : Bool), (rleft m s lost).1.size ≤ s.size
  | 0, _, _ => Nat.le_refl _
  | m + 1, s, lost => Nat.le_trans (rleft_size m _ _) (rins_size s lost)
/-- Where the reading of an instruction stands: the eye at g, the instruction's cells at gx, made behind world wr. -/
structure DecSt (w0 wr w : World) (g : Nat) (s : ByteArray) (lost : Bool) (gx : Nat) (x0 x1 x2 x3 x4 : Int) : Prop where
  eye : IsS100 w0 w g s lost
  below : Below w0.heap.size w0 w
  keep : KeepBut wr w g none
  obj : w.heap[gx]? = some (.cells #[.int .i64 x0, .int .i64 x1, .int .i64 x2, .int .i64 x3, .int .i64 x4] 89 (0, 0))
  late : wr.heap.size ≤ gx ∧ w0.heap.size ≤ wr.heap.size
  ne : gx ≠ g
  size : s.size ≤ maxLen
theorem eye_num (g : Nat) (s : ByteArray) (lost : Bool) (n : Int) (w0 wr w : World) (hs : s.size ≤ maxLen) (hI : IsS100 w0 w g s lost) (hB : Below w0.heap.size w0 w) (hK : KeepBut wr w g none) :
    Calls Try.prog 63 #[.pointer (some ⟨g, 0, none⟩), .int .i64 n] w fun e w' => e = .returned (.int .u32 (rnum s lost n)) ∧ IsS100 w0 w' g (Oct.rtake s lost n).2.1 (Oct.rtake s lost n).2.2 ∧ Below w0.heap.size w0 w' ∧ KeepBut wr w' g none ∧ ∀ i, i < w.heap.size → i ≠ g → w'.heap[i]? = w.heap[i]? :=
  (reyeNumber_any g s lost n hs w hI.1).mono fun e w' ⟨he, hw, hk⟩ => ⟨he, ⟨hw, hI.2⟩, hB.trans (hk.below hB.size fun j hj he => by have := hI.2; omega), hK.trans ⟨hk.size, fun i hi hg _ => hk.block i hi hg⟩ (.inl rfl), fun i hi hg => hk.block i hi hg⟩
theorem DecSt.num {w0 wr w : World} {g gx : Nat} {s : ByteArray} {lost : Bool} {x0 x1 x2 x3 x4 : Int} (h : DecSt w0 wr w g s lost gx x0 x1 x2 x3 x4) (n : Int) :
    Calls Try.prog 63 #[.pointer (some ⟨g, 0, none⟩), .int .i64 n] w fun e w' => e = .returned (.int .u32 (rnum s lost n)) ∧ DecSt w0 wr w' g (Oct.rtake s lost n).2.1 (Oct.rtake s lost n).2.2 gx x0 x1 x2 x3 x4 :=
  (eye_num g s lost n w0 wr w h.size h.eye h.below h.keep).mono fun e w' ⟨he, hI, hB, hK, hk⟩ => ⟨he, hI, hB, hK, (hk gx (blk_lt h.obj) h.ne).trans h.obj, h.late, h.ne, Nat.le_trans (Oct.rtake_left s lost n) h.size⟩
theorem DecSt.set {w0 wr w : World} {g gx : Nat} {s : ByteArray} {lost : Bool} {x0 x1 x2 x3 x4 : Int} (h : DecSt w0 wr w g s lost gx x0 x1 x2 x3 x4) (j : Nat) (v : Value) (y0 y1 y2 y3 y4 : Int)
    (hy : (#[.int .i64 x0, .int .i64 x1, .int .i64 x2, .int .i64 x3, .int .i64 x4] : Array Value).setIfInBounds j v = #[.int .i64 y0, .int .i64 y1, .int .i64 y2, .int .i64 y3, .int .i64 y4]) :
    DecSt w0 wr (w.setCell ⟨gx, j, none⟩ v) g s lost gx y0 y1 y2 y3 y4 :=
  ⟨h.eye.far (fun he => h.ne he.symm) _, below_set h.below (Nat.le_trans h.late.2 h.late.1),
    ⟨Nat.le_trans h.keep.1 (by simp [World.setCell]), fun i hi hg hn => (Below.heap_setCell w ⟨gx, j, none⟩ v i (by have := h.late.1; simp; omega)).trans (h.keep.2 i hi hg hn)⟩,
    hy ▸ blk_set h.obj j v, h.late, h.ne, h.size⟩
theorem DecSt.new {w0 wr w : World} {g : Nat} {s : ByteArray} {lost : Bool} (hI : IsS100 w0 w g s lost) (hB : Below w0.heap.size w0 w) (hK : KeepBut wr w g none) (hs : s.size ≤ maxLen) (hl : w0.heap.size ≤ wr.heap.size) (x0 : Int) :
    DecSt w0 wr (w.alloc (.cells #[.int .i64 x0, .int .i64 0, .int .i64 0, .int .i64 0, .int .i64 0] 89)) g s lost w.heap.size x0 0 0 0 0 :=
  ⟨hI.alloc _, below_alloc hB _, keep_alloc hK _, by simpa using heap_alloc_new w _, ⟨hK.1, hl⟩, fun he => absurd hI.lt (by omega), hs⟩
def fuglemanref13_Decode.f (k : Nat) (a0 : ByteArray) : Option (List S89 × Int) :=
  if 100000 < a0.size then none else if a0.size < 2 then some ([], 9) else if Crc.rsealed (a0.extract 0 (a0.size - 2)) ≠ a0 then some ([], 9)
  else
    let t := Oct.rtake (a0.extract 0 (a0.size - 2)) false 1
    let n := rnum (a0.extract 0 (a0.size - 2)) false 1
    if t.2.2 = true ∨ (t.2.1.size : Int) ≠ 8 * n then some ([], 10) else if 200 < n then some ([], 2)
    else (fuglemanref13_Error.f k (rinss n.toNat t.2.1 t.2.2)).bind fun r => if r = 0 then some (rinss n.toNat t.2.1 t.2.2, 0) else some ([], 3)
theorem fuglemanref13_Decode.mono : ∀ a0 k, LeO (fuglemanref13_Decode.f k a0) (fuglemanref13_Decode.f (k + 1) a0) := by
  intro a0 k
  unfold fuglemanref13_Decode.f
  dsimp only
  repeat' first
    | (with_reducible exact fuglemanref13_Error.mono _ _)
    | (with_reducible exact LeO.refl _)
    | (with_reducible refine LeO.ite ?_ ?_)
    | (with_reducible refine LeO.bind ?_ (fun _ => ?_))
set_option maxRecDepth 100000 in
set_option maxHeartbeats 4000000 in
theorem fuglemanref13_Decode.calls (k : Nat) (a0 : ByteArray) (r1 : List S89) (r2 : Int) (w : World) (h : fuglemanref13_Decode.f k a0 = some (r1, r2)) :
    Calls Try.prog 38 #[.string a0] w fun e w' => ∃ v0_ : Value, e = .returned (.tuple #[v0_, .int .i64 r2]) ∧ Kd.R k89 89 w' w.heap.size (fun _ => True) v0_ r1 ∧ Below w.heap.size w w' := by
  have hu89 := Try.underlying89
  unfold fuglemanref13_Decode.f at h
  by_cases hz : 100000 < a0.size
  · rw [if_pos hz] at h; cases h
  rw [if_neg hz] at h
  by_cases h2 : a0.size < 2
  · rw [if_pos h2] at h
    simp only [Option.some.injEq, Prod.mk.injEq] at h
    obtain ⟨rfl, rfl⟩ := h
    have h3 : (a0.size : Int) < 2 := by omega
    clear h2
    go_enter Try.func38, Try.ntmps38
    go_wp2
    go_ret2
    exact ⟨_, rfl, Kd.R_nil _ _ _ _ _, Below.refl _ _⟩
  rw [if_neg h2] at h
  have h3 : ¬ (a0.size : Int) < 2 := by omega
  have q1 : IntKind.i64.wrap ((a0.size : Int) - 2) = (a0.size : Int) - 2 := IntWalk.i64_in _ (by omega)
  have q2 : (0 : Int) ≤ (a0.size : Int) - 2 := by omega
  have q3 : ((a0.size : Int) - 2).toNat = a0.size - 2 := by omega
  have hsz : (a0.extract 0 (a0.size - 2)).size + 2 ≤ maxLen := by rw [ByteArray.size_extract]; unfold maxLen; omega
  have hsz2 : (a0.extract 0 (a0.size - 2)).size = a0.size - 2 := by rw [ByteArray.size_extract]; omega
  have H := Lib.hid h
  have HZ := Lib.hid (And.intro hsz hsz2)
  clear h hsz hsz2 h2
  go_enter Try.func38, Try.ntmps38
  go_wp2_with fail
  refine (rsealed_any _ HZ.out.1 _).mono ?_
  rintro e w1 ⟨rfl, hb1⟩
  have HB1 := Lib.hid hb1
  clear hb1
  by_cases hs : Crc.rsealed (a0.extract 0 (a0.size - 2)) ≠ a0
  · have h9 := H.out
    rw [if_pos hs] at h9
    simp only [Option.some.injEq, Prod.mk.injEq] at h9
    obtain ⟨rfl, rfl⟩ := h9
    have hn1 : ((Crc.rsealed (a0.extract 0 (a0.size - 2))).toList == a0.toList) = false := bytes_ne hs
    have hn2 : ((Crc.rsealed (a0.extract 0 (a0.size - 2))).toList != a0.toList) = true := by simp [bne, hn1]
    clear hs
    go_wp2
    go_ret2
    exact ⟨_, rfl, Kd.R_nil _ _ _ _ _, HB1.out⟩
  have h9 := H.out
  rw [if_neg hs] at h9
  have hs : Crc.rsealed (a0.extract 0 (a0.size - 2)) = a0 := Classical.not_not.1 hs
  have hn1 : ((Crc.rsealed (a0.extract 0 (a0.size - 2))).toList == a0.toList) = true := bytes_same hs
  have hn2 : ((Crc.rsealed (a0.extract 0 (a0.size - 2))).toList != a0.toList) = false := by simp [bne, hn1]
  try dsimp only at h9
  have hTs := HZ.out.2
  obtain ⟨T, hT⟩ : ∃ T, a0.extract 0 (a0.size - 2) = T := ⟨_, rfl⟩
  rw [hT] at h9 hTs
  have HT := Lib.hid (And.intro hT hTs)
  have H9 := Lib.hid h9
  clear hs h9 hTs H hT
  have hI : IsS100 w (w1.alloc (.cells #[.string T, .bool false] 100)) w1.heap.size T false := IsS100.new w w1 T false HB1.out
  have HB2 := Lib.hid (HB1.out.alloc HB1.out.size (.cells #[.string T, .bool false] 100))
  go_wp2_with fail
  rw [HT.out.1]
  generalize w1.alloc (.cells #[.string T, .bool false] 100) = W at *
  generalize w1.heap.size = g at *
  have HI := Lib.hid hI
  clear hI HB1 hn1 hn2
  go_wp2_with fail
  refine (eye_num g T false 1 w W W (by have := HT.out.2; unfold maxLen; omega) HI.out HB2.out (KeepBut.refl W g none)).mono ?_
  rintro e w2 ⟨rfl, hi2, hb2, -, -⟩
  have hbd := rnum_bd T false 1
  have hsz := Oct.rtake_left T false 1
  obtain ⟨s1, hs1⟩ : ∃ s1, (Oct.rtake T false 1).2.1 = s1 := ⟨_, rfl⟩
  obtain ⟨l1, hl1⟩ : ∃ l1, (Oct.rtake T false 1).2.2 = l1 := ⟨_, rfl⟩
  have h9 := H9.out
  rw [hs1] at hi2 hsz h9
  rw [hl1] at hi2 h9
  generalize rnum T false 1 = n at *
  have HH := Lib.hid h9
  have HI2 := Lib.hid (And.intro hi2 hb2)
  have HSZ := Lib.hid (show s1.size ≤ maxLen from by have := HT.out.2; unfold maxLen; omega)
  have hss : s1.size ≤ 100000 := by have := HT.out.2; omega
  clear H9 hi2 hb2 hs1 hl1 h9 hsz HI HB2
  obtain ⟨HG, hg⟩ := HI2.out.1
  have hc0 := cellS100_0 HG
  have hc1 := cellS100_1 HG
  clear HG hg
  have hm : IntKind.i64.wrap (8 * n) = 8 * n := IntWalk.i64_in _ (by omega)
  cases l1 with
  | true =>
    have h9 := HH.out
    rw [if_pos (Or.inl rfl)] at h9
    simp only [Option.some.injEq, Prod.mk.injEq] at h9
    obtain ⟨rfl, rfl⟩ := h9
    go_wp2
    go_ret2
    exact ⟨_, rfl, Kd.R_nil _ _ _ _ _, HI2.out.2⟩
  | false =>
  by_cases h8 : (s1.size : Int) ≠ 8 * n
  · have h9 := HH.out
    rw [if_pos (Or.inr h8)] at h9
    simp only [Option.some.injEq, Prod.mk.injEq] at h9
    obtain ⟨rfl, rfl⟩ := h9
    have h8b : ((s1.size : Int) != 8 * n) = true := bne_iff_ne.mpr h8
    go_wp2
    go_ret2
    exact ⟨_, rfl, Kd.R_nil _ _ _ _ _, HI2.out.2⟩
  have h9 := HH.out
  rw [if_neg (fun h => h.elim (fun h => by cases h) h8)] at h9
  have h8b : ((s1.size : Int) != 8 * n) = false := by simpa using h8
  clear h8 HH
  by_cases h20 : 200 < n
  · rw [if_pos h20] at h9
    simp only [Option.some.injEq, Prod.mk.injEq] at h9
    obtain ⟨rfl, rfl⟩ := h9
    go_wp2
    go_ret2
    exact ⟨_, rfl, Kd.R_nil _ _ _ _ _, HI2.out.2⟩
  rw [if_neg h20] at h9
  obtain ⟨m, rfl⟩ := Int.eq_ofNat_of_zero_le hbd.1
  rw [Int.toNat_natCast] at h9
  have hm2 : m ≤ 200 := by omega
  have h20b : ¬ 200 < (m : Int) := h20
  have HH := Lib.hid h9
  clear h9 h20
  go_wp2
  clear hc0 hc1 hm h8b h20b
  have HS0 := Lib.hid (show Kd.R k89 89 w2 w.heap.size (fun _ => True) (.slice none 0 0) ([] : List S89) from Kd.R_nil _ _ _ _ _)
  go_loopw [6, 7] (fun v6 i wr => ∃ q : Nat, q ≤ m ∧ i = .int .i64 (q : Int) ∧ Hid (Kd.R k89 89 wr w.heap.size (fun _ => True) v6 (rinss q s1 false) ∧ IsS100 w wr g (rleft q s1 false).1 (rleft q s1 false).2 ∧ Below w.heap.size w wr)) (fun _ i _ => m - (intOf i).toNat)
  case atStart => exact ⟨0, Nat.zero_le _, rfl, Lib.hid ⟨HS0.out, HI2.out.1, HI2.out.2⟩⟩
  case round =>
    obtain ⟨q, hq, rfl, HL⟩ := hrel
    clear HS0 HI2
    by_cases hlt : q < m
    · have hlt2 : (q : Int) < (m : Int) := by omega
      have hsq := Nat.le_trans (rleft_size q s1 false) HSZ.out
      have hst := rinss_succ q s1 false
      have hlf := rleft_succ q s1 false
      have hI := HL.out.2.1
      generalize (rleft q s1 false).1 = s at hsq hst hlf hI
      generalize (rleft q s1 false).2 = lost at hst hlf hI
      have HST := Lib.hid (And.intro hst hlf)
      have HI := Lib.hid (And.intro hsq hI)
      clear hst hlf hsq hI
      go_wp2_with fail
      refine (eye_num g s lost 1 w wr wr HI.out.1 HI.out.2 HL.out.2.2 (KeepBut.refl wr g none)).mono ?_
      rintro e w3 ⟨rfl, hi3, hb3, hk3, -⟩
      have hx0 := rnum_bd s lost 1
      have st := DecSt.new hi3 hb3 hk3 (Nat.le_trans (Oct.rtake_left s lost 1) HI.out.1) HL.out.2.2.size (rnum s lost 1)
      clear hi3 hb3 hk3
      obtain ⟨x0, e0⟩ : ∃ x, rnum s lost 1 = x := ⟨_, rfl⟩
      obtain ⟨sa, es0⟩ : ∃ x, (Oct.rtake s lost 1).2.1 = x := ⟨_, rfl⟩
      obtain ⟨la, el0⟩ : ∃ x, (Oct.rtake s lost 1).2.2 = x := ⟨_, rfl⟩
      rw [e0, es0, el0] at st
      rw [e0] at hx0 ⊢
      have ST0 := Lib.hid st
      have E0 := Lib.hid (And.intro e0 (And.intro es0 el0))
      clear e0 es0 el0 st
      go_wp2_with fail
      generalize w3.alloc (.cells #[.int .i64 x0, .int .i64 0, .int .i64 0, .int .i64 0, .int .i64 0] 89) = W3 at *
      generalize w3.heap.size = gx at *
      refine (ST0.out.num 1).mono ?_
      rintro e w4 ⟨rfl, st⟩
      have hx1 := rnum_bd sa la 1
      obtain ⟨x1, e1⟩ : ∃ x, rnum sa la 1 = x := ⟨_, rfl⟩
      obtain ⟨sb, es1⟩ : ∃ x, (Oct.rtake sa la 1).2.1 = x := ⟨_, rfl⟩
      obtain ⟨lb, el1⟩ : ∃ x, (Oct.rtake sa la 1).2.2 = x := ⟨_, rfl⟩
      rw [es1, el1] at st
      rw [e1] at hx1 ⊢
      have cj : w4.cell? ⟨gx, 1, none⟩ = some (.int .i64 0) := (blk_cell st.obj 1).trans rfl
      have fj := blk_frozen st.obj 1
      have ST1 := Lib.hid (st.set 1 (.int .i64 x1) x0 x1 0 0 0 rfl)
      have E1 := Lib.hid (And.intro e1 (And.intro es1 el1))
      clear e1 es1 el1 st ST0
      go_wp2_with fail
      generalize w4.setCell ⟨gx, 1, none⟩ (.int .i64 x1) = W4 at *
      clear cj fj
      refine (ST1.out.num 1).mono ?_
      rintro e w5 ⟨rfl, st⟩
      have hx2 := rnum_bd sb lb 1
      obtain ⟨x2, e2⟩ : ∃ x, rnum sb lb 1 = x := ⟨_, rfl⟩
      obtain ⟨sc, es2⟩ : ∃ x, (Oct.rtake sb lb 1).2.1 = x := ⟨_, rfl⟩
      obtain ⟨lc, el2⟩ : ∃ x, (Oct.rtake sb lb 1).2.2 = x := ⟨_, rfl⟩
      rw [es2, el2] at st
      rw [e2] at hx2 ⊢
      have cj : w5.cell? ⟨gx, 2, none⟩ = some (.int .i64 0) := (blk_cell st.obj 2).trans rfl
      have fj := blk_frozen st.obj 2
      have ST2 := Lib.hid (st.set 2 (.int .i64 x2) x0 x1 x2 0 0 rfl)
      have E2 := Lib.hid (And.intro e2 (And.intro es2 el2))
      clear e2 es2 el2 st ST1
      go_wp2_with fail
      generalize w5.setCell ⟨gx, 2, none⟩ (.int .i64 x2) = W5 at *
      clear cj fj
      refine (ST2.out.num 1).mono ?_
      rintro e w6 ⟨rfl, st⟩
      have hx3 := rnum_bd sc lc 1
      obtain ⟨x3, e3⟩ : ∃ x, rnum sc lc 1 = x := ⟨_, rfl⟩
      obtain ⟨sd, es3⟩ : ∃ x, (Oct.rtake sc lc 1).2.1 = x := ⟨_, rfl⟩
      obtain ⟨ld, el3⟩ : ∃ x, (Oct.rtake sc lc 1).2.2 = x := ⟨_, rfl⟩
      rw [es3, el3] at st
      rw [e3] at hx3 ⊢
      have cj : w6.cell? ⟨gx, 3, none⟩ = some (.int .i64 0) := (blk_cell st.obj 3).trans rfl
      have fj := blk_frozen st.obj 3
      have ST3 := Lib.hid (st.set 3 (.int .i64 x3) x0 x1 x2 x3 0 rfl)
      have E3 := Lib.hid (And.intro e3 (And.intro es3 el3))
      clear e3 es3 el3 st ST2
      go_wp2_with fail
      generalize w6.setCell ⟨gx, 3, none⟩ (.int .i64 x3) = W6 at *
      clear cj fj
      refine (ST3.out.num 4).mono ?_
      rintro e w7 ⟨rfl, st⟩
      have hx4 := rnum_bd sd ld 4
      obtain ⟨x4, e4⟩ : ∃ x, rnum sd ld 4 = x := ⟨_, rfl⟩
      obtain ⟨se, es4⟩ : ∃ x, (Oct.rtake sd ld 4).2.1 = x := ⟨_, rfl⟩
      obtain ⟨le, el4⟩ : ∃ x, (Oct.rtake sd ld 4).2.2 = x := ⟨_, rfl⟩
      rw [es4, el4] at st
      rw [e4] at hx4 ⊢
      have cj : w7.cell? ⟨gx, 4, none⟩ = some (.int .i64 0) := (blk_cell st.obj 4).trans rfl
      have fj := blk_frozen st.obj 4
      have ST4 := Lib.hid (st.set 4 (.int .i64 x4) x0 x1 x2 x3 x4 rfl)
      have E4 := Lib.hid (And.intro e4 (And.intro es4 el4))
      clear e4 es4 el4 st ST3
      have d1 : (w7.setCell ⟨gx, 4, none⟩ (.int .i64 x4)).cell? ⟨gx, 1, none⟩ = some (.int .i64 x1) := (blk_cell ST4.out.obj 1).trans rfl
      have d4 : (w7.setCell ⟨gx, 4, none⟩ (.int .i64 x4)).cell? ⟨gx, 4, none⟩ = some (.int .i64 x4) := (blk_cell ST4.out.obj 4).trans rfl
      by_cases h7 : x1 = 7
      · have hb : (x1 != 7) = false := by simp [h7]
        have d0 : (w7.setCell ⟨gx, 4, none⟩ (.int .i64 x4)).cell? ⟨gx, 0, none⟩ = some (.int .i64 x0) := (blk_cell ST4.out.obj 0).trans rfl
        have d1 : (w7.setCell ⟨gx, 4, none⟩ (.int .i64 x4)).cell? ⟨gx, 1, none⟩ = some (.int .i64 x1) := (blk_cell ST4.out.obj 1).trans rfl
        have d2 : (w7.setCell ⟨gx, 4, none⟩ (.int .i64 x4)).cell? ⟨gx, 2, none⟩ = some (.int .i64 x2) := (blk_cell ST4.out.obj 2).trans rfl
        have d3 : (w7.setCell ⟨gx, 4, none⟩ (.int .i64 x4)).cell? ⟨gx, 3, none⟩ = some (.int .i64 x3) := (blk_cell ST4.out.obj 3).trans rfl
        have d4 : (w7.setCell ⟨gx, 4, none⟩ (.int .i64 x4)).cell? ⟨gx, 4, none⟩ = some (.int .i64 x4) := (blk_cell ST4.out.obj 4).trans rfl
        have hR := Kd.R_mono (Kd.R_keep (IsS100.apart HL.out.2.1 HL.out.1 (by decide)) ST4.out.keep (fun _ h => h.2)) (fun _ h => h.1)
        have hrs : (rins s lost) = (⟨x0, x1, x2, x3, x4⟩, se, le) := by
          unfold rins
          simp only [E0.out.1, E0.out.2.1, E0.out.2.2, E1.out.1, E1.out.2.1, E1.out.2.2, E2.out.1, E2.out.2.1, E2.out.2.2, E3.out.1, E3.out.2.1, E3.out.2.2, E4.out.1, E4.out.2.1, E4.out.2.2]
          rw [if_neg (fun h => h.1 h7)]
        have HRS := Lib.hid (And.intro hR hrs)
        clear hR hrs h7
        go_wp2_with (first | ((with_reducible refine gate_builtin (b := .append) (xs := #[.tmp 85, .tmp 87]) rfl ?_); at_builtin; refine Kd.R_append k89 (w0 := w) w.heap.size rfl (.tmp 85) (.tmp 87) 56 89 (.agg #[(.int .i64 0), (.int .i64 0), (.int .i64 0), (.int .i64 0), (.int .i64 0)]) 40 rfl Try.underlying56 info89 rfl (by decide) (by omega) u6 (rinss q s1 false) (⟨x0, x1, x2, x3, x4⟩ : S89) [.int .i64 x0, .int .i64 x1, .int .i64 x2, .int .i64 x3, .int .i64 x4] (fun _ => True) (fun _ => False) rfl (by first | rfl | (show (Value.slice (some ⟨w7.heap.size, 0, none⟩) 1 1 : Value) = _; simp [World.setCell])) ?aP (fun _ hk => hk.elim) ?aF ?aO ?aB ?aS ?aL ?_; (case aP => exact k89_mkM _ _ _ (⟨x0, x1, x2, x3, x4⟩ : S89)); (case aB => repeat (first | exact ST4.out.below | apply below_alloc)); (case aF => exact (fun _ _ => trivial)); (case aO => ((with_reducible repeat (first | apply Kd.R_alloc | apply Kd.R_drewN | apply Kd.R_drew)); exact HRS.out.1)); (case aS => exact (below_size (by repeat (first | exact ST4.out.below | apply below_alloc)))); (case aL => have := rinss_length q s1 false; omega); intro v170 w21 ho hb hg hat; have HF := Lib.hid (And.intro ho (And.intro (IsS100.grown (by repeat (first | exact ST4.out.eye | apply IsS100.alloc)) hg (IsS100.own_ne ST4.out.eye HRS.out.1 (by decide))) hb)); clear ho hb hg hat))
        go_roundw
        case rel => exact ⟨q + 1, by omega, by go_num, Lib.hid ⟨by rw [HST.out.1, HRS.out.2]; exact HF.out.1, by rw [HST.out.2, HRS.out.2]; exact HF.out.2.1, HF.out.2.2⟩⟩
        case measure => simp [intOf]; omega
      · have hb : (x1 != 7) = true := bne_iff_ne.mpr h7
        by_cases h4 : 2147483648 ≤ x4
        · have g4 := blk_frozen ST4.out.obj 4
          have ST5 := Lib.hid (ST4.out.set 4 (.int .i64 (x4 - 4294967296)) x0 x1 x2 x3 (x4 - 4294967296) rfl)
          have k0 : ((w7.setCell ⟨gx, 4, none⟩ (.int .i64 x4)).setCell ⟨gx, 4, none⟩ (.int .i64 (x4 - 4294967296))).cell? ⟨gx, 0, none⟩ = some (.int .i64 x0) := (blk_cell ST5.out.obj 0).trans rfl
          have k1 : ((w7.setCell ⟨gx, 4, none⟩ (.int .i64 x4)).setCell ⟨gx, 4, none⟩ (.int .i64 (x4 - 4294967296))).cell? ⟨gx, 1, none⟩ = some (.int .i64 x1) := (blk_cell ST5.out.obj 1).trans rfl
          have k2 : ((w7.setCell ⟨gx, 4, none⟩ (.int .i64 x4)).setCell ⟨gx, 4, none⟩ (.int .i64 (x4 - 4294967296))).cell? ⟨gx, 2, none⟩ = some (.int .i64 x2) := (blk_cell ST5.out.obj 2).trans rfl
          have k3 : ((w7.setCell ⟨gx, 4, none⟩ (.int .i64 x4)).setCell ⟨gx, 4, none⟩ (.int .i64 (x4 - 4294967296))).cell? ⟨gx, 3, none⟩ = some (.int .i64 x3) := (blk_cell ST5.out.obj 3).trans rfl
          have k4 : ((w7.setCell ⟨gx, 4, none⟩ (.int .i64 x4)).setCell ⟨gx, 4, none⟩ (.int .i64 (x4 - 4294967296))).cell? ⟨gx, 4, none⟩ = some (.int .i64 (x4 - 4294967296)) := (blk_cell ST5.out.obj 4).trans rfl
          have hR := Kd.R_mono (Kd.R_keep (IsS100.apart HL.out.2.1 HL.out.1 (by decide)) ST5.out.keep (fun _ h => h.2)) (fun _ h => h.1)
          have hrs : (rins s lost) = (⟨x0, x1, x2, x3, x4 - 4294967296⟩, se, le) := by
            unfold rins
            simp only [E0.out.1, E0.out.2.1, E0.out.2.2, E1.out.1, E1.out.2.1, E1.out.2.2, E2.out.1, E2.out.2.1, E2.out.2.2, E3.out.1, E3.out.2.1, E3.out.2.2, E4.out.1, E4.out.2.1, E4.out.2.2]
            rw [if_pos ⟨h7, h4⟩]
          have HRS := Lib.hid (And.intro hR hrs)
          clear hR hrs h7
          go_wp2_with (first | ((with_reducible refine gate_builtin (b := .append) (xs := #[.tmp 85, .tmp 87]) rfl ?_); at_builtin; refine Kd.R_append k89 (w0 := w) w.heap.size rfl (.tmp 85) (.tmp 87) 56 89 (.agg #[(.int .i64 0), (.int .i64 0), (.int .i64 0), (.int .i64 0), (.int .i64 0)]) 40 rfl Try.underlying56 info89 rfl (by decide) (by omega) u6 (rinss q s1 false) (⟨x0, x1, x2, x3, x4 - 4294967296⟩ : S89) [.int .i64 x0, .int .i64 x1, .int .i64 x2, .int .i64 x3, .int .i64 (x4 - 4294967296)] (fun _ => True) (fun _ => False) rfl (by first | rfl | (show (Value.slice (some ⟨w7.heap.size, 0, none⟩) 1 1 : Value) = _; simp [World.setCell])) ?aP (fun _ hk => hk.elim) ?aF ?aO ?aB ?aS ?aL ?_; (case aP => exact k89_mkM _ _ _ (⟨x0, x1, x2, x3, x4 - 4294967296⟩ : S89)); (case aB => repeat (first | exact ST5.out.below | apply below_alloc)); (case aF => exact (fun _ _ => trivial)); (case aO => ((with_reducible repeat (first | apply Kd.R_alloc | apply Kd.R_drewN | apply Kd.R_drew)); exact HRS.out.1)); (case aS => exact (below_size (by repeat (first | exact ST5.out.below | apply below_alloc)))); (case aL => have := rinss_length q s1 false; omega); intro v170 w21 ho hb hg hat; have HF := Lib.hid (And.intro ho (And.intro (IsS100.grown (by repeat (first | exact ST5.out.eye | apply IsS100.alloc)) hg (IsS100.own_ne ST5.out.eye HRS.out.1 (by decide))) hb)); clear ho hb hg hat))
          go_roundw
          case rel => exact ⟨q + 1, by omega, by go_num, Lib.hid ⟨by rw [HST.out.1, HRS.out.2]; exact HF.out.1, by rw [HST.out.2, HRS.out.2]; exact HF.out.2.1, HF.out.2.2⟩⟩
          case measure => simp [intOf]; omega
        · have h4b : ¬ 2147483648 ≤ x4 := h4
          have d0 : (w7.setCell ⟨gx, 4, none⟩ (.int .i64 x4)).cell? ⟨gx, 0, none⟩ = some (.int .i64 x0) := (blk_cell ST4.out.obj 0).trans rfl
          have d1 : (w7.setCell ⟨gx, 4, none⟩ (.int .i64 x4)).cell? ⟨gx, 1, none⟩ = some (.int .i64 x1) := (blk_cell ST4.out.obj 1).trans rfl
          have d2 : (w7.setCell ⟨gx, 4, none⟩ (.int .i64 x4)).cell? ⟨gx, 2, none⟩ = some (.int .i64 x2) := (blk_cell ST4.out.obj 2).trans rfl
          have d3 : (w7.setCell ⟨gx, 4, none⟩ (.int .i64 x4)).cell? ⟨gx, 3, none⟩ = some (.int .i64 x3) := (blk_cell ST4.out.obj 3).trans rfl
          have d4 : (w7.setCell ⟨gx, 4, none⟩ (.int .i64 x4)).cell? ⟨gx, 4, none⟩ = some (.int .i64 x4) := (blk_cell ST4.out.obj 4).trans rfl
          have hR := Kd.R_mono (Kd.R_keep (IsS100.apart HL.out.2.1 HL.out.1 (by decide)) ST4.out.keep (fun _ h => h.2)) (fun _ h => h.1)
          have hrs : (rins s lost) = (⟨x0, x1, x2, x3, x4⟩, se, le) := by
            unfold rins
            simp only [E0.out.1, E0.out.2.1, E0.out.2.2, E1.out.1, E1.out.2.1, E1.out.2.2, E2.out.1, E2.out.2.1, E2.out.2.2, E3.out.1, E3.out.2.1, E3.out.2.2, E4.out.1, E4.out.2.1, E4.out.2.2]
            rw [if_neg (fun h => h4 h.2)]
          have HRS := Lib.hid (And.intro hR hrs)
          clear hR hrs h7
          go_wp2_with (first | ((with_reducible refine gate_builtin (b := .append) (xs := #[.tmp 85, .tmp 87]) rfl ?_); at_builtin; refine Kd.R_append k89 (w0 := w) w.heap.size rfl (.tmp 85) (.tmp 87) 56 89 (.agg #[(.int .i64 0), (.int .i64 0), (.int .i64 0), (.int .i64 0), (.int .i64 0)]) 40 rfl Try.underlying56 info89 rfl (by decide) (by omega) u6 (rinss q s1 false) (⟨x0, x1, x2, x3, x4⟩ : S89) [.int .i64 x0, .int .i64 x1, .int .i64 x2, .int .i64 x3, .int .i64 x4] (fun _ => True) (fun _ => False) rfl (by first | rfl | (show (Value.slice (some ⟨w7.heap.size, 0, none⟩) 1 1 : Value) = _; simp [World.setCell])) ?aP (fun _ hk => hk.elim) ?aF ?aO ?aB ?aS ?aL ?_; (case aP => exact k89_mkM _ _ _ (⟨x0, x1, x2, x3, x4⟩ : S89)); (case aB => repeat (first | exact ST4.out.below | apply below_alloc)); (case aF => exact (fun _ _ => trivial)); (case aO => ((with_reducible repeat (first | apply Kd.R_alloc | apply Kd.R_drewN | apply Kd.R_drew)); exact HRS.out.1)); (case aS => exact (below_size (by repeat (first | exact ST4.out.below | apply below_alloc)))); (case aL => have := rinss_length q s1 false; omega); intro v170 w21 ho hb hg hat; have HF := Lib.hid (And.intro ho (And.intro (IsS100.grown (by repeat (first | exact ST4.out.eye | apply IsS100.alloc)) hg (IsS100.own_ne ST4.out.eye HRS.out.1 (by decide))) hb)); clear ho hb hg hat))
          go_roundw
          case rel => exact ⟨q + 1, by omega, by go_num, Lib.hid ⟨by rw [HST.out.1, HRS.out.2]; exact HF.out.1, by rw [HST.out.2, HRS.out.2]; exact HF.out.2.1, HF.out.2.2⟩⟩
          case measure => simp [intOf]; omega
    · obtain rfl : q = m := by omega
      obtain ⟨Ao, co, rfl⟩ := Kd.R_slice HL.out.1
      obtain ⟨re, hre, h9⟩ := Option.bind_eq_some_iff.mp HH.out
      have HE := Lib.hid (And.intro hre h9)
      have hge : ¬ (q : Int) < (q : Int) := by omega
      clear hre h9
      go_wp2_with fail
      refine (fuglemanref13_Error.calls k _ _ (rinss q s1 false) re _ (Kd.R_reads' HL.out.1).2.2 (Kd.R_reads' HL.out.1).2.1 HE.out.1).mono ?_
      rintro e w5 ⟨rfl, hb⟩
      have HB := Lib.hid hb
      have h9 := HE.out.2
      clear hb
      by_cases hr0 : re = 0
      · rw [if_pos hr0] at h9
        simp only [Option.some.injEq, Prod.mk.injEq] at h9
        obtain ⟨rfl, rfl⟩ := h9
        subst hr0
        go_wp2
        go_ret2
        exact ⟨_, rfl, Kd.R_below HL.out.1 HB.out, below_step HL.out.2.2 HB.out⟩
      · rw [if_neg hr0] at h9
        simp only [Option.some.injEq, Prod.mk.injEq] at h9
        obtain ⟨rfl, rfl⟩ := h9
        have hrb : (re != 0) = true := bne_iff_ne.mpr hr0
        go_wp2
        go_ret2
        exact ⟨_, rfl, Kd.R_nil _ _ _ _ _, below_step HL.out.2.2 HB.out⟩



end Go.Proofs.Ytclbmgnpgjhlhaa.PCode
