/- Wheel: a wheel in memory, told by what is left alone; its contracts. -/
import Derived.Test.YtkeeledkdoiglaaDoorWhGood3
import Derived.Test.YtkeeledkdoiglaaDoorWhTab
namespace Go.Proofs.YtkeeledkdoiglaaDoor.Wh
open Go.RowKit Go.Proofs.YtkeeledkdoiglaaDoor
/-- A wheel at wb with F ticks left, its clock at most m. -/
def WL (w : World) (wb : Nat) (F : Nat → Int) (m : Int) : Prop := ∃ s, WAt w wb s ∧ Good s ∧ s.now ≤ m ∧ ∀ i, i < 16 → s.left i = F i
theorem good_bd {s : WS} (h : Good s) (i : Nat) (hi : i < 16) : 0 ≤ s.left i ∧ s.left i ≤ 10000 ∧ (s.M.testBit i = true ↔ 0 < s.left i) := by
  have hd := h.due i hi
  have hn := h.n
  unfold WS.left
  cases hb : s.M.testBit i
  · simp
  · have := hd hb
    simp only [if_true, true_iff]
    omega
theorem good_ok {s : WS} (h : Good s) (hm : s.now ≤ 500000) : s.ok :=
  ⟨h.m, ⟨h.n, hm⟩, fun i hi hb => by have := h.due i hi hb; have := h.n; omega⟩
theorem WL.bd {w : World} {wb : Nat} {F : Nat → Int} {m : Int} (h : WL w wb F m) (i : Nat) (hi : i < 16) : 0 ≤ F i ∧ F i ≤ 10000 := by
  obtain ⟨s, -, hG, -, hF⟩ := h
  have := good_bd hG i hi
  rw [hF i hi] at this
  exact ⟨this.1, this.2.1⟩
theorem WL.lt {w : World} {wb : Nat} {F : Nat → Int} {m : Int} (h : WL w wb F m) : wb < w.heap.size := by
  obtain ⟨s, ha, -⟩ := h
  exact ha.lt
theorem WL.keep {w w' : World} {wb : Nat} {F : Nat → Int} {m : Int} (h : WL w wb F m) {P : Nat → Prop} (hk : Keep P w w') (hn : ¬ P wb) : WL w' wb F m := by
  obtain ⟨s, ha, r⟩ := h
  exact ⟨s, ha.keep hk hn, r⟩
theorem WL.drewN {w : World} {wb : Nat} {F : Nat → Int} {m : Int} (h : WL w wb F m) (n : Nat) : WL (w.drewN n) wb F m := by
  obtain ⟨s, ha, r⟩ := h
  exact ⟨s, ha.drewN n, r⟩
theorem WL.mono {w : World} {wb : Nat} {F : Nat → Int} {m m' : Int} (h : WL w wb F m) (hm : m ≤ m') : WL w wb F m' := by
  obtain ⟨s, ha, hG, hn, r⟩ := h
  exact ⟨s, ha, hG, by omega, r⟩
theorem WL.congr {w : World} {wb : Nat} {F G : Nat → Int} {m : Int} (h : WL w wb F m) (hf : ∀ i, i < 16 → F i = G i) : WL w wb G m := by
  obtain ⟨s, ha, hG, hn, r⟩ := h
  exact ⟨s, ha, hG, hn, fun i hi => (r i hi).trans (hf i hi)⟩
theorem upd_congr {F G : Nat → Int} (h : ∀ i, i < 16 → F i = G i) (k : Nat) (v : Int) : ∀ i, i < 16 → upd F k v i = upd G k v i := fun i hi => by
  unfold upd
  split
  · rfl
  · exact h i hi
theorem comes_congr {F G : Nat → Int} : ∀ k, (∀ i, i < k → F i = G i) → comes F k = comes G k
  | 0, _ => rfl
  | k + 1, h => by
    unfold comes
    rw [comes_congr k (fun i hi => h i (by omega)), h k (by omega)]
theorem soon_congr {F G : Nat → Int} : ∀ k, (∀ i, i < k → F i = G i) → soon F k = soon G k
  | 0, _ => rfl
  | k + 1, h => by
    unfold soon
    rw [soon_congr k (fun i hi => h i (by omega)), h k (by omega)]
theorem down_congr {F G : Nat → Int} (h : ∀ i, i < 16 → F i = G i) : ∀ i, i < 16 → down F 16 i = down G 16 i := fun i hi => by
  unfold down
  rw [h i hi]
/-- How many of the first k are set. -/
def cntF (F : Nat → Int) : Nat → Nat
  | 0 => 0
  | k + 1 => cntF F k + if 0 < F k then 1 else 0
theorem pc_cnt (x : Nat) (F : Nat → Int) : ∀ k, (∀ i, i < k → (x.testBit i = true ↔ 0 < F i)) → pc x k = cntF F k
  | 0, _ => rfl
  | k + 1, h => by
    have hk := h k (by omega)
    unfold pc cntF
    rw [pc_cnt x F k (fun i hi => h i (by omega))]
    by_cases e : 0 < F k
    · rw [if_pos e, hk.2 e]; rfl
    · rw [if_neg e]
      cases hb : x.testBit k
      · rfl
      · exact absurd (hk.1 hb) e
section
variable {w : World} {wb : Nat} {F : Nat → Int} {m : Int}
theorem leftW (h : WL w wb F m) (hm : m ≤ 500000) (i : Nat) (hi : i < 16) :
    Calls Tryd.prog 11 #[.pointer (some ⟨wb, 0, none⟩), .int .i64 (i : Int)] w fun e w' => e = .returned (.int .i64 (F i)) ∧ ∃ k, w' = w.drewN k := by
  obtain ⟨s, ha, hG, hn, hF⟩ := h
  rw [← hF i hi]
  exact left_any wb s (good_ok hG (by omega)) i hi w ha
theorem soonestW (h : WL w wb F m) (hm : m ≤ 500000) :
    Calls Tryd.prog 26 #[.pointer (some ⟨wb, 0, none⟩)] w fun e w' => e = .returned (.tuple #[.int .i64 (soon F 16).1, .bool (soon F 16).2]) ∧ ∃ k, w' = w.drewN k := by
  obtain ⟨s, ha, hG, hn, hF⟩ := h
  rw [← soon_congr 16 hF]
  exact soonest_any wb s (good_ok hG (by omega)) w ha
theorem lenW (h : WL w wb F m) :
    Calls Tryd.prog 19 #[.pointer (some ⟨wb, 0, none⟩)] w fun e w' => e = .returned (.int .i64 (cntF F 16 : Nat)) ∧ ∃ k, w' = w.drewN k := by
  obtain ⟨s, ha, hG, hn, hF⟩ := h
  rw [← pc_cnt s.M F 16 (fun i hi => by rw [← hF i hi]; exact (good_bd hG i hi).2.2)]
  exact len_any wb s hG.m w ha
theorem cancelW (h : WL w wb F m) (hm : m ≤ 400000) (i : Nat) (hi : i < 16) :
    Calls Tryd.prog 10 #[.pointer (some ⟨wb, 0, none⟩), .int .i64 (i : Int)] w fun e w' =>
      e = .returned (.bool (decide (0 < F i))) ∧ Keep (fun k => k = wb) w w' ∧ WL w' wb (upd F i 0) m := by
  obtain ⟨s, ha, hG, hn, hF⟩ := h
  have hb := (good_bd hG i hi).2.2
  rw [hF i hi] at hb
  have e1 : s.M.testBit i = decide (0 < F i) := by
    cases hx : s.M.testBit i
    · symm; simp only [decide_eq_false_iff_not]; intro h; rw [hb.2 h] at hx; cases hx
    · symm; simp only [decide_eq_true_eq]; exact hb.1 hx
  refine (cancelG wb s hG (by omega) i hi w ha).mono ?_
  rintro e w' ⟨rfl, hk, s', h1, h2, h3, -, h4⟩
  exact ⟨by rw [e1], hk, s', h1, h2, by omega, fun k hk => (h4 k hk).trans (upd_congr hF i 0 k hk)⟩
theorem setW (h : WL w wb F m) (hm : m ≤ 400000) (i t : Nat) (hi : i < 16) (ht : 1 ≤ t ∧ t ≤ 10000) :
    Calls Tryd.prog 9 #[.pointer (some ⟨wb, 0, none⟩), .int .i64 (i : Int), .int .i64 (t : Int)] w fun e w' =>
      e = .returned (.bool true) ∧ Keep (fun k => k = wb) w w' ∧ WL w' wb (upd F i (t : Int)) m := by
  obtain ⟨s, ha, hG, hn, hF⟩ := h
  refine (setG wb s hG (by omega) i t hi ht w ha).mono ?_
  rintro e w' ⟨rfl, hk, s', h1, h2, h3, h4⟩
  exact ⟨rfl, hk, s', h1, h2, by omega, fun k hk => (h4 k hk).trans (upd_congr hF i t k hk)⟩
end
theorem newW (w : World) : Calls Tryd.prog 8 #[] w fun e w' => e = .returned (.pointer (some ⟨w.heap.size, 0, none⟩)) ∧ Below w.heap.size w w' ∧ WL w' w.heap.size (fun _ => 0) 0 := by
  refine (new_any w).mono ?_
  rintro e w' ⟨he, hb, ha⟩
  exact ⟨he, hb, WS.zero, ha, good_zero, Int.le_refl _, fun i hi => by simp [WS.left, WS.zero]⟩
end Go.Proofs.YtkeeledkdoiglaaDoor.Wh
