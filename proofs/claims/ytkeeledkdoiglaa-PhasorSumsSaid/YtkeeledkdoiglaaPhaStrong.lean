/- The strongest bin; awake; the law PhasorTurns. -/
import Derived.Test.YtkeeledkdoiglaaPhaBin
import Derived.Deep.RegionHeld3
namespace Go.Proofs.Ytkeeledkdoiglaa
open Go.RowKit
theorem BdZ.mono {B C : Int} {z : Int × Int} (h : BdZ B z) (hc : B ≤ C) : BdZ C z := by
  obtain ⟨⟨h1, h2⟩, h3, h4⟩ := h
  exact ⟨⟨by omega, by omega⟩, by omega, by omega⟩
theorem binZ_small (l : List Int) (k : Int) : BdZ 1073741823 (binZ l k (min l.length 1000)) := (binZ_bd l k _).mono (by omega)
set_option maxRecDepth 100000 in
theorem rbin_nil (k : Int) (w : World) :
    Calls Try.prog 18 #[.slice none 0 0, .int .i64 k] w fun e w' => e = .returned (.agg #[.int .i64 0, .int .i64 0]) ∧ Below w.heap.size w w' := by
  have H := Lib.hid ((((Below.refl w.heap.size w).alloc (Nat.le_refl _) (.cells #[.int .i64 0, .int .i64 0] 25)).alloc (by simp) (.cells #[.int .i64 0, .int .i64 0] 25)).setCell (p := ⟨w.heap.size, 0, none⟩) (Nat.le_refl _) (.int .i64 0))
  go_enter Try.func18, Try.ntmps18
  go_wp2
  refine wp_loop_rounds 1 ?_
  rw [rounds_succ]
  go_wp2
  refine bodyPost_ret (v := .agg #[.int .i64 0, .int .i64 0]) (by simp [results, Try.results18, go_sem]) rfl ⟨rfl, ?_⟩
  exact ((Below.refl w.heap.size w).alloc (Nat.le_refl _) _).alloc (by simp) _
set_option maxRecDepth 100000 in
theorem rbin_empty (x : Addr) (cap : Nat) (k : Int) (w : World) :
    Calls Try.prog 18 #[.slice (some x) 0 cap, .int .i64 k] w fun e w' => e = .returned (.agg #[.int .i64 0, .int .i64 0]) ∧ Below w.heap.size w w' := by
  go_enter Try.func18, Try.ntmps18
  go_wp2
  refine wp_loop_rounds 1 ?_
  rw [rounds_succ]
  go_wp2
  refine bodyPost_ret (v := .agg #[.int .i64 0, .int .i64 0]) (by simp [results, Try.results18, go_sem]) rfl ⟨rfl, ?_⟩
  exact ((Below.refl w.heap.size w).alloc (Nat.le_refl _) _).alloc (by simp) _
theorem rbin_any {w : World} {s : Value} {l : List Int} (h : IRow w s l) (k : Int) :
    Calls Try.prog 18 #[s, .int .i64 k] w fun e w' =>
      e = .returned (.agg #[.int .i64 (binZ l k (min l.length 1000)).1, .int .i64 (binZ l k (min l.length 1000)).2]) ∧ Below w.heap.size w w' := by
  rcases h with ⟨rfl, rfl⟩ | ⟨x, cap, rfl, _, rfl⟩ | ⟨b, o, cap, rfl, h2, h3, h4, h5⟩
  · exact rbin_nil k w
  · exact rbin_empty x cap k w
  · exact rbin_row l k b o cap h2 h3 w h4 h5
def strongZ (a b : Int) : Int := if a = 0 ∧ b = 0 then 0 else if b > a then 2 else 1
def strongL (l : List Int) : Int := strongZ (powZ (binZ l 1 (min l.length 1000))) (powZ (binZ l 2 (min l.length 1000)))
theorem strong_any {w : World} {s : Value} {l : List Int} (h : IRow w s l) :
    Calls Try.prog 19 #[s] w fun e w' => e = .returned (.int .i64 (strongL l)) ∧ w = w' := by
  obtain ⟨a, ha⟩ : ∃ a, a = powZ (binZ l 1 (min l.length 1000)) := ⟨_, rfl⟩
  obtain ⟨b, hb⟩ : ∃ b, b = powZ (binZ l 2 (min l.length 1000)) := ⟨_, rfl⟩
  have hS : strongL l = strongZ a b := by rw [strongL, ha, hb]
  rw [hS]
  have HA := Lib.hid ha
  have HB := Lib.hid hb
  clear ha hb hS
  go_enter Try.func19, Try.ntmps19
  go_wp2_with fail
  refine (bin_any h 1).mono ?_
  rintro e w' ⟨r1, i1, rfl, hr1, hi1, rfl⟩
  go_wp2_with fail
  refine (power_fl hr1 hi1 (binZ_small l 1) _).mono ?_
  rintro e w' ⟨rfl, rfl⟩
  rw [← HA.out]
  go_wp2_with fail
  refine (bin_any h 2).mono ?_
  rintro e w' ⟨r2, i2, rfl, hr2, hi2, rfl⟩
  go_wp2_with fail
  refine (power_fl hr2 hi2 (binZ_small l 2) _).mono ?_
  rintro e w' ⟨rfl, rfl⟩
  rw [← HB.out]
  clear hr1 hi1 hr2 hi2 h
  by_cases h0 : a = 0
  · by_cases h1 : b = 0
    · go_wp2
      go_ret
      exact ⟨ret_int (by simp [strongZ, h0, h1]), rfl⟩
    · by_cases h2 : b > a
      · go_wp2
        go_ret
        exact ⟨ret_int (by rw [strongZ, if_neg (by omega), if_pos (by omega)]), rfl⟩
      · go_wp2
        go_ret
        exact ⟨ret_int (by rw [strongZ, if_neg (by omega), if_neg (by omega)]), rfl⟩
  · by_cases h2 : b > a
    · go_wp2
      go_ret
      exact ⟨ret_int (by rw [strongZ, if_neg (by omega), if_pos (by omega)]), rfl⟩
    · go_wp2
      go_ret
      exact ⟨ret_int (by rw [strongZ, if_neg (by omega), if_neg (by omega)]), rfl⟩
theorem rstrong_any {w : World} {s : Value} {l : List Int} (h : IRow w s l) :
    Calls Try.prog 20 #[s] w fun e w' => e = .returned (.int .i64 (strongL l)) ∧ Below w.heap.size w w' := by
  obtain ⟨a, ha⟩ : ∃ a, a = powZ (binZ l 1 (min l.length 1000)) := ⟨_, rfl⟩
  obtain ⟨b, hb⟩ : ∃ b, b = powZ (binZ l 2 (min l.length 1000)) := ⟨_, rfl⟩
  have hS : strongL l = strongZ a b := by rw [strongL, ha, hb]
  rw [hS]
  have HA := Lib.hid ha
  have HB := Lib.hid hb
  clear ha hb hS
  go_enter Try.func20, Try.ntmps20
  go_wp2_with fail
  refine (rbin_any h 1).mono ?_
  rintro e w1 ⟨rfl, hb1⟩
  have h1 := h.below hb1
  go_wp2_with fail
  refine (rpower_any _ (binZ_small l 1) _).mono ?_
  rintro e w2 ⟨rfl, hb2⟩
  have h2 := h1.below hb2
  rw [← HA.out]
  go_wp2_with fail
  refine (rbin_any h2 2).mono ?_
  rintro e w3 ⟨rfl, hb3⟩
  go_wp2_with fail
  refine (rpower_any _ (binZ_small l 2) _).mono ?_
  rintro e w4 ⟨rfl, hb4⟩
  rw [← HB.out]
  have hB : Below w.heap.size w w4 := ((hb1.trans (hb2.mono hb1.size)).trans (hb3.mono (Nat.le_trans hb1.size hb2.size))).trans (hb4.mono (Nat.le_trans (Nat.le_trans hb1.size hb2.size) hb3.size))
  have HBB := Lib.hid hB
  clear hb1 hb2 hb3 hb4 hB h h1 h2
  by_cases h0 : a = 0
  · by_cases h1 : b = 0
    · go_wp2
      go_ret
      exact ⟨ret_int (by simp [strongZ, h0, h1]), HBB.out⟩
    · by_cases h2 : b > a
      · go_wp2
        go_ret
        exact ⟨ret_int (by rw [strongZ, if_neg (by omega), if_pos (by omega)]), HBB.out⟩
      · go_wp2
        go_ret
        exact ⟨ret_int (by rw [strongZ, if_neg (by omega), if_neg (by omega)]), HBB.out⟩
  · by_cases h2 : b > a
    · go_wp2
      go_ret
      exact ⟨ret_int (by rw [strongZ, if_neg (by omega), if_pos (by omega)]), HBB.out⟩
    · go_wp2
      go_ret
      exact ⟨ret_int (by rw [strongZ, if_neg (by omega), if_neg (by omega)]), HBB.out⟩
end Go.Proofs.Ytkeeledkdoiglaa
