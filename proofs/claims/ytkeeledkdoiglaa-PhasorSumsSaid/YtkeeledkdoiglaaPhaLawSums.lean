/- The law PhasorSums: bins of sums are sums of bins; samples that come one later have bins that are turned. -/
import Derived.Test.YtkeeledkdoiglaaPhaSums
import Derived.OpenShut
namespace Go.Proofs.Ytkeeledkdoiglaa
open Go.RowKit Go.ChangeShapes Go.WideShapes
theorem phasorSums_walk (a : Option Addr) (len cap : Nat) (z : List Int) {w : World} (wz : IsRow .i64 w a len cap z) (yz : len * 8 ≤ 140737488351232) (a1 : Option Addr) (len1 cap1 : Nat) (z1 : List Int) (wz1 : IsRow .i64 w a1 len1 cap1 z1) (yz1 : len1 * 8 ≤ 140737488351232)
    (k : Int) (wk : (Lit.int .u8 k).wf = true) (_ : World) :
    Calls Try.prog 4 #[.slice a len cap, .slice a1 len1 cap1, .int .u8 k] w fun e w' => e = .returned (.bool true) ∧ Below w.heap.size w w' := by
  obtain ⟨h0, hz0, -⟩ := wz
  obtain ⟨h1, hz1, -⟩ := wz1
  have hk := bounds_u8 wk
  obtain ⟨kk, rfl⟩ : ∃ kk : Nat, k = (kk : Int) := ⟨k.toNat, by omega⟩
  by_cases hg : 60 < len
  · clear h0 h1 hz0 hz1 wk hk
    go_enter Try.func4, Try.ntmps4
    go_wp2_with (refine (pawake_any _).mono ?_; rintro e w1 ⟨rfl, hb1⟩)
    go_ret
    exact ⟨rfl, hb1⟩
  by_cases hne : len1 = len
  · subst hne
    by_cases hl0 : len1 = 0
    · obtain rfl : z = [] := List.eq_nil_of_length_eq_zero (by omega)
      obtain rfl : z1 = [] := List.eq_nil_of_length_eq_zero (by omega)
      exact sums_zero _ _ kk (by omega) h0 h1
    · have get : ∀ {a : Option Addr} {cap : Nat} {z : List Int}, RowV .i64 w (.slice a len1 cap) z → len1 = z.length → ∃ b o, a = some ⟨b, o, none⟩ ∧ (len1 ≤ cap ∧ cap ≤ maxLen) ∧ b < w.heap.size ∧ ∀ i, i < len1 → w.cell? ⟨b, o + i, none⟩ = some (.int .i64 (z.getD i 0)) := fun h hz => by
        rcases h with ⟨h, _⟩ | ⟨x, cap, h, _⟩ | ⟨b, o, cap, h, h2, h3, h4, h5⟩
        · injection h; omega
        · injection h; omega
        · injection h with h6 h7 h8
          subst h6 h8
          exact ⟨b, o, rfl, ⟨by omega, h3⟩, h4, fun i hi => h5 i (by omega)⟩
      obtain ⟨b0, o0, rfl, c0, g0⟩ := get h0 hz0
      obtain ⟨b1, o1, rfl, c1, g1⟩ := get h1 hz1
      subst hz0
      exact sums_main z z1 ⟨by omega, by omega⟩ hz1.symm b0 o0 cap b1 o1 cap1 c0 c1 kk (by omega) g0 g1
  · clear h0 h1 hz0 hz1 wk hk
    have hgi : ¬ (60 : Int) < (len : Int) := by omega
    have hnei : ((len1 : Int) != (len : Int)) = true := by simp; omega
    clear hne
    go_enter Try.func4, Try.ntmps4
    go_wp2_with (refine (pawake_any _).mono ?_; rintro e w1 ⟨rfl, hb1⟩)
    go_ret
    exact ⟨rfl, hb1⟩
end Go.Proofs.Ytkeeledkdoiglaa
