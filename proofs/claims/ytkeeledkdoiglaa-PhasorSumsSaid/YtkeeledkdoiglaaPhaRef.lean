/- The document's phasors (pairs of whole numbers), walked. -/
import Derived.Test.YtkeeledkdoiglaaPhaWalks
import Derived.Test.YtkeeledkdoiglaaObj
namespace Go.Proofs.Ytkeeledkdoiglaa
open Go.RowKit
theorem rsmall_any (x : Int) (w : World) :
    Calls Try.prog 10 #[.int .i64 x] w fun e w' => e = .returned (.int .i64 (smallZ x)) ∧ w = w' := by
  have hs : ∀ y, min (max x (-1048576)) 1048576 = y → Ending.returned (.int .i64 y) = .returned (.int .i64 (smallZ x)) := fun y h => by rw [← h]; rfl
  go_enter Try.func10, Try.ntmps10
  go_wp2
  all_goals
    go_ret
    exact ⟨hs _ (by omega), rfl⟩
theorem rpower_any (z : Int × Int) (hb : BdZ 1073741823 z) (w : World) :
    Calls Try.prog 16 #[.agg #[.int .i64 z.1, .int .i64 z.2]] w fun e w' => e = .returned (.int .i64 (powZ z)) ∧ Below w.heap.size w w' := by
  obtain ⟨a, b⟩ := z
  obtain ⟨⟨h1, h2⟩, h3, h4⟩ := hb
  simp only at h1 h2 h3 h4
  have q1 := sq_bd (B := 1073741823) (by decide) ⟨h1, h2⟩
  have q2 := sq_bd (B := 1073741823) (by decide) ⟨h3, h4⟩
  go_enter Try.func16, Try.ntmps16
  go_wp2
  go_ret
  exact ⟨ret_int rfl, (Below.refl _ _).alloc (Nat.le_refl _) _⟩
def PairAt (w : World) (b : Nat) (z : Int × Int) : Prop := ObjAt w b #[.int .i64 z.1, .int .i64 z.2] 25
theorem tmod4_bd (n : Int) : -3 ≤ n.tmod 4 ∧ n.tmod 4 ≤ 3 ∧ (n.tmod 4) % 4 = n % 4 := by
  have h1 := Int.tmod_lt_of_pos n (show (0 : Int) < 4 by decide)
  have h2 := Int.lt_tmod_of_pos n (show (0 : Int) < 4 by decide)
  have h3 := Int.mul_tdiv_add_tmod n 4
  omega
set_option maxHeartbeats 1000000 in
theorem rturn_any (z : Int × Int) (n : Int) (hb : BdZ 1099511627776 z) (w : World) :
    Calls Try.prog 12 #[.agg #[.int .i64 z.1, .int .i64 z.2], .int .i64 n] w fun e w' => e = .returned (.agg #[.int .i64 (turnZ z n).1, .int .i64 (turnZ z n).2]) ∧ Below w.heap.size w w' := by
  have h4 := tmod4_bd n
  obtain ⟨r, hr⟩ : ∃ r : Nat, (r : Int) = n % 4 := ⟨(n % 4).toNat, by omega⟩
  have hR : turnZ z n = turnZ z r := turnZ_mod z (by omega)
  rw [hR]
  clear hR
  generalize ht : n.tmod 4 = m at h4
  go_enter Try.func12, Try.ntmps12
  go_wp2
  go_loop [1] (fun u => ∃ x : Int, u = .int .i64 x ∧ -3 ≤ x ∧ x ≤ 3 ∧ x % 4 = (r : Int)) (fun u => (4 - intOf u).toNat)
  case atStart => exact ⟨m, rfl, by omega, by omega, by omega⟩
  case round =>
    obtain ⟨x, rfl, hx1, hx2, hx3⟩ := hrel
    by_cases hx : x < 0
    · go_wp2
      go_round
      case rel => exact ⟨x + 4, rfl, by omega, by omega, by omega⟩
      case measure => simp [intOf]; omega
    · obtain rfl : x = (r : Int) := by omega
      clear hx3 ht h4 hr
      go_wp2
      go_loopw [5] (fun i wr => ∃ k : Nat, k ≤ r ∧ i = .int .i64 (k : Int) ∧ PairAt wr w.heap.size (turnZ z k) ∧ ObjAt wr (w.heap.size + 1) #[.int .i64 0, .int .i64 0] 25 ∧ Below w.heap.size w wr) (fun i _ => r - (intOf i).toNat)
      case atStart =>
        refine ⟨0, Nat.zero_le _, rfl, ?_, ?_, ((Below.refl _ _).alloc (Nat.le_refl _) _).alloc (by simp) _⟩
        · have e : turnZ z ((0 : Nat) : Int) = z := by simp [turnZ]
          rw [e]
          exact (ObjAt.new w _ _).alloc _
        · have := ObjAt.new (w.alloc (.cells #[.int .i64 z.1, .int .i64 z.2] 25)) #[.int .i64 0, .int .i64 0] 25
          simpa using this
      case round =>
        obtain ⟨k, hk, rfl, hP, hO, hB⟩ := hrel
        have hbd := turnZ_bd k hb
        have hone := turnZ_one z k
        have HB := Lib.hid hB
        have c0 : wr.cell? ⟨w.heap.size, 0, none⟩ = some (.int .i64 (turnZ z k).1) := hP.cell 0
        have c1 : wr.cell? ⟨w.heap.size, 1, none⟩ = some (.int .i64 (turnZ z k).2) := hP.cell 1
        have f0 : wr.frozen? ⟨w.heap.size, 0, none⟩ = false := hP.free 0
        have f1 : wr.frozen? ⟨w.heap.size, 1, none⟩ = false := hP.free 1
        have d0 : wr.cell? ⟨w.heap.size + 1, 0, none⟩ = some (.int .i64 0) := hO.cell 0
        have d1 : wr.cell? ⟨w.heap.size + 1, 1, none⟩ = some (.int .i64 0) := hO.cell 1
        have g0 : wr.frozen? ⟨w.heap.size + 1, 0, none⟩ = false := hO.free 0
        have g1 : wr.frozen? ⟨w.heap.size + 1, 1, none⟩ = false := hO.free 1
        obtain ⟨⟨b1, b2⟩, b3, b4⟩ := hbd
        obtain ⟨u, hu⟩ : ∃ u, u = turnZ z k := ⟨_, rfl⟩
        rw [← hu] at hone hP c0 c1 b1 b2 b3 b4
        by_cases hlt : k < r
        · have hP2 : PairAt ((wr.setCell ⟨w.heap.size, 0, none⟩ (.int .i64 (-u.2))).setCell ⟨w.heap.size, 1, none⟩ (.int .i64 u.1)) w.heap.size (turnZ z ((k + 1 : Nat) : Int)) := by
            have := (hP.set 0 (.int .i64 (-u.2))).set 1 (.int .i64 u.1)
            rw [show ((k + 1 : Nat) : Int) = (k : Int) + 1 from rfl, hone]
            exact this
          have hO2 := (hO.set_other ⟨w.heap.size, 0, none⟩ (by simp) (.int .i64 (-u.2))).set_other ⟨w.heap.size, 1, none⟩ (by simp) (.int .i64 u.1)
          have hB2 := (hB.setCell (p := ⟨w.heap.size, 0, none⟩) (Nat.le_refl _) (.int .i64 (-u.2))).setCell (p := ⟨w.heap.size, 1, none⟩) (Nat.le_refl _) (.int .i64 u.1)
          have H := Lib.hid (And.intro hP2 (And.intro hO2 hB2))
          have HU := Lib.hid hu
          clear hP hO hP2 hO2 hB2 hB hone hu
          go_wp2
          go_roundw
          case rel => exact ⟨k + 1, by omega, by go_num, H.out.1, H.out.2.1, H.out.2.2⟩
          case measure => simp [intOf]; omega
        · obtain rfl : k = r := by omega
          have hB2 := (hB.setCell (p := ⟨w.heap.size + 1, 0, none⟩) (by simp) (.int .i64 u.1)).setCell (p := ⟨w.heap.size + 1, 1, none⟩) (by simp) (.int .i64 u.2)
          have H := Lib.hid hB2
          have HU := Lib.hid hu
          have hO2 := (hO.set 0 (.int .i64 u.1)).set 1 (.int .i64 u.2)
          have e0 : ((wr.setCell ⟨w.heap.size + 1, 0, none⟩ (.int .i64 u.1)).setCell ⟨w.heap.size + 1, 1, none⟩ (.int .i64 u.2)).cell? ⟨w.heap.size + 1, 0, none⟩ = some (.int .i64 u.1) := hO2.cell 0
          have e1 : ((wr.setCell ⟨w.heap.size + 1, 0, none⟩ (.int .i64 u.1)).setCell ⟨w.heap.size + 1, 1, none⟩ (.int .i64 u.2)).cell? ⟨w.heap.size + 1, 1, none⟩ = some (.int .i64 u.2) := hO2.cell 1
          clear hP hO hO2 hB2 hB hone hu
          go_wp2
          refine bodyPost_ret (v := .agg #[.int .i64 u.1, .int .i64 u.2]) (by simp [results, Try.results12, go_sem, e0, e1]) rfl ⟨by rw [HU.out], H.out⟩
end Go.Proofs.Ytkeeledkdoiglaa
