/- What the law IecRings asks of a kind of arithmetic (plain). -/
import Derived.Test.YtclbmgnpgjhlhaaIecRingPlain
namespace Go.Proofs.Ytclbmgnpgjhlhaa
open Go.RowKit
theorem rk_bits {k : Nat} (h : RK k) : bitsK k = false := by rcases h with rfl | rfl | rfl | rfl <;> rfl
theorem rk_kn {k : Nat} (h : RK k) : kN (k : Int) = k := by rcases h with rfl | rfl | rfl | rfl <;> decide
theorem rk_is {k : Nat} (h : RK k) {v : Int} : isK k v = true ↔ wrapK k v = v := by
  unfold isK
  rcases h with rfl | rfl | rfl | rfl <;> simp
theorem rk_wrap {k : Nat} (h : RK k) (v : Int) : isK k (wrapK k v) = true := wrap_is k (by rcases h with rfl | rfl | rfl | rfl <;> decide) v
theorem rk_may {k : Nat} (h : RK k) (op : Int) (ho : 14 ≤ op ∧ op ≤ 18) : mayK op k = true := by
  have h0 : k ≠ 0 := by rcases h with rfl | rfl | rfl | rfl <;> decide
  unfold mayK
  rw [if_neg h0, rk_bits h, if_neg (by omega), if_pos ho]
  rfl
theorem rd_e {k : Nat} (h : RK k) (op : Int) (ho : 14 ≤ op ∧ op ≤ 18) {x y : Int} (hx : isK k x = true) (hy : isK k y = true) : doE op k x y = 0 := by
  unfold doE
  rw [if_neg (by rw [rk_may h op ho]; simp; omega), if_neg (by rw [hx, hy]; simp)]
theorem rd_v {k : Nat} (h : RK k) (op : Int) (ho : 14 ≤ op ∧ op ≤ 18) {x y : Int} (hx : isK k x = true) (hy : isK k y = true) : doV op k x y = doR op k x y := by
  unfold doV
  rw [if_pos (rd_e h op ho hx hy)]
theorem rd_14 {k : Nat} (h : RK k) {x y : Int} (hx : isK k x = true) (hy : isK k y = true) : doV 14 k x y = wrapK k (x + y) := by rw [rd_v h 14 (by omega) hx hy]; simp [doR]
theorem rd_15 {k : Nat} (h : RK k) {x y : Int} (hx : isK k x = true) (hy : isK k y = true) : doV 15 k x y = wrapK k (x - y) := by rw [rd_v h 15 (by omega) hx hy]; simp [doR]
theorem rd_16 {k : Nat} (h : RK k) {x y : Int} (hx : isK k x = true) (hy : isK k y = true) : doV 16 k x y = wrapK k (x * y) := by rw [rd_v h 16 (by omega) hx hy]; simp [doR]
theorem rd_17 {k : Nat} (h : RK k) {x y : Int} (hx : isK k x = true) (hy : isK k y = true) : doV 17 k x y = wrapK k (quoV x y) := by rw [rd_v h 17 (by omega) hx hy]; simp [doR]
theorem rd_18 {k : Nat} (h : RK k) {x y : Int} (hx : isK k x = true) (hy : isK k y = true) : doV 18 k x y = wrapK k (remV x y) := by rw [rd_v h 18 (by omega) hx hy]; simp [doR]
theorem rd_is {k : Nat} (h : RK k) (op : Int) (ho : 14 ≤ op ∧ op ≤ 18) {x y : Int} (hx : isK k x = true) (hy : isK k y = true) : isK k (doV op k x y) = true := by
  rcases (by omega : op = 14 ∨ op = 15 ∨ op = 16 ∨ op = 17 ∨ op = 18) with rfl | rfl | rfl | rfl | rfl
  · rw [rd_14 h hx hy]; exact rk_wrap h _
  · rw [rd_15 h hx hy]; exact rk_wrap h _
  · rw [rd_16 h hx hy]; exact rk_wrap h _
  · rw [rd_17 h hx hy]; exact rk_wrap h _
  · rw [rd_18 h hx hy]; exact rk_wrap h _
/-- Sums and products. -/
theorem rings_a {k : Nat} (h : RK k) {a b c : Int} (ha : isK k a = true) (hb : isK k b = true) (hc : isK k c = true) :
    doV 14 k b a = doV 14 k a b ∧ doV 14 k a (doV 14 k b c) = doV 14 k (doV 14 k a b) c ∧ doV 15 k (doV 14 k a b) b = a
    ∧ doV 16 k b a = doV 16 k a b ∧ doV 14 k (doV 16 k a b) (doV 16 k a c) = doV 16 k a (doV 14 k b c) := by
  have hab := rd_is h 14 (by omega) ha hb
  have hbc := rd_is h 14 (by omega) hb hc
  have mab := rd_is h 16 (by omega) ha hb
  have mac := rd_is h 16 (by omega) ha hc
  refine ⟨?_, ?_, ?_, ?_, ?_⟩
  · rw [rd_14 h hb ha, rd_14 h ha hb, Int.add_comm]
  · rw [rd_14 h ha hbc, rd_14 h hab hc, rd_14 h hb hc, rd_14 h ha hb, ring_add h]
  · rw [rd_15 h hab hb, rd_14 h ha hb, ring_sub h a b ((rk_is h).1 ha)]
  · rw [rd_16 h hb ha, rd_16 h ha hb, Int.mul_comm]
  · rw [rd_14 h mab mac, rd_16 h ha hbc, rd_16 h ha hb, rd_16 h ha hc, rd_14 h hb hc, ring_mul h]
/-- Division by 0. -/
theorem rings_0 {k : Nat} (h : RK k) {a : Int} (ha : isK k a = true) : doV 17 k a 0 = 0 ∧ doV 18 k a 0 = 0 := by
  have h0 : isK k 0 = true := by rcases h with rfl | rfl | rfl | rfl <;> decide
  have w0 : wrapK k 0 = 0 := by rcases h with rfl | rfl | rfl | rfl <;> decide
  refine ⟨?_, ?_⟩
  · rw [rd_17 h ha h0]; simp [quoV, w0]
  · rw [rd_18 h ha h0]; simp [remV, w0]
theorem rem_in {k : Nat} (h : RK k) {a b : Int} (ha : isK k a = true) (hb : isK k b = true) (h0 : b ≠ 0) : wrapK k (a.tmod b) = a.tmod b ∧ (a.tmod b).natAbs < b.natAbs ∧ (0 ≤ a → 0 ≤ a.tmod b) ∧ (a ≤ 0 → a.tmod b ≤ 0) := by
  have h1 : (a.tmod b).natAbs < b.natAbs := by
    rw [Int.natAbs_tmod]
    exact Nat.mod_lt _ (by omega)
  have h2 : 0 ≤ a → 0 ≤ a.tmod b := fun h => Int.tmod_nonneg b h
  have h3 : a ≤ 0 → a.tmod b ≤ 0 := fun h => by
    have := Int.tmod_nonneg b (show 0 ≤ -a by omega)
    rw [Int.neg_tmod] at this
    omega
  refine ⟨?_, h1, h2, h3⟩
  rw [isK_range, decide_eq_true_eq] at hb ha
  rcases h with rfl | rfl | rfl | rfl <;> simp only [wrapK, leastK, manyK] at ha hb ⊢ <;> omega
/-- Division by another one: what is left, and back. -/
theorem rings_1 {k : Nat} (h : RK k) {a b : Int} (ha : isK k a = true) (hb : isK k b = true) (h0 : b ≠ 0) :
    doV 14 k (doV 16 k (doV 17 k a b) b) (doV 18 k a b) = a ∧ (doV 18 k a b).natAbs < b.natAbs ∧ (0 ≤ a → 0 ≤ doV 18 k a b) ∧ (a ≤ 0 → doV 18 k a b ≤ 0)
    ∧ -2147483648 ≤ b ∧ b ≤ 2147483647 := by
  obtain ⟨r1, r2, r3, r4⟩ := rem_in h ha hb h0
  have hq := rd_is h 17 (by omega) ha hb
  have hm := rd_is h 18 (by omega) ha hb
  have hp := rd_is h 16 (by omega) hq hb
  have e18 : doV 18 k a b = wrapK k (a.tmod b) := by rw [rd_18 h ha hb]; simp [remV, h0]
  have e17 : doV 17 k a b = wrapK k (a.tdiv b) := by rw [rd_17 h ha hb]; simp [quoV, h0]
  refine ⟨?_, ?_, ?_, ?_, ?_⟩
  · rw [rd_14 h hp hm, rd_16 h hq hb, e17, e18, ring_quo h a b ((rk_is h).1 ha)]
  · rw [e18, r1]; exact r2
  · rw [e18, r1]; exact r3
  · rw [e18, r1]; exact r4
  · rw [isK_range, decide_eq_true_eq] at hb
    rcases h with rfl | rfl | rfl | rfl <;> simp only [leastK, manyK] at hb <;> omega
end Go.Proofs.Ytclbmgnpgjhlhaa
