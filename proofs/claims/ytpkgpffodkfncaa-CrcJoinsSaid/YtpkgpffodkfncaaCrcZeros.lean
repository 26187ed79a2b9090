/- The walks through Zeros and Join. -/
import Derived.Test.YtpkgpffodkfncaaCrcMatrix
import Derived.Test.YtpkgpffodkfncaaCrcPlain
namespace Go.Proofs.Ytpkgpffodkfncaa
open Go.RowKit
set_option maxRecDepth 100000 in
theorem one_any (w : World) :
    Calls Try.prog 59 #[] w fun e w' => e = .returned (.agg (matVals Crc.one)) ∧ Below w.heap.size w w' := by
  go_enter Try.func59, Try.ntmps59
  go_wp2
  go_loopw [3] (fun i wr => ∃ k : Nat, k ≤ 16 ∧ i = .int .i64 (k : Int) ∧ Below w.heap.size w wr ∧ MatAt wr (w.heap.size + 1) (Crc.oneTo k) ∧ MatAt wr w.heap.size (List.replicate 16 0)) (fun i _ => 16 - (intOf i).toNat)
  case atStart => exact ⟨0, by omega, rfl, ((Below.refl _ _).alloc (Nat.le_refl _) _).alloc (by simp) _, heap_alloc2_new _ _ _, heap_alloc2_old _ _ _⟩
  case round =>
    obtain ⟨k, hk, rfl, hbel, h1, h0⟩ := hrel
    by_cases hlt : k < 16
    · have hcell1 : wr.cell? ⟨w.heap.size + 1, k, none⟩ = some (.int .u16 ((Crc.oneTo k).getD k 0 : Nat)) := matAt_cell h1 k (by simp [Crc.oneTo, hlt])
      have hfro1 : wr.frozen? ⟨w.heap.size + 1, k, none⟩ = false := frozen_of_row wr _ _ _ _ h1
      have hq0 : (0 : Int) ≤ 2 ^ k := Int.pow_nonneg (by decide)
      have hq1 : (2 : Int) ^ k ≤ 65535 := by
        have : 2 ^ k < 65536 := Crc.pow_lt16 hlt
        have h2 : (2 : Int) ^ k = ((2 ^ k : Nat) : Int) := by simp
        omega
      have hnat : ((2 : Int) ^ k).toNat = 2 ^ k := by
        have h2 : (2 : Int) ^ k = ((2 ^ k : Nat) : Int) := by simp
        rw [h2, Int.toNat_natCast]
      have HN := Lib.hid hnat
      clear hnat
      go_wp2_with fail
      refine (more_int _ hq0 hq1 ⟨#[0]⟩ (by decide +kernel) wr).mono ?_
      rintro e w' ⟨rfl, rfl⟩
      rw [HN.out]
      go_wp2
      go_roundw
      case rel =>
        refine ⟨k + 1, by omega, by go_num, hbel.setCell (by simp) _, ?_, ?_⟩
        · have e := heap_setCell_same wr (w.heap.size + 1) k _ _ (.int .u16 (Crc.more (2 ^ k) [0] : Nat)) h1
          rw [matVals_set, ← Crc.oneTo_succ k hlt] at e
          exact e
        · exact (heap_setCell_other wr _ _ _ (by simp)).trans h0
      case measure => simp [intOf]; omega
    · go_wp2_with (first | (refine wpList_load_row rfl 80 (.tmp 1) rfl (w.heap.size + 1) rfl 80 (matVals (Crc.oneTo k)) (0, 0) (.array 16 22) h1 (by kernel_rfl) rfl (mat_info.trans (by simp [matVals_size, Crc.oneTo])) ?_) | (refine wpList_store_row rfl 80 (.tmp 0) (.tmp 12) rfl w.heap.size (matVals (Crc.oneTo k)) rfl rfl 80 (matVals (List.replicate 16 0)) h0 (mat_info.trans (by simp [matVals_size, Crc.oneTo])) (by simp [matVals_size, Crc.oneTo]) (matVals_one _) ?_))
      refine bodyPost_ret (v := .agg (matVals Crc.one)) ?_ rfl ⟨rfl, below_setRow hbel _ (Nat.le_refl _) _⟩
      rw [← Crc.oneTo_all k (by omega)]
      exact results_cell_row rfl _ _ w.heap.size 80 _ (0, 0) (.array 16 22) rfl (setRow_heap _ _ _ _ _ _ h0) (by kernel_rfl) rfl (mat_info.trans (by simp [matVals_size, Crc.oneTo]))
theorem i64_and_nat (a b : Nat) (ha : a < 2 ^ 63) (hb : b < 2 ^ 63) : bits .and .i64 (a : Int) (b : Int) = ((a &&& b : Nat) : Int) := by
  have hx : a &&& b < 2 ^ 63 := Nat.and_lt_two_pow _ hb
  show IntKind.i64.wrap ((BitVec.ofInt 64 (a : Int) &&& BitVec.ofInt 64 (b : Int)).toNat : Int) = _
  rw [BitVec.toNat_and, BitVec.ofInt_natCast, BitVec.ofInt_natCast, BitVec.toNat_ofNat, BitVec.toNat_ofNat, Nat.mod_eq_of_lt (by omega), Nat.mod_eq_of_lt (by omega)]
  exact IntWalk.i64_in _ (by omega)
set_option maxRecDepth 100000 in
set_option maxHeartbeats 1000000 in
theorem zeros_any (s : Nat) (hs : s < 65536) (n : Int) (hn : n ≤ 9223372036854775807) (w : World) :
    Calls Try.prog 24 #[.int .u16 (s : Int), .int .i64 n] w fun e w' => e = .returned (.int .u16 (Crc.zs s n.toNat : Nat)) ∧ Below w.heap.size w w' := by
  go_enter Try.func24, Try.ntmps24
  go_wp2_with fail
  refine (one_any w).mono ?_
  rintro e w1 ⟨rfl, hb1⟩
  have hsz1 := hb1.size
  go_wp2_with (first | (refine wpList_store_row rfl 80 (.tmp 5) (.tmp 6) rfl w1.heap.size (matVals Crc.one) rfl rfl 80 (matVals (List.replicate 16 0)) (heap_alloc_new _ _) (mat_info.trans (by simp [matVals_size, Crc.one])) (by simp [matVals_size, Crc.one]) (matVals_one _) ?_))
  simp only [Act.put, List.setIfInBounds_toArray, List.set_cons_succ, List.set_cons_zero]
  by_cases hneg : n < 0
  · go_loopw [0, 1, 5] (fun a i p wr => a = .int .u16 (s : Int) ∧ i = .int .i64 n ∧ Below w.heap.size w wr) (fun _ _ _ _ => 0)
    case atStart => exact ⟨rfl, rfl, below_setRow (hb1.alloc hsz1 _) _ hsz1 _⟩
    case round =>
      obtain ⟨rfl, rfl, hbel⟩ := hrel
      have hno : ¬ 0 < n := by omega
      have hz : n.toNat = 0 := by omega
      have HZ := Lib.hid hz
      clear hz
      go_wp2
      go_ret
      exact ⟨by rw [HZ.out]; rfl, hbel⟩
  · obtain ⟨n0, rfl⟩ := Int.eq_ofNat_of_zero_le (Int.not_lt.1 hneg)
    go_loopw [0, 1, 5] (fun a i p wr => ∃ (k s' c b : Nat) (m : List Nat), i = .int .i64 (k : Int) ∧ k ≤ n0 ∧ s' < 65536 ∧ a = .int .u16 (s' : Int) ∧ Crc.zs s' (c * k) = Crc.zs s n0 ∧ Crc.IsMat m c ∧ p = .pointer (some ⟨b, 0, none⟩) ∧ w.heap.size ≤ b ∧ b < wr.heap.size ∧ MatAt wr b m ∧ Below w.heap.size w wr) (fun _ i _ _ => (intOf i).toNat)
    case atStart => exact ⟨n0, s, 1, w1.heap.size, Crc.one, rfl, Nat.le_refl _, hs, rfl, by rw [Nat.one_mul], Crc.isMat_one, rfl, hsz1, by simp, setRow_heap _ _ _ _ _ _ (heap_alloc_new _ _), below_setRow (hb1.alloc hsz1 _) _ hsz1 _⟩
    case round =>
      obtain ⟨k, s', c, b, m, rfl, hk, hs', rfl, hz, hm, rfl, hb0, hblt, hmat, hbel⟩ := hrel
      by_cases hk0 : k = 0
      · subst hk0
        have HZ := Lib.hid hz
        clear hz
        go_wp2
        go_ret
        exact ⟨ret_int (by have := HZ.out; rw [Nat.mul_zero] at this; rw [← this]; rfl), hbel⟩
      · have hkp : 0 < k := by omega
        have HZ := Lib.hid hz
        have hand : bits .and .i64 (k : Int) 1 = ((k % 2 : Nat) : Int) := by
          have := i64_and_nat k 1 (by omega) (by decide)
          rw [show (1 : Nat) = 2 ^ 1 - 1 from rfl, Nat.and_two_pow_sub_one_eq_mod] at this
          exact this
        clear hz
        have htw := Crc.isMat_twice hm
        by_cases hodd : k % 2 = 1
        · have hb1 : (bits .and .i64 (k : Int) 1 == 1) = true := by rw [hand, beq_iff_eq]; omega
          clear hand
          go_wp2_with fail
          refine (times_any b m hm.len hm.lt s' hs' wr hmat).mono ?_
          rintro e w' ⟨rfl, n2, rfl⟩
          rw [hm.does s' hs']
          go_wp2_with fail
          refine (twice_any b m hm.len hm.lt (wr.drewN n2) hblt hmat).mono ?_
          rintro e w2 ⟨rfl, hb2⟩
          have hm2 : MatAt w2 b m := (hb2.block b hblt).trans hmat
          have hb2s : wr.heap.size ≤ w2.heap.size := hb2.size
          have hws := hbel.size
          have hEnd : Below w.heap.size w (((w2.setRow b (matVals (Crc.twice m))).alloc (.cells (matVals (List.replicate 16 0)) 80)).setRow w2.heap.size (matVals (Crc.twice m))) := below_setRow ((below_setRow ((below_drewN hbel n2).trans (hb2.mono hws)) b hb0 _).alloc (by simp; omega) _) _ (by omega) _
          have hfin : Crc.zs (Crc.zs s' c) (2 * c * (k / 2)) = Crc.zs s n0 := by rw [Crc.zs_odd _ _ _ hodd, HZ.out]
          have HF := Lib.hid hfin
          clear hfin
          have h3 : ((w2.setRow b (matVals (Crc.twice m))).alloc (.cells (matVals (List.replicate 16 0)) 80)).heap[w2.heap.size]? = some (.cells (matVals (List.replicate 16 0)) 80 (0, 0)) := by
            have := heap_alloc_new (w2.setRow b (matVals (Crc.twice m))) (.cells (matVals (List.replicate 16 0)) 80)
            rw [size_setRow] at this
            exact this
          go_wp2_with (first | (refine wpList_store_row rfl 80 (.tmp 5) (.tmp 16) rfl b (matVals (Crc.twice m)) rfl rfl 80 (matVals m) hm2 (mat_info.trans (by simp [matVals_size, Crc.twice])) (by simp [matVals_size, Crc.twice, hm.len]) (matVals_one _) ?_) | (refine wpList_load_row rfl 80 (.tmp 5) rfl b rfl 80 (matVals (Crc.twice m)) (0, 0) (.array 16 22) (setRow_heap _ _ _ _ _ _ hm2) (by kernel_rfl) rfl (mat_info.trans (by simp [matVals_size, Crc.twice])) ?_) | (refine wpList_store_row rfl 80 (.tmp 5) (.tmp 17) rfl w2.heap.size (matVals (Crc.twice m)) rfl rfl 80 (matVals (List.replicate 16 0)) h3 (mat_info.trans (by simp [matVals_size, Crc.twice])) (by simp [matVals_size, Crc.twice]) (matVals_one _) ?_))
          go_roundw
          case rel =>
            exact ⟨k / 2, Crc.zs s' c, 2 * c, w2.heap.size, Crc.twice m, by go_num, by omega, Crc.zs_lt hs' c, rfl, HF.out, htw, rfl, by omega, by simp, setRow_heap _ _ _ _ _ _ h3, hEnd⟩
          case measure => simp [intOf]; omega
        · have hb1 : (bits .and .i64 (k : Int) 1 == 1) = false := by rw [hand, beq_eq_false_iff_ne]; omega
          clear hand
          go_wp2_with fail
          refine (twice_any b m hm.len hm.lt wr hblt hmat).mono ?_
          rintro e w2 ⟨rfl, hb2⟩
          have hm2 : MatAt w2 b m := (hb2.block b hblt).trans hmat
          have hb2s : wr.heap.size ≤ w2.heap.size := hb2.size
          have hws := hbel.size
          have hEnd : Below w.heap.size w (((w2.setRow b (matVals (Crc.twice m))).alloc (.cells (matVals (List.replicate 16 0)) 80)).setRow w2.heap.size (matVals (Crc.twice m))) := below_setRow ((below_setRow (hbel.trans (hb2.mono hws)) b hb0 _).alloc (by simp; omega) _) _ (by omega) _
          have hfin : Crc.zs s' (2 * c * (k / 2)) = Crc.zs s n0 := by rw [Crc.zs_even _ _ _ hodd, HZ.out]
          have HF := Lib.hid hfin
          clear hfin
          have h3 : ((w2.setRow b (matVals (Crc.twice m))).alloc (.cells (matVals (List.replicate 16 0)) 80)).heap[w2.heap.size]? = some (.cells (matVals (List.replicate 16 0)) 80 (0, 0)) := by
            have := heap_alloc_new (w2.setRow b (matVals (Crc.twice m))) (.cells (matVals (List.replicate 16 0)) 80)
            rw [size_setRow] at this
            exact this
          go_wp2_with (first | (refine wpList_store_row rfl 80 (.tmp 5) (.tmp 16) rfl b (matVals (Crc.twice m)) rfl rfl 80 (matVals m) hm2 (mat_info.trans (by simp [matVals_size, Crc.twice])) (by simp [matVals_size, Crc.twice, hm.len]) (matVals_one _) ?_) | (refine wpList_load_row rfl 80 (.tmp 5) rfl b rfl 80 (matVals (Crc.twice m)) (0, 0) (.array 16 22) (setRow_heap _ _ _ _ _ _ hm2) (by kernel_rfl) rfl (mat_info.trans (by simp [matVals_size, Crc.twice])) ?_) | (refine wpList_store_row rfl 80 (.tmp 5) (.tmp 17) rfl w2.heap.size (matVals (Crc.twice m)) rfl rfl 80 (matVals (List.replicate 16 0)) h3 (mat_info.trans (by simp [matVals_size, Crc.twice])) (by simp [matVals_size, Crc.twice]) (matVals_one _) ?_))
          go_roundw
          case rel =>
            exact ⟨k / 2, s', 2 * c, w2.heap.size, Crc.twice m, by go_num, by omega, hs', rfl, HF.out, htw, rfl, by omega, by simp, setRow_heap _ _ _ _ _ _ h3, hEnd⟩
          case measure => simp [intOf]; omega
set_option maxRecDepth 100000 in
theorem join_any (a b : Nat) (ha : a < 65536) (hb : b < 65536) (n : Int) (hn : n ≤ 9223372036854775807) (w : World) :
    Calls Try.prog 25 #[.int .u16 (a : Int), .int .u16 (b : Int), .int .i64 n] w fun e w' => e = .returned (.int .u16 (Crc.join a b n : Nat)) ∧ Below w.heap.size w w' := by
  by_cases h0 : n < 0
  · have hf : Crc.join a b n = a := by rw [Crc.join, if_pos h0]
    have HF := Lib.hid hf
    clear hf
    go_enter Try.func25, Try.ntmps25
    go_wp2
    go_ret
    exact ⟨ret_int (by rw [HF.out]), Below.refl _ _⟩
  · have hx := u16_xor_nat a 65535 ha (by decide)
    have hxl : a ^^^ 65535 < 65536 := Nat.xor_lt_two_pow (n := 16) ha (by decide)
    have hz := Crc.zs_lt hxl n.toNat
    have hy := u16_xor_nat _ b hz hb
    have hf : Crc.join a b n = Crc.zs (a ^^^ 65535) n.toNat ^^^ b := by rw [Crc.join, if_neg h0]
    have HF := Lib.hid hf
    have HY := Lib.hid hy
    have hx' : bits .xor .u16 (a : Int) 65535 = ((a ^^^ 65535 : Nat) : Int) := hx
    clear hf hx hy
    go_enter Try.func25, Try.ntmps25
    go_wp2_with fail
    refine (zeros_any _ hxl n hn w).mono ?_
    rintro e w' ⟨rfl, hbel⟩
    go_wp2
    go_ret
    exact ⟨ret_int (by rw [HF.out]; exact HY.out), hbel⟩
end Go.Proofs.Ytpkgpffodkfncaa
