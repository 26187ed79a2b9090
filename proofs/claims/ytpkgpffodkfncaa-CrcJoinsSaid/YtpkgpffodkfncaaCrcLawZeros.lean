/- The laws of bytes 0 and of two texts, one behind the other: their walks. -/
import Derived.Test.YtpkgpffodkfncaaCrcAwake
import Derived.Test.YtpkgpffodkfncaaCrcZeros
import Derived.Test.YtpkgpffodkfncaaCrcPlain3
import Derived.OpenShut
import Derived.Deep.RegionWith
import Derived.Laws.MakeOwn
namespace Go.Proofs.Ytpkgpffodkfncaa
open Go.RowKit
def zerosOf (k : Nat) : ByteArray := strOfNums (List.replicate k 0)
theorem zerosOf_size (k : Nat) : (zerosOf k).size = k := by rw [zerosOf, strOfNums_size, List.length_replicate]
theorem zerosOf_list (k : Nat) : (zerosOf k).data.toList = List.replicate k 0 := by
  rw [zerosOf, strOfNums_data, List.map_replicate]
  rfl
theorem zeros_string_at (k : Nat) (W : World) (b : Nat) (h : W.heap[b]? = some (.cells (madeCells #[.int .u8 0] k) 5 (0, 0))) :
    (convert 33 9 (.slice (some ⟨b, 0, none⟩) k k)).run Try.prog W = .ok (.string (zerosOf k)) W :=
  run_convert_bytes_arg W _ 5 (by kernel_rfl) (by kernel_rfl) b 0 k k (List.replicate k 0) (by simp) (fun i hi => by
    simp [World.cell?, h, madeCells, hi, List.getD_eq_getElem?_getD]
    rw [Nat.mod_one]
    rfl) _ (by kernel_rfl)
theorem zeros_string (k : Nat) (W : World) :
    (convert 33 9 (.slice (some ⟨W.heap.size, 0, none⟩) k k)).run Try.prog (W.alloc (.cells (madeCells #[.int .u8 0] k) 5)) = .ok (.string (zerosOf k)) (W.alloc (.cells (madeCells #[.int .u8 0] k) 5)) :=
  zeros_string_at k _ _ (heap_alloc_new _ _)
theorem zeros_string_drew (k : Nat) (W : World) :
    (convert 33 9 (.slice (some ⟨W.heap.size, 0, none⟩) k k)).run Try.prog (W.alloc (.cells (madeCells #[.int .u8 0] k) 5)).drew = .ok (.string (zerosOf k)) (W.alloc (.cells (madeCells #[.int .u8 0] k) 5)).drew :=
  zeros_string_at k _ _ (heap_alloc_new _ _)
theorem zeros_string_below (k : Nat) (W w2 : World) {B : Nat} (h : Below B (W.alloc (.cells (madeCells #[.int .u8 0] k) 5)).drew w2) (hB : W.heap.size < B) :
    (convert 33 9 (.slice (some ⟨W.heap.size, 0, none⟩) k k)).run Try.prog w2 = .ok (.string (zerosOf k)) w2 :=
  zeros_string_at k _ _ ((h.block _ hB).trans (heap_alloc_new _ _))
theorem u8_row : (Try.prog.info? 5).map (fun i => (i.zero, i.size, i.bytes)) = some (some (.int .u8 0), 1, 1) := by kernel_rfl
theorem u8_info : ∃ i, Try.prog.info? 5 = some i ∧ i.zero = some (.int .u8 0) ∧ i.size = 1 ∧ i.bytes = 1 := by
  have := u8_row
  cases h : Try.prog.info? 5 with
  | none => simp [h] at this
  | some i => simp [h] at this; exact ⟨i, rfl, this.1, this.2.1, this.2.2⟩
set_option maxRecDepth 100000 in
set_option maxHeartbeats 1000000 in
theorem crcZeros_walk (p : Int) (hp : (Lit.int .u16 p).wf = true) (n : Int) (hn : (Lit.int .i64 n).wf = true) (w : World) :
    Calls Try.prog 6 #[.int .u16 p, .int .i64 n] w fun e w' => e = .returned (.bool true) ∧ Below w.heap.size w w' := by
  have hb := bounds_u16 hp
  have hbn := bounds_i64 hn
  obtain ⟨m, rfl⟩ := Int.eq_ofNat_of_zero_le hb.1
  have hm : m < 65536 := by omega
  by_cases h1 : n < 1
  · have HZ : Hid (Crc.zs m n.toNat = m) := by
      rw [show n.toNat = 0 from by omega]
      exact Lib.hid rfl
    go_enter Try.func6, Try.ntmps6
    go_wp2_with fail
    refine (awake_any w).mono ?_
    rintro e w1 ⟨rfl, hb1⟩
    go_wp2_with fail
    refine (zeros_any m hm n hbn.2 w1).mono ?_
    rintro e w2 ⟨rfl, hb2⟩
    rw [HZ.out]
    go_wp2
    go_ret
    exact ⟨rfl, hb1.trans (hb2.mono hb1.size)⟩
  · by_cases h2 : n ≤ 3000
    · go_enter Try.func6, Try.ntmps6
      go_wp2_with fail
      refine (awake_any w).mono ?_
      rintro e w1 ⟨rfl, hb1⟩
      obtain ⟨k, rfl⟩ := Int.eq_ofNat_of_zero_le (show 0 ≤ n by omega)
      have hmk : ∀ W : World, (Instr.makeSlice 33 (.int .i64 (k : Int)) (.int .i64 (k : Int))).run Try.prog W = .ok (.slice (some ⟨W.heap.size, 0, none⟩) k k) (W.alloc (.cells (madeCells #[.int .u8 0] k) 5)) := fun W => by
        obtain ⟨i, hi, z1, z2, z3⟩ := u8_info
        have := run_make (P := Try.prog) W 33 5 i (.int .u8 0) (by kernel_rfl) hi z1 .i64 .i64 (k : Int) (k : Int) (by omega) (Int.le_refl _) (by rw [z3]; omega) (by omega)
        simpa [z2, Value.cells] using this
      have HE : Hid (Crc.rmore m (zerosOf k).data.toList = Crc.zs m k) := by
        rw [← Crc.more_eq m hm, zerosOf_list, Crc.more_zeros]
        exact Lib.hid rfl
      have hcv := zeros_string k
      have hcv2 := zeros_string_drew k
      have hzl : (zerosOf k).size ≤ maxLen := by unfold maxLen; rw [zerosOf_size]; omega
      go_wp2
      go_region_with (first | (go_at_call 24; refine (zeros_any m hm _ hbn.2 _).mono ?_; rintro e w2 ⟨rfl, hb2⟩; (try (have hcz := zeros_string_below k _ w2 hb2 (by simp)))) | (go_at_call 18; refine (rmore_any m hm _ hzl _).mono ?_; rintro e w3 ⟨rfl, rfl⟩))
      all_goals go_wp2
      all_goals rw [HE.out]
      all_goals
        have hs1 := hb1.size
        simp only [beq_self_eq_true]
        go_ret
        refine ⟨rfl, ?_⟩
        · first | exact ((hb1.drew).trans (hb2.mono (by simpa using hs1))).alloc (by have := hb2.size; simp at this; omega) _ | exact ((hb1.alloc hs1 _).drew).trans (hb2.mono (by simp; omega))
    · have hdiv : n.tdiv 2 = n / 2 := Int.tdiv_eq_ediv_of_nonneg (by omega)
      have HZ : Hid (Crc.zs (Crc.zs m (n / 2).toNat) (n - n / 2).toNat = Crc.zs m n.toNat) := by
        rw [← Crc.zs_add, show (n / 2).toNat + (n - n / 2).toNat = n.toNat from by omega]
        exact Lib.hid rfl
      have hzl := Crc.zs_lt hm (n / 2).toNat
      clear hdiv
      go_enter Try.func6, Try.ntmps6
      go_wp2_with fail
      refine (awake_any w).mono ?_
      rintro e w1 ⟨rfl, hb1⟩
      go_wp2_with fail
      refine (zeros_any m hm n hbn.2 w1).mono ?_
      rintro e w2 ⟨rfl, hb2⟩
      go_wp2_with fail
      refine (zeros_any m hm (n / 2) (by omega) w2).mono ?_
      rintro e w3 ⟨rfl, hb3⟩
      go_wp2_with fail
      refine (zeros_any _ hzl (n - n / 2) (by omega) w3).mono ?_
      rintro e w4 ⟨rfl, hb4⟩
      rw [HZ.out]
      go_wp2
      go_ret
      exact ⟨rfl, hb1.trans ((hb2.mono hb1.size).trans ((hb3.mono (Nat.le_trans hb1.size hb2.size)).trans (hb4.mono (Nat.le_trans hb1.size (Nat.le_trans hb2.size hb3.size)))))⟩
theorem append_list (s t : ByteArray) : (s ++ t).data.toList = s.data.toList ++ t.data.toList := by
  rw [ByteArray.data_append, Array.toList_append]
theorem join_eq (s t : ByteArray) : Crc.join (Crc.more 65535 s.data.toList) (Crc.more 65535 t.data.toList) (t.size : Int) = Crc.more 65535 (s ++ t).data.toList := by
  have hlen : t.size = t.data.toList.length := by simp
  rw [append_list, Crc.more_append, Crc.join, if_neg (by omega), Int.toNat_natCast, hlen]
  generalize Crc.more 65535 s.data.toList = a
  have e := Crc.more_diff a (a ^^^ 65535) t.data.toList
  rw [← Nat.xor_assoc, Nat.xor_self, Nat.zero_xor] at e
  rw [e, Nat.xor_comm, Nat.xor_assoc, Nat.xor_self, Nat.xor_zero]
set_option maxRecDepth 100000 in
set_option maxHeartbeats 1000000 in
theorem crcJoins_walk (s : ByteArray) (hs : s.size ≤ 140737488351232) (t : ByteArray) (ht : t.size ≤ 140737488351232) (w : World) :
    Calls Try.prog 7 #[.string s, .string t] w fun e w' => e = .returned (.bool true) ∧ Below w.heap.size w w' := by
  by_cases hl : (s.size : Int) ≤ 2000
  · by_cases hl2 : (t.size : Int) ≤ 2000
    · have hsm : s.size ≤ maxLen := by unfold maxLen; omega
      have htm : t.size ≤ maxLen := by unfold maxLen; omega
      have hst : (s ++ t).size = s.size + t.size := ByteArray.size_append
      have hstm : (s ++ t).size ≤ maxLen := by unfold maxLen; omega
      have hA := Crc.more_lt 65535 (by decide) s.data.toList
      have hB := Crc.more_lt 65535 (by decide) t.data.toList
      have HJ := Lib.hid (join_eq s t)
      have HM : Hid (Crc.more (Crc.more 65535 s.data.toList) t.data.toList = Crc.more 65535 (s ++ t).data.toList) := by
        rw [append_list, Crc.more_append]
        exact Lib.hid rfl
      have HN : Hid (Crc.join (Crc.more 65535 s.data.toList) (Crc.more 65535 t.data.toList) (-1 - (s.size : Int)) = Crc.more 65535 s.data.toList) := by
        rw [Crc.join, if_pos (by omega)]
        exact Lib.hid rfl
      clear hst
      go_enter Try.func7, Try.ntmps7
      go_wp2_with fail
      refine (awake_any w).mono ?_
      rintro e w1 ⟨rfl, hb1⟩
      go_wp2_with fail
      refine (sum_any s hsm w1).mono ?_
      rintro e w' ⟨rfl, rfl⟩
      go_wp2_with fail
      refine (sum_any t htm w1).mono ?_
      rintro e w' ⟨rfl, rfl⟩
      generalize hA' : Crc.more 65535 s.data.toList = A at *
      generalize hB' : Crc.more 65535 t.data.toList = B at *
      clear hA' hB'
      go_wp2_with fail
      refine (join_any A B hA hB (t.size : Int) (by omega) w1).mono ?_
      rintro e w2 ⟨rfl, hb2⟩
      rw [HJ.out]
      have hcat : s.size + t.size ≤ 9223372036854775807 := by omega
      go_wp2_with fail
      refine (sum_any (s ++ t) hstm w2).mono ?_
      rintro e w' ⟨rfl, rfl⟩
      go_wp2_with fail
      refine (more_any A hA t htm w2).mono ?_
      rintro e w' ⟨rfl, rfl⟩
      rw [HM.out]
      go_wp2_with fail
      refine (sum_any (s ++ t) hstm w2).mono ?_
      rintro e w' ⟨rfl, rfl⟩
      go_wp2_with fail
      refine (join_any A B hA hB (-1 - (s.size : Int)) (by omega) w2).mono ?_
      rintro e w3 ⟨rfl, hb3⟩
      rw [HN.out]
      go_wp2
      go_ret
      exact ⟨rfl, hb1.trans ((hb2.mono hb1.size).trans (hb3.mono (Nat.le_trans hb1.size hb2.size)))⟩
    · go_enter Try.func7, Try.ntmps7
      go_wp2_with fail
      refine (awake_any w).mono ?_
      rintro e w1 ⟨rfl, hb1⟩
      go_wp2
      go_ret
      exact ⟨rfl, hb1⟩
  · go_enter Try.func7, Try.ntmps7
    go_wp2_with fail
    refine (awake_any w).mono ?_
    rintro e w1 ⟨rfl, hb1⟩
    go_wp2
    go_ret
    exact ⟨rfl, hb1⟩
end Go.Proofs.Ytpkgpffodkfncaa
