/- The walks through package crc. -/
import Derived.Test.YtpkgpffodkfncaaBase
import Derived.Test.YtpkgpffodkfncaaCrcSpec
namespace Go.Proofs.Ytpkgpffodkfncaa
open Go.RowKit
theorem quarter_index (w : World) : ∀ m : Fin 16,
    (Instr.index 79 (.agg #[.int .u16 0, .int .u16 4129, .int .u16 8258, .int .u16 12387, .int .u16 16516, .int .u16 20645, .int .u16 24774, .int .u16 28903, .int .u16 33032, .int .u16 37161, .int .u16 41290, .int .u16 45419, .int .u16 49548, .int .u16 53677, .int .u16 57806, .int .u16 61935]) (.int .u16 (m.val : Int))).run Try.prog w = .ok (.int .u16 (Crc.tab.getD m.val 0 : Nat)) w
  | ⟨0, _⟩ => by kernel_rfl
  | ⟨1, _⟩ => by kernel_rfl
  | ⟨2, _⟩ => by kernel_rfl
  | ⟨3, _⟩ => by kernel_rfl
  | ⟨4, _⟩ => by kernel_rfl
  | ⟨5, _⟩ => by kernel_rfl
  | ⟨6, _⟩ => by kernel_rfl
  | ⟨7, _⟩ => by kernel_rfl
  | ⟨8, _⟩ => by kernel_rfl
  | ⟨9, _⟩ => by kernel_rfl
  | ⟨10, _⟩ => by kernel_rfl
  | ⟨11, _⟩ => by kernel_rfl
  | ⟨12, _⟩ => by kernel_rfl
  | ⟨13, _⟩ => by kernel_rfl
  | ⟨14, _⟩ => by kernel_rfl
  | ⟨15, _⟩ => by kernel_rfl
  | ⟨_ + 16, h⟩ => absurd h (by omega)
set_option maxRecDepth 100000 in
theorem quarter_any (n : Nat) (h : n < 65536) (w : World) :
    Calls Try.prog 58 #[.int .u16 (n : Int)] w fun e w' => e = .returned (.int .u16 (Crc.qt n : Nat)) ∧ w = w' := by
  have hb : bits .and .u16 (n : Int) 15 = ((n % 16 : Nat) : Int) := by
    have := u16_and_nat n 15 h (by decide)
    rw [show (15 : Nat) = 2 ^ 4 - 1 from rfl, Nat.and_two_pow_sub_one_eq_mod] at this
    exact this
  have hq : ∀ w, _ := fun w => quarter_index w ⟨n % 16, Nat.mod_lt _ (by decide)⟩
  simp only [← hb] at hq
  clear hb
  go_enter Try.func58, Try.ntmps58
  go_wp2
  go_ret
  exact ⟨rfl, rfl⟩
theorem quarter_int (a : Int) (h0 : 0 ≤ a) (h1 : a ≤ 65535) (w : World) :
    Calls Try.prog 58 #[.int .u16 a] w fun e w' => e = .returned (.int .u16 (Crc.qt a.toNat : Nat)) ∧ w = w' := by
  obtain ⟨n, rfl⟩ := Int.eq_ofNat_of_zero_le h0
  exact quarter_any n (by omega) w
set_option maxRecDepth 100000 in
theorem more_any (n : Nat) (h : n < 65536) (s : ByteArray) (hs : s.size ≤ maxLen) (w : World) :
    Calls Try.prog 17 #[.int .u16 (n : Int), .string s] w fun e w' => e = .returned (.int .u16 (Crc.more n s.data.toList : Nat)) ∧ w = w' := by
  unfold maxLen at hs
  go_enter Try.func17, Try.ntmps17
  go_wp2
  go_loop [0, 9] (fun a i => ∃ k : Nat, k ≤ s.size ∧ i = .int .i64 k ∧ a = .int .u16 (Crc.more n (s.data.toList.take k) : Nat)) (fun _ i => s.size - (intOf i).toNat)
  case atStart => exact ⟨0, Nat.zero_le _, rfl, rfl⟩
  case round =>
    obtain ⟨k, hk, rfl, rfl⟩ := hrel
    have hm := Crc.more_lt n h (s.data.toList.take k)
    generalize hM : Crc.more n (s.data.toList.take k) = m at *
    have HM := Lib.hid hM
    clear hM
    by_cases hlt : k < s.size
    · go_wp2_with fail
      refine (quarter_int _ (bits_lo_u16 _ _ _) (bits_hi_u16 _ _ _) w).mono ?_
      rintro e w' ⟨rfl, rfl⟩
      go_wp2_with fail
      refine (quarter_int _ (bits_lo_u16 _ _ _) (bits_hi_u16 _ _ _) w).mono ?_
      rintro e w' ⟨rfl, rfl⟩
      go_wp2
      go_round
      case rel =>
        refine ⟨k + 1, hlt, by go_num, ?_⟩
        rw [take_snoc s k hlt, Crc.more_snoc, HM.out]
        exact congrArg _ (Crc.step_int m s[k].toNat hm (UInt8.toNat_lt _))
      case measure => simp [intOf]; omega
    · go_wp2
      go_ret
      exact ⟨ret_int (by rw [← HM.out, List.take_of_length_le (by simp; omega)]), rfl⟩
set_option maxRecDepth 100000 in
theorem rmore_any (n : Nat) (h : n < 65536) (s : ByteArray) (hs : s.size ≤ maxLen) (w : World) :
    Calls Try.prog 18 #[.int .u16 (n : Int), .string s] w fun e w' => e = .returned (.int .u16 (Crc.rmore n s.data.toList : Nat)) ∧ w = w' := by
  unfold maxLen at hs
  go_enter Try.func18, Try.ntmps18
  go_wp2
  go_loop [5, 6] (fun a i => ∃ k : Nat, k ≤ s.size ∧ i = .int .i64 k ∧ a = .int .i64 (Crc.rmore n (s.data.toList.take k) : Nat)) (fun _ i => s.size - (intOf i).toNat)
  case atStart => exact ⟨0, Nat.zero_le _, rfl, rfl⟩
  case round =>
    obtain ⟨k, hk, rfl, rfl⟩ := hrel
    have hm := Crc.rmore_lt n h (s.data.toList.take k)
    generalize hM : Crc.rmore n (s.data.toList.take k) = m at *
    have HM := Lib.hid hM
    clear hM
    by_cases hlt : k < s.size
    · have hc := UInt8.toNat_lt s[k]
      have hx : bits .xor .i64 (m : Int) ((s[k].toNat : Int) * 256) = ((m ^^^ s[k].toNat * 256 : Nat) : Int) := by
        rw [show (s[k].toNat : Int) * 256 = ((s[k].toNat * 256 : Nat) : Int) from by omega]
        exact Crc.i64_xor_nat _ _ (by omega) (by omega)
      have hxl : m ^^^ s[k].toNat * 256 < 65536 := Nat.xor_lt_two_pow (n := 16) hm (by have := UInt8.toNat_lt s[k]; omega)
      go_wp2
      generalize hX : m ^^^ s[k].toNat * 256 = x at *
      have HX := Lib.hid hX
      clear hX hx
      go_loop [5, 7] (fun a i => ∃ j : Nat, j ≤ 8 ∧ i = .int .i64 j ∧ a = .int .i64 (Crc.bits8 j x : Nat)) (fun _ i => 8 - (intOf i).toNat)
      case atStart => exact ⟨0, Nat.zero_le _, rfl, rfl⟩
      case round =>
        obtain ⟨j, hj, rfl, rfl⟩ := hrel
        have hb := Crc.bits8_lt j hxl
        generalize hB : Crc.bits8 j x = b at *
        have HB := Lib.hid hB
        clear hB
        by_cases hjl : j < 8
        · by_cases ho : 65536 ≤ 2 * (b : Int)
          · have hov := Crc.bit1_over hb ho
            go_wp2
            go_round
            case rel => exact ⟨j + 1, hjl, by go_num, by rw [Crc.bits8, HB.out]⟩
            case measure => simp [intOf]; omega
          · have hun := Lib.hid (Crc.bit1_under ho)
            go_wp2
            go_round
            case rel => exact ⟨j + 1, hjl, by go_num, by rw [Crc.bits8, HB.out, hun.out]⟩
            case measure => simp [intOf]; omega
        · have h8 : j = 8 := by omega
          have H8 := Lib.hid h8
          clear h8
          go_wp2
          go_round
          case rel => exact ⟨k + 1, hlt, by go_num, by rw [take_snoc s k hlt, Crc.rmore_snoc, HM.out, Crc.rstep, HX.out, ← H8.out, HB.out]⟩
          case measure => simp [intOf]; omega
    · go_wp2
      go_ret
      exact ⟨ret_int (by rw [← HM.out, List.take_of_length_le (by simp; omega)]), rfl⟩
end Go.Proofs.Ytpkgpffodkfncaa
