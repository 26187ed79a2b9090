/- The walk through the reference's Burst. -/
import Derived.Test.YtpkgpffodkfncaaCrcBurst
namespace Go.Proofs.Ytpkgpffodkfncaa
open Go.RowKit
theorem flip_round (wr : World) (b : Nat) (l : List UInt8) (j m : Nat) (h : BytesAt wr b l) (hj : j < l.length) (hm : m ≤ 7) :
    BytesAt (wr.setCell ⟨b, j, none⟩ (.int .u8 (bits .xor .u8 (l[j].toNat : Int) (2 ^ m % 256)))).drew b (l.set j (l.getD j 0 ^^^ UInt8.ofNat (2 ^ m))) := by
  have he : l.getD j 0 = l[j] := by simp [List.getD_eq_getElem?_getD, hj]
  rw [he]
  have hp : 2 ^ m ≤ 2 ^ 7 := Nat.pow_le_pow_right (by decide) hm
  have hv : bits .xor .u8 (l[j].toNat : Int) (2 ^ m % 256) = ((l[j] ^^^ UInt8.ofNat (2 ^ m)).toNat : Int) := by
    rw [show ((2 : Int) ^ m % 256) = ((2 ^ m : Nat) : Int) from (show ∀ m : Fin 8, (2 : Int) ^ m.val % 256 = ((2 ^ m.val : Nat) : Int) by decide) ⟨m, by omega⟩, u8_xor_nat _ _ (UInt8.toNat_lt _) (by omega)]
    congr 1
    rw [UInt8.toNat_xor, UInt8.toNat_ofNat', Nat.mod_eq_of_lt (by omega)]
  rw [hv]
  exact bytesAt_drew (bytesAt_set h _ hj _)
set_option maxRecDepth 100000 in
theorem rburst_any (s : ByteArray) (hs : s.size * 8 ≤ maxLen) (at_ : Int) (p : Nat) (hp : p < 65536) (w : World) :
    Calls Try.prog 23 #[.string s, .int .i64 at_, .int .u16 (p : Int)] w fun e w' => e = .returned (.string (Crc.rburst s at_ p)) ∧ Below w.heap.size w w' := by
  unfold maxLen at hs
  by_cases h0 : at_ < 0
  · have hf := Lib.hid (Crc.rburst_out s at_ p (.inl h0))
    go_enter Try.func23, Try.ntmps23
    go_wp2
    go_ret
    exact ⟨by rw [hf.out]; rfl, Below.refl _ _⟩
  · by_cases h1 : 8 * (s.size : Int) ≤ at_
    · have hf := Lib.hid (Crc.rburst_out s at_ p (.inr h1))
      go_enter Try.func23, Try.ntmps23
      go_wp2
      go_ret
      exact ⟨by rw [hf.out]; rfl, Below.refl _ _⟩
    · obtain ⟨a, rfl⟩ := Int.eq_ofNat_of_zero_le (Int.not_lt.1 h0)
      have ha : a < 8 * s.size := by omega
      have hcv := @Lib.run_convert_string_bytes Try.prog w 9 33 5 s .string (by kernel_rfl) (by kernel_rfl) (by kernel_rfl)
      go_enter Try.func23, Try.ntmps23
      go_wp2
      go_loopw [8] (fun i wr => ∃ k : Nat, k ≤ 16 ∧ i = .int .i64 (k : Int) ∧ BytesAt wr w.heap.size (Crc.flips s.data.toList a p k) ∧ Below w.heap.size w wr)
        (fun i _ => 16 - (intOf i).toNat)
      case atStart => exact ⟨0, by omega, rfl, bytesAt_conv w _ s, below_conv w _ s⟩
      case round =>
        obtain ⟨k, hk, rfl, hB, hbel⟩ := hrel
        by_cases hlt : k < 16
        · have hq0 : 0 ≤ (p : Int) / 2 ^ (15 - k) := Int.ediv_nonneg (by omega) (Int.pow_nonneg (by decide))
          have hlen := Crc.flips_length s.data.toList a p k
          by_cases hbit : p / 2 ^ (15 - k) % 2 = 1
          · have hb1 : ((p : Int) / 2 ^ (15 - k) % 2 == 1) = true := by
              rw [beq_iff_eq, show ((p : Int) / 2 ^ (15 - k)) = ((p / 2 ^ (15 - k) : Nat) : Int) from by simp]
              omega
            by_cases hin : k < 8 * s.size - a
            · have hstep : Crc.flips s.data.toList a p (k + 1) = (Crc.flips s.data.toList a p k).set ((a + k) / 8) ((Crc.flips s.data.toList a p k).getD ((a + k) / 8) 0 ^^^ UInt8.ofNat (2 ^ (7 - (a + k) % 8))) := by
                rw [Crc.flips, if_pos ⟨hbit, by simpa using hin⟩]
              have hj : (a + k) / 8 < (Crc.flips s.data.toList a p k).length := by rw [hlen]; simp; omega
              have hcell := hB.1 ((a + k) / 8) hj
              have hfro := hB.2 ((a + k) / 8) hj
              have hnext := flip_round wr w.heap.size _ ((a + k) / 8) (7 - (a + k) % 8) hB hj (by omega)
              rw [← hstep] at hnext
              have HS := Lib.hid hstep
              have HL := Lib.hid hlen
              clear hstep hlen
              go_wp2
              go_region
              go_wp2
              go_roundw
              case rel => exact ⟨k + 1, by omega, by go_num, hnext, (hbel.setCell (Nat.le_refl _) _).drew⟩
              case measure => simp [intOf]; omega
            · have hstep : Crc.flips s.data.toList a p (k + 1) = Crc.flips s.data.toList a p k := by
                rw [Crc.flips, if_neg (fun h => hin (by simpa using h.2))]
              have HS := Lib.hid hstep
              have HL := Lib.hid hlen
              clear hstep hlen
              go_wp2
              go_roundw
              case rel => exact ⟨k + 1, by omega, by go_num, by rw [HS.out]; exact hB, hbel⟩
              case measure => simp [intOf]; omega
          · have hb1 : ((p : Int) / 2 ^ (15 - k) % 2 == 1) = false := by
              rw [beq_eq_false_iff_ne, show ((p : Int) / 2 ^ (15 - k)) = ((p / 2 ^ (15 - k) : Nat) : Int) from by simp]
              omega
            have hstep : Crc.flips s.data.toList a p (k + 1) = Crc.flips s.data.toList a p k := by
              rw [Crc.flips, if_neg (fun h => hbit h.1)]
            have HS := Lib.hid hstep
            have HL := Lib.hid hlen
            clear hstep hlen
            go_wp2
            go_roundw
            case rel => exact ⟨k + 1, by omega, by go_num, by rw [HS.out]; exact hB, hbel⟩
            case measure => simp [intOf]; omega
        · have hcv2 := run_convert_bytes_arg (P := Try.prog) wr 33 5 (by kernel_rfl) (by kernel_rfl) w.heap.size 0 s.size (grownCap w s.size 0 5) ((Crc.flips s.data.toList a p k).map fun c => (c.toNat : Int)) (by simp [Crc.flips_length]) (fun i hi => by
            have h1 := hB.1 i (by simpa [Crc.flips_length] using hi)
            have hi' : i < (Crc.flips s.data.toList a p k).length := by simpa [Crc.flips_length] using hi
            simp only [Nat.zero_add, h1, List.getD_eq_getElem?_getD, List.getElem?_map, List.getElem?_eq_getElem hi', Option.map_some, Option.getD_some]) 9 (by kernel_rfl)
          have hfin : Crc.rburst s (a : Int) p = strOfNums ((Crc.flips s.data.toList a p k).map fun c => (c.toNat : Int)) := by
            rw [strOfNums_bytes, Crc.rburst, if_neg (by omega), Int.toNat_natCast, show k = 16 from by omega]
          have HF := Lib.hid hfin
          clear hfin
          go_wp2
          all_goals
            go_ret
            exact ⟨by rw [HF.out]; rfl, hbel⟩
end Go.Proofs.Ytpkgpffodkfncaa
