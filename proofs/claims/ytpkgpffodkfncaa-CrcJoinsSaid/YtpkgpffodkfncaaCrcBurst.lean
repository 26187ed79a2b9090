/- The walks through both texts of Burst. -/
import Derived.Test.YtpkgpffodkfncaaCrcWalks2
import Derived.Lib.ConvBytes
import Derived.RegionTactic
import Derived.BigRegion
namespace Go.Proofs.Ytpkgpffodkfncaa
open Go.RowKit
def BytesAt (w : World) (b : Nat) (l : List UInt8) : Prop :=
  (∀ j, j < l.length → w.cell? ⟨b, j, none⟩ = some (.int .u8 (l.getD j 0).toNat)) ∧ ∀ j, j < l.length → w.frozen? ⟨b, j, none⟩ = false
theorem bytesAt_conv (w : World) (e : TypeId) (s : ByteArray) : BytesAt (Lib.bytesWorld w e s) w.heap.size s.data.toList := by
  constructor
  · intro j hj
    exact Lib.bytesWorld_cell w e s j (by simpa using hj)
  · intro j hj
    simp at hj
    have : j < (Lib.bytesCells w e s).size := by simp [Lib.bytesCells]; omega
    simp [World.frozen?, Lib.bytesWorld_at_new]
    omega
theorem below_conv (w : World) (e : TypeId) (s : ByteArray) : Below w.heap.size w (Lib.bytesWorld w e s) :=
  ⟨by simp [Lib.bytesWorld, World.freeze, World.alloc, World.drew, -World.alloc_eq, -World.drew_eq],
    by simp [Lib.bytesWorld, World.freeze, World.alloc, World.drew, -World.alloc_eq, -World.drew_eq],
    by simp [Lib.bytesWorld, World.freeze, World.alloc, World.drew, -World.alloc_eq, -World.drew_eq],
    by rw [Lib.bytesWorld_size]; omega, fun k hk => Lib.bytesWorld_at_old w e s k hk⟩
theorem bytesAt_drew {w : World} {b : Nat} {l : List UInt8} (h : BytesAt w b l) : BytesAt w.drew b l := h
theorem bytesAt_set {w : World} {b : Nat} {l : List UInt8} (h : BytesAt w b l) (j : Nat) (hj : j < l.length) (c : UInt8) :
    BytesAt (w.setCell ⟨b, j, none⟩ (.int .u8 c.toNat)) b (l.set j c) := by
  obtain ⟨h1, h2⟩ := h
  constructor
  · intro i hi
    rw [List.length_set] at hi
    by_cases e : i = j
    · subst e
      have h1i := h1 i hi
      simp only [World.cell?, World.setCell, Array.getElem?_modify] at h1i ⊢
      cases hb : w.heap[b]? with
      | none => simp [hb] at h1i
      | some o =>
        cases o with
        | cells cs el fr =>
          simp [hb] at h1i ⊢
          obtain ⟨hlt, _⟩ := Array.getElem?_eq_some_iff.1 h1i
          simp [hlt, hj]
        | _ => simp [hb] at h1i
    · have h1i := h1 i hi
      have hne : (⟨b, i, none⟩ : Addr) ≠ ⟨b, j, none⟩ := by simp [e]
      rw [List.getD_eq_getElem?_getD, List.getElem?_set_ne (Ne.symm e), ← List.getD_eq_getElem?_getD, ← h1i]
      simp only [World.cell?, World.setCell, Array.getElem?_modify]
      cases hb : w.heap[b]? with
      | none => simp
      | some o =>
        cases o with
        | cells cs el fr => simp [Array.getElem?_setIfInBounds_ne (Ne.symm e)]
        | _ => simp
  · intro i hi
    rw [List.length_set] at hi
    have h2i := h2 i hi
    simp only [World.frozen?, World.setCell, Array.getElem?_modify] at h2i ⊢
    cases hb : w.heap[b]? with
    | none => simp
    | some o =>
      cases o with
      | cells cs el fr => simp [hb] at h2i ⊢; exact h2i
      | _ => simp
theorem burst_round (wr : World) (b : Nat) (l : List UInt8) (a p k : Nat) (h : BytesAt wr b (Crc.part l a p k)) (hk : k < 3) (hl : a / 8 + k < l.length) (hW : p * 2 ^ (8 - a % 8) < 4294967296) :
    BytesAt (wr.setCell ⟨b, a / 8 + k, none⟩ (.int .u8 (bits .xor .u8 (l[a / 8 + k].toNat : Int) ((p : Int) * 2 ^ (8 - a % 8) % 4294967296 / 2 ^ (16 - 8 * k) % 256)))).drew b (Crc.part l a p (k + 1)) := by
  rw [Crc.part_succ l a p k hl]
  have hv : bits .xor .u8 (l[a / 8 + k].toNat : Int) ((p : Int) * 2 ^ (8 - a % 8) % 4294967296 / 2 ^ (16 - 8 * k) % 256) = ((l[a / 8 + k] ^^^ Crc.mask a p k).toNat : Int) := by
    have e1 : (p : Int) * 2 ^ (8 - a % 8) % 4294967296 / 2 ^ (16 - 8 * k) % 256 = ((p * 2 ^ (8 - a % 8) / 2 ^ (16 - 8 * k) % 256 : Nat) : Int) := by
      have : (p : Int) * 2 ^ (8 - a % 8) = ((p * 2 ^ (8 - a % 8) : Nat) : Int) := by simp
      rw [this]
      have h2 : ((p * 2 ^ (8 - a % 8) : Nat) : Int) % 4294967296 = ((p * 2 ^ (8 - a % 8) : Nat) : Int) := by omega
      rw [h2]
      simp
    rw [e1, u8_xor_nat _ _ (UInt8.toNat_lt _) (Nat.mod_lt _ (by decide))]
    congr 1
  rw [hv]
  exact bytesAt_drew (bytesAt_set h _ (by rw [Crc.part_length]; exact hl) _)
theorem strOfNums_bytes (l : List UInt8) : strOfNums (l.map fun c => (c.toNat : Int)) = ⟨l.toArray⟩ := by
  simp [strOfNums, Function.comp_def]
set_option maxRecDepth 100000 in
theorem burst_any (s : ByteArray) (hs : s.size * 8 ≤ maxLen) (at_ : Int) (p : Nat) (hp : p < 65536) (w : World) :
    Calls Try.prog 22 #[.string s, .int .i64 at_, .int .u16 (p : Int)] w fun e w' => e = .returned (.string (Crc.burst s at_ p)) ∧ Below w.heap.size w w' := by
  unfold maxLen at hs
  by_cases h0 : at_ < 0
  · have hf := Lib.hid (Crc.burst_out s at_ p (.inl h0))
    go_enter Try.func22, Try.ntmps22
    go_wp2
    go_ret
    exact ⟨by rw [hf.out]; rfl, Below.refl _ _⟩
  · by_cases h1 : 8 * (s.size : Int) ≤ at_
    · have hf := Lib.hid (Crc.burst_out s at_ p (.inr h1))
      go_enter Try.func22, Try.ntmps22
      go_wp2
      go_ret
      exact ⟨by rw [hf.out]; rfl, Below.refl _ _⟩
    · obtain ⟨a, rfl⟩ := Int.eq_ofNat_of_zero_le (Int.not_lt.1 h0)
      have ha : a < 8 * s.size := by omega
      have hcv := @Lib.run_convert_string_bytes Try.prog w 9 33 5 s .string (by kernel_rfl) (by kernel_rfl) (by kernel_rfl)
      go_enter Try.func22, Try.ntmps22
      go_wp2
      have hW : p * 2 ^ (8 - a % 8) < 4294967296 := by
        have : 2 ^ (8 - a % 8) ≤ 2 ^ 8 := Nat.pow_le_pow_right (by decide) (by omega)
        exact Nat.lt_of_le_of_lt (Nat.mul_le_mul (Nat.le_of_lt hp) this) (by decide)
      go_loopw [9] (fun i wr => ∃ k : Nat, k ≤ 3 ∧ a / 8 + k ≤ s.size ∧ i = .int .i64 ((a / 8 + k : Nat) : Int) ∧ BytesAt wr w.heap.size (Crc.part s.data.toList a p k) ∧ Below w.heap.size w wr)
        (fun i _ => s.size - (intOf i).toNat)
      case atStart => exact ⟨0, by omega, by omega, by go_num, by rw [Crc.part_zero]; exact bytesAt_conv w _ s, below_conv w _ s⟩
      case round =>
        obtain ⟨k, hk, hks, rfl, hB, hbel⟩ := hrel
        by_cases hlt : k < 3 ∧ a / 8 + k < s.size
        · have hlen : (Crc.part s.data.toList a p k).length = s.size := by simp [Crc.part_length]
          have hcell := hB.1 (a / 8 + k) (by omega)
          rw [Crc.part_here _ _ _ _ (by simpa using hlt.2)] at hcell
          have hfro := hB.2 (a / 8 + k) (by omega)
          obtain ⟨h3, hsz⟩ := hlt
          go_wp2
          all_goals
            go_region
            go_wp2
            go_roundw
            case rel => exact ⟨k + 1, by omega, by omega, by go_num, burst_round wr w.heap.size s.data.toList a p k hB h3 (by simpa using hsz) hW, (hbel.setCell (Nat.le_refl _) _).drew⟩
            case measure => simp [intOf]; omega
        · have hend : ¬ ((a : Int) / 8 + (k : Int) < if (s.size : Int) < (a : Int) / 8 + 3 then (s.size : Int) else (a : Int) / 8 + 3) := by split <;> omega
          have hcv2 := run_convert_bytes_arg (P := Try.prog) wr 33 5 (by kernel_rfl) (by kernel_rfl) w.heap.size 0 s.size (grownCap w s.size 0 5) ((Crc.part s.data.toList a p k).map fun c => (c.toNat : Int)) (by simp [Crc.part_length]) (fun i hi => by
            have h1 := hB.1 i (by simpa [Crc.part_length] using hi)
            have hi' : i < (Crc.part s.data.toList a p k).length := by simpa [Crc.part_length] using hi
            simp only [Nat.zero_add, h1, List.getD_eq_getElem?_getD, List.getElem?_map, List.getElem?_eq_getElem hi', Option.map_some, Option.getD_some]) 9 (by kernel_rfl)
          have hfin : Crc.burst s (a : Int) p = strOfNums ((Crc.part s.data.toList a p k).map fun c => (c.toNat : Int)) := by
            rw [strOfNums_bytes, Crc.burst, if_neg (by omega), Int.toNat_natCast, Crc.part_end _ a p k hk (by simp; omega)]
          have HF := Lib.hid hfin
          clear hfin
          go_wp2
          all_goals
            go_ret
            exact ⟨by rw [HF.out]; rfl, hbel⟩
end Go.Proofs.Ytpkgpffodkfncaa
