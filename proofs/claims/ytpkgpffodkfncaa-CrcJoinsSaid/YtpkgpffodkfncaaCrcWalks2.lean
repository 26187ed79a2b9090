/- The walks through package crc, and through its reference: sums, seals. -/
import Derived.Test.YtpkgpffodkfncaaCrcWalks
import Derived.Laws.BytesArg
namespace Go.Proofs.Ytpkgpffodkfncaa
open Go.RowKit
set_option maxRecDepth 100000 in
theorem sum_any (s : ByteArray) (hs : s.size ≤ maxLen) (w : World) :
    Calls Try.prog 15 #[.string s] w fun e w' => e = .returned (.int .u16 (Crc.more 65535 s.data.toList : Nat)) ∧ w = w' := by
  go_enter Try.func15, Try.ntmps15
  go_wp2_with fail
  refine (more_any 65535 (by decide) s hs w).mono ?_
  rintro e w' ⟨rfl, rfl⟩
  go_wp2
  go_ret
  exact ⟨rfl, rfl⟩
set_option maxRecDepth 100000 in
theorem rsum_any (s : ByteArray) (hs : s.size ≤ maxLen) (w : World) :
    Calls Try.prog 16 #[.string s] w fun e w' => e = .returned (.int .u16 (Crc.rmore 65535 s.data.toList : Nat)) ∧ w = w' := by
  go_enter Try.func16, Try.ntmps16
  go_wp2_with fail
  refine (rmore_any 65535 (by decide) s hs w).mono ?_
  rintro e w' ⟨rfl, rfl⟩
  go_wp2
  go_ret
  exact ⟨rfl, rfl⟩
theorem lit2_string (w : World) (x y : Int) :
    (convert 33 9 (.slice (some ⟨w.heap.size, 0, none⟩) 2 2)).run Try.prog (w.alloc (.cells #[.int .u8 x, .int .u8 y] 5)) = .ok (.string (strOfNums [x, y])) (w.alloc (.cells #[.int .u8 x, .int .u8 y] 5)) :=
  run_convert_bytes_arg _ _ 5 (by kernel_rfl) (by kernel_rfl) _ 0 2 2 [x, y] rfl (fun i hi => by
    match i, hi with
    | 0, _ => simp [World.cell?, World.alloc, -World.alloc_eq]
    | 1, _ => simp [World.cell?, World.alloc, -World.alloc_eq]) _ (by kernel_rfl)
set_option maxRecDepth 100000 in
theorem sealed_any (s : ByteArray) (hs : s.size + 2 ≤ maxLen) (w : World) :
    Calls Try.prog 19 #[.string s] w fun e w' => e = .returned (.string (Crc.sealed s)) ∧ Below w.heap.size w w' := by
  have hm := Crc.more_lt 65535 (by decide) s.data.toList
  unfold maxLen at hs
  have hl := lit2_string w
  go_enter Try.func19, Try.ntmps19
  go_wp2_with fail
  refine (sum_any s (by unfold maxLen; omega) w).mono ?_
  rintro e w' ⟨rfl, rfl⟩
  have hz : ∀ x y : Int, (strOfNums [x, y]).size = 2 := fun x y => rfl
  go_wp2
  go_ret
  exact ⟨rfl, (Below.refl _ _).alloc (Nat.le_refl _) _⟩
set_option maxRecDepth 100000 in
theorem open_any (s : ByteArray) (hs : s.size ≤ maxLen) (w : World) :
    Calls Try.prog 20 #[.string s] w fun e w' => e = .returned (.tuple #[.string (Crc.opened s).1, .bool (Crc.opened s).2]) ∧ w = w' := by
  have hm := Crc.more_lt 65535 (by decide) s.data.toList
  unfold maxLen at hs
  by_cases h2 : s.size < 2
  · have hf := Lib.hid (Crc.opened_short s h2)
    go_enter Try.func20, Try.ntmps20
    go_wp2
    go_ret2
    exact ⟨by rw [hf.out]; rfl, rfl⟩
  · by_cases hz : Crc.more 65535 s.data.toList = 0
    · have hf := Lib.hid (Crc.opened_yes s h2 hz)
      have hb : ((Crc.more 65535 s.data.toList : Nat) != (0 : Int)) = false := by simp [hz]
      clear hz
      go_enter Try.func20, Try.ntmps20
      go_wp2_with fail
      refine (sum_any s (by unfold maxLen; omega) w).mono ?_
      rintro e w' ⟨rfl, rfl⟩
      go_wp2
      go_ret2
      exact ⟨by rw [hf.out]; rfl, rfl⟩
    · have hf := Lib.hid (Crc.opened_no s hz)
      have hb : ((Crc.more 65535 s.data.toList : Nat) != (0 : Int)) = true := by simp; omega
      clear hz
      go_enter Try.func20, Try.ntmps20
      go_wp2_with fail
      refine (sum_any s (by unfold maxLen; omega) w).mono ?_
      rintro e w' ⟨rfl, rfl⟩
      go_wp2
      go_ret2
      exact ⟨by rw [hf.out]; rfl, rfl⟩
theorem two_eq (n : Nat) (h : n < 65536) : strOfNums [(n : Int) / 256, (n : Int) % 256] = Crc.two n := rfl
set_option maxRecDepth 100000 in
theorem rsealed_any (s : ByteArray) (hs : s.size + 2 ≤ maxLen) (w : World) :
    Calls Try.prog 21 #[.string s] w fun e w' => e = .returned (.string (Crc.rsealed s)) ∧ Below w.heap.size w w' := by
  have hm := Crc.rmore_lt 65535 (by decide) s.data.toList
  unfold maxLen at hs
  have hl := lit2_string w
  go_enter Try.func21, Try.ntmps21
  go_wp2_with fail
  refine (rsum_any s (by unfold maxLen; omega) w).mono ?_
  rintro e w' ⟨rfl, rfl⟩
  have hz : ∀ x y : Int, (strOfNums [x, y]).size = 2 := fun x y => rfl
  go_wp2
  go_ret
  exact ⟨rfl, (Below.refl _ _).alloc (Nat.le_refl _) _⟩
theorem more_int (a : Int) (h0 : 0 ≤ a) (h1 : a ≤ 65535) (s : ByteArray) (hs : s.size ≤ maxLen) (w : World) :
    Calls Try.prog 17 #[.int .u16 a, .string s] w fun e w' => e = .returned (.int .u16 (Crc.more a.toNat s.data.toList : Nat)) ∧ w = w' := by
  obtain ⟨n, rfl⟩ := Int.eq_ofNat_of_zero_le h0
  exact more_any n (by omega) s hs w
end Go.Proofs.Ytpkgpffodkfncaa
