/- The walks through an eye's other reads, and through the reference's eye. -/
import Derived.Test.YtpkgpffodkfncaaOctEye
namespace Go.Proofs.Ytpkgpffodkfncaa
open Go.RowKit
set_option maxRecDepth 100000 in
theorem eyeByte_any (b : Nat) (s : ByteArray) (a : Nat) (bl : Bool) (hs : s.size ≤ maxLen) (ha : a ≤ s.size) (w : World) (h : EyeAt w b s a bl) :
    Calls Try.prog 28 #[.pointer (some ⟨b, 0, none⟩)] w fun e w' =>
      e = .returned (.int .u8 (Oct.num (Oct.take s a bl 1).1.data.toList % 256 : Nat)) ∧ EyeAt w' b s (Oct.take s a bl 1).2.1 (Oct.take s a bl 1).2.2 ∧ Keep (· = b) w w' := by
  have hl := Oct.num_lt (Oct.take s a bl 1).1.data.toList
  go_enter Try.func28, Try.ntmps28
  go_wp2_with fail
  refine (eyeNumber_any b s a bl 1 hs ha (by omega) w h).mono ?_
  rintro e w1 ⟨rfl, hE, hK⟩
  go_wp2
  go_ret
  exact ⟨rfl, hE, hK⟩
set_option maxRecDepth 100000 in
theorem eyeTwo_any (b : Nat) (s : ByteArray) (a : Nat) (bl : Bool) (hs : s.size ≤ maxLen) (ha : a ≤ s.size) (w : World) (h : EyeAt w b s a bl) :
    Calls Try.prog 30 #[.pointer (some ⟨b, 0, none⟩)] w fun e w' =>
      e = .returned (.int .u16 (Oct.num (Oct.take s a bl 2).1.data.toList % 65536 : Nat)) ∧ EyeAt w' b s (Oct.take s a bl 2).2.1 (Oct.take s a bl 2).2.2 ∧ Keep (· = b) w w' := by
  have hl := Oct.num_lt (Oct.take s a bl 2).1.data.toList
  go_enter Try.func30, Try.ntmps30
  go_wp2_with fail
  refine (eyeNumber_any b s a bl 2 hs ha (by omega) w h).mono ?_
  rintro e w1 ⟨rfl, hE, hK⟩
  go_wp2
  go_ret
  exact ⟨ret_int (by rw [IntKind.wrap_u16]; omega), hE, hK⟩
set_option maxRecDepth 100000 in
theorem eyeFour_any (b : Nat) (s : ByteArray) (a : Nat) (bl : Bool) (hs : s.size ≤ maxLen) (ha : a ≤ s.size) (w : World) (h : EyeAt w b s a bl) :
    Calls Try.prog 31 #[.pointer (some ⟨b, 0, none⟩)] w fun e w' =>
      e = .returned (.int .u32 (Oct.num (Oct.take s a bl 4).1.data.toList : Nat)) ∧ EyeAt w' b s (Oct.take s a bl 4).2.1 (Oct.take s a bl 4).2.2 ∧ Keep (· = b) w w' := by
  go_enter Try.func31, Try.ntmps31
  go_wp2_with fail
  refine (eyeNumber_any b s a bl 4 hs ha (by omega) w h).mono ?_
  rintro e w1 ⟨rfl, hE, hK⟩
  go_wp2
  go_ret
  exact ⟨rfl, hE, hK⟩
set_option maxRecDepth 100000 in
theorem eyeSmall_any (b : Nat) (s : ByteArray) (a : Nat) (bl : Bool) (hs : s.size ≤ maxLen) (ha : a ≤ s.size) (w : World) (h : EyeAt w b s a bl) :
    Calls Try.prog 34 #[.pointer (some ⟨b, 0, none⟩)] w fun e w' =>
      e = .returned (.string (Oct.small s a bl).1) ∧ EyeAt w' b s (Oct.small s a bl).2.1 (Oct.small s a bl).2.2 ∧ Keep (· = b) w w' := by
  have hle := Oct.take_le s a bl 1 ha
  go_enter Try.func34, Try.ntmps34
  go_wp2_with fail
  refine (eyeByte_any b s a bl hs ha w h).mono ?_
  rintro e w1 ⟨rfl, hE, hK⟩
  have hm : Oct.num (Oct.take s a bl 1).1.data.toList % 256 < 256 := Nat.mod_lt _ (by decide)
  go_wp2_with fail
  refine (eyeTake_any b s _ _ _ hs hle (by omega) w1 hE).mono ?_
  rintro e w2 ⟨rfl, hE2, hK2⟩
  go_wp2
  go_ret
  exact ⟨rfl, hE2, hK.trans hK2⟩
set_option maxRecDepth 100000 in
theorem eyeBlind_any (b : Nat) (s : ByteArray) (a : Nat) (bl : Bool) (w : World) (h : EyeAt w b s a bl) :
    Calls Try.prog 36 #[.pointer (some ⟨b, 0, none⟩)] w fun e w' => e = .returned (.bool bl) ∧ w = w' := by
  have c2 : w.cell? ⟨b, 2, none⟩ = some (.bool bl) := h.cell 2
  go_enter Try.func36, Try.ntmps36
  go_wp2
  go_ret
  exact ⟨rfl, rfl⟩
set_option maxRecDepth 100000 in
theorem eyeLeft_any (b : Nat) (s : ByteArray) (a : Nat) (bl : Bool) (hs : s.size ≤ maxLen) (ha : a ≤ s.size) (w : World) (h : EyeAt w b s a bl) :
    Calls Try.prog 37 #[.pointer (some ⟨b, 0, none⟩)] w fun e w' => e = .returned (.int .i64 (if bl = true then 0 else (s.size : Int) - a)) ∧ ∃ n, w' = w.drewN n := by
  have c0 : w.cell? ⟨b, 0, none⟩ = some (.string s) := h.cell 0
  have c1 : w.cell? ⟨b, 1, none⟩ = some (.int .i64 (a : Int)) := h.cell 1
  unfold maxLen at hs
  cases bl with
  | true =>
    go_enter Try.func37, Try.ntmps37
    go_wp2_with fail
    refine (eyeBlind_any b s a true w h).mono ?_
    rintro e w' ⟨rfl, rfl⟩
    go_wp2
    go_ret
    exact ⟨rfl, 0, rfl⟩
  | false =>
    go_enter Try.func37, Try.ntmps37
    go_wp2_with fail
    refine (eyeBlind_any b s a false w h).mono ?_
    rintro e w' ⟨rfl, rfl⟩
    go_wp2
    go_region
    go_wp2
    go_ret
    exact ⟨rfl, 1, rfl⟩
set_option maxRecDepth 100000 in
theorem eyeDone_any (b : Nat) (s : ByteArray) (a : Nat) (bl : Bool) (hs : s.size ≤ maxLen) (ha : a ≤ s.size) (w : World) (h : EyeAt w b s a bl) :
    Calls Try.prog 38 #[.pointer (some ⟨b, 0, none⟩)] w fun e w' => e = .returned (.bool (!bl && decide (s.size = a))) ∧ ∃ n, w' = w.drewN n := by
  cases bl with
  | true =>
    go_enter Try.func38, Try.ntmps38
    go_wp2_with fail
    refine (eyeBlind_any b s a true w h).mono ?_
    rintro e w' ⟨rfl, rfl⟩
    go_wp2
    go_ret
    exact ⟨rfl, 0, rfl⟩
  | false =>
    have hb : (((s.size : Int) - a) == 0) = decide (s.size = a) := by
      rw [Bool.eq_iff_iff, beq_iff_eq, decide_eq_true_eq]
      omega
    have HB := Lib.hid hb
    clear hb
    go_enter Try.func38, Try.ntmps38
    go_wp2_with fail
    refine (eyeBlind_any b s a false w h).mono ?_
    rintro e w' ⟨rfl, rfl⟩
    go_wp2_with fail
    refine (eyeLeft_any b s a false hs ha w h).mono ?_
    rintro e w' ⟨rfl, n, rfl⟩
    go_wp2
    go_ret
    exact ⟨ret_bool (by simp; exact HB.out), n, rfl⟩
set_option maxRecDepth 100000 in
theorem newEye_any (s : ByteArray) (w : World) :
    Calls Try.prog 27 #[.string s] w fun e w' => e = .returned (.pointer (some ⟨w.heap.size, 0, none⟩)) ∧ w' = w.alloc (.cells #[.string s, .int .i64 0, .bool false] 85) := by
  go_enter Try.func27, Try.ntmps27
  go_wp2
  go_ret
  exact ⟨rfl, rfl⟩
/-! ### The reference's eye: what is left of the text -/
def ReyeAt (w : World) (b : Nat) (s : ByteArray) (lost : Bool) : Prop := ObjAt w b #[.string s, .bool lost] 42
set_option maxRecDepth 100000 in
theorem reyeTake_any (b : Nat) (s : ByteArray) (lost : Bool) (n : Int) (hs : s.size ≤ maxLen) (w : World) (h : ReyeAt w b s lost) :
    Calls Try.prog 33 #[.pointer (some ⟨b, 0, none⟩), .int .i64 n] w fun e w' =>
      e = .returned (.string (Oct.rtake s lost n).1) ∧ ReyeAt w' b (Oct.rtake s lost n).2.1 (Oct.rtake s lost n).2.2 ∧ Keep (· = b) w w' := by
  unfold maxLen at hs
  have c0 : w.cell? ⟨b, 0, none⟩ = some (.string s) := h.cell 0
  have c1 : w.cell? ⟨b, 1, none⟩ = some (.bool lost) := h.cell 1
  have f0 : w.frozen? ⟨b, 0, none⟩ = false := h.free 0
  have f1 : w.frozen? ⟨b, 1, none⟩ = false := h.free 1
  cases lost with
  | true =>
    have hf : Oct.rtake s true n = (⟨#[]⟩, s, true) := by simp [Oct.rtake]
    have HF := Lib.hid hf
    clear hf
    go_enter Try.func33, Try.ntmps33
    go_wp2
    go_ret
    exact ⟨by rw [HF.out]; rfl, by rw [HF.out]; exact h.set 1 (.bool true), (Keep.refl (· = b) w).here 1 _⟩
  | false =>
    by_cases hneg : n < 0
    · have hf : Oct.rtake s false n = (⟨#[]⟩, s, true) := by simp [Oct.rtake, hneg]
      have HF := Lib.hid hf
      clear hf
      have hd : decide (n < 0) = true := by simpa using hneg
      go_enter Try.func33, Try.ntmps33
      go_wp2
      go_ret
      exact ⟨by rw [HF.out]; rfl, by rw [HF.out]; exact h.set 1 (.bool true), (Keep.refl (· = b) w).here 1 _⟩
    · have hd : decide (n < 0) = false := by simpa using hneg
      by_cases hlong : (s.size : Int) < n
      · have hf : Oct.rtake s false n = (⟨#[]⟩, s, true) := by simp [Oct.rtake, hlong]
        have HF := Lib.hid hf
        clear hf
        have hd2 : decide ((s.size : Int) < n) = true := by simpa using hlong
        go_enter Try.func33, Try.ntmps33
        go_wp2
        go_ret
        exact ⟨by rw [HF.out]; rfl, by rw [HF.out]; exact h.set 1 (.bool true), (Keep.refl (· = b) w).here 1 _⟩
      · obtain ⟨k, rfl⟩ := Int.eq_ofNat_of_zero_le (Int.not_lt.1 hneg)
        have hf : Oct.rtake s false (k : Int) = (s.extract 0 k, s.extract k s.size, false) := by
          rw [Oct.rtake, if_neg (by simp; omega), Int.toNat_natCast]
        have HF := Lib.hid hf
        clear hf
        have hd2 : decide ((s.size : Int) < (k : Int)) = false := by simpa using hlong
        have hle2 : (k : Int) ≤ (s.size : Int) := by omega
        go_enter Try.func33, Try.ntmps33
        go_wp2
        go_ret
        exact ⟨by rw [HF.out]; rfl, by rw [HF.out]; exact h.set 0 _, (Keep.refl (· = b) w).here 0 _⟩
set_option maxRecDepth 100000 in
theorem reyeNumber_any (b : Nat) (s : ByteArray) (lost : Bool) (n : Int) (hs : s.size ≤ maxLen) (w : World) (h : ReyeAt w b s lost) :
    Calls Try.prog 29 #[.pointer (some ⟨b, 0, none⟩), .int .i64 n] w fun e w' =>
      e = .returned (.int .u32 (Oct.num (Oct.rtake s lost n).1.data.toList : Nat)) ∧ ReyeAt w' b (Oct.rtake s lost n).2.1 (Oct.rtake s lost n).2.2 ∧ Keep (· = b) w w' := by
  have hts := Oct.rtake_size s lost n
  go_enter Try.func29, Try.ntmps29
  go_wp2_with fail
  refine (reyeTake_any b s lost n hs w h).mono ?_
  rintro e W ⟨rfl, hE, hK⟩
  unfold maxLen at hs
  rcases hT : Oct.rtake s lost n with ⟨t, s2, lost2⟩
  rw [hT] at hts hE
  simp only at hts hE
  have HT := Lib.hid hT
  clear hT
  go_wp2
  go_loop [6, 7] (fun x i => ∃ k : Nat, k ≤ t.size ∧ i = .int .i64 (k : Int) ∧ x = .int .u32 (Oct.num (t.data.toList.take k) : Nat)) (fun _ i => t.size - (intOf i).toNat)
  case atStart => exact ⟨0, Nat.zero_le _, rfl, rfl⟩
  case round =>
    obtain ⟨k, hk, rfl, rfl⟩ := hrel
    have hm := Oct.num_lt (t.data.toList.take k)
    generalize hM : Oct.num (t.data.toList.take k) = m at *
    have HM := Lib.hid hM
    clear hM
    by_cases hlt : k < t.size
    · have hcl := UInt8.toNat_lt t[k]
      go_wp2
      go_round
      case rel => exact ⟨k + 1, hlt, by go_num, by rw [take_snoc t k hlt, Oct.num_snoc, HM.out, show (m : Int) * 256 % 4294967296 + (t[k].toNat : Int) = (((m * 256 + t[k].toNat) % 4294967296 : Nat) : Int) from by omega]⟩
      case measure => simp [intOf]; omega
    · go_wp2
      go_ret
      rw [HT.out]
      exact ⟨ret_int (by rw [← HM.out, List.take_of_length_le (by simp; omega)]), hE, hK⟩
set_option maxRecDepth 100000 in
theorem reyeSmall_any (b : Nat) (s : ByteArray) (lost : Bool) (hs : s.size ≤ maxLen) (w : World) (h : ReyeAt w b s lost) :
    Calls Try.prog 35 #[.pointer (some ⟨b, 0, none⟩)] w fun e w' =>
      e = .returned (.string (Oct.rsmall s lost).1) ∧ ReyeAt w' b (Oct.rsmall s lost).2.1 (Oct.rsmall s lost).2.2 ∧ Keep (· = b) w w' := by
  have hn := Oct.num_lt (Oct.rtake s lost 1).1.data.toList
  have hle := Oct.rtake_left s lost 1
  go_enter Try.func35, Try.ntmps35
  go_wp2_with fail
  refine (reyeNumber_any b s lost 1 hs w h).mono ?_
  rintro e w1 ⟨rfl, hE, hK⟩
  go_wp2_with fail
  refine (reyeTake_any b _ _ _ (Nat.le_trans hle hs) w1 hE).mono ?_
  rintro e w2 ⟨rfl, hE2, hK2⟩
  go_wp2
  go_ret
  exact ⟨rfl, hE2, hK.trans hK2⟩
end Go.Proofs.Ytpkgpffodkfncaa
