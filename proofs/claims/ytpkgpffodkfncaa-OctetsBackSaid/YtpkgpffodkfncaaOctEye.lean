/- The walks through an eye, and through the reference's. -/
import Derived.Test.YtpkgpffodkfncaaObj
import Derived.Test.YtpkgpffodkfncaaOctSpec
import Derived.RegionTactic
import Derived.BigRegion
import Derived.BigQuiet
import Derived.Deep.QuietTactic
import Derived.Lib.ConvBytes
namespace Go.Proofs.Ytpkgpffodkfncaa
open Go.RowKit
def EyeAt (w : World) (b : Nat) (s : ByteArray) (a : Nat) (bl : Bool) : Prop := ObjAt w b #[.string s, .int .i64 (a : Int), .bool bl] 85
set_option maxRecDepth 100000 in
theorem eyeTake_any (b : Nat) (s : ByteArray) (a : Nat) (bl : Bool) (n : Int) (hs : s.size ≤ maxLen) (ha : a ≤ s.size) (hn : -9223372036854775808 ≤ n ∧ n ≤ 9223372036854775807) (w : World) (h : EyeAt w b s a bl) :
    Calls Try.prog 32 #[.pointer (some ⟨b, 0, none⟩), .int .i64 n] w fun e w' =>
      e = .returned (.string (Oct.take s a bl n).1) ∧ EyeAt w' b s (Oct.take s a bl n).2.1 (Oct.take s a bl n).2.2 ∧ Keep (· = b) w w' := by
  unfold maxLen at hs
  have c0 : w.cell? ⟨b, 0, none⟩ = some (.string s) := h.cell 0
  have c1 : w.cell? ⟨b, 1, none⟩ = some (.int .i64 (a : Int)) := h.cell 1
  have c2 : w.cell? ⟨b, 2, none⟩ = some (.bool bl) := h.cell 2
  have f1 : w.frozen? ⟨b, 1, none⟩ = false := h.free 1
  have f2 : w.frozen? ⟨b, 2, none⟩ = false := h.free 2
  have keep : ∀ (v : Value), Keep (· = b) w (w.setCell ⟨b, 2, none⟩ v).drew := fun v => ((Keep.refl (· = b) w).here 2 v).drew
  cases bl with
  | true =>
    have hf : Oct.take s a true n = (⟨#[]⟩, a, true) := by simp [Oct.take]
    have HF := Lib.hid hf
    clear hf
    go_enter Try.func32, Try.ntmps32
    go_wp2
    go_region
    go_wp2
    go_ret
    exact ⟨by rw [HF.out]; rfl, by rw [HF.out]; exact (h.set 2 (.bool true)).drew, keep _⟩
  | false =>
    by_cases hneg : n < 0
    · have hf : Oct.take s a false n = (⟨#[]⟩, a, true) := by simp [Oct.take, hneg]
      have HF := Lib.hid hf
      clear hf
      have hd : decide (n < 0) = true := by simpa using hneg
      go_enter Try.func32, Try.ntmps32
      go_wp2
      go_region
      go_wp2
      go_ret
      exact ⟨by rw [HF.out]; rfl, by rw [HF.out]; exact (h.set 2 (.bool true)).drew, keep _⟩
    · have hd : decide (n < 0) = false := by simpa using hneg
      by_cases hlong : (s.size : Int) - a < n
      · have hf : Oct.take s a false n = (⟨#[]⟩, a, true) := by simp [Oct.take, hlong]
        have HF := Lib.hid hf
        clear hf
        have hd2 : decide ((s.size : Int) - a < n) = true := by simpa using hlong
        go_enter Try.func32, Try.ntmps32
        go_wp2
        go_region
        go_wp2
        go_ret
        exact ⟨by rw [HF.out]; rfl, by rw [HF.out]; exact (h.set 2 (.bool true)).drew, keep _⟩
      · obtain ⟨k, rfl⟩ := Int.eq_ofNat_of_zero_le (Int.not_lt.1 hneg)
        have hf : Oct.take s a false (k : Int) = (s.extract a (a + k), a + k, false) := by
          rw [Oct.take, if_neg (by simp; omega), Int.toNat_natCast]
        have HF := Lib.hid hf
        clear hf
        have hd2 : decide ((s.size : Int) - a < (k : Int)) = false := by simpa using hlong
        go_enter Try.func32, Try.ntmps32
        go_wp2
        go_region
        go_wp2
        have hw1 : IntKind.i64.wrap (a : Int) = (a : Int) := IntWalk.i64_in _ (by omega)
        have ht1 : ((a : Int) + (k : Int)).toNat = a + k := by omega
        have hle : (a : Int) ≤ (a : Int) + (k : Int) := by omega
        have hle2 : (a : Int) + (k : Int) ≤ (s.size : Int) := by omega
        go_region
        clear hw1 ht1 hle hle2
        go_wp2
        go_ret
        exact ⟨by rw [HF.out]; rfl, by rw [HF.out]; exact (((h.set 2 (.bool false)).set 1 (.int .i64 ((a : Int) + (k : Int)))).drew).drew, (((Keep.refl (· = b) w).here 2 _).here 1 _).drew.drew⟩
theorem keep_conv (w : World) (e : TypeId) (s : ByteArray) (S : Nat → Prop) : Keep S w (Lib.bytesWorld w e s) :=
  ⟨by simp [Lib.bytesWorld, World.freeze, World.alloc, World.drew, -World.alloc_eq, -World.drew_eq],
    by simp [Lib.bytesWorld, World.freeze, World.alloc, World.drew, -World.alloc_eq, -World.drew_eq],
    by simp [Lib.bytesWorld, World.freeze, World.alloc, World.drew, -World.alloc_eq, -World.drew_eq],
    by rw [Lib.bytesWorld_size]; omega, fun k hk _ => Lib.bytesWorld_at_old w e s k hk⟩
theorem take_size (s : ByteArray) (a : Nat) (bl : Bool) (n : Int) (h : a ≤ s.size) : (Oct.take s a bl n).1.size ≤ s.size := by
  unfold Oct.take
  split
  · exact Nat.zero_le _
  · rw [ByteArray.size_extract]; omega
set_option maxRecDepth 100000 in
theorem eyeNumber_any (b : Nat) (s : ByteArray) (a : Nat) (bl : Bool) (n : Int) (hs : s.size ≤ maxLen) (ha : a ≤ s.size) (hn : -9223372036854775808 ≤ n ∧ n ≤ 9223372036854775807) (w : World) (h : EyeAt w b s a bl) :
    Calls Try.prog 64 #[.pointer (some ⟨b, 0, none⟩), .int .i64 n] w fun e w' =>
      e = .returned (.int .u32 (Oct.num (Oct.take s a bl n).1.data.toList : Nat)) ∧ EyeAt w' b s (Oct.take s a bl n).2.1 (Oct.take s a bl n).2.2 ∧ Keep (· = b) w w' := by
  have hts := take_size s a bl n ha
  go_enter Try.func64, Try.ntmps64
  go_wp2_with fail
  refine (eyeTake_any b s a bl n hs ha hn w h).mono ?_
  rintro e w1 ⟨rfl, hE, hK⟩
  unfold maxLen at hs
  rcases hT : Oct.take s a bl n with ⟨t, a2, bl2⟩
  rw [hT] at hts hE
  simp only at hts hE
  have HT := Lib.hid hT
  clear hT
  have hcv := @Lib.run_convert_string_bytes Try.prog w1 9 33 5 t .string (by kernel_rfl) (by kernel_rfl) (by kernel_rfl)
  have hK2 : Keep (· = b) w (Lib.bytesWorld w1 5 t) := hK.trans (keep_conv w1 _ t _)
  have hE2 : EyeAt (Lib.bytesWorld w1 5 t) b s a2 bl2 := (Lib.bytesWorld_at_old w1 _ t b hE.lt).trans hE
  have hcell := Lib.bytesWorld_cell w1 5 t
  go_wp2
  generalize Lib.bytesWorld w1 5 t = W at *
  clear hcv
  go_loop [5, 13] (fun x i => ∃ k : Nat, k ≤ t.size ∧ i = .int .i64 (k : Int) ∧ x = .int .u32 (Oct.num (t.data.toList.take k) : Nat)) (fun _ i => t.size - (intOf i).toNat)
  case atStart => exact ⟨0, Nat.zero_le _, rfl, rfl⟩
  case round =>
    obtain ⟨k, hk, rfl, rfl⟩ := hrel
    have hm := Oct.num_lt (t.data.toList.take k)
    generalize hM : Oct.num (t.data.toList.take k) = m at *
    have HM := Lib.hid hM
    clear hM
    by_cases hlt : k < t.size
    · have hc := hcell k hlt
      have hcl := UInt8.toNat_lt t[k]
      have hg : t.data.toList.getD k 0 = t[k] := by simp [List.getD_eq_getElem?_getD, hlt]; rfl
      rw [hg] at hc
      have hor := Oct.or_low m t[k].toNat hcl
      clear hg
      go_wp2
      go_round
      case rel => exact ⟨k + 1, hlt, by go_num, by rw [take_snoc t k hlt, Oct.num_snoc, HM.out]; exact congrArg _ (Oct.or_low2 m t[k].toNat hcl)⟩
      case measure => simp [intOf]; omega
    · go_wp2
      go_ret
      rw [HT.out]
      exact ⟨ret_int (by rw [← HM.out, List.take_of_length_le (by simp; omega)]), hE2, hK2⟩
end Go.Proofs.Ytpkgpffodkfncaa
