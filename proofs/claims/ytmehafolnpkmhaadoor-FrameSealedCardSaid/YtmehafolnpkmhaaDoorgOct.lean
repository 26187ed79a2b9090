/- Pens and eyes: plain functions and walks. -/
import Derived.Laws.BitsAllLaws
import Derived.IntWalk
import Derived.Test.YtmehafolnpkmhaaDoorgBase
import Derived.RegionTactic
import Derived.BigRegion
import Derived.BigQuiet
import Derived.Deep.QuietTactic
import Derived.Lib.ConvBytes
import Derived.Lib.AppendStr
import Derived.Laws.BytesArg
/-! Plain functions: pens and eyes. -/
section
namespace Go.Proofs.YtmehafolnpkmhaaDoor.Oct
/-- What is taken; where it stands then; is it blind. -/
def take (s : ByteArray) (a : Nat) (bl : Bool) (n : Int) : ByteArray × Nat × Bool :=
  if bl = true ∨ n < 0 ∨ (s.size : Int) - a < n then (⟨#[]⟩, a, true) else (s.extract a (a + n.toNat), a + n.toNat, false)
def num (l : List UInt8) : Nat := l.foldl (fun n c => (n * 256 + c.toNat) % 4294967296) 0
theorem num_lt (l : List UInt8) : num l < 4294967296 := by
  unfold num
  generalize h0 : (0 : Nat) = z
  have hz : z < 4294967296 := by omega
  clear h0
  induction l generalizing z with
  | nil => exact hz
  | cons c l ih => exact ih _ (Nat.mod_lt _ (by decide))
theorem num_snoc (l : List UInt8) (c : UInt8) : num (l ++ [c]) = (num l * 256 + c.toNat) % 4294967296 := by simp [num]
theorem take_le (s : ByteArray) (a : Nat) (bl : Bool) (n : Int) (h : a ≤ s.size) : (take s a bl n).2.1 ≤ s.size := by
  unfold take
  split
  · exact h
  · dsimp only; omega
/-- A byte with a length, and so many bytes. -/
def small (s : ByteArray) (a : Nat) (bl : Bool) : ByteArray × Nat × Bool :=
  take s (take s a bl 1).2.1 (take s a bl 1).2.2 ((num (take s a bl 1).1.data.toList % 256 : Nat) : Int)
/-- The reference's: what is taken; what is left; is it lost. -/
def rtake (s : ByteArray) (lost : Bool) (n : Int) : ByteArray × ByteArray × Bool :=
  if lost = true ∨ n < 0 ∨ (s.size : Int) < n then (⟨#[]⟩, s, true) else (s.extract 0 n.toNat, s.extract n.toNat s.size, false)
theorem rtake_size (s : ByteArray) (lost : Bool) (n : Int) : (rtake s lost n).1.size ≤ s.size := by
  unfold rtake
  split
  · exact Nat.zero_le _
  · rw [ByteArray.size_extract]; omega
theorem rtake_left (s : ByteArray) (lost : Bool) (n : Int) : (rtake s lost n).2.1.size ≤ s.size := by
  unfold rtake
  split
  · exact Nat.le_refl _
  · rw [ByteArray.size_extract]; omega
def rsmall (s : ByteArray) (lost : Bool) : ByteArray × ByteArray × Bool :=
  rtake (rtake s lost 1).2.1 (rtake s lost 1).2.2 ((num (rtake s lost 1).1.data.toList : Nat) : Int)
/-- A number's lowest k bytes, the highest one first. -/
def bts (n : Nat) : Nat → List UInt8
  | 0 => []
  | k + 1 => UInt8.ofNat (n / 256 ^ k % 256) :: bts n k
theorem bts_length (n k : Nat) : (bts n k).length = k := by
  induction k with
  | zero => rfl
  | succ k ih => simp [bts, ih]
theorem or_low (n c : Nat) (hc : c < 256) : bits .or .u32 ((n : Int) * 256 % 4294967296) (c : Int) = (((n * 256 + c) % 4294967296 : Nat) : Int) := by
  have := bits_join .u32 32 (by decide) (fun n h0 h1 => by rw [IntKind.wrap_u32]; omega) 8 ((n : Int) * 256 % 4294967296) (c : Int) (by omega) (by omega) (by omega) (by omega) (by omega) (by omega)
  rw [this]
  omega
theorem or_low2 (n c : Nat) (hc : c < 256) : bits .or .u32 ((n : Int) * 256 % 4294967296) ((c : Int) % 4294967296) = (((n * 256 + c) % 4294967296 : Nat) : Int) := by
  rw [show (c : Int) % 4294967296 = (c : Int) from by omega]
  exact or_low n c hc
end Go.Proofs.YtmehafolnpkmhaaDoor.Oct
end
/-! The walks through an eye, and through the reference's. -/
section
namespace Go.Proofs.YtmehafolnpkmhaaDoor
open Go.RowKit
def EyeAt (w : World) (b : Nat) (s : ByteArray) (a : Nat) (bl : Bool) : Prop := ObjAt w b #[.string s, .int .i64 (a : Int), .bool bl] 124
set_option maxRecDepth 100000 in
theorem eyeTake_any (b : Nat) (s : ByteArray) (a : Nat) (bl : Bool) (n : Int) (hs : s.size ≤ maxLen) (ha : a ≤ s.size) (hn : -9223372036854775808 ≤ n ∧ n ≤ 9223372036854775807) (w : World) (h : EyeAt w b s a bl) :
    Calls Tryd.prog 94 #[.pointer (some ⟨b, 0, none⟩), .int .i64 n] w fun e w' =>
      e = .returned (.string (Oct.take s a bl n).1) ∧ EyeAt w' b s (Oct.take s a bl n).2.1 (Oct.take s a bl n).2.2 ∧ Keep (· = b) w w' := by
  unfold maxLen at hs
  have c0 : w.cell? ⟨b, 0, none⟩ = some (.string s) := h.cell 0
  have c1 : w.cell? ⟨b, 1, none⟩ = some (.int .i64 (a : Int)) := h.cell 1
  have c2 : w.cell? ⟨b, 2, none⟩ = some (.bool bl) := h.cell 2
  have f1 : w.frozen? ⟨b, 1, none⟩ = false := h.free 1
  have f2 : w.frozen? ⟨b, 2, none⟩ = false := h.free 2
  have keep : ∀ (v : Value), Keep (· = b) w (w.setCell ⟨b, 2, none⟩ v).drew := fun v => ((Keep.refl (· = b) w).here 2 v).drew
  cases bl with
  | true =>
    have hf : Oct.take s a true n = (⟨#[]⟩, a, true) := by simp [Oct.take]
    have HF := Lib.hid hf
    clear hf
    go_enter Tryd.func94, Tryd.ntmps94
    go_wp2
    go_region
    go_wp2
    go_ret
    exact ⟨by rw [HF.out]; rfl, by rw [HF.out]; exact (h.set 2 (.bool true)).drew, keep _⟩
  | false =>
    by_cases hneg : n < 0
    · have hf : Oct.take s a false n = (⟨#[]⟩, a, true) := by simp [Oct.take, hneg]
      have HF := Lib.hid hf
      clear hf
      have hd : decide (n < 0) = true := by simpa using hneg
      go_enter Tryd.func94, Tryd.ntmps94
      go_wp2
      go_region
      go_wp2
      go_ret
      exact ⟨by rw [HF.out]; rfl, by rw [HF.out]; exact (h.set 2 (.bool true)).drew, keep _⟩
    · have hd : decide (n < 0) = false := by simpa using hneg
      by_cases hlong : (s.size : Int) - a < n
      · have hf : Oct.take s a false n = (⟨#[]⟩, a, true) := by simp [Oct.take, hlong]
        have HF := Lib.hid hf
        clear hf
        have hd2 : decide ((s.size : Int) - a < n) = true := by simpa using hlong
        go_enter Tryd.func94, Tryd.ntmps94
        go_wp2
        go_region
        go_wp2
        go_ret
        exact ⟨by rw [HF.out]; rfl, by rw [HF.out]; exact (h.set 2 (.bool true)).drew, keep _⟩
      · obtain ⟨k, rfl⟩ := Int.eq_ofNat_of_zero_le (Int.not_lt.1 hneg)
        have hf : Oct.take s a false (k : Int) = (s.extract a (a + k), a + k, false) := by
          rw [Oct.take, if_neg (by simp; omega), Int.toNat_natCast]
        have HF := Lib.hid hf
        clear hf
        have hd2 : decide ((s.size : Int) - a < (k : Int)) = false := by simpa using hlong
        go_enter Tryd.func94, Tryd.ntmps94
        go_wp2
        go_region
        go_wp2
        have hw1 : IntKind.i64.wrap (a : Int) = (a : Int) := IntWalk.i64_in _ (by omega)
        have ht1 : ((a : Int) + (k : Int)).toNat = a + k := by omega
        have hle : (a : Int) ≤ (a : Int) + (k : Int) := by omega
        have hle2 : (a : Int) + (k : Int) ≤ (s.size : Int) := by omega
        go_region
        clear hw1 ht1 hle hle2
        go_wp2
        go_ret
        exact ⟨by rw [HF.out]; rfl, by rw [HF.out]; exact (((h.set 2 (.bool false)).set 1 (.int .i64 ((a : Int) + (k : Int)))).drew).drew, (((Keep.refl (· = b) w).here 2 _).here 1 _).drew.drew⟩
theorem keep_conv (w : World) (e : TypeId) (s : ByteArray) (S : Nat → Prop) : Keep S w (Lib.bytesWorld w e s) :=
  ⟨by simp [Lib.bytesWorld, World.freeze, World.alloc, World.drew, -World.alloc_eq, -World.drew_eq],
    by simp [Lib.bytesWorld, World.freeze, World.alloc, World.drew, -World.alloc_eq, -World.drew_eq],
    by simp [Lib.bytesWorld, World.freeze, World.alloc, World.drew, -World.alloc_eq, -World.drew_eq],
    by rw [Lib.bytesWorld_size]; omega, fun k hk _ => Lib.bytesWorld_at_old w e s k hk⟩
theorem take_size (s : ByteArray) (a : Nat) (bl : Bool) (n : Int) (_h : a ≤ s.size) : (Oct.take s a bl n).1.size ≤ s.size := by
  unfold Oct.take
  split
  · exact Nat.zero_le _
  · rw [ByteArray.size_extract]; omega
set_option maxRecDepth 100000 in
theorem eyeNumber_any (b : Nat) (s : ByteArray) (a : Nat) (bl : Bool) (n : Int) (hs : s.size ≤ maxLen) (ha : a ≤ s.size) (hn : -9223372036854775808 ≤ n ∧ n ≤ 9223372036854775807) (w : World) (h : EyeAt w b s a bl) :
    Calls Tryd.prog 106 #[.pointer (some ⟨b, 0, none⟩), .int .i64 n] w fun e w' =>
      e = .returned (.int .u32 (Oct.num (Oct.take s a bl n).1.data.toList : Nat)) ∧ EyeAt w' b s (Oct.take s a bl n).2.1 (Oct.take s a bl n).2.2 ∧ Keep (· = b) w w' := by
  have hts := take_size s a bl n ha
  go_enter Tryd.func106, Tryd.ntmps106
  go_wp2_with fail
  refine (eyeTake_any b s a bl n hs ha hn w h).mono ?_
  rintro e w1 ⟨rfl, hE, hK⟩
  unfold maxLen at hs
  rcases hT : Oct.take s a bl n with ⟨t, a2, bl2⟩
  rw [hT] at hts hE
  simp only at hts hE
  have HT := Lib.hid hT
  clear hT
  have hcv := @Lib.run_convert_string_bytes Tryd.prog w1 9 61 5 t .string (by kernel_rfl) (by kernel_rfl) (by kernel_rfl)
  have hK2 : Keep (· = b) w (Lib.bytesWorld w1 5 t) := hK.trans (keep_conv w1 _ t _)
  have hE2 : EyeAt (Lib.bytesWorld w1 5 t) b s a2 bl2 := (Lib.bytesWorld_at_old w1 _ t b hE.lt).trans hE
  have hcell := Lib.bytesWorld_cell w1 5 t
  go_wp2
  generalize Lib.bytesWorld w1 5 t = W at *
  clear hcv
  go_loop [5, 13] (fun x i => ∃ k : Nat, k ≤ t.size ∧ i = .int .i64 (k : Int) ∧ x = .int .u32 (Oct.num (t.data.toList.take k) : Nat)) (fun _ i => t.size - (intOf i).toNat)
  case atStart => exact ⟨0, Nat.zero_le _, rfl, rfl⟩
  case round =>
    obtain ⟨k, hk, rfl, rfl⟩ := hrel
    have hm := Oct.num_lt (t.data.toList.take k)
    generalize hM : Oct.num (t.data.toList.take k) = m at *
    have HM := Lib.hid hM
    clear hM
    by_cases hlt : k < t.size
    · have hc := hcell k hlt
      have hcl := UInt8.toNat_lt t[k]
      have hg : t.data.toList.getD k 0 = t[k] := by simp [List.getD_eq_getElem?_getD, hlt]; rfl
      rw [hg] at hc
      have hor := Oct.or_low m t[k].toNat hcl
      clear hg
      go_wp2
      go_round
      case rel => exact ⟨k + 1, hlt, by go_num, by rw [take_snoc t k hlt, Oct.num_snoc, HM.out]; exact congrArg _ (Oct.or_low2 m t[k].toNat hcl)⟩
      case measure => simp [intOf]; omega
    · go_wp2
      go_ret
      rw [HT.out]
      exact ⟨ret_int (by rw [← HM.out, List.take_of_length_le (by simp; omega)]), hE2, hK2⟩
end Go.Proofs.YtmehafolnpkmhaaDoor
end
/-! The walks through an eye's other reads, and through the reference's eye. -/
section
namespace Go.Proofs.YtmehafolnpkmhaaDoor
open Go.RowKit
set_option maxRecDepth 100000 in
theorem eyeByte_any (b : Nat) (s : ByteArray) (a : Nat) (bl : Bool) (hs : s.size ≤ maxLen) (ha : a ≤ s.size) (w : World) (h : EyeAt w b s a bl) :
    Calls Tryd.prog 90 #[.pointer (some ⟨b, 0, none⟩)] w fun e w' =>
      e = .returned (.int .u8 (Oct.num (Oct.take s a bl 1).1.data.toList % 256 : Nat)) ∧ EyeAt w' b s (Oct.take s a bl 1).2.1 (Oct.take s a bl 1).2.2 ∧ Keep (· = b) w w' := by
  have hl := Oct.num_lt (Oct.take s a bl 1).1.data.toList
  go_enter Tryd.func90, Tryd.ntmps90
  go_wp2_with fail
  refine (eyeNumber_any b s a bl 1 hs ha (by omega) w h).mono ?_
  rintro e w1 ⟨rfl, hE, hK⟩
  go_wp2
  go_ret
  exact ⟨rfl, hE, hK⟩
set_option maxRecDepth 100000 in
theorem eyeTwo_any (b : Nat) (s : ByteArray) (a : Nat) (bl : Bool) (hs : s.size ≤ maxLen) (ha : a ≤ s.size) (w : World) (h : EyeAt w b s a bl) :
    Calls Tryd.prog 91 #[.pointer (some ⟨b, 0, none⟩)] w fun e w' =>
      e = .returned (.int .u16 (Oct.num (Oct.take s a bl 2).1.data.toList % 65536 : Nat)) ∧ EyeAt w' b s (Oct.take s a bl 2).2.1 (Oct.take s a bl 2).2.2 ∧ Keep (· = b) w w' := by
  have hl := Oct.num_lt (Oct.take s a bl 2).1.data.toList
  go_enter Tryd.func91, Tryd.ntmps91
  go_wp2_with fail
  refine (eyeNumber_any b s a bl 2 hs ha (by omega) w h).mono ?_
  rintro e w1 ⟨rfl, hE, hK⟩
  go_wp2
  go_ret
  exact ⟨ret_int (by rw [IntKind.wrap_u16]; omega), hE, hK⟩
set_option maxRecDepth 100000 in
theorem eyeFour_any (b : Nat) (s : ByteArray) (a : Nat) (bl : Bool) (hs : s.size ≤ maxLen) (ha : a ≤ s.size) (w : World) (h : EyeAt w b s a bl) :
    Calls Tryd.prog 93 #[.pointer (some ⟨b, 0, none⟩)] w fun e w' =>
      e = .returned (.int .u32 (Oct.num (Oct.take s a bl 4).1.data.toList : Nat)) ∧ EyeAt w' b s (Oct.take s a bl 4).2.1 (Oct.take s a bl 4).2.2 ∧ Keep (· = b) w w' := by
  go_enter Tryd.func93, Tryd.ntmps93
  go_wp2_with fail
  refine (eyeNumber_any b s a bl 4 hs ha (by omega) w h).mono ?_
  rintro e w1 ⟨rfl, hE, hK⟩
  go_wp2
  go_ret
  exact ⟨rfl, hE, hK⟩
set_option maxRecDepth 100000 in
theorem eyeBlind_any (b : Nat) (s : ByteArray) (a : Nat) (bl : Bool) (w : World) (h : EyeAt w b s a bl) :
    Calls Tryd.prog 107 #[.pointer (some ⟨b, 0, none⟩)] w fun e w' => e = .returned (.bool bl) ∧ w = w' := by
  have c2 : w.cell? ⟨b, 2, none⟩ = some (.bool bl) := h.cell 2
  go_enter Tryd.func107, Tryd.ntmps107
  go_wp2
  go_ret
  exact ⟨rfl, rfl⟩
set_option maxRecDepth 100000 in
theorem eyeLeft_any (b : Nat) (s : ByteArray) (a : Nat) (bl : Bool) (hs : s.size ≤ maxLen) (ha : a ≤ s.size) (w : World) (h : EyeAt w b s a bl) :
    Calls Tryd.prog 95 #[.pointer (some ⟨b, 0, none⟩)] w fun e w' => e = .returned (.int .i64 (if bl = true then 0 else (s.size : Int) - a)) ∧ ∃ n, w' = w.drewN n := by
  have c0 : w.cell? ⟨b, 0, none⟩ = some (.string s) := h.cell 0
  have c1 : w.cell? ⟨b, 1, none⟩ = some (.int .i64 (a : Int)) := h.cell 1
  unfold maxLen at hs
  cases bl with
  | true =>
    go_enter Tryd.func95, Tryd.ntmps95
    go_wp2_with fail
    refine (eyeBlind_any b s a true w h).mono ?_
    rintro e w' ⟨rfl, rfl⟩
    go_wp2
    go_ret
    exact ⟨rfl, 0, rfl⟩
  | false =>
    go_enter Tryd.func95, Tryd.ntmps95
    go_wp2_with fail
    refine (eyeBlind_any b s a false w h).mono ?_
    rintro e w' ⟨rfl, rfl⟩
    go_wp2
    go_region
    go_wp2
    go_ret
    exact ⟨rfl, 1, rfl⟩
set_option maxRecDepth 100000 in
theorem newEye_any (s : ByteArray) (w : World) :
    Calls Tryd.prog 89 #[.string s] w fun e w' => e = .returned (.pointer (some ⟨w.heap.size, 0, none⟩)) ∧ w' = w.alloc (.cells #[.string s, .int .i64 0, .bool false] 124) := by
  go_enter Tryd.func89, Tryd.ntmps89
  go_wp2
  go_ret
  exact ⟨rfl, rfl⟩
/-! ### The reference's eye: what is left of the text -/
def ReyeAt (w : World) (b : Nat) (s : ByteArray) (lost : Bool) : Prop := ObjAt w b #[.string s, .bool lost] 128
set_option maxRecDepth 100000 in
theorem reyeTake_any (b : Nat) (s : ByteArray) (lost : Bool) (n : Int) (_hs : s.size ≤ maxLen) (w : World) (h : ReyeAt w b s lost) :
    Calls Tryd.prog 117 #[.pointer (some ⟨b, 0, none⟩), .int .i64 n] w fun e w' =>
      e = .returned (.string (Oct.rtake s lost n).1) ∧ ReyeAt w' b (Oct.rtake s lost n).2.1 (Oct.rtake s lost n).2.2 ∧ Keep (· = b) w w' := by
  have c0 : w.cell? ⟨b, 0, none⟩ = some (.string s) := h.cell 0
  have c1 : w.cell? ⟨b, 1, none⟩ = some (.bool lost) := h.cell 1
  have f0 : w.frozen? ⟨b, 0, none⟩ = false := h.free 0
  have f1 : w.frozen? ⟨b, 1, none⟩ = false := h.free 1
  cases lost with
  | true =>
    have hf : Oct.rtake s true n = (⟨#[]⟩, s, true) := by simp [Oct.rtake]
    have HF := Lib.hid hf
    clear hf
    go_enter Tryd.func117, Tryd.ntmps117
    go_wp2
    go_ret
    exact ⟨by rw [HF.out]; rfl, by rw [HF.out]; exact h.set 1 (.bool true), (Keep.refl (· = b) w).here 1 _⟩
  | false =>
    by_cases hneg : n < 0
    · have hf : Oct.rtake s false n = (⟨#[]⟩, s, true) := by simp [Oct.rtake, hneg]
      have HF := Lib.hid hf
      clear hf
      have hd : decide (n < 0) = true := by simpa using hneg
      go_enter Tryd.func117, Tryd.ntmps117
      go_wp2
      go_ret
      exact ⟨by rw [HF.out]; rfl, by rw [HF.out]; exact h.set 1 (.bool true), (Keep.refl (· = b) w).here 1 _⟩
    · have hd : decide (n < 0) = false := by simpa using hneg
      by_cases hlong : (s.size : Int) < n
      · have hf : Oct.rtake s false n = (⟨#[]⟩, s, true) := by simp [Oct.rtake, hlong]
        have HF := Lib.hid hf
        clear hf
        have hd2 : decide ((s.size : Int) < n) = true := by simpa using hlong
        go_enter Tryd.func117, Tryd.ntmps117
        go_wp2
        go_ret
        exact ⟨by rw [HF.out]; rfl, by rw [HF.out]; exact h.set 1 (.bool true), (Keep.refl (· = b) w).here 1 _⟩
      · obtain ⟨k, rfl⟩ := Int.eq_ofNat_of_zero_le (Int.not_lt.1 hneg)
        have hf : Oct.rtake s false (k : Int) = (s.extract 0 k, s.extract k s.size, false) := by
          rw [Oct.rtake, if_neg (by simp; omega), Int.toNat_natCast]
        have HF := Lib.hid hf
        clear hf
        have hd2 : decide ((s.size : Int) < (k : Int)) = false := by simpa using hlong
        have hle2 : (k : Int) ≤ (s.size : Int) := by omega
        go_enter Tryd.func117, Tryd.ntmps117
        go_wp2
        go_ret
        exact ⟨by rw [HF.out]; rfl, by rw [HF.out]; exact h.set 0 _, (Keep.refl (· = b) w).here 0 _⟩
set_option maxRecDepth 100000 in
theorem reyeNumber_any (b : Nat) (s : ByteArray) (lost : Bool) (n : Int) (hs : s.size ≤ maxLen) (w : World) (h : ReyeAt w b s lost) :
    Calls Tryd.prog 108 #[.pointer (some ⟨b, 0, none⟩), .int .i64 n] w fun e w' =>
      e = .returned (.int .u32 (Oct.num (Oct.rtake s lost n).1.data.toList : Nat)) ∧ ReyeAt w' b (Oct.rtake s lost n).2.1 (Oct.rtake s lost n).2.2 ∧ Keep (· = b) w w' := by
  have hts := Oct.rtake_size s lost n
  go_enter Tryd.func108, Tryd.ntmps108
  go_wp2_with fail
  refine (reyeTake_any b s lost n hs w h).mono ?_
  rintro e W ⟨rfl, hE, hK⟩
  unfold maxLen at hs
  rcases hT : Oct.rtake s lost n with ⟨t, s2, lost2⟩
  rw [hT] at hts hE
  simp only at hts hE
  have HT := Lib.hid hT
  clear hT
  go_wp2
  go_loop [6, 7] (fun x i => ∃ k : Nat, k ≤ t.size ∧ i = .int .i64 (k : Int) ∧ x = .int .u32 (Oct.num (t.data.toList.take k) : Nat)) (fun _ i => t.size - (intOf i).toNat)
  case atStart => exact ⟨0, Nat.zero_le _, rfl, rfl⟩
  case round =>
    obtain ⟨k, hk, rfl, rfl⟩ := hrel
    have hm := Oct.num_lt (t.data.toList.take k)
    generalize hM : Oct.num (t.data.toList.take k) = m at *
    have HM := Lib.hid hM
    clear hM
    by_cases hlt : k < t.size
    · have hcl := UInt8.toNat_lt t[k]
      go_wp2
      go_round
      case rel => exact ⟨k + 1, hlt, by go_num, by rw [take_snoc t k hlt, Oct.num_snoc, HM.out, show (m : Int) * 256 % 4294967296 + (t[k].toNat : Int) = (((m * 256 + t[k].toNat) % 4294967296 : Nat) : Int) from by omega]⟩
      case measure => simp [intOf]; omega
    · go_wp2
      go_ret
      rw [HT.out]
      exact ⟨ret_int (by rw [← HM.out, List.take_of_length_le (by simp; omega)]), hE, hK⟩
end Go.Proofs.YtmehafolnpkmhaaDoor
end
/-! The walks through a pen. -/
section
namespace Go.Proofs.YtmehafolnpkmhaaDoor
open Go.RowKit
def byteVals (l : List UInt8) : List Value := l.map fun c => Value.int .u8 (c.toNat : Int)
theorem byteVals_length (l : List UInt8) : (byteVals l).length = l.length := by simp [byteVals]
theorem byteVals_append (l m : List UInt8) : byteVals (l ++ m) = byteVals l ++ byteVals m := by simp [byteVals]
/-- A pen that has written l: its block, and behind it the row of its bytes. -/
def PenAt (w : World) (b : Nat) (l : List UInt8) : Prop :=
  ∃ v, ObjAt w b #[v] 104 ∧ w.ownsRow (b + 1) 5 1 v l.length (byteVals l)
theorem PenAt.lt {w : World} {b : Nat} {l : List UInt8} (h : PenAt w b l) : b < w.heap.size := by obtain ⟨v, hv, _⟩ := h; exact hv.lt
theorem slice_form {w : World} {base : Nat} {e : TypeId} {size : Nat} {v : Value} {n : Nat} {xs : List Value} (h : w.ownsRow base e size v n xs) : ∃ a c, v = .slice a n c := by
  obtain ⟨_, ⟨rfl, rfl⟩ | ⟨g, cap, cur, rfl, _⟩⟩ := h
  · exact ⟨none, 0, rfl⟩
  · exact ⟨_, cap, rfl⟩
theorem own_block {w : World} {base : Nat} {e : TypeId} {size : Nat} {v : Value} {n : Nat} {xs : List Value} (h : w.ownsRow base e size v n xs) : ∀ k, v.ownBlock = some k → base ≤ k := by
  obtain ⟨_, ⟨rfl, rfl⟩ | ⟨g, cap, cur, rfl, hb, _⟩⟩ := h
  · intro k hk; simp [Value.ownBlock] at hk
  · intro k hk; simp [Value.ownBlock] at hk; omega
theorem own_of_block {w w' : World} {base : Nat} {e : TypeId} {size : Nat} {v : Value} {n : Nat} {xs : List Value} (h : w.ownsRow base e size v n xs) (hh : ∀ k, base ≤ k → k < w.heap.size → w'.heap[k]? = w.heap[k]?) : w'.ownsRow base e size v n xs := by
  obtain ⟨hl, ⟨rfl, rfl⟩ | ⟨g, cap, cur, rfl, hb, hg, h1, h2, h3, h4⟩⟩ := h
  · exact ⟨hl, .inl ⟨rfl, rfl⟩⟩
  · exact ⟨hl, .inr ⟨g, cap, cur, rfl, hb, (hh g hb (Array.getElem?_eq_some_iff.1 hg).1).trans hg, h1, h2, h3, h4⟩⟩
/-- What a pen's work leaves: all below its block; and every block of another kind. -/
structure PenKeep (b : Nat) (w w' : World) : Prop where
  below : Below b w w'
  objs : ∀ k cs t fr, k ≠ b → t ≠ 5 → w.heap[k]? = some (.cells cs t fr) → w'.heap[k]? = some (.cells cs t fr)
theorem PenKeep.refl (b : Nat) (w : World) : PenKeep b w w := ⟨Below.refl b w, fun _ _ _ _ _ _ h => h⟩
theorem PenKeep.trans {b : Nat} {u v w : World} (h : PenKeep b u v) (k : PenKeep b v w) : PenKeep b u w :=
  ⟨h.below.trans k.below, fun i cs t fr hi ht hc => k.objs i cs t fr hi ht (h.objs i cs t fr hi ht hc)⟩
theorem PenKeep.alloc {b : Nat} {w u : World} (h : PenKeep b w u) (hb : b ≤ u.heap.size) (o : Obj) : PenKeep b w (u.alloc o) :=
  ⟨h.below.alloc hb _, fun i cs t fr hi ht hc => by
    have := h.objs i cs t fr hi ht hc
    exact (Below.heap_alloc u o i (Array.getElem?_eq_some_iff.1 this).1).trans this⟩
theorem PenKeep.grown {b : Nat} {w u u' : World} {v : Value} {n : Nat} {xs : List Value} (h : PenKeep b w u) (hb : b ≤ u.heap.size) (hown : u.ownsRow (b + 1) 5 1 v n xs) (hg : u.grownBy u' v.ownBlock) : PenKeep b w u' :=
  ⟨h.below.grown hg hb (fun k hk => by have := own_block hown k hk; omega), fun i cs t fr hi ht hc => by
    have hu := h.objs i cs t fr hi ht hc
    refine (hg.block i (Array.getElem?_eq_some_iff.1 hu).1 (fun e => ?_)).trans hu
    obtain ⟨_, ⟨rfl, rfl⟩ | ⟨g, cap, cur, rfl, _, hgr, _⟩⟩ := hown
    · simp [Value.ownBlock] at e
    · simp [Value.ownBlock] at e
      subst e
      rw [hgr] at hu
      simp at hu
      exact ht hu.2.1.symm⟩
theorem PenKeep.setCell {b : Nat} {w u : World} (h : PenKeep b w u) (j : Nat) (v : Value) : PenKeep b w (u.setCell ⟨b, j, none⟩ v) :=
  ⟨h.below.setCell (Nat.le_refl _) _, fun i cs t fr hi ht hc => (heap_setCell_other u _ i _ hi).trans (h.objs i cs t fr hi ht hc)⟩
theorem u8_row : (Tryd.prog.info? 5).map (fun i => (i.zero, i.size, i.bytes)) = some (some (.int .u8 0), 1, 1) := by kernel_rfl
theorem u8_info : ∃ i, Tryd.prog.info? 5 = some i ∧ i.zero = some (.int .u8 0) ∧ i.size = 1 ∧ i.bytes = 1 := by
  have := u8_row
  cases h : Tryd.prog.info? 5 with
  | none => simp [h] at this
  | some i => simp [h] at this; exact ⟨i, rfl, this.1, this.2.1, this.2.2⟩
set_option maxRecDepth 100000 in
theorem penByte_any (b : Nat) (l : List UInt8) (c : Int) (hc : 0 ≤ c ∧ c ≤ 255) (hl : l.length + 1 ≤ 140737488355328) (w : World) (h : PenAt w b l) :
    Calls Tryd.prog 63 #[.pointer (some ⟨b, 0, none⟩), .int .u8 c] w fun e w' =>
      e = .returned (.pointer (some ⟨b, 0, none⟩)) ∧ PenAt w' b (l ++ [UInt8.ofNat c.toNat]) ∧ PenKeep b w w' := by
  obtain ⟨i, hi, z1, z2, z3⟩ := u8_info
  have hlt := h.lt
  obtain ⟨v, hv, hown⟩ := h
  obtain ⟨sa, sc, hform⟩ := slice_form hown
  subst hform
  have c0 : w.cell? ⟨b, 0, none⟩ = some (.slice sa l.length sc) := hv.cell 0
  have f0 : w.frozen? ⟨b, 0, none⟩ = false := hv.free 0
  go_enter Tryd.func63, Tryd.ntmps63
  have hown1 : (w.alloc (.cells #[.int .u8 c] 5)).ownsRow (b + 1) 5 1 (.slice sa l.length sc) l.length (byteVals l) := own_of_block hown fun k _ hk => Below.heap_alloc w _ k hk
  go_wp2_with (first | (at_builtin; refine wpList_append_own _ rfl (.tmp 11) (.tmp 13) 61 rfl (b + 1) 5 i (.int .u8 0) 1 1 (by kernel_rfl) hi z1 z2 z3 rfl (by decide) (.slice sa l.length sc) l.length (byteVals l) rfl hown1 ⟨w.heap.size, 0, none⟩ 1 1 [.int .u8 c] rfl rfl ?c1 ?c2 ?c3 ?c4 ?c5 ?_))
  case c1 => intro j u hj; match j, hj with
    | 0, hj => simp at hj; subst hj; simp [World.cell?, World.alloc, Addr.add, -World.alloc_eq]
  case c2 => simp [Value.oneCell']
  case c3 => unfold maxLen; omega
  case c4 => omega
  case c5 => simp; omega
  intro v' w2 hown2 hgrow _
  have hb2 : w2.heap[b]? = w.heap[b]? := (hgrow.block b (by simp; omega) (fun e => by have := own_block hown b e.symm; omega)).trans (Below.heap_alloc w _ b hlt)
  have hv2 : ObjAt w2 b #[.slice sa l.length sc] 104 := hb2.trans hv
  have c2 : w2.cell? ⟨b, 0, none⟩ = some (.slice sa l.length sc) := hv2.cell 0
  have f2 : w2.frozen? ⟨b, 0, none⟩ = false := hv2.free 0
  have hbel : PenKeep b w w2 := ((PenKeep.refl b w).alloc (by omega) _).grown (by simp; omega) hown1 hgrow
  obtain ⟨va, vc, hform⟩ := slice_form hown2
  subst hform
  go_wp2
  go_ret
  refine ⟨rfl, ⟨_, hv2.set 0 _, ?_⟩, hbel.setCell 0 _⟩
  have hval : [Value.int .u8 c] = byteVals [UInt8.ofNat c.toNat] := by
    simp [byteVals]
    omega
  rw [hval, ← byteVals_append] at hown2
  rw [List.length_append]
  exact own_of_block hown2 fun k hk _ => heap_setCell_other w2 _ k _ (by simp; omega)
set_option maxRecDepth 100000 in
theorem lit1_string (w : World) (x : Int) :
    (convert 61 9 (.slice (some ⟨w.heap.size, 0, none⟩) 1 1)).run Tryd.prog (w.alloc (.cells #[.int .u8 x] 5)) = .ok (.string (strOfNums [x])) (w.alloc (.cells #[.int .u8 x] 5)) :=
  run_convert_bytes_arg _ _ 5 (by kernel_rfl) (by kernel_rfl) _ 0 1 1 [x] rfl (fun i hi => by
    match i, hi with
    | 0, _ => simp [World.cell?, World.alloc, -World.alloc_eq]) _ (by kernel_rfl)
theorem strCells_vals (s : ByteArray) : Lib.strCells s = byteVals s.data.toList := rfl
set_option maxRecDepth 100000 in
theorem penText_any (b : Nat) (l : List UInt8) (s : ByteArray) (hl : l.length + s.size ≤ 140737488355328) (w : World) (h : PenAt w b l) :
    Calls Tryd.prog 67 #[.pointer (some ⟨b, 0, none⟩), .string s] w fun e w' =>
      e = .returned (.pointer (some ⟨b, 0, none⟩)) ∧ PenAt w' b (l ++ s.data.toList) ∧ PenKeep b w w' := by
  obtain ⟨i, hi, z1, z2, z3⟩ := u8_info
  have hlt := h.lt
  obtain ⟨v, hv, hown⟩ := h
  obtain ⟨sa, sc, hform⟩ := slice_form hown
  subst hform
  have c0 : w.cell? ⟨b, 0, none⟩ = some (.slice sa l.length sc) := hv.cell 0
  have f0 : w.frozen? ⟨b, 0, none⟩ = false := hv.free 0
  go_enter Tryd.func67, Tryd.ntmps67
  go_wp2_with (first | (at_builtin; refine Lib.wpList_append_own_string _ rfl (.tmp 11) (.tmp 12) 61 9 rfl (b + 1) 5 i (by kernel_rfl) (by kernel_rfl) hi z1 z2 z3 (.slice sa l.length sc) l.length (byteVals l) rfl hown s rfl ?c3 ?c4 ?c5 ?_))
  case c3 => unfold maxLen; omega
  case c4 => omega
  case c5 => omega
  intro v' w2 hown2 hgrow _
  have hv2 : ObjAt w2 b #[.slice sa l.length sc] 104 := (hgrow.block b hlt (fun e => by have := own_block hown b e.symm; omega)).trans hv
  have c2 : w2.cell? ⟨b, 0, none⟩ = some (.slice sa l.length sc) := hv2.cell 0
  have f2 : w2.frozen? ⟨b, 0, none⟩ = false := hv2.free 0
  have hbel : PenKeep b w w2 := (PenKeep.refl b w).grown (by omega) hown hgrow
  obtain ⟨va, vc, hform⟩ := slice_form hown2
  subst hform
  go_wp2
  go_ret
  refine ⟨rfl, ⟨_, hv2.set 0 _, ?_⟩, hbel.setCell 0 _⟩
  rw [strCells_vals, ← byteVals_append] at hown2
  rw [List.length_append, show s.data.toList.length = s.size from by simp]
  exact own_of_block hown2 fun k hk _ => heap_setCell_other w2 _ k _ (by simp; omega)
set_option maxRecDepth 100000 in
theorem own_string {w : World} {base n : Nat} {v : Value} {l : List UInt8} (h : w.ownsRow base 5 1 v n (byteVals l)) :
    (convert 61 9 v).run Tryd.prog w = .ok (.string ⟨l.toArray⟩) w := by
  obtain ⟨hl, ⟨rfl, rfl⟩ | ⟨g, cap, cur, rfl, hb, hg, h1, h2, h3, h4⟩⟩ := h
  · rw [byteVals_length] at hl
    have : l = [] := List.length_eq_zero_iff.1 (by omega)
    subst this
    exact run_convert_bytes_nil w 61 5 (by kernel_rfl) (by kernel_rfl) 0 0 9 (by kernel_rfl)
  · rw [byteVals_length, Nat.mul_one] at hl
    rw [Nat.mul_one] at h4
    have := run_convert_bytes_arg (P := Tryd.prog) w 61 5 (by kernel_rfl) (by kernel_rfl) g 0 n cap (l.map fun c => (c.toNat : Int)) (by simpa using hl) (fun i hi => by
      have e : cur.toList[i]? = (byteVals l)[i]? := by rw [← h4, List.getElem?_take_of_lt hi]
      simp only [Nat.zero_add, World.cell?, hg]
      rw [Array.getElem?_toList] at e
      simp only [Option.isSome_none, Bool.false_eq_true, if_false, e, byteVals, List.getElem?_map, List.getD_eq_getElem?_getD]
      rw [List.getElem?_eq_getElem (by omega)]
      rfl) 9 (by kernel_rfl)
    rw [this]
    congr 2
    simp [strOfNums, Function.comp_def]
set_option maxRecDepth 100000 in
theorem penString_any (b : Nat) (l : List UInt8) (w : World) (h : PenAt w b l) :
    Calls Tryd.prog 69 #[.pointer (some ⟨b, 0, none⟩)] w fun e w' => e = .returned (.string ⟨l.toArray⟩) ∧ w = w' := by
  obtain ⟨v, hv, hown⟩ := h
  have hcv := own_string hown
  obtain ⟨sa, sc, hform⟩ := slice_form hown
  subst hform
  have c0 : w.cell? ⟨b, 0, none⟩ = some (.slice sa l.length sc) := hv.cell 0
  go_enter Tryd.func69, Tryd.ntmps69
  go_wp2
  go_ret
  exact ⟨rfl, rfl⟩
set_option maxRecDepth 100000 in
theorem newPen_any (w : World) :
    Calls Tryd.prog 62 #[] w fun e w' => e = .returned (.pointer (some ⟨w.heap.size, 0, none⟩)) ∧ PenAt w' w.heap.size [] ∧ Below w.heap.size w w' := by
  go_enter Tryd.func62, Tryd.ntmps62
  go_wp2
  go_ret
  exact ⟨rfl, ⟨_, ObjAt.new _ _ _, rfl, .inl ⟨rfl, rfl⟩⟩, (Below.refl _ _).alloc (Nat.le_refl _) _⟩
set_option maxRecDepth 100000 in
theorem penTwo_any (b : Nat) (l : List UInt8) (n : Nat) (hn : n < 65536) (hl : l.length + 2 ≤ 140737488355328) (w : World) (h : PenAt w b l) :
    Calls Tryd.prog 64 #[.pointer (some ⟨b, 0, none⟩), .int .u16 (n : Int)] w fun e w' =>
      e = .returned (.pointer (some ⟨b, 0, none⟩)) ∧ PenAt w' b (l ++ Oct.bts n 2) ∧ PenKeep b w w' := by
  go_enter Tryd.func64, Tryd.ntmps64
  go_wp2_with fail
  refine (penByte_any b l _ (by omega) (by omega) w h).mono ?_
  rintro e w1 ⟨rfl, h1, hb1⟩
  go_wp2_with fail
  refine (penByte_any b _ _ (by omega) (by simp; omega) w1 h1).mono ?_
  rintro e w2 ⟨rfl, h2, hb2⟩
  go_wp2
  go_ret
  refine ⟨rfl, ?_, hb1.trans hb2⟩
  have e : l ++ Oct.bts n 2 = l ++ [UInt8.ofNat ((n : Int) / 256).toNat] ++ [UInt8.ofNat ((n : Int) % 256).toNat] := by
    simp [Oct.bts]
    constructor <;> (apply UInt8.toNat_inj.1; simp; try omega)
  rw [e]
  exact h2
theorem penTwo_int (b : Nat) (l : List UInt8) (a : Int) (ha : 0 ≤ a ∧ a ≤ 65535) (hl : l.length + 2 ≤ 140737488355328) (w : World) (h : PenAt w b l) :
    Calls Tryd.prog 64 #[.pointer (some ⟨b, 0, none⟩), .int .u16 a] w fun e w' =>
      e = .returned (.pointer (some ⟨b, 0, none⟩)) ∧ PenAt w' b (l ++ Oct.bts a.toNat 2) ∧ PenKeep b w w' := by
  obtain ⟨n, rfl⟩ := Int.eq_ofNat_of_zero_le ha.1
  exact penTwo_any b l n (by omega) hl w h
set_option maxRecDepth 100000 in
theorem penFour_any (b : Nat) (l : List UInt8) (n : Nat) (hn : n < 4294967296) (hl : l.length + 4 ≤ 140737488355328) (w : World) (h : PenAt w b l) :
    Calls Tryd.prog 66 #[.pointer (some ⟨b, 0, none⟩), .int .u32 (n : Int)] w fun e w' =>
      e = .returned (.pointer (some ⟨b, 0, none⟩)) ∧ PenAt w' b (l ++ Oct.bts n 4) ∧ PenKeep b w w' := by
  go_enter Tryd.func66, Tryd.ntmps66
  go_wp2_with fail
  refine (penTwo_int b l _ (by omega) (by omega) w h).mono ?_
  rintro e w1 ⟨rfl, h1, hb1⟩
  go_wp2_with fail
  refine (penTwo_int b _ _ ?_ (by simp [Oct.bts_length]; omega) w1 h1).mono ?_
  · rw [IntKind.wrap_u16]; omega
  rintro e w2 ⟨rfl, h2, hb2⟩
  go_wp2
  go_ret
  refine ⟨rfl, ?_, hb1.trans hb2⟩
  have e : l ++ Oct.bts n 4 = l ++ Oct.bts ((n : Int) / 65536).toNat 2 ++ Oct.bts (IntKind.u16.wrap (n : Int)).toNat 2 := by
    rw [IntKind.wrap_u16, show ((n : Int) / 65536).toNat = n / 65536 from by omega, show ((n : Int) % 65536).toNat = n % 65536 from by omega]
    simp only [Oct.bts, List.append_assoc, List.cons_append, List.nil_append]
    congr 2
    · congr 1; omega
    congr 1
    · congr 1; omega
    congr 1
    · congr 1; omega
    congr 1
    congr 1; omega
  rw [e]
  exact h2
end Go.Proofs.YtmehafolnpkmhaaDoor
end
/-! Bytes of the document: a number's lowest bytes. -/
section
namespace Go.Proofs.YtmehafolnpkmhaaDoor
open Go.RowKit
set_option maxRecDepth 100000 in
theorem rbytes_any (n : Nat) (hn : n < 4294967296) (c : Nat) (hc : c ≤ 4) (w : World) :
    Calls Tryd.prog 78 #[.int .u32 (n : Int), .int .i64 (c : Int)] w fun e w' => e = .returned (.string ⟨(Oct.bts n c).toArray⟩) ∧ Below w.heap.size w w' := by
  go_enter Tryd.func78, Tryd.ntmps78
  go_wp2
  go_loopw [0, 5, 6] (fun m s i wr => ∃ k : Nat, k ≤ c ∧ i = .int .i64 (k : Int) ∧ m = .int .u32 (n / 256 ^ k : Nat) ∧ s = .string ⟨(Oct.bts n k).toArray⟩ ∧ Below w.heap.size w wr) (fun _ _ i _ => c - (intOf i).toNat)
  case atStart => exact ⟨0, by omega, rfl, by simp, rfl, Below.refl _ _⟩
  case round =>
    obtain ⟨k, hk, rfl, rfl, rfl, hbel⟩ := hrel
    have hdl : n / 256 ^ k ≤ n := Nat.div_le_self _ _
    have hnext : n / 256 ^ (k + 1) = n / 256 ^ k / 256 := by rw [Nat.pow_succ, Nat.div_div_eq_div_mul]
    have HN := Lib.hid hnext
    clear hnext
    generalize hm : n / 256 ^ k = m at *
    have HM := Lib.hid hm
    clear hm
    by_cases hlt : k < c
    · have hl := lit1_string wr
      have hz1 : ∀ x : Int, (strOfNums [x]).size = 1 := fun x => rfl
      have hz2 : (Oct.bts n k).length ≤ 4 := by rw [Oct.bts_length]; omega
      have hcat : strOfNums [(m : Int) % 256] ++ (⟨(Oct.bts n k).toArray⟩ : ByteArray) = ⟨(Oct.bts n (k + 1)).toArray⟩ := by
        apply ext_bytes
        rw [ByteArray.data_append, Array.toList_append, strOfNums_data]
        simp only [Oct.bts, List.map_cons, List.map_nil]
        rw [HM.out, show ((m : Int) % 256).toNat = m % 256 from by omega]
        rfl
      have HC := Lib.hid hcat
      clear hcat
      go_wp2
      go_roundw
      case rel => exact ⟨k + 1, hlt, by go_num, by rw [HN.out]; go_num, by rw [HC.out], hbel.alloc hbel.size _⟩
      case measure => simp [intOf]; omega
    · have hkc : k = c := by omega
      subst hkc
      go_wp2
      go_ret
      exact ⟨rfl, hbel⟩
theorem rbytes_int (a : Int) (ha : 0 ≤ a ∧ a ≤ 4294967295) (c : Nat) (hc : c ≤ 4) (w : World) :
    Calls Tryd.prog 78 #[.int .u32 a, .int .i64 (c : Int)] w fun e w' => e = .returned (.string ⟨(Oct.bts a.toNat c).toArray⟩) ∧ Below w.heap.size w w' := by
  obtain ⟨n, rfl⟩ := Int.eq_ofNat_of_zero_le ha.1
  exact rbytes_any n (by omega) c hc w
theorem rbytes_one (a : Int) (ha : 0 ≤ a ∧ a ≤ 4294967295) (w : World) :
    Calls Tryd.prog 78 #[.int .u32 a, .int .i64 1] w fun e w' => e = .returned (.string ⟨(Oct.bts a.toNat 1).toArray⟩) ∧ Below w.heap.size w w' :=
  rbytes_int a ha 1 (by omega) w
end Go.Proofs.YtmehafolnpkmhaaDoor
end
/-! Plain: the reference's eye and the program's take the same. -/
section
namespace Go.Proofs.YtmehafolnpkmhaaDoor.Oct
theorem rtake_take (s : ByteArray) (a : Nat) (bl : Bool) (n : Int) (ha : a ≤ s.size) :
    rtake (s.extract a s.size) bl n = ((take s a bl n).1, s.extract (take s a bl n).2.1 s.size, (take s a bl n).2.2) := by
  unfold rtake take
  have hsz : ((s.extract a s.size).size : Int) = (s.size : Int) - a := by rw [ByteArray.size_extract]; omega
  by_cases hc : bl = true ∨ n < 0 ∨ (s.size : Int) - a < n
  · have hc' : bl = true ∨ n < 0 ∨ ((s.extract a s.size).size : Int) < n := by rw [hsz]; exact hc
    rw [if_pos hc, if_pos hc']
  · have hc' : ¬ (bl = true ∨ n < 0 ∨ ((s.extract a s.size).size : Int) < n) := by rw [hsz]; exact hc
    rw [if_neg hc, if_neg hc']
    have hn : n.toNat ≤ s.size - a := by omega
    refine Prod.ext ?_ (Prod.ext ?_ rfl)
    · dsimp only
      rw [ByteArray.extract_extract]
      congr 1 <;> omega
    · dsimp only
      rw [ByteArray.extract_extract]
      congr 1 <;> omega
theorem take_len (s : ByteArray) (a : Nat) (bl : Bool) (n : Nat) : (take s a bl (n : Int)).1.data.toList.length ≤ n := by
  unfold take
  split
  · simp
  · rw [Array.length_toList]
    show (s.extract _ _).size ≤ n
    rw [ByteArray.size_extract]; omega
theorem num_one (l : List UInt8) (h : l.length ≤ 1) : num l < 256 := by
  match l, h with
  | [], _ => decide
  | [c], _ => have := c.toNat_lt; simp [num]; omega
theorem num_two (l : List UInt8) (h : l.length ≤ 2) : num l < 65536 := by
  match l, h with
  | [], _ => decide
  | [c], _ => have := c.toNat_lt; simp [num]; omega
  | [c, d], _ => have := c.toNat_lt; have := d.toNat_lt; simp [num]; omega
theorem rsmall_small (s : ByteArray) (a : Nat) (bl : Bool) (ha : a ≤ s.size) :
    rsmall (s.extract a s.size) bl = ((small s a bl).1, s.extract (small s a bl).2.1 s.size, (small s a bl).2.2) := by
  have h1 := take_le s a bl 1 ha
  have h2 := num_one _ (take_len s a bl 1)
  unfold rsmall small
  rw [rtake_take s a bl 1 ha]
  dsimp only
  rw [show num (take s a bl 1).1.data.toList % 256 = num (take s a bl 1).1.data.toList from Nat.mod_eq_of_lt h2]
  exact rtake_take _ _ _ _ h1
theorem small_le (s : ByteArray) (a : Nat) (bl : Bool) (ha : a ≤ s.size) : (small s a bl).2.1 ≤ s.size := take_le _ _ _ _ (take_le _ _ _ _ ha)
end Go.Proofs.YtmehafolnpkmhaaDoor.Oct
end
