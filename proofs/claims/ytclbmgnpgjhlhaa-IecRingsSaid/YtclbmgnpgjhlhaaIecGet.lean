/- Get of the program and of the document, walked. -/
import Derived.Test.YtclbmgnpgjhlhaaIecPut
import Derived.Test.YtclbmgnpgjhlhaaIecRaw
namespace Go.Proofs.Ytclbmgnpgjhlhaa
open Go.RowKit
/-- The number of bytes, the highest one first. -/
def beL (l : List UInt8) : Nat := l.foldl (fun n c => n * 256 + c.toNat) 0
theorem beL_snoc (l : List UInt8) (c : UInt8) : beL (l ++ [c]) = beL l * 256 + c.toNat := by simp [beL]
theorem beL_lt (s : ByteArray) (k : Nat) (hk : k ≤ s.size) : beL (s.data.toList.take k) < 256 ^ k := by
  induction k with
  | zero => simp [beL]
  | succ k ih =>
    have := ih (by omega)
    rw [take_snoc s k (by omega), beL_snoc, Nat.pow_succ]
    have hc := UInt8.toNat_lt s[k]
    omega
theorem or_i64 (m c : Nat) (hm : m < 16777216) (hc : c < 256) : bits .or .i64 ((m : Int) * 256) (c : Int) = (m : Int) * 256 + (c : Int) := by
  have h := bits_nat .or (fun x y => x ||| y) (.inr (.inl ⟨rfl, rfl⟩)) (m * 256) c (by omega) (by omega)
  have e : m * 256 ||| c = m * 256 + c := by
    have := Nat.shiftLeft_add_eq_or_of_lt (i := 8) (show c < 2 ^ 8 by omega) m
    rw [Nat.shiftLeft_eq] at this
    exact this.symm
  rw [e] at h
  exact h
def getV (k : Nat) (s : ByteArray) (a n : Nat) : Int := wrapK k (beL ((s.extract a (a + n)).data.toList) : Int)
set_option maxRecDepth 100000 in
theorem get_no (s : ByteArray) (a k : Int) (hs : s.size ≤ 140737488355328) (ha : -9223372036854775808 ≤ a ∧ a ≤ 9223372036854775807) (ht : thereB (s.size : Int) a (sizeK (kN k)) = false) (w : World) :
    Calls Try.prog 21 #[.string s, .int .i64 a, .int .i64 k] w fun e w' => e = .returned (.tuple #[.int .i64 0, .bool false]) ∧ Below w.heap.size w w' := by
  have HT := Lib.hid ht
  clear ht
  go_enter Try.func21, Try.ntmps21
  go_wp2_with fail
  refine (there_any (s.size : Int) a k (by omega) ha _).mono ?_
  rintro e w1 ⟨rfl, hb1⟩
  rw [HT.out]
  go_wp2
  go_ret2
  exact ⟨rfl, hb1⟩
set_option maxRecDepth 100000 in
set_option maxHeartbeats 1000000 in
theorem get_yes (s : ByteArray) (a n : Nat) (k : Int) (hs : s.size ≤ 140737488355328) (hn : sizeK (kN k) = (n : Int)) (ht : 0 < n ∧ n ≤ 4 ∧ a + n ≤ s.size) (w : World) :
    Calls Try.prog 21 #[.string s, .int .i64 (a : Int), .int .i64 k] w fun e w' => e = .returned (.tuple #[.int .i64 (getV (kN k) s a n), .bool true]) ∧ Below w.heap.size w w' := by
  obtain ⟨hn0, hn4, hfit⟩ := ht
  have htt : thereB (s.size : Int) (a : Int) (sizeK (kN k)) = true := by rw [hn]; simp [thereB]; omega
  have HT := Lib.hid htt
  have HN := Lib.hid hn
  clear htt hn
  go_enter Try.func21, Try.ntmps21
  go_wp2_with fail
  refine (there_any (s.size : Int) (a : Int) k (by omega) (by omega) _).mono ?_
  rintro e w1 ⟨rfl, hb1⟩
  rw [HT.out]
  go_wp2_with fail
  refine (size_any k _).mono ?_
  rintro e w2 ⟨rfl, hb2⟩
  rw [HN.out]
  have hts : (s.extract a (a + n)).size = n := by rw [ByteArray.size_extract]; omega
  have hcv := @Lib.run_convert_string_bytes Try.prog w2 9 36 5 (s.extract a (a + n)) .string (by kernel_rfl) (by kernel_rfl) (by kernel_rfl)
  have hb : Below w2.heap.size w2 (Lib.bytesWorld w2 5 (s.extract a (a + n))) := ⟨rfl, rfl, rfl, by rw [Lib.bytesWorld_size]; omega, fun k hk => Lib.bytesWorld_at_old w2 5 _ k hk⟩
  have HB := Lib.hid (bt (bt hb1 hb2) hb)
  have hcell := Lib.bytesWorld_cell w2 5 (s.extract a (a + n))
  have ht1 : ((a : Int) + (n : Int)).toNat = a + n := by omega
  have hle : (a : Int) ≤ (a : Int) + (n : Int) := by omega
  have hle2 : (a : Int) + (n : Int) ≤ (s.size : Int) := by omega
  have HTS := Lib.hid hts
  clear hb1 hb2 hb hts
  go_wp2_with fail
  have hV : getV (kN k) s a n = wrapK (kN k) (beL ((s.extract a (a + n)).data.toList) : Int) := rfl
  have HV := Lib.hid hV
  clear hV ht1 hle hle2 hcv
  generalize hWW : Lib.bytesWorld w2 5 (s.extract a (a + n)) = W at *
  generalize hTT : s.extract a (a + n) = t at *
  clear hWW hTT
  have hts := HTS.out
  have HC := Lib.hid hcell
  clear hcell
  go_loop [8, 26] (fun x i => ∃ j : Nat, j ≤ t.size ∧ i = .int .i64 (j : Int) ∧ x = .int .i64 (beL (t.data.toList.take j) : Int)) (fun _ i => t.size - (intOf i).toNat)
  case atStart => exact ⟨0, Nat.zero_le _, rfl, rfl⟩
  case round =>
    obtain ⟨j, hj, rfl, rfl⟩ := hrel
    have hm := beL_lt t j hj
    by_cases hlt : j < t.size
    · have h4 : 256 ^ j ≤ 256 ^ 3 := Nat.pow_le_pow_right (by decide) (by omega)
      obtain ⟨m, hM⟩ : ∃ m, m = beL (t.data.toList.take j) := ⟨_, rfl⟩
      rw [← hM] at hm ⊢
      have hm' : m < 16777216 := by omega
      have hc := HC.out j hlt
      have hcl := UInt8.toNat_lt t[j]
      have hg : t.data.toList.getD j 0 = t[j] := by simp [List.getD_eq_getElem?_getD, hlt]; rfl
      rw [hg] at hc
      have hor := or_i64 m t[j].toNat hm' hcl
      have HM := Lib.hid hM
      clear hg hM hm h4
      go_wp2
      go_round
      case rel => exact ⟨j + 1, hlt, by go_num, by rw [take_snoc t j hlt, beL_snoc, ← HM.out]; go_num⟩
      case measure => simp [intOf]; omega
    · have hjt : j = t.size := by omega
      have ht : t.data.toList.take j = t.data.toList := List.take_of_length_le (by simp; omega)
      rw [ht]
      clear hm ht hjt
      go_wp2_with fail
      refine (wrap_any k _ _).mono ?_
      rintro e w5 ⟨rfl, hb5⟩
      go_wp2
      go_ret2
      exact ⟨by rw [HV.out]; rfl, bt HB.out hb5⟩
end Go.Proofs.Ytclbmgnpgjhlhaa
