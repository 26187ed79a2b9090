/- The document's Get, walked. -/
import Derived.Test.YtclbmgnpgjhlhaaIecGet
import Derived.Test.YtclbmgnpgjhlhaaIecRef4
namespace Go.Proofs.Ytclbmgnpgjhlhaa
open Go.RowKit
theorem ext_take (s : ByteArray) (a n j : Nat) (hj : j < n) (hf : a + n ≤ s.size) : (s.extract a (a + n)).data.toList.take (j + 1) = (s.extract a (a + n)).data.toList.take j ++ [s[a + j]] := by
  have h : j < (s.extract a (a + n)).data.toList.length := by simp; omega
  rw [List.take_succ_eq_append_getElem h]
  congr 2
  simp
  rfl
theorem beL_take_lt (t : ByteArray) (k : Nat) (hk : k ≤ t.size) : beL (t.data.toList.take k) < 256 ^ k := beL_lt t k hk
set_option maxRecDepth 100000 in
set_option maxHeartbeats 1000000 in
theorem rget_yes (s : ByteArray) (a n : Nat) (k : Int) (hs : s.size ≤ 1000) (hn : sizeK (kN k) = (n : Int)) (ht : 0 < n ∧ n ≤ 4 ∧ a + n ≤ s.size) (w : World) :
    Calls Try.prog 23 #[.string s, .int .i64 (a : Int), .int .i64 k] w fun e w' => e = .returned (.int .i64 (getV (kN k) s a n)) ∧ Below w.heap.size w w' := by
  obtain ⟨hn0, hn4, hfit⟩ := ht
  have HN := Lib.hid hn
  clear hn
  have hV : getV (kN k) s a n = wrapK (kN k) (beL ((s.extract a (a + n)).data.toList) : Int) := rfl
  have hE : ∀ j, j < n → (s.extract a (a + n)).data.toList.take (j + 1) = (s.extract a (a + n)).data.toList.take j ++ [s[a + j]!] := fun j hj => by
    rw [ext_take s a n j hj hfit, getElem!_pos s (a + j) (by omega)]
  have hts : (s.extract a (a + n)).size = n := by rw [ByteArray.size_extract]; omega
  have HV := Lib.hid (And.intro hV (And.intro hE hts))
  clear hV hE hts
  generalize s.extract a (a + n) = t at *
  have hb0 := Lib.hid (Below.refl w.heap.size w)
  go_enter Try.func23, Try.ntmps23
  go_wp2_with fail
  go_loopw [7, 8] (fun x i wr => ∃ j : Nat, j ≤ n ∧ i = .int .i64 (j : Int) ∧ x = .int .i64 (beL (t.data.toList.take j) : Int) ∧ Below w.heap.size w wr) (fun _ i _ => n - (intOf i).toNat)
  case atStart => exact ⟨0, Nat.zero_le _, rfl, rfl, hb0.out⟩
  case round =>
    obtain ⟨j, hj, rfl, rfl, hb⟩ := hrel
    have HB := Lib.hid hb
    clear hb
    have hm := beL_take_lt t j (by rw [HV.out.2.2]; exact hj)
    go_wp2_with fail
    refine (rsize_any k _).mono ?_
    rintro e w2 ⟨rfl, hb2⟩
    rw [HN.out]
    have HB2 := Lib.hid (bt HB.out hb2)
    clear hb2
    by_cases hlt : j < n
    · have h4 : 256 ^ j ≤ 256 ^ 3 := Nat.pow_le_pow_right (by decide) (by omega)
      have hE := HV.out.2.1 j hlt
      obtain ⟨m, hM⟩ : ∃ m, m = beL (t.data.toList.take j) := ⟨_, rfl⟩
      rw [← hM] at hm ⊢
      have hm' : m < 16777216 := by omega
      have hin : a + j < s.size := by omega
      rw [getElem!_pos s (a + j) hin] at hE
      have hcl := UInt8.toNat_lt s[a + j]
      have hlt2 : (j : Int) < (n : Int) := by omega
      have HM := Lib.hid (And.intro hM hE)
      clear hM hm h4 hE
      go_wp2
      go_roundw
      case rel => exact ⟨j + 1, hlt, by go_num, by rw [HM.out.2, beL_snoc, ← HM.out.1]; go_num, HB2.out⟩
      case measure => simp [intOf]; omega
    · obtain rfl : j = n := by omega
      have ht : t.data.toList.take j = t.data.toList := List.take_of_length_le (by have := HV.out.2.2; simp; omega)
      rw [ht]
      clear ht hm
      go_wp2_with fail
      refine (rwrap_any k _ _).mono ?_
      rintro e w5 ⟨rfl, hb5⟩
      go_wp2
      go_ret
      exact ⟨by rw [HV.out.1]; rfl, bt HB2.out hb5⟩
end Go.Proofs.Ytclbmgnpgjhlhaa
