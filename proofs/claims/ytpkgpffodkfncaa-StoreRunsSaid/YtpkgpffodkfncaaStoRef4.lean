/- The reference's Write, whole, beside the program's store. -/
import Derived.Test.YtpkgpffodkfncaaStoRef2
import Derived.Test.YtpkgpffodkfncaaStoTear
namespace Go.Proofs.Ytpkgpffodkfncaa
open Go.RowKit
/-- The reference's store stands as the program's. -/
def RAs (w : World) (b g cap : Nat) (d : Sto) : Prop := RstAt w b g cap d.l (!d.dark) (leftK d.armed d.left 0) d.wrote
set_option maxRecDepth 100000 in
theorem rstWrite_not (b g cap : Nat) (d : Sto) (a : Int) (ha : -9223372036854775808 ≤ a ∧ a ≤ 9223372036854775807) (s : ByteArray) (hs : s.size ≤ 140737488355328) (hn : stoThere d.l.length a s.size = false) (w : World) (h : RAs w b g cap d) :
    Calls Try.prog 70 #[.pointer (some ⟨b, 0, none⟩), .int .i64 a, .string s] w fun e w' => e = .returned (.int .i64 1) ∧ w' = w := by
  go_enter Try.func70, Try.ntmps70
  go_wp2_with fail
  refine (rstThere_any b g cap d.l _ _ _ a (s.size : Int) ha (by omega) w h).mono ?_
  rintro e w9 ⟨rfl, hw9⟩
  have hw9 := hw9.symm
  subst hw9
  go_wp2
  go_ret
  exact ⟨rfl, rfl⟩
set_option maxRecDepth 100000 in
theorem rstWrite_dark (b g cap : Nat) (d : Sto) (a : Int) (ha : -9223372036854775808 ≤ a ∧ a ≤ 9223372036854775807) (s : ByteArray) (hs : s.size ≤ 140737488355328) (hn : stoThere d.l.length a s.size = true) (hd : d.dark = true) (w : World) (h : RAs w b g cap d) :
    Calls Try.prog 70 #[.pointer (some ⟨b, 0, none⟩), .int .i64 a, .string s] w fun e w' => e = .returned (.int .i64 12) ∧ w' = w := by
  have c1 : w.cell? ⟨b, 1, none⟩ = some (.bool false) := by have := h.obj.cell 1; rw [hd] at this; exact this
  clear hd
  go_enter Try.func70, Try.ntmps70
  go_wp2_with fail
  refine (rstThere_any b g cap d.l _ _ _ a (s.size : Int) ha (by omega) w h).mono ?_
  rintro e w9 ⟨rfl, hw9⟩
  have hw9 := hw9.symm
  subst hw9
  go_wp2
  go_ret
  exact ⟨rfl, rfl⟩
theorem prog1_put (l : List UInt8) (a n : Nat) (s : ByteArray) : prog1 l a n s = putAt l a (s.extract 0 n).data.toList := by
  unfold prog1
  congr 1
  rw [ByteArray.data_extract, Array.toList_extract]
  simp [List.extract]
theorem rstWrite_any (b g cap : Nat) (d : Sto) (a : Int) (ha : -9223372036854775808 ≤ a ∧ a ≤ 9223372036854775807) (s : ByteArray) (hs : s.size ≤ 140737488355328) (hwr : d.wrote ≤ 1000000) (hlm : d.left ≤ 9223372036854775807) (w : World) (h : RAs w b g cap d) :
    Calls Try.prog 70 #[.pointer (some ⟨b, 0, none⟩), .int .i64 a, .string s] w fun e w' => e = .returned (.int .i64 (d.writeE a s)) ∧ RAs w' b g cap (d.writeS a s) ∧ StoKeep b g w w' := by
  by_cases ht : stoThere d.l.length a s.size = false
  · have eE : d.writeE a s = 1 := by rw [Sto.writeE, if_pos ht]
    have eS : d.writeS a s = d := by rw [Sto.writeS, if_pos (.inl ht)]
    rw [eE, eS]
    refine (rstWrite_not b g cap d a ha s hs ht w h).mono ?_
    rintro e w' ⟨rfl, rfl⟩
    exact ⟨rfl, h, Keep.refl _ _⟩
  · have ht' : stoThere d.l.length a s.size = true := by simpa using ht
    by_cases hd : d.dark = true
    · rw [writeE_dark d a s ht' hd, writeS_dark d a s hd]
      refine (rstWrite_dark b g cap d a ha s hs ht' hd w h).mono ?_
      rintro e w' ⟨rfl, rfl⟩
      exact ⟨rfl, h, Keep.refl _ _⟩
    · have hd' : d.dark = false := by simpa using hd
      have hf : 0 ≤ a ∧ a + s.size ≤ d.l.length := by simp [stoThere] at ht'; omega
      obtain ⟨k, rfl⟩ := Int.eq_ofNat_of_zero_le hf.1
      have h' : RstAt w b g cap d.l true (leftK d.armed d.left 0) d.wrote := by have := h; unfold RAs at this; rw [hd'] at this; exact this
      refine (rstWrite_go b g cap d k s (by omega) hd' hwr hlm w h').mono ?_
      rintro e w' ⟨rfl, hR, hK⟩
      rw [writeE_ok d _ s ht' hd', writeS_ok d _ s ht' hd']
      refine ⟨rfl, ?_, hK⟩
      rw [prog1_put] at hR
      by_cases hn : d.n s < s.size
      · rw [if_pos hn]
        simp only [hn, decide_true, Bool.not_true, if_true] at hR
        unfold RAs
        simpa [Sto.put, Sto.off, leftK] using hR
      · rw [if_neg hn]
        simp only [hn, decide_false, Bool.not_false, if_false] at hR
        unfold RAs
        have e1 : leftK d.armed (if d.armed then d.left - d.n s else d.left) 0 = leftK d.armed d.left (d.n s) := by
          unfold leftK
          split <;> simp_all
        simp only [Sto.put, Int.toNat_natCast, hd', Bool.not_false]
        rw [e1]
        exact hR
end Go.Proofs.Ytpkgpffodkfncaa
