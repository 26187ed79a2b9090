/- A store's Write, whole: every argument. -/
import Derived.Test.YtpkgpffodkfncaaStoWalks
import Derived.Lib.BufferWrite
namespace Go.Proofs.Ytpkgpffodkfncaa
open Go.RowKit
theorem putAt_nil (l : List UInt8) (a : Nat) : putAt l a [] = l := by simp [putAt]
theorem bytes_nil {s : ByteArray} (h : s.size = 0) : s.data.toList = [] := by
  apply List.length_eq_zero_iff.1
  simpa using h
set_option maxRecDepth 100000 in
set_option maxHeartbeats 2000000 in
theorem stoWrite_end (b g cap : Nat) (d : Sto) (s : ByteArray) (hs0 : s.size = 0) (hlc : d.l.length = cap) (hd : d.dark = false) (harm : d.armed = false) (hwr : d.wrote ≤ 1000000) (w : World) (h : StoAt w b g cap d) :
    Calls Try.prog 46 #[.pointer (some ⟨b, 0, none⟩), .int .i64 (cap : Int), .string s] w fun e w' => e = .returned (.int .i64 0) ∧ StoAt w' b g cap (d.put cap s.size s) ∧ StoKeep b g w w' := by
  have c0 : w.cell? ⟨b, 0, none⟩ = some (.slice (some ⟨g, 0, none⟩) d.l.length cap) := h.obj.cell 0
  have c1 : w.cell? ⟨b, 1, none⟩ = some (.bool false) := by rw [← hd]; exact h.obj.cell 1
  have c2 : w.cell? ⟨b, 2, none⟩ = some (.bool false) := by rw [← harm]; exact h.obj.cell 2
  have hm := h.most
  have hle := h.le
  have hmax := h.max
  have ht : stoThere d.l.length (cap : Int) (s.size : Int) = true := by simp [stoThere]; omega
  have HH := Lib.hid h
  have HA := Lib.hid harm
  have hex : s.extract 0 s.size = s := ByteArray.extract_zero_size
  have HEX := Lib.hid hex
  have HLC := Lib.hid hlc
  have HS0 := Lib.hid hs0
  have hali : (cap : Int) ≤ d.l.length := by omega
  have hal : cap ≤ d.l.length := by omega
  have hss : s.size ≤ 1000 := by omega
  clear hd harm hex hlc hs0
  go_enter Try.func46, Try.ntmps46
  go_wp2_with fail
  refine (stoThere_any b g cap d (cap : Int) (s.size : Int) (by have := HLC.out; omega) (by omega) w HH.out).mono ?_
  rintro e w' ⟨rfl, rfl⟩
  go_wp2
  go_still_tail 9, (by kernel_rfl)
  change wpList _ _ _ _ _ w.drew
  have hK2 : StoKeep b g w w.drew := (Keep.refl _ w).drew
  have hO2 : ObjAt w.drew b #[.slice (some ⟨g, 0, none⟩) d.l.length cap, .bool d.dark, .bool d.armed, .int .i64 (d.left : Int), .int .i64 (d.wrote : Int)] 93 := HH.out.obj
  have hR2 : RowAt w.drew g d.l := HH.out.row.block rfl
  have hne := HH.out.ne
  generalize w.drew = w2 at hK2 hO2 hR2 ⊢
  have hcp : ∀ p n m, (Builtin.copy_ #[33, 9] 3 #[.slice p n m, .string s]).run Try.prog w2 = .ok (goInt 0) w2 := fun p n m => Lib.run_copy_empty_string w2 33 9 3 5 p n m s (by kernel_rfl) (by kernel_rfl) HS0.out
  have k4 : w2.cell? ⟨b, 4, none⟩ = some (.int .i64 (d.wrote : Int)) := hO2.cell 4
  have z4 : w2.frozen? ⟨b, 4, none⟩ = false := hO2.free 4
  have hO4 := hO2.set 4 (.int .i64 ((d.wrote : Int) + s.size))
  have hR4 : RowAt (w2.setCell ⟨b, 4, none⟩ (.int .i64 ((d.wrote : Int) + s.size))) g d.l := hR2.block (heap_setCell_other _ _ _ _ (by exact hne))
  have hK4 : StoKeep b g w (w2.setCell ⟨b, 4, none⟩ (.int .i64 ((d.wrote : Int) + s.size))) := hK2.setCell (p := ⟨b, 4, none⟩) (.inr (.inl rfl)) _
  have hS4 : StoAt (w2.setCell ⟨b, 4, none⟩ (.int .i64 ((d.wrote : Int) + s.size))) b g cap (d.put cap s.size s) := by
    have hpl : putAt d.l cap s.data.toList = d.l := by rw [bytes_nil HS0.out, putAt_nil]
    refine ⟨?_, ?_, hne, ?_, hmax, ?_⟩
    · have := hO4
      rw [HA.out] at this
      simp only [Sto.put, HEX.out, hpl, HA.out, Bool.false_eq_true, if_false, Int.natCast_add]
      exact this
    · simp only [Sto.put, HEX.out, hpl]
      exact hR4
    · simp only [Sto.put, HEX.out, hpl]
      exact hle
    · simp only [Sto.put, HEX.out, hpl]
      exact hm
  have HS4 := Lib.hid hS4
  clear c0 c1 c2 h hO2 hR2 hK2 hO4 hR4 hS4
  go_wp2_with (at_builtin; refine Lib.wpList_copy_run _ rfl _ _ 33 9 rfl _ _ rfl rfl (hcp _ _ _) ?_)
  go_ret
  exact ⟨rfl, HS4.out, hK4⟩
set_option maxRecDepth 100000 in
set_option maxHeartbeats 2000000 in
theorem stoWrite_endArmed (b g cap : Nat) (d : Sto) (s : ByteArray) (hs0 : s.size = 0) (hlc : d.l.length = cap) (hd : d.dark = false) (harm : d.armed = true) (hlm : d.left ≤ 9223372036854775807) (hwr : d.wrote ≤ 1000000) (w : World) (h : StoAt w b g cap d) :
    Calls Try.prog 46 #[.pointer (some ⟨b, 0, none⟩), .int .i64 (cap : Int), .string s] w fun e w' => e = .returned (.int .i64 0) ∧ StoAt w' b g cap (d.put cap s.size s) ∧ StoKeep b g w w' := by
  have c0 : w.cell? ⟨b, 0, none⟩ = some (.slice (some ⟨g, 0, none⟩) d.l.length cap) := h.obj.cell 0
  have c1 : w.cell? ⟨b, 1, none⟩ = some (.bool false) := by rw [← hd]; exact h.obj.cell 1
  have c2 : w.cell? ⟨b, 2, none⟩ = some (.bool true) := by rw [← harm]; exact h.obj.cell 2
  have hm := h.most
  have hle := h.le
  have hmax := h.max
  have ht : stoThere d.l.length (cap : Int) (s.size : Int) = true := by simp [stoThere]; omega
  have HH := Lib.hid h
  have c3 : w.cell? ⟨b, 3, none⟩ = some (.int .i64 (d.left : Int)) := h.obj.cell 3
  have f3 : w.frozen? ⟨b, 3, none⟩ = false := h.obj.free 3
  have hmin : min (s.size : Int) (d.left : Int) = (s.size : Int) := by omega
  have hsub : (d.left : Int) - (s.size : Int) = (d.left : Int) := by omega
  have hO1 := h.obj.set 3 (.int .i64 (d.left : Int))
  have hR1 : RowAt (w.setCell ⟨b, 3, none⟩ (.int .i64 (d.left : Int))) g d.l := h.row.block (heap_setCell_other _ _ _ _ (by exact h.ne))
  have hK1 : StoKeep b g w (w.setCell ⟨b, 3, none⟩ (.int .i64 (d.left : Int))) := (Keep.refl _ w).setCell (p := ⟨b, 3, none⟩) (.inr (.inl rfl)) _
  have HA := Lib.hid harm
  have hex : s.extract 0 s.size = s := ByteArray.extract_zero_size
  have HEX := Lib.hid hex
  have HLC := Lib.hid hlc
  have HS0 := Lib.hid hs0
  have hali : (cap : Int) ≤ d.l.length := by omega
  have hal : cap ≤ d.l.length := by omega
  have hss : s.size ≤ 1000 := by omega
  clear hd harm hex hlc hs0
  go_enter Try.func46, Try.ntmps46
  go_wp2_with fail
  refine (stoThere_any b g cap d (cap : Int) (s.size : Int) (by have := HLC.out; omega) (by omega) w HH.out).mono ?_
  rintro e w' ⟨rfl, rfl⟩
  go_wp2
  clear c0 c1 c2 c3
  generalize w.setCell ⟨b, 3, none⟩ (.int .i64 (d.left : Int)) = w1 at hO1 hR1 hK1 ⊢
  have c0 : w1.cell? ⟨b, 0, none⟩ = some (.slice (some ⟨g, 0, none⟩) d.l.length cap) := hO1.cell 0
  go_still_tail 9, (by kernel_rfl)
  change wpList _ _ _ _ _ w1.drew
  have hK2 : StoKeep b g w w1.drew := hK1.drew
  have hO2 : ObjAt w1.drew b #[.slice (some ⟨g, 0, none⟩) d.l.length cap, .bool d.dark, .bool d.armed, .int .i64 (d.left : Int), .int .i64 (d.wrote : Int)] 93 := hO1
  have hR2 : RowAt w1.drew g d.l := hR1.block rfl
  have hne := HH.out.ne
  generalize w1.drew = w2 at hK2 hO2 hR2 ⊢
  have hcp : ∀ p n m, (Builtin.copy_ #[33, 9] 3 #[.slice p n m, .string s]).run Try.prog w2 = .ok (goInt 0) w2 := fun p n m => Lib.run_copy_empty_string w2 33 9 3 5 p n m s (by kernel_rfl) (by kernel_rfl) HS0.out
  have k4 : w2.cell? ⟨b, 4, none⟩ = some (.int .i64 (d.wrote : Int)) := hO2.cell 4
  have z4 : w2.frozen? ⟨b, 4, none⟩ = false := hO2.free 4
  have hO4 := hO2.set 4 (.int .i64 ((d.wrote : Int) + s.size))
  have hR4 : RowAt (w2.setCell ⟨b, 4, none⟩ (.int .i64 ((d.wrote : Int) + s.size))) g d.l := hR2.block (heap_setCell_other _ _ _ _ (by exact hne))
  have hK4 : StoKeep b g w (w2.setCell ⟨b, 4, none⟩ (.int .i64 ((d.wrote : Int) + s.size))) := hK2.setCell (p := ⟨b, 4, none⟩) (.inr (.inl rfl)) _
  have hS4 : StoAt (w2.setCell ⟨b, 4, none⟩ (.int .i64 ((d.wrote : Int) + s.size))) b g cap (d.put cap s.size s) := by
    have hpl : putAt d.l cap s.data.toList = d.l := by rw [bytes_nil HS0.out, putAt_nil]
    refine ⟨?_, ?_, hne, ?_, hmax, ?_⟩
    · have := hO4
      rw [HA.out] at this
      have hsn : d.left - s.size = d.left := by rw [HS0.out]; rfl
      simp only [Sto.put, HEX.out, hpl, HA.out, if_true, Int.natCast_add, hsn]
      exact this
    · simp only [Sto.put, HEX.out, hpl]
      exact hR4
    · simp only [Sto.put, HEX.out, hpl]
      exact hle
    · simp only [Sto.put, HEX.out, hpl]
      exact hm
  have HS4 := Lib.hid hS4
  clear c0 h hO1 hR1 hK1 hO2 hR2 hK2 hO4 hR4 hS4
  go_wp2_with (at_builtin; refine Lib.wpList_copy_run _ rfl _ _ 33 9 rfl _ _ rfl rfl (hcp _ _ _) ?_)
  go_ret
  exact ⟨rfl, HS4.out, hK4⟩
set_option maxRecDepth 100000 in
theorem stoWrite_not (b g cap : Nat) (d : Sto) (a : Int) (ha : -9223372036854775808 ≤ a ∧ a ≤ 9223372036854775807) (s : ByteArray) (hs : s.size ≤ 140737488355328) (hn : stoThere d.l.length a s.size = false) (w : World) (h : StoAt w b g cap d) :
    Calls Try.prog 46 #[.pointer (some ⟨b, 0, none⟩), .int .i64 a, .string s] w fun e w' => e = .returned (.int .i64 1) ∧ w = w' := by
  go_enter Try.func46, Try.ntmps46
  go_wp2_with fail
  refine (stoThere_any b g cap d a (s.size : Int) ha (by omega) w h).mono ?_
  rintro e w' ⟨rfl, rfl⟩
  go_wp2
  go_ret
  exact ⟨rfl, rfl⟩
set_option maxRecDepth 100000 in
theorem stoWrite_dark (b g cap : Nat) (d : Sto) (a : Int) (ha : -9223372036854775808 ≤ a ∧ a ≤ 9223372036854775807) (s : ByteArray) (hs : s.size ≤ 140737488355328) (hn : stoThere d.l.length a s.size = true) (hd : d.dark = true) (w : World) (h : StoAt w b g cap d) :
    Calls Try.prog 46 #[.pointer (some ⟨b, 0, none⟩), .int .i64 a, .string s] w fun e w' => e = .returned (.int .i64 12) ∧ w = w' := by
  have c1 : w.cell? ⟨b, 1, none⟩ = some (.bool true) := by rw [← hd]; exact h.obj.cell 1
  clear hd
  go_enter Try.func46, Try.ntmps46
  go_wp2_with fail
  refine (stoThere_any b g cap d a (s.size : Int) ha (by omega) w h).mono ?_
  rintro e w' ⟨rfl, rfl⟩
  go_wp2
  go_ret
  exact ⟨rfl, rfl⟩
/-- How many bytes are written; what it leaves; the error. -/
def Sto.n (d : Sto) (s : ByteArray) : Nat := if d.armed then min s.size d.left else s.size
def Sto.writeS (d : Sto) (a : Int) (s : ByteArray) : Sto :=
  if stoThere d.l.length a s.size = false ∨ d.dark = true then d
  else if d.n s < s.size then (d.put a.toNat (d.n s) s).off else d.put a.toNat (d.n s) s
def Sto.writeE (d : Sto) (a : Int) (s : ByteArray) : Int :=
  if stoThere d.l.length a s.size = false then 1 else if d.dark = true then 12 else if d.n s < s.size then 12 else 0
theorem stoWrite_any (b g cap : Nat) (d : Sto) (a : Int) (ha : -9223372036854775808 ≤ a ∧ a ≤ 9223372036854775807) (s : ByteArray) (hs : s.size ≤ 140737488355328) (hwr : d.wrote ≤ 1000000) (hlm : d.left ≤ 9223372036854775807) (w : World) (h : StoAt w b g cap d) :
    Calls Try.prog 46 #[.pointer (some ⟨b, 0, none⟩), .int .i64 a, .string s] w fun e w' => e = .returned (.int .i64 (d.writeE a s)) ∧ StoAt w' b g cap (d.writeS a s) ∧ StoKeep b g w w' := by
  by_cases ht : stoThere d.l.length a s.size = false
  · have eE : d.writeE a s = 1 := by rw [Sto.writeE, if_pos ht]
    have eS : d.writeS a s = d := by rw [Sto.writeS, if_pos (.inl ht)]
    rw [eE, eS]
    refine (stoWrite_not b g cap d a ha s hs ht w h).mono ?_
    rintro e w' ⟨rfl, rfl⟩
    exact ⟨rfl, h, Keep.refl _ _⟩
  · have ht' : stoThere d.l.length a s.size = true := by simpa using ht
    by_cases hd : d.dark = true
    · have eE : d.writeE a s = 12 := by rw [Sto.writeE, if_neg ht, if_pos hd]
      have eS : d.writeS a s = d := by rw [Sto.writeS, if_pos (.inr hd)]
      rw [eE, eS]
      refine (stoWrite_dark b g cap d a ha s hs ht' hd w h).mono ?_
      rintro e w' ⟨rfl, rfl⟩
      exact ⟨rfl, h, Keep.refl _ _⟩
    · have hd' : d.dark = false := by simpa using hd
      have hf : 0 ≤ a ∧ a + s.size ≤ d.l.length := by simp [stoThere] at ht'; omega
      obtain ⟨k, rfl⟩ := Int.eq_ofNat_of_zero_le hf.1
      have hfit : k + s.size ≤ d.l.length := by omega
      have hle := h.le
      have eE : d.writeE (k : Int) s = if d.n s < s.size then 12 else 0 := by rw [Sto.writeE, if_neg ht, if_neg hd]
      have eS : d.writeS (k : Int) s = if d.n s < s.size then (d.put k (d.n s) s).off else d.put k (d.n s) s := by
        rw [Sto.writeS, if_neg (by rintro (h | h) <;> contradiction), Int.toNat_natCast]
      rw [eE, eS]
      by_cases harm : d.armed = true
      · have en : d.n s = min s.size d.left := by rw [Sto.n, if_pos harm]
        by_cases hls : d.left < s.size
        · have en2 : d.n s = d.left := by rw [en]; exact Nat.min_eq_right (by omega)
          rw [en2]
          simp only [if_pos hls]
          exact stoWrite_torn b g cap d k s hfit hls hd' harm hwr w h
        · have en2 : d.n s = s.size := by rw [en]; exact Nat.min_eq_left (by omega)
          rw [en2]
          simp only [Nat.lt_irrefl, if_false]
          by_cases hac : k < cap
          · exact stoWrite_armed b g cap d k s hfit (by omega) hac hlm hd' harm hwr w h
          · have hkc : k = cap := by omega
            subst hkc
            exact stoWrite_endArmed b g k d s (by omega) (by omega) hd' harm hlm hwr w h
      · have harm' : d.armed = false := by simpa using harm
        have en2 : d.n s = s.size := by rw [Sto.n, if_neg harm]
        rw [en2]
        simp only [Nat.lt_irrefl, if_false]
        by_cases hac : k < cap
        · exact stoWrite_whole b g cap d k s hfit hac hd' harm' hwr w h
        · have hkc : k = cap := by omega
          subst hkc
          exact stoWrite_end b g k d s (by omega) (by omega) hd' harm' hwr w h
end Go.Proofs.Ytpkgpffodkfncaa
