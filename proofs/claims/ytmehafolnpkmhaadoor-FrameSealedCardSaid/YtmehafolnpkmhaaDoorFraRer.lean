/- The reference's Error, and its Frame. -/
import Derived.Test.YtmehafolnpkmhaaDoorFraRfr
import Derived.Test.YtmehafolnpkmhaaDoorFraRref
import Derived.Test.YtmehafolnpkmhaaDoorFraDec
namespace Go.Proofs.YtmehafolnpkmhaaDoor
open Go.RowKit
theorem opened_iff (s : ByteArray) (h : 2 ≤ s.size) : (Crc.opened s).2 = decide (Crc.rsealed (s.extract 0 (s.size - 2)) = s) := by
  rw [Crc.rsealed_eq]
  have hj := Crc.open_just s h
  by_cases h0 : Crc.more 65535 s.data.toList = 0
  · rw [Crc.opened_yes s (by omega) h0]
    simp [hj.1 h0]
  · rw [Crc.opened_no s h0]
    have : ¬ Crc.sealed (s.extract 0 (s.size - 2)) = s := fun h => h0 (hj.2 h)
    simp [this]
theorem dec_10a {s : ByteArray} (h : s.size < 17 ∨ ¬ (s.size : Int) = (nb s 1 1 : Nat)) : (decF s).2 = 10 := by
  unfold decF
  rw [if_pos (by omega)]
theorem dec_9 {s : ByteArray} (h : 17 ≤ s.size) (h1 : (s.size : Int) = (nb s 1 1 : Nat)) (h2 : ¬ Crc.rsealed (s.extract 0 (s.size - 2)) = s) : (decF s).2 = 9 := by
  have := nb_lt s 1 1 (by decide)
  unfold decF
  rw [if_neg (by omega), if_pos (by rw [opened_iff s (by omega)]; simp [h2])]
theorem dec_b {s : ByteArray} (h : 17 ≤ s.size) (h1 : (s.size : Int) = (nb s 1 1 : Nat)) (h2 : Crc.rsealed (s.extract 0 (s.size - 2)) = s) :
    (decF s).2 = if ¬ (1 ≤ nb s 0 1 ∧ nb s 0 1 ≤ 5) then 11 else if (s.size : Int) < (shapeF (nb s 0 1 : Nat)).2.2.1 ∨ (shapeF (nb s 0 1 : Nat)).2.2.2.1 < (s.size : Int) then 10
      else if okW (s.extract 0 (s.size - 2)) = false ∨ ¬ rightP (frF (s.extract 0 (s.size - 2))) then 3 else 0 := by
  have := nb_lt s 1 1 (by decide)
  unfold decF
  rw [if_neg (by omega), if_neg (by rw [opened_iff s (by omega)]; simp [h2])]
  split
  · rfl
  · split
    · rfl
    · split <;> rfl
theorem sh_4 {s : ByteArray} (e : nb s 0 1 = 4) : (shapeF (nb s 0 1 : Nat)).2.2.1 = 27 ∧ (shapeF (nb s 0 1 : Nat)).2.2.2.1 = 42 := by rw [e]; decide
theorem sh_3 {s : ByteArray} (e : nb s 0 1 = 3) : (shapeF (nb s 0 1 : Nat)).2.2.1 = 23 ∧ (shapeF (nb s 0 1 : Nat)).2.2.2.1 = 23 := by rw [e]; decide
theorem sh_o {s : ByteArray} (h : 1 ≤ nb s 0 1 ∧ nb s 0 1 ≤ 5) (e4 : nb s 0 1 ≠ 4) (e3 : nb s 0 1 ≠ 3) : (shapeF (nb s 0 1 : Nat)).2.2.1 = 17 ∧ (shapeF (nb s 0 1 : Nat)).2.2.2.1 = 17 := by
  rcases (by omega : nb s 0 1 = 1 ∨ nb s 0 1 = 2 ∨ nb s 0 1 = 5) with e | e | e <;> (rw [e]; decide)
/-- What is left to ask when the length fits. -/
theorem dec_c {s : ByteArray} (h : 17 ≤ s.size) (h1 : (s.size : Int) = (nb s 1 1 : Nat)) (h2 : Crc.rsealed (s.extract 0 (s.size - 2)) = s) (h3 : 1 ≤ nb s 0 1 ∧ nb s 0 1 ≤ 5)
    (h4 : nb s 0 1 = 4 → 27 ≤ s.size ∧ s.size ≤ 42) (h5 : nb s 0 1 = 3 → s.size = 23) (h6 : nb s 0 1 ≠ 4 → nb s 0 1 ≠ 3 → s.size = 17) :
    (decF s).2 = if (nb s 0 1 = 3 ∧ 1 < nb s 20 1) ∨ ¬ rightP (frF (s.extract 0 (s.size - 2))) then 3 else 0 := by
  have hw : okW (s.extract 0 (s.size - 2)) = false ↔ (nb s 0 1 = 3 ∧ 1 < nb s 20 1) := by
    unfold okW
    by_cases e : nb s 0 1 = 3
    · have := h5 e
      rw [nb_ext s (s.size - 2) 0 1 (by omega), nb_ext s (s.size - 2) 20 1 (by omega)]
      simp [e]
      omega
    · rw [nb_ext s (s.size - 2) 0 1 (by omega)]
      simp [e]
  have hl : ¬ ((s.size : Int) < (shapeF (nb s 0 1 : Nat)).2.2.1 ∨ (shapeF (nb s 0 1 : Nat)).2.2.2.1 < (s.size : Int)) := by
    by_cases e4 : nb s 0 1 = 4
    · have := h4 e4
      have := sh_4 e4
      omega
    · by_cases e3 : nb s 0 1 = 3
      · have := h5 e3
        have := sh_3 e3
        omega
      · have := h6 e4 e3
        have := sh_o h3 e4 e3
        omega
  rw [dec_b h h1 h2, if_neg (by omega), if_neg hl]
  simp only [hw]
theorem dec_10b {s : ByteArray} (h : 17 ≤ s.size) (h1 : (s.size : Int) = (nb s 1 1 : Nat)) (h2 : Crc.rsealed (s.extract 0 (s.size - 2)) = s) (h3 : 1 ≤ nb s 0 1 ∧ nb s 0 1 ≤ 5)
    (hb : (nb s 0 1 = 4 ∧ (s.size < 27 ∨ 42 < s.size)) ∨ (nb s 0 1 = 3 ∧ s.size ≠ 23) ∨ (nb s 0 1 ≠ 4 ∧ nb s 0 1 ≠ 3 ∧ s.size ≠ 17)) : (decF s).2 = 10 := by
  have hl : ((s.size : Int) < (shapeF (nb s 0 1 : Nat)).2.2.1 ∨ (shapeF (nb s 0 1 : Nat)).2.2.2.1 < (s.size : Int)) := by
    rcases hb with ⟨e, hb⟩ | ⟨e, hb⟩ | ⟨e4, e3, hb⟩
    · have := sh_4 e
      omega
    · have := sh_3 e
      omega
    · have := sh_o h3 e4 e3
      omega
  rw [dec_b h h1 h2, if_neg (by omega), if_pos hl]
theorem dec_11 {s : ByteArray} (h : 17 ≤ s.size) (h1 : (s.size : Int) = (nb s 1 1 : Nat)) (h2 : Crc.rsealed (s.extract 0 (s.size - 2)) = s) (h3 : ¬ (1 ≤ nb s 0 1 ∧ nb s 0 1 ≤ 5)) : (decF s).2 = 11 := by
  rw [dec_b h h1 h2, if_pos h3]
set_option maxRecDepth 100000 in
set_option maxHeartbeats 4000000 in
theorem rerror_any (s : ByteArray) (hs : s.size ≤ maxLen) (w : World) :
    Calls Tryd.prog 49 #[.string s] w fun e w' => e = .returned (.int .i64 (decF s).2) ∧ Below w.heap.size w w' := by
  have hm := hs
  unfold maxLen at hm
  by_cases h17 : (s.size : Int) < 17
  · go_enter Tryd.func49, Tryd.ntmps49
    go_wp2
    go_ret
    exact ⟨by rw [dec_10a (.inl (by omega))]; rfl, Below.refl _ _⟩
  have hz1 : 1 < s.size := by omega
  have i1 : (1 : Int) < (s.size : Int) := by omega
  obtain ⟨b1, hb1⟩ : ∃ b, b = nb s 1 1 := ⟨_, rfl⟩
  have v1 : s[1].toNat = b1 := by rw [hb1]; exact (nb_one s 1 hz1).symm
  have l1 := nb_lt s 1 1 (by decide)
  rw [← hb1] at l1
  have HB1 := Lib.hid hb1
  clear hb1
  by_cases he : (s.size : Int) = (b1 : Int)
  · have hne : ((s.size : Int) != (b1 : Int)) = false := by simp [he]
    have HE := Lib.hid he
    clear he
    have hn17 : (17 : Int) ≤ (s.size : Int) := by omega
    have j2 : (0 : Int) ≤ (s.size : Int) - 2 := by omega
    have j3 : (s.size : Int) - 2 ≤ (s.size : Int) := by omega
    have q2 : IntKind.i64.wrap ((s.size : Int) - 2) = (s.size : Int) - 2 := IntWalk.i64_in _ (by omega)
    go_enter Tryd.func49, Tryd.ntmps49
    go_wp2_with fail
    refine (rsealed_any (s.extract 0 (s.size - 2)) (by rw [ByteArray.size_extract]; unfold maxLen; omega) _).mono ?_
    rintro e w1 ⟨rfl, hbw⟩
    obtain ⟨rs, hrs⟩ : ∃ x, x = Crc.rsealed (s.extract 0 (s.size - 2)) := ⟨_, rfl⟩
    rw [← hrs]
    have HRS := Lib.hid hrs
    clear hrs
    have hz0 : 0 < s.size := by omega
    have i0 : (0 : Int) < (s.size : Int) := by omega
    obtain ⟨b0, hb0⟩ : ∃ b, b = nb s 0 1 := ⟨_, rfl⟩
    have v0 : s[0].toNat = b0 := by rw [hb0]; exact (nb_one s 0 hz0).symm
    have l0 := nb_lt s 0 1 (by decide)
    rw [← hb0] at l0
    have q0 : IntKind.i64.wrap (b0 : Int) = (b0 : Int) := IntWalk.i64_in _ (by omega)
    have HB0 := Lib.hid hb0
    clear hb0
    by_cases hr : rs = s
    · have hq : (rs.toList == s.toList) = true := by rw [hr]; simp
      have HRS2 := Lib.hid (show Crc.rsealed (s.extract 0 (s.size - 2)) = s by rw [← HRS.out]; exact hr)
      clear hr
      by_cases hk : 1 ≤ (b0 : Int) ∧ (b0 : Int) ≤ 5
      · obtain ⟨hk1, hk5⟩ := hk
        rcases (by omega : b0 = 4 ∨ b0 = 3 ∨ (b0 ≠ 4 ∧ b0 ≠ 3)) with e4 | e3 | ⟨e4, e3⟩
        · subst e4
          by_cases h27 : (s.size : Int) < 27
          · go_wp2
            go_ret
            refine ⟨?_, hbw⟩
            rw [dec_10b (by omega) (by rw [← HB1.out]; exact HE.out) HRS2.out (by have := HB0.out; omega) (.inl (by have := HB0.out; omega))]
            rfl
          by_cases h42 : 42 < (s.size : Int)
          · go_wp2
            go_ret
            refine ⟨?_, hbw⟩
            rw [dec_10b (by omega) (by rw [← HB1.out]; exact HE.out) HRS2.out (by have := HB0.out; omega) (.inl (by have := HB0.out; omega))]
            rfl
          go_wp2_with fail
          refine (rframe_any s hs (by omega) (by intro e; have := HB0.out; omega) (by intro e; have := HB0.out; omega) _).mono ?_
          rintro e w2 ⟨rfl, hb2⟩
          have hbx := hbw.trans (hb2.mono hbw.size)
          have HBX := Lib.hid hbx
          clear hb2 hbx hbw
          have hrr := rright_any _ (frF (s.extract 0 (s.size - 2))) rfl w2
          obtain ⟨C, hC⟩ : ∃ C, C = (frF (s.extract 0 (s.size - 2))).cells := ⟨_, rfl⟩
          rw [← hC] at hrr ⊢
          obtain ⟨rb, hrb⟩ : ∃ b, b = decide (rightP (frF (s.extract 0 (s.size - 2)))) := ⟨_, rfl⟩
          rw [← hrb] at hrr
          have HRR := Lib.hid hrr
          have HRB := Lib.hid hrb
          clear hrr hC hrb
          go_wp2_with fail
          refine HRR.out.mono ?_
          rintro e w3 ⟨rfl, hb3⟩
          have hby := HBX.out.trans (hb3.mono HBX.out.size)
          have HBY := Lib.hid hby
          clear hb3 hby HBX HRR
          have hdc := dec_c (by omega) (by rw [← HB1.out]; exact HE.out) HRS2.out (by have := HB0.out; omega) (by intro e; have := HB0.out; omega) (by intro e; have := HB0.out; omega) (by intro e e'; have := HB0.out; omega)
          have HDC := Lib.hid hdc
          clear hdc
          cases rb
          · go_wp2
            go_ret
            refine ⟨?_, HBY.out⟩
            have hn : ¬ rightP (frF (s.extract 0 (s.size - 2))) := of_decide_eq_false HRB.out.symm
            rw [HDC.out, if_pos (.inr hn)]
            rfl
          · go_wp2
            go_ret
            refine ⟨?_, HBY.out⟩
            have hn : rightP (frF (s.extract 0 (s.size - 2))) := of_decide_eq_true HRB.out.symm
            rw [HDC.out, if_neg (fun hh => by rcases hh with ⟨e, _⟩ | e; (have := HB0.out; omega); exact e hn)]
            rfl
        · subst e3
          by_cases h23 : (s.size : Int) = 23
          · have n23 : ((s.size : Int) != 23) = false := by simp [h23]
            have hz20 : 20 < s.size := by omega
            have i20 : (20 : Int) < (s.size : Int) := by omega
            obtain ⟨b20, hb20⟩ : ∃ b, b = nb s 20 1 := ⟨_, rfl⟩
            have v20 : s[20].toNat = b20 := by rw [hb20]; exact (nb_one s 20 hz20).symm
            have HB20 := Lib.hid hb20
            have HS23 := Lib.hid h23
            clear hb20 h23
            by_cases h20 : 1 < (b20 : Int)
            · have hdc := dec_c (by omega) (by rw [← HB1.out]; exact HE.out) HRS2.out (by have := HB0.out; omega) (by intro e; have := HB0.out; omega) (by intro e; have := HS23.out; omega) (by intro e e'; have := HB0.out; omega)
              have HDC := Lib.hid hdc
              clear hdc
              go_wp2
              go_ret
              refine ⟨?_, hbw⟩
              rw [HDC.out, if_pos (.inl (by have := HB0.out; have := HB20.out; omega))]
              rfl
            · have f20 : decide (1 < (b20 : Int)) = false := decide_eq_false h20
              go_wp2_with fail
              clear f20
              refine (rframe_any s hs (by omega) (by intro e; have := HS23.out; omega) (by intro e; have := HB0.out; omega) _).mono ?_
              rintro e w2 ⟨rfl, hb2⟩
              have hbx := hbw.trans (hb2.mono hbw.size)
              have HBX := Lib.hid hbx
              clear hb2 hbx hbw
              have hrr := rright_any _ (frF (s.extract 0 (s.size - 2))) rfl w2
              obtain ⟨C, hC⟩ : ∃ C, C = (frF (s.extract 0 (s.size - 2))).cells := ⟨_, rfl⟩
              rw [← hC] at hrr ⊢
              obtain ⟨rb, hrb⟩ : ∃ b, b = decide (rightP (frF (s.extract 0 (s.size - 2)))) := ⟨_, rfl⟩
              rw [← hrb] at hrr
              have HRR := Lib.hid hrr
              have HRB := Lib.hid hrb
              clear hrr hC hrb
              go_wp2_with fail
              refine HRR.out.mono ?_
              rintro e w3 ⟨rfl, hb3⟩
              have hby := HBX.out.trans (hb3.mono HBX.out.size)
              have HBY := Lib.hid hby
              clear hb3 hby HBX HRR
              have hdc := dec_c (by omega) (by rw [← HB1.out]; exact HE.out) HRS2.out (by have := HB0.out; omega) (by intro e; have := HB0.out; omega) (by intro e; have := HS23.out; omega) (by intro e e'; have := HB0.out; omega)
              have HDC := Lib.hid hdc
              clear hdc
              cases rb
              · go_wp2
                go_ret
                refine ⟨?_, HBY.out⟩
                have hn : ¬ rightP (frF (s.extract 0 (s.size - 2))) := of_decide_eq_false HRB.out.symm
                rw [HDC.out, if_pos (.inr hn)]
                rfl
              · go_wp2
                go_ret
                refine ⟨?_, HBY.out⟩
                have hn : rightP (frF (s.extract 0 (s.size - 2))) := of_decide_eq_true HRB.out.symm
                rw [HDC.out, if_neg (fun hh => by rcases hh with ⟨e, _⟩ | e; (have := HB20.out; omega); exact e hn)]
                rfl
          · have n23 : ((s.size : Int) != 23) = true := by simp [h23]
            go_wp2
            go_ret
            refine ⟨?_, hbw⟩
            rw [dec_10b (by omega) (by rw [← HB1.out]; exact HE.out) HRS2.out (by have := HB0.out; omega) (.inr (.inl (by have := HB0.out; omega)))]
            rfl
        · have k4 : ((b0 : Int) == 4) = false := by simp; omega
          have k3 : ((b0 : Int) == 3) = false := by simp; omega
          have k3' : ((b0 : Int) != 3) = true := by simp; omega
          have HNK := Lib.hid (And.intro e4 e3)
          clear e4 e3
          by_cases h17b : (s.size : Int) = 17
          · have n17 : ((s.size : Int) != 17) = false := by simp [h17b]
            have HS17 := Lib.hid h17b
            clear h17b
            go_wp2_with fail
            refine (rframe_any s hs (by omega) (by intro e; have := HB0.out; have := HNK.out; have := HS17.out; omega) (by intro e; have := HB0.out; have := HNK.out; have := HS17.out; omega) _).mono ?_
            rintro e w2 ⟨rfl, hb2⟩
            have hbx := hbw.trans (hb2.mono hbw.size)
            have HBX := Lib.hid hbx
            clear hb2 hbx hbw
            have hrr := rright_any _ (frF (s.extract 0 (s.size - 2))) rfl w2
            obtain ⟨C, hC⟩ : ∃ C, C = (frF (s.extract 0 (s.size - 2))).cells := ⟨_, rfl⟩
            rw [← hC] at hrr ⊢
            obtain ⟨rb, hrb⟩ : ∃ b, b = decide (rightP (frF (s.extract 0 (s.size - 2)))) := ⟨_, rfl⟩
            rw [← hrb] at hrr
            have HRR := Lib.hid hrr
            have HRB := Lib.hid hrb
            clear hrr hC hrb
            go_wp2_with fail
            refine HRR.out.mono ?_
            rintro e w3 ⟨rfl, hb3⟩
            have hby := HBX.out.trans (hb3.mono HBX.out.size)
            have HBY := Lib.hid hby
            clear hb3 hby HBX HRR
            have hdc := dec_c (by omega) (by rw [← HB1.out]; exact HE.out) HRS2.out (by have := HB0.out; have := HNK.out; have := HS17.out; omega) (by intro e; have := HB0.out; have := HNK.out; have := HS17.out; omega) (by intro e; have := HB0.out; have := HNK.out; have := HS17.out; omega) (by intro e e'; have := HB0.out; have := HNK.out; have := HS17.out; omega)
            have HDC := Lib.hid hdc
            clear hdc
            cases rb
            · go_wp2
              go_ret
              refine ⟨?_, HBY.out⟩
              have hn : ¬ rightP (frF (s.extract 0 (s.size - 2))) := of_decide_eq_false HRB.out.symm
              rw [HDC.out, if_pos (.inr hn)]
              rfl
            · go_wp2
              go_ret
              refine ⟨?_, HBY.out⟩
              have hn : rightP (frF (s.extract 0 (s.size - 2))) := of_decide_eq_true HRB.out.symm
              rw [HDC.out, if_neg (fun hh => by rcases hh with ⟨e, _⟩ | e; (have := HB0.out; have := HNK.out; omega); exact e hn)]
              rfl
          · have n17 : ((s.size : Int) != 17) = true := by simp [h17b]
            go_wp2
            go_ret
            refine ⟨?_, hbw⟩
            rw [dec_10b (by omega) (by rw [← HB1.out]; exact HE.out) HRS2.out (by have := HB0.out; omega) (.inr (.inr (by have := HB0.out; have := HNK.out; omega)))]
            rfl
      · rcases (by omega : (b0 : Int) < 1 ∨ 5 < (b0 : Int)) with hk1 | hk1
        · go_wp2
          go_ret
          refine ⟨?_, hbw⟩
          rw [dec_11 (by omega) (by rw [← HB1.out]; exact HE.out) HRS2.out (by have := HB0.out; omega)]
          rfl
        · go_wp2
          go_ret
          refine ⟨?_, hbw⟩
          rw [dec_11 (by omega) (by rw [← HB1.out]; exact HE.out) HRS2.out (by have := HB0.out; omega)]
          rfl
    · have hq : (rs.toList == s.toList) = false := by
        have : ¬ rs.toList = s.toList := fun h => hr (by
          rw [ByteArray.toList_eq, ByteArray.toList_eq] at h
          exact Crc.ext_list h)
        simpa using this
      go_wp2
      go_ret
      refine ⟨?_, hbw⟩
      rw [dec_9 (by omega) (by rw [← HB1.out]; exact HE.out) (by rw [← HRS.out]; exact hr)]
      rfl
  · go_enter Tryd.func49, Tryd.ntmps49
    have hne : ((s.size : Int) != (b1 : Int)) = true := by simp [he]
    have hn17 : (17 : Int) ≤ (s.size : Int) := by omega
    go_wp2
    go_ret
    exact ⟨by rw [dec_10a (.inr (by rw [← HB1.out]; exact he))]; rfl, Below.refl _ _⟩
end Go.Proofs.YtmehafolnpkmhaaDoor
