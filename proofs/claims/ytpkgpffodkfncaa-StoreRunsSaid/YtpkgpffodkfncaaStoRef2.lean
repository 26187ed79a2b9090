/- The reference's Write: byte by byte. -/
import Derived.Test.YtpkgpffodkfncaaStoRef
namespace Go.Proofs.Ytpkgpffodkfncaa
open Go.RowKit
theorem putAt_snoc (l : List UInt8) (a : Nat) (t : List UInt8) (c : UInt8) (h : a + t.length + 1 ≤ l.length) : putAt (putAt l a t) (a + t.length) [c] = putAt l a (t ++ [c]) := by
  have la := putAt_length l a t (by omega)
  have l1 := putAt_length (putAt l a t) (a + t.length) [c] (by simp; omega)
  have l2 := putAt_length l a (t ++ [c]) (by simp; omega)
  have e : ∀ j, (putAt (putAt l a t) (a + t.length) [c]).getD j 0 = (putAt l a (t ++ [c])).getD j 0 := by
    intro j
    rw [putAt_get _ _ _ (by simp; omega), putAt_get _ _ _ (by omega), putAt_get _ _ _ (by simp; omega)]
    by_cases c1 : j = a + t.length
    · subst c1
      rw [if_pos (by simp), if_pos (by simp)]
      simp [List.getD_eq_getElem?_getD]
    · by_cases c2 : a ≤ j ∧ j < a + t.length
      · rw [if_neg (by simp; omega), if_pos c2, if_pos (by simp; omega)]
        simp only [List.getD_eq_getElem?_getD]
        rw [List.getElem?_append_left (by omega)]
      · rw [if_neg (by simp; omega), if_neg c2, if_neg (by simp; omega)]
  apply List.ext_getElem (by omega)
  intro j g1 g2
  have := e j
  simpa [List.getD_eq_getElem?_getD, List.getElem?_eq_getElem g1, List.getElem?_eq_getElem g2] using this
/-- One byte stored. -/
theorem RowAt.set1 {w : World} {g : Nat} {l : List UInt8} (h : RowAt w g l) (a : Nat) (c : UInt8) (ha : a < l.length) : RowAt (w.setCell ⟨g, a, none⟩ (.int .u8 (c.toNat : Int))) g (putAt l a [c]) := h.put a [c] (by simp; omega)
/-- What has been written behind k bytes. -/
def prog1 (l : List UInt8) (a k : Nat) (s : ByteArray) : List UInt8 := putAt l a (s.data.toList.take k)
theorem prog1_length (l : List UInt8) (a k : Nat) (s : ByteArray) (h : a + s.size ≤ l.length) (hk : k ≤ s.size) : (prog1 l a k s).length = l.length := by
  have : (s.data.toList.take k).length = k := by rw [List.length_take]; simp; omega
  exact putAt_length _ _ _ (by omega)
theorem prog1_succ (l : List UInt8) (a k : Nat) (s : ByteArray) (h : a + s.size ≤ l.length) (hk : k < s.size) : putAt (prog1 l a k s) (a + k) [s[k]] = prog1 l a (k + 1) s := by
  have hl : (s.data.toList.take k).length = k := by rw [List.length_take]; simp; omega
  have := putAt_snoc l a (s.data.toList.take k) s[k] (by omega)
  rw [hl] at this
  unfold prog1
  rw [this, take_snoc s k hk]
/-- What is left behind k bytes. -/
def leftK (armed : Bool) (left k : Nat) : Int := if armed then ((left - k : Nat) : Int) else -1
set_option maxRecDepth 100000 in
set_option maxHeartbeats 4000000 in
theorem rstWrite_go (b g cap : Nat) (d : Sto) (a : Nat) (s : ByteArray) (hfit : a + s.size ≤ d.l.length) (hd : d.dark = false) (hwr : d.wrote ≤ 1000000) (hlm : d.left ≤ 9223372036854775807) (w : World) (h : RstAt w b g cap d.l true (leftK d.armed d.left 0) d.wrote) :
    Calls Try.prog 70 #[.pointer (some ⟨b, 0, none⟩), .int .i64 (a : Int), .string s] w fun e w' =>
      e = .returned (.int .i64 (if d.n s < s.size then 12 else 0)) ∧ RstAt w' b g cap (prog1 d.l a (d.n s) s) (!decide (d.n s < s.size)) (if d.n s < s.size then -1 else leftK d.armed d.left (d.n s)) (d.wrote + d.n s) ∧ StoKeep b g w w' := by
  have c1 : w.cell? ⟨b, 1, none⟩ = some (.bool true) := h.obj.cell 1
  have hm := h.most
  have hle := h.le
  have hmax := h.max
  have hne := h.ne
  have ht : stoThere d.l.length (a : Int) (s.size : Int) = true := by simp [stoThere]; omega
  have HH := Lib.hid h
  clear hd
  have hns : d.n s ≤ s.size := by unfold Sto.n; split <;> omega
  have hnl : d.armed = true → d.n s = min s.size d.left := fun h => by rw [Sto.n, if_pos h]
  have hnu : d.armed = false → d.n s = s.size := fun h => by rw [Sto.n, if_neg (by simp [h])]
  have HNL := Lib.hid (And.intro hnl hnu)
  clear hnl hnu
  go_enter Try.func70, Try.ntmps70
  go_wp2_with fail
  refine (rstThere_any b g cap d.l true (leftK d.armed d.left 0) d.wrote (a : Int) (s.size : Int) (by omega) (by omega) w HH.out).mono ?_
  rintro e w9 ⟨rfl, hw9⟩
  have hw9 := hw9.symm
  subst hw9
  clear h
  go_wp2
  go_loopw [7] (fun i wr => ∃ k : Nat, k ≤ d.n s ∧ i = .int .i64 (k : Int) ∧ RstAt wr b g cap (prog1 d.l a k s) true (leftK d.armed d.left k) (d.wrote + k) ∧ StoKeep b g w wr) (fun i _ => s.size - (intOf i).toNat)
  case atStart =>
    refine ⟨0, Nat.zero_le _, rfl, ?_, Keep.refl _ _⟩
    have : prog1 d.l a 0 s = d.l := by simp [prog1, putAt]
    rw [this]
    exact HH.out
  case round =>
    obtain ⟨k, hk, rfl, hS, hK⟩ := hrel
    have hpl := prog1_length d.l a k s hfit (by omega)
    have c0 : wr.cell? ⟨b, 0, none⟩ = some (.slice (some ⟨g, 0, none⟩) (prog1 d.l a k s).length cap) := hS.obj.cell 0
    have c1' : wr.cell? ⟨b, 1, none⟩ = some (.bool true) := hS.obj.cell 1
    have c2 : wr.cell? ⟨b, 2, none⟩ = some (.int .i64 (leftK d.armed d.left k)) := hS.obj.cell 2
    have c3 : wr.cell? ⟨b, 3, none⟩ = some (.int .i64 ((d.wrote + k : Nat) : Int)) := hS.obj.cell 3
    have f1 : wr.frozen? ⟨b, 1, none⟩ = false := hS.obj.free 1
    have f2 : wr.frozen? ⟨b, 2, none⟩ = false := hS.obj.free 2
    have f3 : wr.frozen? ⟨b, 3, none⟩ = false := hS.obj.free 3
    rw [hpl] at c0
    by_cases hks : k < s.size
    · by_cases htorn : d.armed = true ∧ d.left = k
      · obtain ⟨ha, hlk⟩ := htorn
        have hn : d.n s = k := by rw [HNL.out.1 ha]; omega
        have hlK : leftK d.armed d.left k = 0 := by rw [leftK, if_pos ha, hlk]; simp
        rw [hlK] at c2
        have hlt : d.n s < s.size := by omega
        have ho := (hS.obj.set 1 (.bool false)).set 2 (.int .i64 (-1))
        have hr : RowAt ((wr.setCell ⟨b, 1, none⟩ (.bool false)).setCell ⟨b, 2, none⟩ (.int .i64 (-1))) g (prog1 d.l a k s) := hS.row.block (by rw [heap_setCell_other _ _ _ _ (by exact hne), heap_setCell_other _ _ _ _ (by exact hne)])
        have hk2 : StoKeep b g w ((wr.setCell ⟨b, 1, none⟩ (.bool false)).setCell ⟨b, 2, none⟩ (.int .i64 (-1))) := (hK.setCell (p := ⟨b, 1, none⟩) (.inr (.inl rfl)) _).setCell (p := ⟨b, 2, none⟩) (.inr (.inl rfl)) _
        have HN := Lib.hid hn
        have HLT := Lib.hid hlt
        have HSS := Lib.hid hS
        clear hn hlt hlk ha c1
        go_wp2
        go_ret
        rw [HN.out] at *
        refine ⟨rfl, ⟨?_, ?_, hne, ?_, hmax, ?_⟩, hk2⟩
        · exact ho
        · exact hr
        · rw [hpl]; exact hle
        · rw [hpl]; exact hm
      · have hkn : k + 1 ≤ d.n s := by
          cases ha : d.armed with
          | true =>
            have := HNL.out.1 ha
            have : d.left ≠ k := fun h => htorn ⟨ha, h⟩
            omega
          | false => have := HNL.out.2 ha; omega
        have hak : a + k < (prog1 d.l a k s).length := by omega
        have hsucc := prog1_succ d.l a k s hfit hks
        have hpl1 := prog1_length d.l a (k + 1) s hfit (by omega)
        have hRb : RowAt ((wr.setCell ⟨g, a + k, none⟩ (.int .u8 ((s[k]).toNat : Int))).drew) g (prog1 d.l a (k + 1) s) := by
          have := hS.row.set1 (a + k) s[k] hak
          rw [hsucc] at this
          exact this.block rfl
        have hO2 : ObjAt ((wr.setCell ⟨g, a + k, none⟩ (.int .u8 ((s[k]).toNat : Int))).drew) b #[.slice (some ⟨g, 0, none⟩) (prog1 d.l a k s).length cap, .bool true, .int .i64 (leftK d.armed d.left k), .int .i64 ((d.wrote + k : Nat) : Int)] 75 := (hS.obj.set_other _ (by exact Ne.symm hne) _).drew
        have hKb : StoKeep b g w ((wr.setCell ⟨g, a + k, none⟩ (.int .u8 ((s[k]).toNat : Int))).drew) := (hK.setCell (p := ⟨g, a + k, none⟩) (.inr (.inr rfl)) _).drew
        have hf0 : ¬ leftK d.armed d.left k = 0 := by
          unfold leftK
          split
          · rename_i ha
            have : d.left ≠ k := fun h => htorn ⟨ha, h⟩
            have := HNL.out.1 ha
            omega
          · omega
        have HSS := Lib.hid hS
        have HRb := Lib.hid hRb
        have HO2 := Lib.hid hO2
        have HPL := Lib.hid hpl1
        have HPL0 := Lib.hid hpl
        have HKN := Lib.hid hkn
        have q1 : IntKind.i64.wrap ((a : Int) + (k : Int)) = (a : Int) + (k : Int) := IntWalk.i64_in _ (by omega)
        have q2 : ((a : Int) + (k : Int)).toNat = a + k := by omega
        have q3 : (a : Int) + (k : Int) < (d.l.length : Int) := by omega
        have q4 : (0 : Int) ≤ (a : Int) + (k : Int) := by omega
        clear htorn hsucc hpl hpl1 hkn hRb hO2 hak hS
        generalize hfk : leftK d.armed d.left k = f at c2 hf0
        have HFK := Lib.hid hfk
        clear hfk
        go_wp2
        go_still_tail 11, (by kernel_rfl)
        change wpList _ _ _ _ _ wr.drew
        have y0 : wr.drew.frozen? ⟨g, a + k, none⟩ = false := HSS.out.row.2.2 (a + k) (by rw [HPL0.out]; omega)
        have y1 : ∃ v, wr.drew.cell? ⟨g, a + k, none⟩ = some v := ⟨_, HSS.out.row.2.1 (a + k) (by rw [HPL0.out]; omega)⟩
        obtain ⟨v1, y1⟩ := y1
        have y2 : (wr.setCell ⟨g, a + k, none⟩ (.int .u8 ((s[k]).toNat : Int))).drew.cell? ⟨b, 2, none⟩ = some (.int .i64 f) := by rw [← HFK.out]; exact HO2.out.cell 2
        have y3 : (wr.setCell ⟨g, a + k, none⟩ (.int .u8 ((s[k]).toNat : Int))).drew.cell? ⟨b, 3, none⟩ = some (.int .i64 ((d.wrote + k : Nat) : Int)) := HO2.out.cell 3
        have y4 : (wr.setCell ⟨g, a + k, none⟩ (.int .u8 ((s[k]).toNat : Int))).drew.frozen? ⟨b, 2, none⟩ = false := HO2.out.free 2
        have y5 : (wr.setCell ⟨g, a + k, none⟩ (.int .u8 ((s[k]).toNat : Int))).drew.frozen? ⟨b, 3, none⟩ = false := HO2.out.free 3
        clear c0 c1' c2 c3 f1 f2 f3
        generalize hWb : (wr.setCell ⟨g, a + k, none⟩ (.int .u8 ((s[k]).toNat : Int))).drew = wb at HRb HO2 hKb y2 y3 y4 y5
        have HWB := Lib.hid hWb
        clear y2 y3 y4 y5
        have z2 : wb.cell? ⟨b, 2, none⟩ = some (.int .i64 f) := by rw [← HFK.out]; exact HO2.out.cell 2
        have z3 : wb.cell? ⟨b, 3, none⟩ = some (.int .i64 ((d.wrote + k : Nat) : Int)) := HO2.out.cell 3
        have z4 : wb.frozen? ⟨b, 2, none⟩ = false := HO2.out.free 2
        have z5 : wb.frozen? ⟨b, 3, none⟩ = false := HO2.out.free 3
        have hkm : d.wrote + k ≤ 1001000 := by omega
        by_cases hfp : 0 < f
        · have hO3 := (HO2.out.set 3 (.int .i64 ((d.wrote : Int) + (k : Int) + 1))).set 2 (.int .i64 (f - 1))
          have hR3 : RowAt ((wb.setCell ⟨b, 3, none⟩ (.int .i64 ((d.wrote : Int) + (k : Int) + 1))).setCell ⟨b, 2, none⟩ (.int .i64 (f - 1))) g (prog1 d.l a (k + 1) s) := HRb.out.block (by rw [heap_setCell_other _ _ _ _ (by exact hne), heap_setCell_other _ _ _ _ (by exact hne)])
          have hK3 : StoKeep b g w ((wb.setCell ⟨b, 3, none⟩ (.int .i64 ((d.wrote : Int) + (k : Int) + 1))).setCell ⟨b, 2, none⟩ (.int .i64 (f - 1))) := (hKb.setCell (p := ⟨b, 3, none⟩) (.inr (.inl rfl)) _).setCell (p := ⟨b, 2, none⟩) (.inr (.inl rfl)) _
          have hf1 : leftK d.armed d.left (k + 1) = f - 1 := by
            have := HFK.out
            unfold leftK at this ⊢
            split at this <;> simp_all <;> omega
          have hfb : f ≤ 9223372036854775807 := by
            have := HFK.out
            unfold leftK at this
            split at this <;> omega
          rw [HFK.out] at hO3
          have HO3 := Lib.hid hO3
          have HF1 := Lib.hid hf1
          clear hO3 hf1
          go_wp2
          go_roundw
          case rel =>
            refine ⟨k + 1, HKN.out, by go_num, ⟨?_, hR3, hne, by rw [HPL.out]; exact hle, hmax, by rw [HPL.out]; exact hm⟩, hK3⟩
            have := HO3.out
            rw [HPL0.out] at this
            rw [HPL.out, HF1.out, show ((d.wrote + (k + 1) : Nat) : Int) = (d.wrote : Int) + (k : Int) + 1 from by omega]
            exact this
          case measure => simp [intOf]; omega
        · have hO3 := HO2.out.set 3 (.int .i64 ((d.wrote : Int) + (k : Int) + 1))
          have hR3 : RowAt (wb.setCell ⟨b, 3, none⟩ (.int .i64 ((d.wrote : Int) + (k : Int) + 1))) g (prog1 d.l a (k + 1) s) := HRb.out.block (heap_setCell_other _ _ _ _ (by exact hne))
          have hK3 : StoKeep b g w (wb.setCell ⟨b, 3, none⟩ (.int .i64 ((d.wrote : Int) + (k : Int) + 1))) := hKb.setCell (p := ⟨b, 3, none⟩) (.inr (.inl rfl)) _
          have hf1 : leftK d.armed d.left (k + 1) = f := by
            have := HFK.out
            unfold leftK at this ⊢
            split at this <;> simp_all <;> omega
          rw [HFK.out] at hO3
          have HO3 := Lib.hid hO3
          have HF1 := Lib.hid hf1
          clear hO3 hf1
          go_wp2
          go_roundw
          case rel =>
            refine ⟨k + 1, HKN.out, by go_num, ⟨?_, hR3, hne, by rw [HPL.out]; exact hle, hmax, by rw [HPL.out]; exact hm⟩, hK3⟩
            have := HO3.out
            rw [HPL0.out] at this
            rw [HPL.out, HF1.out, show ((d.wrote + (k + 1) : Nat) : Int) = (d.wrote : Int) + (k : Int) + 1 from by omega]
            exact this
          case measure => simp [intOf]; omega
    · have hn : d.n s = k := by omega
      have hks2 : k = s.size := by omega
      have HN := Lib.hid hn
      have HSS := Lib.hid hS
      clear hn hpl
      go_wp2
      go_ret
      rw [HN.out]
      exact ⟨rfl, HSS.out, hK⟩
end Go.Proofs.Ytpkgpffodkfncaa
