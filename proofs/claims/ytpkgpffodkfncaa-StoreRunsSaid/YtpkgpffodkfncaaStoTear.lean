/- The store's law of torn writes. -/
import Derived.Test.YtpkgpffodkfncaaStoOf
namespace Go.Proofs.Ytpkgpffodkfncaa
open Go.RowKit
theorem stoWrite_is (b g cap : Nat) (d : Sto) (a : Nat) (E : Int) (D : Sto) (s : ByteArray) (hE : d.writeE (a : Int) s = E) (hD : d.writeS (a : Int) s = D) (ha : a ≤ 1000) (hs : s.size ≤ 1000) (hwr : d.wrote ≤ 1000000) (hlm : d.left ≤ 1000000) (w : World) (h : StoAt w b g cap d) :
    Calls Try.prog 46 #[.pointer (some ⟨b, 0, none⟩), .int .i64 (a : Int), .string s] w fun e w' => e = .returned (.int .i64 E) ∧ StoAt w' b g cap D ∧ StoKeep b g w w' := by
  subst hE
  subst hD
  exact stoWrite_any b g cap d (a : Int) (by omega) s (by omega) hwr (by omega) w h
theorem tear_there (L a m : Nat) (h : a + m ≤ L) : stoThere L (a : Int) (m : Int) = true := by simp [stoThere]; omega
structure Tear (d1 d2 d3 d5 : Sto) (a k : Nat) (was s : ByteArray) (E : Int) : Prop where
  e1 : d1.writeE (a : Int) s = E
  s1 : d1.writeS (a : Int) s = d2
  off : d2.off = d3
  e3 : d3.writeE (a : Int) s = 12
  s3 : d3.writeS (a : Int) s = d3
  e4 : ({ d3 with dark := false } : Sto).writeE (a : Int) s = 0
  s4 : ({ d3 with dark := false } : Sto).writeS (a : Int) s = d5
  l2 : (⟨d2.l.toArray⟩ : ByteArray) = was.extract 0 a ++ s.extract 0 k ++ was.extract (a + k) was.size
  l5 : (⟨d5.l.toArray⟩ : ByteArray) = was.extract 0 a ++ s ++ was.extract (a + s.size) was.size
  n2 : d2.l.length = was.size
  n5 : d5.l.length = was.size
  w2 : d2.wrote = k
  w3 : d3.wrote ≤ 1000
  f3 : d3.left ≤ 1000
theorem writeE_ok (d : Sto) (a : Int) (s : ByteArray) (ht : stoThere d.l.length a s.size = true) (hd : d.dark = false) : d.writeE a s = if d.n s < s.size then 12 else 0 := by
  rw [Sto.writeE, if_neg (by rw [ht]; decide), if_neg (by rw [hd]; decide)]
theorem writeS_ok (d : Sto) (a : Int) (s : ByteArray) (ht : stoThere d.l.length a s.size = true) (hd : d.dark = false) : d.writeS a s = if d.n s < s.size then (d.put a.toNat (d.n s) s).off else d.put a.toNat (d.n s) s := by
  rw [Sto.writeS, if_neg (by rw [ht, hd]; decide)]
theorem writeE_dark (d : Sto) (a : Int) (s : ByteArray) (ht : stoThere d.l.length a s.size = true) (hd : d.dark = true) : d.writeE a s = 12 := by
  rw [Sto.writeE, if_neg (by rw [ht]; decide), if_pos hd]
theorem writeS_dark (d : Sto) (a : Int) (s : ByteArray) (hd : d.dark = true) : d.writeS a s = d := by
  rw [Sto.writeS, if_pos (.inr hd)]
theorem tear_of (was s : ByteArray) (a n : Nat) (hl : was.size ≤ 200) (h : a + s.size ≤ was.size) (hn : n < 256) :
    ∃ d2 d3 d5 : Sto, Tear ⟨was.data.toList, false, true, n, 0⟩ d2 d3 d5 a (min n s.size) was s (if n < s.size then 12 else 0) ∧ d2.dark = decide (n < s.size) := by
  have hwl : was.data.toList.length = was.size := by simp
  have hsl : s.data.toList.length = s.size := by simp
  have hk : min n s.size ≤ s.size := Nat.min_le_right _ _
  have hxs : (s.extract 0 (min n s.size)).size = min n s.size := by rw [ByteArray.size_extract]; omega
  have hxl : (s.extract 0 (min n s.size)).data.toList.length = min n s.size := extract_len s _ hk
  have hp1 := putAt_length was.data.toList a (s.extract 0 (min n s.size)).data.toList (by omega)
  have ht1 : stoThere was.data.toList.length (a : Int) (s.size : Int) = true := tear_there _ _ _ (by omega)
  have ht2 : stoThere (putAt was.data.toList a (s.extract 0 (min n s.size)).data.toList).length (a : Int) (s.size : Int) = true := tear_there _ _ _ (by omega)
  have hn1 : (⟨was.data.toList, false, true, n, 0⟩ : Sto).n s = min n s.size := by simp [Sto.n, Nat.min_comm]
  have hm : min n s.size < s.size ↔ n < s.size := by omega
  have hover : putAt (putAt was.data.toList a (s.extract 0 (min n s.size)).data.toList) a s.data.toList = putAt was.data.toList a s.data.toList := putAt_over _ _ _ _ (by omega) (by omega)
  have hex : s.extract 0 s.size = s := ByteArray.extract_zero_size
  have hl2 := putAt_str was a (s.extract 0 (min n s.size)) (by omega)
  rw [hxs] at hl2
  have hl5 := putAt_str was a s (by omega)
  have key : ∀ dk ar lf, (⟨putAt was.data.toList a (s.extract 0 (min n s.size)).data.toList, dk, ar, lf, min n s.size⟩ : Sto).off = ⟨putAt was.data.toList a (s.extract 0 (min n s.size)).data.toList, true, false, 0, min n s.size⟩ := fun _ _ _ => rfl
  have n4 : (⟨putAt was.data.toList a (s.extract 0 (min n s.size)).data.toList, false, false, 0, min n s.size⟩ : Sto).n s = s.size := by simp [Sto.n]
  by_cases hc : n < s.size
  · refine ⟨⟨putAt was.data.toList a (s.extract 0 (min n s.size)).data.toList, true, false, 0, min n s.size⟩, ⟨putAt was.data.toList a (s.extract 0 (min n s.size)).data.toList, true, false, 0, min n s.size⟩, ⟨putAt was.data.toList a s.data.toList, false, false, 0, min n s.size + s.size⟩, ⟨?_, ?_, rfl, ?_, ?_, ?_, ?_, hl2, hl5, by dsimp only; omega, by dsimp only; rw [← hover, putAt_length _ _ _ (by omega)]; omega, rfl, by dsimp only; omega, by dsimp only; omega⟩, by simp [hc]⟩
    · exact (writeE_ok _ _ _ ht1 rfl).trans (by rw [hn1]; simp only [hm])
    · exact (writeS_ok _ _ _ ht1 rfl).trans (by rw [hn1, if_pos (hm.2 hc)]; simp only [Sto.put, Sto.off, Int.toNat_natCast, Nat.zero_add])
    · exact (writeE_dark _ _ _ ht2 rfl)
    · exact (writeS_dark _ _ _ rfl)
    · exact (writeE_ok _ _ _ ht2 rfl).trans (by rw [n4, if_neg (Nat.lt_irrefl _)])
    · exact (writeS_ok _ _ _ ht2 rfl).trans (by rw [n4, if_neg (Nat.lt_irrefl _)]; simp only [Sto.put, Int.toNat_natCast, hex, hover, Bool.false_eq_true, if_false])
  · refine ⟨⟨putAt was.data.toList a (s.extract 0 (min n s.size)).data.toList, false, true, n - min n s.size, min n s.size⟩, ⟨putAt was.data.toList a (s.extract 0 (min n s.size)).data.toList, true, false, 0, min n s.size⟩, ⟨putAt was.data.toList a s.data.toList, false, false, 0, min n s.size + s.size⟩, ⟨?_, ?_, rfl, ?_, ?_, ?_, ?_, hl2, hl5, by dsimp only; omega, by dsimp only; rw [← hover, putAt_length _ _ _ (by omega)]; omega, rfl, by dsimp only; omega, by dsimp only; omega⟩, by simp [hc]⟩
    · exact (writeE_ok _ _ _ ht1 rfl).trans (by rw [hn1]; simp only [hm])
    · exact (writeS_ok _ _ _ ht1 rfl).trans (by rw [hn1, if_neg (fun h => hc (hm.1 h))]; simp only [Sto.put, Int.toNat_natCast, Nat.zero_add, if_true])
    · exact (writeE_dark _ _ _ ht2 rfl)
    · exact (writeS_dark _ _ _ rfl)
    · exact (writeE_ok _ _ _ ht2 rfl).trans (by rw [n4, if_neg (Nat.lt_irrefl _)])
    · exact (writeS_ok _ _ _ ht2 rfl).trans (by rw [n4, if_neg (Nat.lt_irrefl _)]; simp only [Sto.put, Int.toNat_natCast, hex, hover, Bool.false_eq_true, if_false])
end Go.Proofs.Ytpkgpffodkfncaa
