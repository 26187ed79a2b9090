/- A store of a text; and what stands in it, as texts. -/
import Derived.Test.YtpkgpffodkfncaaStoWrite
import Derived.Test.YtpkgpffodkfncaaStoLawApart
import Derived.Deep.QuietTactic
namespace Go.Proofs.Ytpkgpffodkfncaa
open Go.RowKit
theorem conv_row (w : World) (s : ByteArray) : RowAt (Lib.bytesWorld w 5 s) w.heap.size s.data.toList := by
  refine ⟨by rw [Lib.bytesWorld_size]; omega, fun j hj => ?_, fun j hj => ?_⟩
  · exact Lib.bytesWorld_cell w 5 s j (by simpa using hj)
  · have h0 := Lib.bytesWorld_at_new w 5 s
    have hsz : s.size ≤ (Lib.bytesCells w 5 s).size := by simp [Lib.bytesCells]
    have hj' : j < s.size := by simpa using hj
    simp only [World.frozen?, h0]
    simp
    omega
set_option maxRecDepth 100000 in
theorem stoOf_any (s : ByteArray) (hs : s.size ≤ 1000) (w : World) :
    Calls Try.prog 49 #[.string s] w fun e w' => e = .returned (.pointer (some ⟨w.heap.size + 1, 0, none⟩)) ∧ StoAt w' (w.heap.size + 1) w.heap.size (grownCap w s.size 0 5) ⟨s.data.toList, false, false, 0, 0⟩ ∧ Below w.heap.size w w' := by
  have hcv := @Lib.run_convert_string_bytes Try.prog w 9 33 5 s .string (by kernel_rfl) (by kernel_rfl) (by kernel_rfl)
  have hb : Below w.heap.size w (Lib.bytesWorld w 5 s) := ⟨rfl, rfl, rfl, by rw [Lib.bytesWorld_size]; omega, fun k hk => Lib.bytesWorld_at_old w 5 s k hk⟩
  have hr := conv_row w s
  have hz := Lib.bytesWorld_size w 5 s
  have hc1 := grownCap_ge w s.size 0 5
  have hc2 := grownCap_le_maxLen w s.size 0 5 (by unfold maxLen; omega)
  unfold maxLen at hc2
  have hmin : min (s.size : Int) 1000 = (s.size : Int) := by omega
  have hex : s.extract 0 s.size = s := ByteArray.extract_zero_size
  generalize grownCap w s.size 0 5 = cap at *
  generalize Lib.bytesWorld w 5 s = w2 at *
  go_enter Try.func49, Try.ntmps49
  go_wp2
  go_ret
  have hls : s.data.toList.length = s.size := by simp
  have ho := ObjAt.new w2 #[.slice (some ⟨w.heap.size, 0, none⟩) s.size cap, .bool false, .bool false, .int .i64 0, .int .i64 0] 93
  rw [hz] at ho
  refine ⟨rfl, ⟨?_, hr.block (Below.heap_alloc _ _ _ (by omega)), by omega, by dsimp only; omega, by omega, by dsimp only; omega⟩, hb.alloc (by omega) _⟩
  dsimp only
  rw [hls]
  exact ho
theorem putAt_str (s : ByteArray) (a : Nat) (t : ByteArray) (h : a + t.size ≤ s.size) : (⟨(putAt s.data.toList a t.data.toList).toArray⟩ : ByteArray) = s.extract 0 a ++ t ++ s.extract (a + t.size) s.size := by
  apply ext_bytes
  have h1 : s.data.toList.length = s.size := by simp
  have h2 : t.data.toList.length = t.size := by simp
  simp only [putAt, ByteArray.data_append, Array.toList_append, ByteArray.data_extract, Array.toList_extract, List.extract, h2, List.drop_zero, Nat.sub_zero]
  congr 1
  rw [List.take_of_length_le]
  rw [List.length_drop]
  omega
theorem putAt_over (l : List UInt8) (a : Nat) (s t : List UInt8) (h1 : s.length ≤ t.length) (h2 : a + t.length ≤ l.length) : putAt (putAt l a s) a t = putAt l a t := by
  have la := putAt_length l a s (by omega)
  have lb := putAt_length l a t (by omega)
  have l1 := putAt_length (putAt l a s) a t (by omega)
  have e : ∀ j, (putAt (putAt l a s) a t).getD j 0 = (putAt l a t).getD j 0 := by
    intro j
    rw [putAt_get _ _ _ (by omega), putAt_get _ _ _ (by omega), putAt_get _ _ _ (by omega)]
    by_cases c1 : a ≤ j ∧ j < a + t.length
    · rw [if_pos c1, if_pos c1]
    · rw [if_neg c1, if_neg c1, if_neg (by omega)]
  apply List.ext_getElem (by omega)
  intro j g1 g2
  have := e j
  simpa [List.getD_eq_getElem?_getD, List.getElem?_eq_getElem g1, List.getElem?_eq_getElem g2] using this
end Go.Proofs.Ytpkgpffodkfncaa
