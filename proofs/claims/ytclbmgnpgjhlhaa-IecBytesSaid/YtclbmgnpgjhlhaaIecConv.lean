/- A text turned into a row of bytes. -/
import Derived.Test.YtclbmgnpgjhlhaaBytes
namespace Go.Proofs.Ytclbmgnpgjhlhaa
open Go.RowKit
theorem conv_row (w : World) (s : ByteArray) : RowAt (Lib.bytesWorld w 5 s) w.heap.size s.data.toList := by
  refine ⟨by rw [Lib.bytesWorld_size]; omega, fun j hj => ?_, fun j hj => ?_⟩
  · exact Lib.bytesWorld_cell w 5 s j (by simpa using hj)
  · have h0 := Lib.bytesWorld_at_new w 5 s
    have hsz : s.size ≤ (Lib.bytesCells w 5 s).size := by simp [Lib.bytesCells]
    have hj' : j < s.size := by simpa using hj
    simp only [World.frozen?, h0]
    simp
    omega
theorem conv_below (w : World) (s : ByteArray) : Below w.heap.size w (Lib.bytesWorld w 5 s) := ⟨rfl, rfl, rfl, by rw [Lib.bytesWorld_size]; omega, fun k hk => Lib.bytesWorld_at_old w 5 s k hk⟩
theorem conv_run (w : World) (s : ByteArray) : (convert 9 36 (.string s)).run Try.prog w = .ok (.slice (some ⟨w.heap.size, 0, none⟩) s.size (grownCap w s.size 0 5)) (Lib.bytesWorld w 5 s) :=
  @Lib.run_convert_string_bytes Try.prog w 9 36 5 s .string (by kernel_rfl) (by kernel_rfl) (by kernel_rfl)
theorem conv_cap (w : World) (s : ByteArray) (h : s.size ≤ 1000) : s.size ≤ grownCap w s.size 0 5 ∧ grownCap w s.size 0 5 ≤ 9223372036854775807 := by
  have hc1 := grownCap_ge w s.size 0 5
  have hc2 := grownCap_le_maxLen w s.size 0 5 (by unfold maxLen; omega)
  unfold maxLen at hc2
  exact ⟨hc1, by omega⟩
end Go.Proofs.Ytclbmgnpgjhlhaa
