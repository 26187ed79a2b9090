/- The reference's store. -/
import Derived.Test.YtpkgpffodkfncaaStoOf
import Derived.IntWalk
namespace Go.Proofs.Ytpkgpffodkfncaa
open Go.RowKit
/-- How the reference's store stands: its left is -1 where it isn't armed. -/
def Sto.rleft (d : Sto) : Int := if d.armed then (d.left : Int) else -1
structure RstAt (w : World) (b g cap : Nat) (l : List UInt8) (power : Bool) (left : Int) (n : Nat) : Prop where
  obj : ObjAt w b #[.slice (some ⟨g, 0, none⟩) l.length cap, .bool power, .int .i64 left, .int .i64 (n : Int)] 75
  row : RowAt w g l
  ne : g ≠ b
  le : l.length ≤ cap
  max : cap ≤ 9223372036854775807
  most : l.length ≤ 1000
theorem RstAt.keep {w w' : World} {b g cap : Nat} {l : List UInt8} {p : Bool} {f : Int} {n : Nat} (h : RstAt w b g cap l p f n) {S : Nat → Prop} (hk : Keep S w w') (hb : ¬ S b) (hg : ¬ S g) : RstAt w' b g cap l p f n :=
  ⟨hk.obj h.obj hb, h.row.keep hk hg, h.ne, h.le, h.max, h.most⟩
theorem RstAt.drewN {w : World} {b g cap : Nat} {l : List UInt8} {p : Bool} {f : Int} {n : Nat} (h : RstAt w b g cap l p f n) (k : Nat) : RstAt (w.drewN k) b g cap l p f n := ⟨h.obj, h.row, h.ne, h.le, h.max, h.most⟩
set_option maxRecDepth 100000 in
theorem rstThere_any (b g cap : Nat) (l : List UInt8) (p : Bool) (f : Int) (k : Nat) (a n : Int) (ha : -9223372036854775808 ≤ a ∧ a ≤ 9223372036854775807) (hn : -9223372036854775808 ≤ n ∧ n ≤ 9223372036854775807) (w : World) (h : RstAt w b g cap l p f k) :
    Calls Try.prog 71 #[.pointer (some ⟨b, 0, none⟩), .int .i64 a, .int .i64 n] w fun e w' => e = .returned (.bool (stoThere l.length a n)) ∧ w' = w := by
  have hm := h.most
  have c0 : w.cell? ⟨b, 0, none⟩ = some (.slice (some ⟨g, 0, none⟩) l.length cap) := h.obj.cell 0
  by_cases h1 : 0 ≤ a
  · by_cases h3 : 0 ≤ n
    · by_cases h2 : a ≤ (l.length : Int)
      · by_cases h4 : n ≤ (l.length : Int) - a
        · have hf : stoThere l.length a n = true := by simp [stoThere, h1, h2, h3, h4]
          have HF := Lib.hid hf
          clear hf
          go_enter Try.func71, Try.ntmps71
          go_wp2
          go_ret
          exact ⟨ret_bool HF.out.symm, rfl⟩
        · have hf : stoThere l.length a n = false := by simp [stoThere, h1, h2, h3, h4]
          have HF := Lib.hid hf
          clear hf
          go_enter Try.func71, Try.ntmps71
          go_wp2
          go_ret
          exact ⟨ret_bool (by rw [HF.out]), rfl⟩
      · have hf : stoThere l.length a n = false := by simp [stoThere, h1, h2]
        have HF := Lib.hid hf
        clear hf
        go_enter Try.func71, Try.ntmps71
        go_wp2
        go_ret
        exact ⟨ret_bool HF.out.symm, rfl⟩
    · have hf : stoThere l.length a n = false := by simp [stoThere, h3]
      have HF := Lib.hid hf
      clear hf
      go_enter Try.func71, Try.ntmps71
      go_wp2
      go_ret
      exact ⟨ret_bool HF.out.symm, rfl⟩
  · have hf : stoThere l.length a n = false := by simp [stoThere, h1]
    have HF := Lib.hid hf
    clear hf
    go_enter Try.func71, Try.ntmps71
    go_wp2
    go_ret
    exact ⟨ret_bool HF.out.symm, rfl⟩
set_option maxRecDepth 100000 in
theorem rstOff_any (b g cap : Nat) (l : List UInt8) (p : Bool) (f : Int) (k : Nat) (w : World) (h : RstAt w b g cap l p f k) :
    Calls Try.prog 72 #[.pointer (some ⟨b, 0, none⟩)] w fun e w' => e = .returned (.tuple #[]) ∧ RstAt w' b g cap l false (-1) k ∧ StoKeep b g w w' := by
  have f1 : w.frozen? ⟨b, 1, none⟩ = false := h.obj.free 1
  have f2 : w.frozen? ⟨b, 2, none⟩ = false := h.obj.free 2
  have c1 : w.cell? ⟨b, 1, none⟩ = some (.bool p) := h.obj.cell 1
  have c2 : w.cell? ⟨b, 2, none⟩ = some (.int .i64 f) := h.obj.cell 2
  have hk : StoKeep b g w ((w.setCell ⟨b, 1, none⟩ (.bool false)).setCell ⟨b, 2, none⟩ (.int .i64 (-1))) := (Keep.setCell (p := ⟨b, 1, none⟩) (Keep.refl _ w) (.inr (.inl rfl)) _).setCell (p := ⟨b, 2, none⟩) (.inr (.inl rfl)) _
  have ho := (h.obj.set 1 (.bool false)).set 2 (.int .i64 (-1))
  have hr : RowAt ((w.setCell ⟨b, 1, none⟩ (.bool false)).setCell ⟨b, 2, none⟩ (.int .i64 (-1))) g l := h.row.block (by rw [heap_setCell_other _ _ _ _ (by exact h.ne), heap_setCell_other _ _ _ _ (by exact h.ne)])
  go_enter Try.func72, Try.ntmps72
  go_wp2
  go_end0
  exact ⟨rfl, ⟨ho, hr, h.ne, h.le, h.max, h.most⟩, hk⟩
/-- min(max(size, 0), 1000). -/
def clampN (n : Int) : Nat := (min (max n 0) 1000).toNat
theorem clampN_eq (n : Int) : min (max n 0) 1000 = (clampN n : Int) := by unfold clampN; omega
theorem clampN_le (n : Int) : clampN n ≤ 1000 := by unfold clampN; omega
set_option maxRecDepth 100000 in
theorem rstNew_any (n : Int) (hn : -9223372036854775808 ≤ n ∧ n ≤ 9223372036854775807) (w : World) :
    Calls Try.prog 54 #[.int .i64 n] w fun e w' => e = .returned (.pointer (some ⟨w.heap.size + 1, 0, none⟩)) ∧ RstAt w' (w.heap.size + 1) w.heap.size (clampN n) (List.replicate (clampN n) 0) true (-1) 0 ∧ Below w.heap.size w w' := by
  have e := clampN_eq n
  have hle := clampN_le n
  generalize clampN n = m at *
  have hmk := run_make_row' (P := Try.prog) 33 5 (.int .u8 0) 1 (by kernel_rfl) (by kernel_rfl) rfl .i64 .i64 m (by omega) (by omega) w
  go_enter Try.func54, Try.ntmps54
  go_wp2
  go_ret
  refine ⟨rfl, ⟨?_, ?_, ?_, ?_, ?_, ?_⟩, ?_⟩
  · simp only [List.length_replicate]
    have := ObjAt.new (w.alloc (.cells (madeCells #[Value.int .u8 0] m) 5)) #[.slice (some ⟨w.heap.size, 0, none⟩) m m, .bool true, .int .i64 (-1), .int .i64 0] 75
    rw [World.size_alloc] at this
    exact this
  · have h0 : (w.alloc (.cells (madeCells #[Value.int .u8 0] m) 5)).heap[w.heap.size]? = some (.cells (madeCells #[Value.int .u8 0] m) 5 (0, 0)) := heap_alloc_new w _
    have hr : RowAt (w.alloc (.cells (madeCells #[Value.int .u8 0] m) 5)) w.heap.size (List.replicate m 0) := by
      refine ⟨by simp, fun j hj => ?_, fun j hj => frozen_of_row _ _ j _ _ h0⟩
      rw [cell_of_row _ _ j _ _ _ h0]
      rw [List.length_replicate] at hj
      simp [madeCells, List.getD_eq_getElem?_getD, hj, Nat.mod_one]
    exact hr.block (Below.heap_alloc _ _ _ (by simp))
  · omega
  · simp
  · omega
  · simpa using hle
  · exact ((Below.refl _ w).alloc (Nat.le_refl _) _).alloc (by simp) _
set_option maxRecDepth 100000 in
theorem stoNew_int (n : Int) (hn : -9223372036854775808 ≤ n ∧ n ≤ 9223372036854775807) (w : World) :
    Calls Try.prog 45 #[.int .i64 n] w fun e w' => e = .returned (.pointer (some ⟨w.heap.size + 1, 0, none⟩)) ∧ StoAt w' (w.heap.size + 1) w.heap.size (clampN n) ⟨List.replicate (clampN n) 0, false, false, 0, 0⟩ ∧ Below w.heap.size w w' := by
  have e := clampN_eq n
  have hle := clampN_le n
  generalize clampN n = m at *
  have hmk := run_make_row' (P := Try.prog) 33 5 (.int .u8 0) 1 (by kernel_rfl) (by kernel_rfl) rfl .i64 .i64 m (by omega) (by omega) w
  go_enter Try.func45, Try.ntmps45
  go_wp2
  go_ret
  refine ⟨rfl, ⟨?_, ?_, ?_, ?_, ?_, ?_⟩, ?_⟩
  · simp only [List.length_replicate]
    have := ObjAt.new (w.alloc (.cells (madeCells #[Value.int .u8 0] m) 5)) #[.slice (some ⟨w.heap.size, 0, none⟩) m m, .bool false, .bool false, .int .i64 0, .int .i64 0] 93
    rw [World.size_alloc] at this
    exact this
  · have h0 : (w.alloc (.cells (madeCells #[Value.int .u8 0] m) 5)).heap[w.heap.size]? = some (.cells (madeCells #[Value.int .u8 0] m) 5 (0, 0)) := heap_alloc_new w _
    have hr : RowAt (w.alloc (.cells (madeCells #[Value.int .u8 0] m) 5)) w.heap.size (List.replicate m 0) := by
      refine ⟨by simp, fun j hj => ?_, fun j hj => frozen_of_row _ _ j _ _ h0⟩
      rw [cell_of_row _ _ j _ _ _ h0]
      rw [List.length_replicate] at hj
      simp [madeCells, List.getD_eq_getElem?_getD, hj, Nat.mod_one]
    exact hr.block (Below.heap_alloc _ _ _ (by simp))
  · omega
  · simp
  · omega
  · simpa using hle
  · exact ((Below.refl _ w).alloc (Nat.le_refl _) _).alloc (by simp) _
end Go.Proofs.Ytpkgpffodkfncaa
