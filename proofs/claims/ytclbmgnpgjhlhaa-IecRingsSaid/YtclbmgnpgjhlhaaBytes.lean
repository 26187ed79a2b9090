/- Rows of bytes. -/
import Derived.Test.YtclbmgnpgjhlhaaObj
import Derived.Test.YtclbmgnpgjhlhaaBase
import Derived.Lib.LazyBuf
import Derived.Lib.ConvBytes
import Derived.Lib.SlBuf
import Derived.Laws.IdiomCopy
import Derived.Laws.BytesArg
import Derived.Deep.OwnRows
namespace Go.Proofs.Ytclbmgnpgjhlhaa
open Go.RowKit
def u8Vals (l : List UInt8) : List Value := l.map fun c => Value.int .u8 (c.toNat : Int)
/-- A row of bytes. -/
def RowAt (w : World) (g : Nat) (l : List UInt8) : Prop :=
  g < w.heap.size ∧ (∀ j, j < l.length → w.cell? ⟨g, j, none⟩ = some (.int .u8 ((l.getD j 0).toNat : Int))) ∧ ∀ j, j < l.length → w.frozen? ⟨g, j, none⟩ = false
theorem RowAt.block {w w' : World} {g : Nat} {l : List UInt8} (h : RowAt w g l) (hb : w'.heap[g]? = w.heap[g]?) : RowAt w' g l := by
  obtain ⟨h0, h1, h2⟩ := h
  refine ⟨?_, fun j hj => ?_, fun j hj => ?_⟩
  · rw [Array.getElem?_eq_getElem h0] at hb
    exact (Array.getElem?_eq_some_iff.1 hb).1
  · have := h1 j hj
    unfold World.cell? at this ⊢
    rw [hb]
    exact this
  · have := h2 j hj
    unfold World.frozen? at this ⊢
    rw [hb]
    exact this
theorem RowAt.keep {w w' : World} {g : Nat} {l : List UInt8} (h : RowAt w g l) {S : Nat → Prop} (hk : Keep S w w') (hs : ¬ S g) : RowAt w' g l := h.block (hk.block g h.1 hs)
/-- What stands in a row behind a copy. -/
def putAt (l : List UInt8) (a : Nat) (t : List UInt8) : List UInt8 := l.take a ++ t ++ l.drop (a + t.length)
theorem putAt_length (l : List UInt8) (a : Nat) (t : List UInt8) (h : a + t.length ≤ l.length) : (putAt l a t).length = l.length := by
  simp [putAt]; omega
theorem putAt_get (l : List UInt8) (a : Nat) (t : List UInt8) (h : a + t.length ≤ l.length) (j : Nat) : (putAt l a t).getD j 0 = if a ≤ j ∧ j < a + t.length then t.getD (j - a) 0 else l.getD j 0 := by
  unfold putAt
  have h1 : (l.take a).length = a := by rw [List.length_take]; omega
  by_cases c1 : j < a
  · rw [if_neg (by omega)]
    simp only [List.getD_eq_getElem?_getD]
    rw [List.append_assoc, List.getElem?_append_left (by omega), List.getElem?_take_of_lt c1]
  · by_cases c2 : j < a + t.length
    · rw [if_pos (by omega)]
      simp only [List.getD_eq_getElem?_getD]
      rw [List.append_assoc, List.getElem?_append_right (by omega), h1, List.getElem?_append_left (by omega)]
    · rw [if_neg (by omega)]
      simp only [List.getD_eq_getElem?_getD]
      rw [List.getElem?_append_right (by simp; omega), List.getElem?_drop]
      congr 2
      simp
      omega
theorem setCells_heap_other (b k : Nat) (h : k ≠ b) : ∀ (vs : List Value) (o : Nat) (w : World), (w.setCells b o vs).heap[k]? = w.heap[k]?
  | [], _, _ => rfl
  | v :: r, o, w => by
    rw [World.setCells, setCells_heap_other b k h r (o + 1) _]
    exact Below.heap_setCell w _ _ k h
theorem setCells_size (b : Nat) : ∀ (vs : List Value) (o : Nat) (w : World), (w.setCells b o vs).heap.size = w.heap.size
  | [], _, _ => rfl
  | v :: r, o, w => by
    rw [World.setCells, setCells_size b r (o + 1) _]
    simp
theorem keep_setCells (S : Nat → Prop) (b : Nat) (hS : S b) : ∀ (vs : List Value) (o : Nat) (w : World), Keep S w (w.setCells b o vs)
  | [], _, _ => Keep.refl _ _
  | v :: r, o, w => (Keep.setCell (p := ⟨b, o, none⟩) (Keep.refl S w) (.inr hS) v).trans (keep_setCells S b hS r (o + 1) _)
theorem RowAt.put {w : World} {g : Nat} {l : List UInt8} (h : RowAt w g l) (a : Nat) (t : List UInt8) (hfit : a + t.length ≤ l.length) : RowAt (w.setCells g a (u8Vals t)) g (putAt l a t) := by
  obtain ⟨h0, h1, h2⟩ := h
  have hlen : (u8Vals t).length = t.length := by simp [u8Vals]
  refine ⟨by rw [setCells_size]; exact h0, fun j hj => ?_, fun j hj => ?_⟩
  · rw [putAt_length l a t hfit] at hj
    rw [putAt_get l a t hfit]
    by_cases c : a ≤ j ∧ j < a + t.length
    · rw [if_pos c]
      have := World.cell?_setCells_in g (u8Vals t) a w (fun i hi => by rw [h1 (a + i) (by omega)]; rfl) (j - a) (by omega)
      rw [show a + (j - a) = j from by omega] at this
      rw [this]
      simp [u8Vals, List.getD_eq_getElem?_getD, List.getElem?_eq_getElem (show j - a < t.length by omega)]
    · rw [if_neg c]
      rw [World.cell?_setCells_out g (u8Vals t) a w ⟨g, j, none⟩ (fun _ _ => by simp only [hlen]; omega)]
      exact h1 j hj
  · rw [putAt_length l a t hfit] at hj
    rw [World.frozen?_setCells]
    exact h2 j hj
theorem u8_size (w : World) : (Go.sizeOf 5).run Try.prog w = .ok 1 w := by
  have : (Try.prog.info? 5).map (·.size) = some 1 := by kernel_rfl
  obtain ⟨i, hi, hs⟩ := Option.map_eq_some_iff.1 this
  simp [Go.sizeOf, typeInfo, hi, hs]
theorem row_copy {w : World} {g : Nat} {l : List UInt8} (h : RowAt w g l) (ty : TypeId) (a cap : Nat) (s : ByteArray) (hfit : a + s.size ≤ l.length) :
    (Builtin.copy_ #[36, 9] ty #[.slice (some ⟨g, a, none⟩) (l.length - a) cap, .string s]).run Try.prog w = .ok (goInt s.size) (w.setCells g a (u8Vals s.data.toList)) :=
  run_copy_string w 36 9 ty 5 g a (l.length - a) cap s (by kernel_rfl) u8_size (by omega) (fun j hj => by rw [h.2.1 (a + j) (by omega)]; rfl) (fun j hj => h.2.2 (a + j) (by omega))
set_option maxRecDepth 100000 in
theorem row_string {w : World} {g : Nat} {l : List UInt8} (h : RowAt w g l) (a n cap : Nat) (hfit : a + n ≤ l.length) :
    (convert 36 9 (.slice (some ⟨g, a, none⟩) n cap)).run Try.prog w = .ok (.string ⟨((l.drop a).take n).toArray⟩) w := by
  have := run_convert_bytes_arg (P := Try.prog) w 36 5 (by kernel_rfl) (by kernel_rfl) g a n cap (((l.drop a).take n).map fun c => (c.toNat : Int)) (by simp; omega) (fun i hi => by
    rw [h.2.1 (a + i) (by omega)]
    simp only [List.getD_eq_getElem?_getD, List.getElem?_map, List.getElem?_take_of_lt hi, List.getElem?_drop]
    rw [List.getElem?_eq_getElem (by omega)]
    rfl) 9 (by kernel_rfl)
  rw [this]
  congr 2
  simp [strOfNums, Function.comp_def]
theorem RowAt.set1 {w : World} {g : Nat} {l : List UInt8} (h : RowAt w g l) (a : Nat) (c : UInt8) (ha : a < l.length) : RowAt (w.setCell ⟨g, a, none⟩ (.int .u8 (c.toNat : Int))) g (putAt l a [c]) := h.put a [c] (by simp; omega)
end Go.Proofs.Ytclbmgnpgjhlhaa
