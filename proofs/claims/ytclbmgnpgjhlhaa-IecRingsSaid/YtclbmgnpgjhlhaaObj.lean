/- Objects in memory: one block each; what a call may turn. -/
import Derived.Test.YtclbmgnpgjhlhaaBase
import Derived.Laws.Rows
import Derived.Laws.Tables
import Derived.Deep.Draws
namespace Go.Proofs.Ytclbmgnpgjhlhaa
open Go.RowKit
/-- A block that is known whole. -/
def ObjAt (w : World) (b : Nat) (cs : Array Value) (t : TypeId) : Prop := w.heap[b]? = some (.cells cs t (0, 0))
theorem ObjAt.lt {w : World} {b : Nat} {cs : Array Value} {t : TypeId} (h : ObjAt w b cs t) : b < w.heap.size := (Array.getElem?_eq_some_iff.1 h).1
theorem ObjAt.cell {w : World} {b : Nat} {cs : Array Value} {t : TypeId} (h : ObjAt w b cs t) (j : Nat) : w.cell? ⟨b, j, none⟩ = cs[j]? := cell_of_row w b j cs t (0, 0) h
theorem ObjAt.free {w : World} {b : Nat} {cs : Array Value} {t : TypeId} (h : ObjAt w b cs t) (j : Nat) : w.frozen? ⟨b, j, none⟩ = false := frozen_of_row w b j cs t h
theorem ObjAt.set {w : World} {b : Nat} {cs : Array Value} {t : TypeId} (h : ObjAt w b cs t) (j : Nat) (v : Value) : ObjAt (w.setCell ⟨b, j, none⟩ v) b (cs.setIfInBounds j v) t := heap_setCell_same w b j cs t v h
theorem ObjAt.set_other {w : World} {b : Nat} {cs : Array Value} {t : TypeId} (h : ObjAt w b cs t) (p : Addr) (hp : b ≠ p.block) (v : Value) : ObjAt (w.setCell p v) b cs t := (heap_setCell_other w p b v hp).trans h
theorem ObjAt.drew {w : World} {b : Nat} {cs : Array Value} {t : TypeId} (h : ObjAt w b cs t) : ObjAt w.drew b cs t := h
theorem ObjAt.drewN {w : World} {b : Nat} {cs : Array Value} {t : TypeId} (h : ObjAt w b cs t) (n : Nat) : ObjAt (w.drewN n) b cs t := h
theorem ObjAt.alloc {w : World} {b : Nat} {cs : Array Value} {t : TypeId} (h : ObjAt w b cs t) (o : Obj) : ObjAt (w.alloc o) b cs t := (Below.heap_alloc w o b h.lt).trans h
theorem ObjAt.new (w : World) (cs : Array Value) (t : TypeId) : ObjAt (w.alloc (.cells cs t)) w.heap.size cs t := heap_alloc_new w _
/-- Of what was there only such blocks may have turned. -/
structure Keep (S : Nat → Prop) (w w' : World) : Prop where
  os : w'.os = w.os
  tape : w'.tape = w.tape
  output : w'.output = w.output
  size : w.heap.size ≤ w'.heap.size
  block : ∀ k, k < w.heap.size → ¬ S k → w'.heap[k]? = w.heap[k]?
theorem Keep.refl (S : Nat → Prop) (w : World) : Keep S w w := ⟨rfl, rfl, rfl, Nat.le_refl _, fun _ _ _ => rfl⟩
theorem Keep.trans {S : Nat → Prop} {a b c : World} (h : Keep S a b) (k : Keep S b c) : Keep S a c :=
  ⟨k.os.trans h.os, k.tape.trans h.tape, k.output.trans h.output, Nat.le_trans h.size k.size, fun i hi hs => (k.block i (Nat.lt_of_lt_of_le hi h.size) hs).trans (h.block i hi hs)⟩
theorem Keep.mono {S T : Nat → Prop} {a b : World} (h : Keep S a b) (hst : ∀ k, k < a.heap.size → S k → T k) : Keep T a b :=
  ⟨h.os, h.tape, h.output, h.size, fun i hi hs => h.block i hi fun hS => hs (hst i hi hS)⟩
theorem Keep.drew {S : Nat → Prop} {a w : World} (h : Keep S a w) : Keep S a w.drew := ⟨h.os, h.tape, h.output, h.size, h.block⟩
theorem Keep.drewN {S : Nat → Prop} {a w : World} (h : Keep S a w) (n : Nat) : Keep S a (w.drewN n) := ⟨h.os, h.tape, h.output, h.size, h.block⟩
theorem Keep.setCell {S : Nat → Prop} {a w : World} (h : Keep S a w) {p : Addr} (hp : a.heap.size ≤ p.block ∨ S p.block) (v : Value) : Keep S a (w.setCell p v) :=
  ⟨h.os, h.tape, h.output, by simpa [World.setCell] using h.size, fun k hk hs => (heap_setCell_other w p k v (by rintro rfl; rcases hp with hp | hp; exact absurd hk (by omega); exact hs hp)).trans (h.block k hk hs)⟩
theorem Keep.here {b : Nat} {a w : World} (h : Keep (· = b) a w) (j : Nat) (v : Value) : Keep (· = b) a (w.setCell ⟨b, j, none⟩ v) := Keep.setCell (p := ⟨b, j, none⟩) h (.inr rfl) v
theorem Keep.alloc {S : Nat → Prop} {a w : World} (h : Keep S a w) (o : Obj) : Keep S a (w.alloc o) :=
  ⟨h.os, h.tape, h.output, by simp; exact Nat.le_succ_of_le h.size, fun k hk hs => (Below.heap_alloc w o k (Nat.lt_of_lt_of_le hk h.size)).trans (h.block k hk hs)⟩
theorem Keep.setRow {S : Nat → Prop} {a w : World} (h : Keep S a w) (g : Nat) (hg : a.heap.size ≤ g ∨ S g) (cs : Array Value) : Keep S a (w.setRow g cs) :=
  ⟨h.os, h.tape, h.output, by simpa using h.size, fun k hk hs => (setRow_other w g k cs (by rintro rfl; rcases hg with hg | hg; exact absurd hk (by omega); exact hs hg)).trans (h.block k hk hs)⟩
theorem Keep.below {S : Nat → Prop} {a w : World} (h : Keep S a w) {B : Nat} (hB : B ≤ a.heap.size) (hs : ∀ k, k < B → ¬ S k) : Below B a w :=
  ⟨h.os, h.tape, h.output, h.size, fun k hk => h.block k (Nat.lt_of_lt_of_le hk hB) (hs k hk)⟩
theorem Keep.of_below {S : Nat → Prop} {a w : World} (h : Below a.heap.size a w) : Keep S a w := ⟨h.os, h.tape, h.output, h.size, fun k hk _ => h.block k hk⟩
theorem Keep.obj {S : Nat → Prop} {a w : World} (h : Keep S a w) {b : Nat} {cs : Array Value} {t : TypeId} (hb : ObjAt a b cs t) (hs : ¬ S b) : ObjAt w b cs t := (h.block b hb.lt hs).trans hb
theorem below_obj {a w : World} (h : Below a.heap.size a w) {b : Nat} {cs : Array Value} {t : TypeId} (hb : ObjAt a b cs t) : ObjAt w b cs t := (h.block b hb.lt).trans hb
end Go.Proofs.Ytclbmgnpgjhlhaa
