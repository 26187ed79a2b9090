/- Small words that all walks share: objects in memory, rows of bytes, slices of structs, arrays. -/
import Derived.Test.YtmehafolnpkmhaaDoorChecked
import Derived.WalkKit
import Derived.KernelRfl
import Derived.Lib.Hide
import Derived.Laws.Rows
import Derived.Laws.Tables
import Derived.Deep.Draws
import Derived.Deep.RegionHeld3
import Derived.Deep.Fields
import Derived.OpenShut
import Derived.Lib.LazyBuf
import Derived.Lib.ConvBytes
import Derived.Lib.SlBuf
import Derived.Laws.IdiomCopy
import Derived.Laws.BytesArg
import Derived.Deep.OwnRows
/-! Small words that all walks of this seat share. -/
section
namespace Go.Proofs.YtmehafolnpkmhaaDoor
open Go.RowKit
theorem ret_int {k : IntKind} {a b : Int} (h : a = b) : Ending.returned (.int k a) = .returned (.int k b) := by rw [h]
theorem ret_bool {a b : Bool} (h : a = b) : Ending.returned (.bool a) = .returned (.bool b) := by rw [h]
theorem ret_str {a b : ByteArray} (h : a = b) : Ending.returned (.string a) = .returned (.string b) := by rw [h]
theorem take_snoc (s : ByteArray) (k : Nat) (h : k < s.size) : s.data.toList.take (k + 1) = s.data.toList.take k ++ [s[k]] := by
  rw [List.take_succ_eq_append_getElem (by simpa using h)]; rfl
theorem ext_bytes {s t : ByteArray} (h : s.data.toList = t.data.toList) : s = t := by
  cases s; cases t
  simp only at h
  congr
  exact Array.toList_inj.1 h
theorem bytes_toList_inj {s t : ByteArray} (h : s.toList = t.toList) : s = t := by
  rw [ByteArray.toList_eq, ByteArray.toList_eq] at h
  exact ext_bytes h
/-- '==' of two texts, as the walk asks it. -/
theorem bytes_ne {s t : ByteArray} (h : s ≠ t) : (s.toList == t.toList) = false := by
  rw [beq_eq_false_iff_ne]
  exact fun e => h (bytes_toList_inj e)
theorem bytes_same {s t : ByteArray} (h : s = t) : (s.toList == t.toList) = true := by rw [h, beq_iff_eq]
end Go.Proofs.YtmehafolnpkmhaaDoor
end
/-! Objects in memory: one block each; what a call may turn. -/
section
namespace Go.Proofs.YtmehafolnpkmhaaDoor
open Go.RowKit
/-- A block that is known whole. -/
def ObjAt (w : World) (b : Nat) (cs : Array Value) (t : TypeId) : Prop := w.heap[b]? = some (.cells cs t (0, 0))
theorem ObjAt.lt {w : World} {b : Nat} {cs : Array Value} {t : TypeId} (h : ObjAt w b cs t) : b < w.heap.size := (Array.getElem?_eq_some_iff.1 h).1
theorem ObjAt.cell {w : World} {b : Nat} {cs : Array Value} {t : TypeId} (h : ObjAt w b cs t) (j : Nat) : w.cell? ⟨b, j, none⟩ = cs[j]? := cell_of_row w b j cs t (0, 0) h
theorem ObjAt.free {w : World} {b : Nat} {cs : Array Value} {t : TypeId} (h : ObjAt w b cs t) (j : Nat) : w.frozen? ⟨b, j, none⟩ = false := frozen_of_row w b j cs t h
theorem ObjAt.set {w : World} {b : Nat} {cs : Array Value} {t : TypeId} (h : ObjAt w b cs t) (j : Nat) (v : Value) : ObjAt (w.setCell ⟨b, j, none⟩ v) b (cs.setIfInBounds j v) t := heap_setCell_same w b j cs t v h
theorem ObjAt.set_other {w : World} {b : Nat} {cs : Array Value} {t : TypeId} (h : ObjAt w b cs t) (p : Addr) (hp : b ≠ p.block) (v : Value) : ObjAt (w.setCell p v) b cs t := (heap_setCell_other w p b v hp).trans h
theorem ObjAt.drew {w : World} {b : Nat} {cs : Array Value} {t : TypeId} (h : ObjAt w b cs t) : ObjAt w.drew b cs t := h
theorem ObjAt.drewN {w : World} {b : Nat} {cs : Array Value} {t : TypeId} (h : ObjAt w b cs t) (n : Nat) : ObjAt (w.drewN n) b cs t := h
theorem ObjAt.alloc {w : World} {b : Nat} {cs : Array Value} {t : TypeId} (h : ObjAt w b cs t) (o : Obj) : ObjAt (w.alloc o) b cs t := (Below.heap_alloc w o b h.lt).trans h
theorem ObjAt.new (w : World) (cs : Array Value) (t : TypeId) : ObjAt (w.alloc (.cells cs t)) w.heap.size cs t := heap_alloc_new w _
/-- Of what was there only such blocks may have turned. -/
structure Keep (S : Nat → Prop) (w w' : World) : Prop where
  os : w'.os = w.os
  tape : w'.tape = w.tape
  output : w'.output = w.output
  size : w.heap.size ≤ w'.heap.size
  block : ∀ k, k < w.heap.size → ¬ S k → w'.heap[k]? = w.heap[k]?
theorem Keep.refl (S : Nat → Prop) (w : World) : Keep S w w := ⟨rfl, rfl, rfl, Nat.le_refl _, fun _ _ _ => rfl⟩
theorem Keep.trans {S : Nat → Prop} {a b c : World} (h : Keep S a b) (k : Keep S b c) : Keep S a c :=
  ⟨k.os.trans h.os, k.tape.trans h.tape, k.output.trans h.output, Nat.le_trans h.size k.size, fun i hi hs => (k.block i (Nat.lt_of_lt_of_le hi h.size) hs).trans (h.block i hi hs)⟩
theorem Keep.mono {S T : Nat → Prop} {a b : World} (h : Keep S a b) (hst : ∀ k, k < a.heap.size → S k → T k) : Keep T a b :=
  ⟨h.os, h.tape, h.output, h.size, fun i hi hs => h.block i hi fun hS => hs (hst i hi hS)⟩
theorem Keep.drew {S : Nat → Prop} {a w : World} (h : Keep S a w) : Keep S a w.drew := ⟨h.os, h.tape, h.output, h.size, h.block⟩
theorem Keep.drewN {S : Nat → Prop} {a w : World} (h : Keep S a w) (n : Nat) : Keep S a (w.drewN n) := ⟨h.os, h.tape, h.output, h.size, h.block⟩
theorem Keep.setCell {S : Nat → Prop} {a w : World} (h : Keep S a w) {p : Addr} (hp : a.heap.size ≤ p.block ∨ S p.block) (v : Value) : Keep S a (w.setCell p v) :=
  ⟨h.os, h.tape, h.output, by simpa [World.setCell] using h.size, fun k hk hs => (heap_setCell_other w p k v (by rintro rfl; rcases hp with hp | hp; exact absurd hk (by omega); exact hs hp)).trans (h.block k hk hs)⟩
theorem Keep.here {b : Nat} {a w : World} (h : Keep (· = b) a w) (j : Nat) (v : Value) : Keep (· = b) a (w.setCell ⟨b, j, none⟩ v) := Keep.setCell (p := ⟨b, j, none⟩) h (.inr rfl) v
theorem Keep.alloc {S : Nat → Prop} {a w : World} (h : Keep S a w) (o : Obj) : Keep S a (w.alloc o) :=
  ⟨h.os, h.tape, h.output, by simp; exact Nat.le_succ_of_le h.size, fun k hk hs => (Below.heap_alloc w o k (Nat.lt_of_lt_of_le hk h.size)).trans (h.block k hk hs)⟩
theorem Keep.setRow {S : Nat → Prop} {a w : World} (h : Keep S a w) (g : Nat) (hg : a.heap.size ≤ g ∨ S g) (cs : Array Value) : Keep S a (w.setRow g cs) :=
  ⟨h.os, h.tape, h.output, by simpa using h.size, fun k hk hs => (setRow_other w g k cs (by rintro rfl; rcases hg with hg | hg; exact absurd hk (by omega); exact hs hg)).trans (h.block k hk hs)⟩
theorem Keep.below {S : Nat → Prop} {a w : World} (h : Keep S a w) {B : Nat} (hB : B ≤ a.heap.size) (hs : ∀ k, k < B → ¬ S k) : Below B a w :=
  ⟨h.os, h.tape, h.output, h.size, fun k hk => h.block k (Nat.lt_of_lt_of_le hk hB) (hs k hk)⟩
theorem Keep.of_below {S : Nat → Prop} {a w : World} (h : Below a.heap.size a w) : Keep S a w := ⟨h.os, h.tape, h.output, h.size, fun k hk _ => h.block k hk⟩
theorem Keep.obj {S : Nat → Prop} {a w : World} (h : Keep S a w) {b : Nat} {cs : Array Value} {t : TypeId} (hb : ObjAt a b cs t) (hs : ¬ S b) : ObjAt w b cs t := (h.block b hb.lt hs).trans hb
theorem below_obj {a w : World} (h : Below a.heap.size a w) {b : Nat} {cs : Array Value} {t : TypeId} (hb : ObjAt a b cs t) : ObjAt w b cs t := (h.block b hb.lt).trans hb
end Go.Proofs.YtmehafolnpkmhaaDoor
end
/-! What stays through a region that draws its order: of the world in which it begins every block is as it was (for go_region_held3). -/
section
namespace Go.Proofs.YtmehafolnpkmhaaDoor
open Go.RowKit
theorem held_drew (W : World) : Below W.heap.size W W.drew ∧ (∀ b o, b < W.heap.size → W.drew.cell? ⟨b, o, none⟩ = W.cell? ⟨b, o, none⟩) :=
  ⟨(Below.refl _ _).drew, fun _ _ _ => rfl⟩
theorem held_of {W w' : World} (h : Below W.heap.size W w') : Below W.heap.size W w' ∧ (∀ b o, b < W.heap.size → w'.cell? ⟨b, o, none⟩ = W.cell? ⟨b, o, none⟩) :=
  ⟨h, fun b o hb => h.cell (p := ⟨b, o, none⟩) hb⟩
theorem held_next {W w1 w2 : World} (h : Below W.heap.size W w1 ∧ (∀ b o, b < W.heap.size → w1.cell? ⟨b, o, none⟩ = W.cell? ⟨b, o, none⟩)) (hb : Below w1.heap.size w1 w2) :
    Below W.heap.size W w2 ∧ (∀ b o, b < W.heap.size → w2.cell? ⟨b, o, none⟩ = W.cell? ⟨b, o, none⟩) :=
  held_of (h.1.trans (hb.mono h.1.size))
theorem held_end {w W w' : World} (hB : Below w.heap.size w W) (h : Below W.heap.size W w' ∧ (∀ b o, b < W.heap.size → w'.cell? ⟨b, o, none⟩ = W.cell? ⟨b, o, none⟩)) : Below w.heap.size w w' :=
  hB.trans (h.1.mono hB.size)
end Go.Proofs.YtmehafolnpkmhaaDoor
end
/-! A slice of structs whose fields are one cell each, opened at every index and field. -/
section
namespace Go.Proofs.YtmehafolnpkmhaaDoor
open Go.RowKit Go.Deep Go.ChangeShapes Go.WideShapes
theorem open_slice_fields {H : Type} {enc : TypeId × Value → H} {P : Program} {w : World} {base : Nat} {spare : Nat → Bool} {held : Bool} {t e : TypeId} {fs : Array Field} {fuel : Nat} {cs : List Value} {x : DataW H × List MemPlace}
    (ht : P.underlying t = some (.slice e)) (hs : P.underlying e = some (.struct fs)) (hone : oneCellFields P fs = true) (hC : P.cellsOf e = fs.size) (hpos : 0 < fs.size)
    (h : DataW.trod enc P w base spare held fuel t cs = some x) :
    (cs = [.slice none 0 0]) ∨
    ∃ (a : Addr) (len cap n : Nat) (V : Nat → Nat → Value) (Y : Nat → Nat → DataW H × List MemPlace), cs = [.slice (some a) len cap] ∧ len ≤ cap ∧ cap ≤ maxLen ∧
      ∀ i, i < len → a = ⟨a.block, a.off, none⟩ ∧ a.block < w.heap.size ∧ ∀ (j : Nat) (f : Field), fs[j]? = some f → w.cell? ⟨a.block, a.off + i * fs.size + j, none⟩ = some (V i j) ∧ DataW.trod enc P w base spare held n f.type [V i j] = some (Y i j) := by
  rcases open_slice ht h with ⟨h0, _⟩ | ⟨a, len, cap, m, n, D, Pl, rfl, hb, hl, hm, hmm, -, hx⟩
  · exact Or.inl h0
  right
  have hlm : len ≤ m := by rw [hmm]; split <;> omega
  obtain ⟨VY, hVY⟩ := choose_lt (α := (Nat → Value) × (Nat → DataW H × List MemPlace)) (n := len)
    (p := fun i v => a = ⟨a.block, a.off, none⟩ ∧ a.block < w.heap.size ∧ ∀ (j : Nat) (f : Field), fs[j]? = some f → w.cell? ⟨a.block, a.off + i * fs.size + j, none⟩ = some (v.1 j) ∧ DataW.trod enc P w base spare held (n - 1) f.type [v.1 j] = some (v.2 j)) (fun i hi => by
    obtain ⟨cs', h1, h2⟩ := hx i (by omega)
    obtain ⟨hb', hlen, hcell⟩ := World.cells?_some h1
    rw [hC] at hlen hcell
    obtain ⟨xs, n', hn', -, -, hxl, hf⟩ := DataW.trod_struct hs h2
    obtain ⟨b, o, spot⟩ := a
    have h0 := hcell 0 hpos
    rw [List.getElem?_eq_getElem (by omega)] at h0
    have hspot : spot = none := by
      obtain ⟨cs0, k1, k2⟩ := hx 0 (by omega)
      obtain ⟨-, hlen0, hcell0⟩ := World.cells?_some k1
      rw [hC] at hlen0 hcell0
      have k0 := hcell0 0 hpos
      rw [List.getElem?_eq_getElem (by omega), Nat.zero_mul] at k0
      simpa [Addr.add] using World.cell?_spot k0
    subst hspot
    have hblk : b < w.heap.size := by
      have := h0
      unfold World.cell? at this
      by_cases hbb : b < w.heap.size
      · exact hbb
      · exfalso
        rw [add_add] at this
        have e1 : ((⟨b, o, none⟩ : Addr).add (i * fs.size + 0)).block = b := by unfold Addr.add; split <;> rfl
        rw [show w.heap[((⟨b, o, none⟩ : Addr).add (i * fs.size + 0)).block]? = none from by rw [e1, Array.getElem?_eq_none]; omega] at this
        simp at this
    refine ⟨(fun j => cs'.getD j undef, fun j => xs.getD j (.nil, [])), rfl, hblk, fun j f hj => ?_⟩
    have hlt : j < fs.size := (Array.getElem?_eq_some_iff.1 hj).1
    obtain ⟨ho, hc1⟩ := hone_of hone j f hj
    have g := hf j f hj
    rw [ho, hc1, take1_drop cs' j undef (by omega), List.getElem?_eq_getElem (by omega)] at g
    have gc := hcell j hlt
    rw [List.getElem?_eq_getElem (by omega), add_add] at gc
    have e2 : (⟨b, o, none⟩ : Addr).add (i * fs.size + j) = ⟨b, o + i * fs.size + j, none⟩ := by
      unfold Addr.add
      split
      · rename_i hz
        have : i * fs.size + j = 0 := by simpa using hz
        simp
      · simp [Nat.add_assoc]
    rw [e2] at gc
    refine ⟨?_, ?_⟩
    · rw [gc]; simp [List.getD_eq_getElem?_getD, List.getElem?_eq_getElem (show j < cs'.length by omega)]
    · rw [show n - 1 = n' from by omega]
      rw [g]; simp [List.getD_eq_getElem?_getD, List.getElem?_eq_getElem (show j < xs.length by omega)])
  exact ⟨a, len, cap, n - 1, fun i => (VY i).1, fun i => (VY i).2, rfl, hl, hm, hVY⟩
end Go.Proofs.YtmehafolnpkmhaaDoor
end
/-! An array of whole numbers by value, opened as a list. -/
section
namespace Go.Proofs.YtmehafolnpkmhaaDoor
open Go.RowKit Go.ChangeShapes Go.WideShapes
theorem arr_of {H : Type} {enc : TypeId × Value → H} {P : Program} {W : World} {t e n : Nat} {k : IntKind} {v : Value} {d : DataW H} {p : List MemPlace}
    (hu : P.underlying t = some (.array n e)) (he : P.underlying e = some (.int k)) (hc : P.cellsOf e = 1) (hn : P.cellsOf t = n)
    (h : DataW.Trod enc P W 0 (fun _ => true) true t v d p) (o : Value.okWide P W .any 0 t v) :
    ∃ l : List Int, l.length = n ∧ v = .agg (l.map (Value.int k)).toArray ∧ ∀ x ∈ l, (Lit.int k x).wf = true := by
  have hv : ∃ cs, v = .agg cs := by
    simp only [Value.okWide, hu] at o
    obtain ⟨cs, h1, -⟩ := o
    exact ⟨cs, h1⟩
  obtain ⟨cs, rfl⟩ := hv
  obtain ⟨m, hm⟩ := h
  obtain ⟨xs, m', -, -, hl, hx, hi⟩ := DataW.trod_array hu hm
  have hcs : cs.toList.length = n := by rw [← hn]; simpa [Value.cells] using hl
  have key : ∀ i, i < n → ∃ x, cs.toList[i]? = some (.int k x) ∧ (Lit.int k x).wf = true := fun i hlt => by
    have i0 := hi i hlt
    rw [hc, Nat.mul_one] at i0
    rw [List.getElem?_eq_getElem (by omega)] at i0
    obtain ⟨z0, e0, -, w0⟩ := DataW.trod_int he i0
    refine ⟨z0, ?_, w0⟩
    simp only [Value.cells] at e0
    have := congrArg (·[0]?) e0
    simp only [List.getElem?_take, List.getElem?_drop] at this
    simpa using this
  refine ⟨cs.toList.map fun v => match v with | .int _ x => x | _ => 0, by simpa using hcs, ?_, ?_⟩
  · congr 1
    rw [List.map_map]
    apply Array.toList_inj.1
    apply List.ext_getElem?
    intro i
    by_cases hlt : i < n
    · obtain ⟨x, hx1, _⟩ := key i hlt
      simp [hx1] at hx1 ⊢
    · rw [List.getElem?_eq_none (by omega), List.getElem?_eq_none (by simp at hcs ⊢; omega)]
  · intro x hx
    rw [List.mem_map] at hx
    obtain ⟨v, hv, rfl⟩ := hx
    obtain ⟨i, hi1⟩ := List.getElem?_of_mem hv
    have hlt : i < n := by have := (List.getElem?_eq_some_iff.1 hi1).1; omega
    obtain ⟨y, hy1, hy2⟩ := key i hlt
    rw [hi1] at hy1
    injection hy1 with hy1
    subst hy1
    exact hy2
end Go.Proofs.YtmehafolnpkmhaaDoor
end
/-! Rows of bytes. -/
section
namespace Go.Proofs.YtmehafolnpkmhaaDoor
open Go.RowKit
def u8Vals (l : List UInt8) : List Value := l.map fun c => Value.int .u8 (c.toNat : Int)
/-- A row of bytes. -/
def RowAt (w : World) (g : Nat) (l : List UInt8) : Prop :=
  g < w.heap.size ∧ (∀ j, j < l.length → w.cell? ⟨g, j, none⟩ = some (.int .u8 ((l.getD j 0).toNat : Int))) ∧ ∀ j, j < l.length → w.frozen? ⟨g, j, none⟩ = false
theorem RowAt.block {w w' : World} {g : Nat} {l : List UInt8} (h : RowAt w g l) (hb : w'.heap[g]? = w.heap[g]?) : RowAt w' g l := by
  obtain ⟨h0, h1, h2⟩ := h
  refine ⟨?_, fun j hj => ?_, fun j hj => ?_⟩
  · rw [Array.getElem?_eq_getElem h0] at hb
    exact (Array.getElem?_eq_some_iff.1 hb).1
  · have := h1 j hj
    unfold World.cell? at this ⊢
    rw [hb]
    exact this
  · have := h2 j hj
    unfold World.frozen? at this ⊢
    rw [hb]
    exact this
theorem RowAt.keep {w w' : World} {g : Nat} {l : List UInt8} (h : RowAt w g l) {S : Nat → Prop} (hk : Keep S w w') (hs : ¬ S g) : RowAt w' g l := h.block (hk.block g h.1 hs)
/-- What stands in a row behind a copy. -/
def putAt (l : List UInt8) (a : Nat) (t : List UInt8) : List UInt8 := l.take a ++ t ++ l.drop (a + t.length)
theorem putAt_length (l : List UInt8) (a : Nat) (t : List UInt8) (h : a + t.length ≤ l.length) : (putAt l a t).length = l.length := by
  simp [putAt]; omega
theorem putAt_get (l : List UInt8) (a : Nat) (t : List UInt8) (h : a + t.length ≤ l.length) (j : Nat) : (putAt l a t).getD j 0 = if a ≤ j ∧ j < a + t.length then t.getD (j - a) 0 else l.getD j 0 := by
  unfold putAt
  have h1 : (l.take a).length = a := by rw [List.length_take]; omega
  by_cases c1 : j < a
  · rw [if_neg (by omega)]
    simp only [List.getD_eq_getElem?_getD]
    rw [List.append_assoc, List.getElem?_append_left (by omega), List.getElem?_take_of_lt c1]
  · by_cases c2 : j < a + t.length
    · rw [if_pos (by omega)]
      simp only [List.getD_eq_getElem?_getD]
      rw [List.append_assoc, List.getElem?_append_right (by omega), h1, List.getElem?_append_left (by omega)]
    · rw [if_neg (by omega)]
      simp only [List.getD_eq_getElem?_getD]
      rw [List.getElem?_append_right (by simp; omega), List.getElem?_drop]
      congr 2
      simp
      omega
theorem setCells_heap_other (b k : Nat) (h : k ≠ b) : ∀ (vs : List Value) (o : Nat) (w : World), (w.setCells b o vs).heap[k]? = w.heap[k]?
  | [], _, _ => rfl
  | v :: r, o, w => by
    rw [World.setCells, setCells_heap_other b k h r (o + 1) _]
    exact Below.heap_setCell w _ _ k h
theorem setCells_size (b : Nat) : ∀ (vs : List Value) (o : Nat) (w : World), (w.setCells b o vs).heap.size = w.heap.size
  | [], _, _ => rfl
  | v :: r, o, w => by
    rw [World.setCells, setCells_size b r (o + 1) _]
    simp
theorem keep_setCells (S : Nat → Prop) (b : Nat) (hS : S b) : ∀ (vs : List Value) (o : Nat) (w : World), Keep S w (w.setCells b o vs)
  | [], _, _ => Keep.refl _ _
  | v :: r, o, w => (Keep.setCell (p := ⟨b, o, none⟩) (Keep.refl S w) (.inr hS) v).trans (keep_setCells S b hS r (o + 1) _)
theorem RowAt.put {w : World} {g : Nat} {l : List UInt8} (h : RowAt w g l) (a : Nat) (t : List UInt8) (hfit : a + t.length ≤ l.length) : RowAt (w.setCells g a (u8Vals t)) g (putAt l a t) := by
  obtain ⟨h0, h1, h2⟩ := h
  have hlen : (u8Vals t).length = t.length := by simp [u8Vals]
  refine ⟨by rw [setCells_size]; exact h0, fun j hj => ?_, fun j hj => ?_⟩
  · rw [putAt_length l a t hfit] at hj
    rw [putAt_get l a t hfit]
    by_cases c : a ≤ j ∧ j < a + t.length
    · rw [if_pos c]
      have := World.cell?_setCells_in g (u8Vals t) a w (fun i hi => by rw [h1 (a + i) (by omega)]; rfl) (j - a) (by omega)
      rw [show a + (j - a) = j from by omega] at this
      rw [this]
      simp [u8Vals, List.getD_eq_getElem?_getD, List.getElem?_eq_getElem (show j - a < t.length by omega)]
    · rw [if_neg c]
      rw [World.cell?_setCells_out g (u8Vals t) a w ⟨g, j, none⟩ (fun _ _ => by simp only [hlen]; omega)]
      exact h1 j hj
  · rw [putAt_length l a t hfit] at hj
    rw [World.frozen?_setCells]
    exact h2 j hj
theorem u8_size (w : World) : (Go.sizeOf 5).run Tryd.prog w = .ok 1 w := by
  have : (Tryd.prog.info? 5).map (·.size) = some 1 := by kernel_rfl
  obtain ⟨i, hi, hs⟩ := Option.map_eq_some_iff.1 this
  simp [Go.sizeOf, typeInfo, hi, hs]
theorem row_copy {w : World} {g : Nat} {l : List UInt8} (h : RowAt w g l) (ty : TypeId) (a cap : Nat) (s : ByteArray) (hfit : a + s.size ≤ l.length) :
    (Builtin.copy_ #[61, 9] ty #[.slice (some ⟨g, a, none⟩) (l.length - a) cap, .string s]).run Tryd.prog w = .ok (goInt s.size) (w.setCells g a (u8Vals s.data.toList)) :=
  run_copy_string w 61 9 ty 5 g a (l.length - a) cap s (by kernel_rfl) u8_size (by omega) (fun j hj => by rw [h.2.1 (a + j) (by omega)]; rfl) (fun j hj => h.2.2 (a + j) (by omega))
set_option maxRecDepth 100000 in
theorem row_string {w : World} {g : Nat} {l : List UInt8} (h : RowAt w g l) (a n cap : Nat) (hfit : a + n ≤ l.length) :
    (convert 61 9 (.slice (some ⟨g, a, none⟩) n cap)).run Tryd.prog w = .ok (.string ⟨((l.drop a).take n).toArray⟩) w := by
  have := run_convert_bytes_arg (P := Tryd.prog) w 61 5 (by kernel_rfl) (by kernel_rfl) g a n cap (((l.drop a).take n).map fun c => (c.toNat : Int)) (by simp; omega) (fun i hi => by
    rw [h.2.1 (a + i) (by omega)]
    simp only [List.getD_eq_getElem?_getD, List.getElem?_map, List.getElem?_take_of_lt hi, List.getElem?_drop]
    rw [List.getElem?_eq_getElem (by omega)]
    rfl) 9 (by kernel_rfl)
  rw [this]
  congr 2
  simp [strOfNums, Function.comp_def]
theorem RowAt.set1 {w : World} {g : Nat} {l : List UInt8} (h : RowAt w g l) (a : Nat) (c : UInt8) (ha : a < l.length) : RowAt (w.setCell ⟨g, a, none⟩ (.int .u8 (c.toNat : Int))) g (putAt l a [c]) := h.put a [c] (by simp; omega)
end Go.Proofs.YtmehafolnpkmhaaDoor
end
