/- Wheel: the acts of a law as a list; both wheels. -/
import Derived.Test.YtkeeledkdoiglaaDoorWhAny
import Derived.SizedLaws
import Derived.ChangeSlices
import Derived.OpenShut
import Derived.Deep.Fields
namespace Go.Proofs.YtkeeledkdoiglaaDoor.Wh
open Go.RowKit Go.ChangeShapes Go.WideShapes Go.Deep Go.Proofs.YtkeeledkdoiglaaDoor
structure ActV where
  what : Nat
  id : Int
  n : Int
def i64b (z : Int) : Prop := -9223372036854775808 ≤ z ∧ z ≤ 9223372036854775807
theorem i64b_of {z : Int} (h : (Lit.int .i64 z).wf = true) : i64b z := by
  have h : IntKind.i64.min ≤ z ∧ z ≤ IntKind.i64.max := by simpa [Lit.wf] using h
  have h1 : IntKind.i64.min = -9223372036854775808 := rfl
  have h2 : IntKind.i64.max = 9223372036854775807 := rfl
  unfold i64b
  omega
theorem u8b_of {z : Int} (h : (Lit.int .u8 z).wf = true) : 0 ≤ z ∧ z < 256 := by
  have h : IntKind.u8.min ≤ z ∧ z ≤ IntKind.u8.max := by simpa [Lit.wf] using h
  have h1 : IntKind.u8.min = 0 := rfl
  have h2 : IntKind.u8.max = 255 := rfl
  omega
/-- A slice of acts that is there. -/
def ActsAt (w : World) (v : Value) (xs : List ActV) : Prop :=
  ∃ a cap b o, v = .slice a xs.length cap ∧ xs.length ≤ cap ∧ cap ≤ maxLen ∧ (xs ≠ [] → a = some ⟨b, o, none⟩ ∧ b < w.heap.size) ∧
    ∀ (i : Nat) (h : i < xs.length), w.cell? ⟨b, o + i * 3 + 0, none⟩ = some (.int .u8 (xs[i].what : Int)) ∧ w.cell? ⟨b, o + i * 3 + 1, none⟩ = some (.int .i64 xs[i].id) ∧
      w.cell? ⟨b, o + i * 3 + 2, none⟩ = some (.int .i64 xs[i].n)
def okActs (xs : List ActV) : Prop := ∀ x ∈ xs, x.what < 256 ∧ i64b x.id ∧ i64b x.n
set_option maxRecDepth 100000 in
theorem acts_of {H : Type} {enc : TypeId × Value → H} {W : World} {v : Value} {d : DataW H} {p : List MemPlace}
    (h : DataW.Trod enc Tryd.prog W 0 (fun _ => true) true 22 v d p) (o : Value.okWide Tryd.prog W .any 0 22 v) :
    ∃ xs, ActsAt W v xs ∧ okActs xs := by
  obtain ⟨a, len, cap, rfl⟩ := Go.WideShapes.okWide_slice Tryd.underlying22 o
  obtain ⟨m, hm⟩ := h
  rcases open_slice_fields Tryd.underlying22 Tryd.underlying28 (by kernel_rfl) (by kernel_rfl) (by decide) hm with h0 | ⟨a', len', cap', n, V, Y, h0, hl, hc, hx⟩
  · have e : a = none ∧ len = 0 ∧ cap = 0 := by simpa [Value.cells] using h0
    obtain ⟨rfl, rfl, rfl⟩ := e
    exact ⟨[], ⟨none, 0, 0, 0, rfl, by simp, by simp [maxLen], fun h => absurd rfl h, fun i hi => by simp at hi⟩, fun x hx => by simp at hx⟩
  · have e : a = some a' ∧ len = len' ∧ cap = cap' := by simpa [Value.cells] using h0
    obtain ⟨rfl, rfl, rfl⟩ := e
    let f : Nat → ActV := fun i => ⟨match V i 0 with | .int _ z => z.toNat | _ => 0, match V i 1 with | .int _ z => z | _ => 0, match V i 2 with | .int _ z => z | _ => 0⟩
    have hf : ∀ i, i < len → V i 0 = .int .u8 ((f i).what : Int) ∧ V i 1 = .int .i64 (f i).id ∧ V i 2 = .int .i64 (f i).n ∧ (f i).what < 256 ∧ i64b (f i).id ∧ i64b (f i).n := by
      intro i hi
      obtain ⟨-, -, hj⟩ := hx i hi
      obtain ⟨-, t0⟩ := hj 0 _ rfl
      obtain ⟨-, t1⟩ := hj 1 _ rfl
      obtain ⟨-, t2⟩ := hj 2 _ rfl
      obtain ⟨z0, e0, -, w0⟩ := DataW.trod_int Tryd.underlying5 t0
      obtain ⟨z1, e1, -, w1⟩ := DataW.trod_int Tryd.underlying3 t1
      obtain ⟨z2, e2, -, w2⟩ := DataW.trod_int Tryd.underlying3 t2
      have e0' : V i 0 = .int .u8 z0 := by simpa using e0
      have e1' : V i 1 = .int .i64 z1 := by simpa using e1
      have e2' : V i 2 = .int .i64 z2 := by simpa using e2
      have b0 := u8b_of w0
      have f0 : (f i).what = z0.toNat := by show (match V i 0 with | .int _ z => z.toNat | _ => 0) = _; rw [e0']
      have f1 : (f i).id = z1 := by show (match V i 1 with | .int _ z => z | _ => 0) = _; rw [e1']
      have f2 : (f i).n = z2 := by show (match V i 2 with | .int _ z => z | _ => 0) = _; rw [e2']
      exact ⟨by rw [e0', f0, Int.toNat_of_nonneg b0.1], by rw [e1', f1], by rw [e2', f2], by rw [f0]; omega, by rw [f1]; exact i64b_of w1, by rw [f2]; exact i64b_of w2⟩
    have hlen : ((List.range len).map f).length = len := by simp
    refine ⟨(List.range len).map f, ⟨some a', cap, a'.block, a'.off, by rw [hlen], by rw [hlen]; exact hl, hc, fun hne => ?_, fun i hi => ?_⟩, fun x hxm => ?_⟩
    · have hpos : 0 < len := by
        rcases Nat.eq_zero_or_pos len with h | h
        · subst h; exact absurd rfl hne
        · exact h
      obtain ⟨h1, h2, -⟩ := hx 0 hpos
      exact ⟨by rw [← h1], h2⟩
    · have hi' : i < len := by simpa using hi
      obtain ⟨-, -, hj⟩ := hx i hi'
      obtain ⟨g0, g1, g2, -⟩ := hf i hi'
      obtain ⟨c0, -⟩ := hj 0 _ rfl
      obtain ⟨c1, -⟩ := hj 1 _ rfl
      obtain ⟨c2, -⟩ := hj 2 _ rfl
      simp only [List.getElem_map, List.getElem_range]
      exact ⟨c0.trans (by rw [g0]), c1.trans (by rw [g1]), c2.trans (by rw [g2])⟩
    · obtain ⟨i, hi, rfl⟩ := List.mem_map.1 hxm
      exact (hf i (List.mem_range.1 hi)).2.2.2
/-- Both wheels in memory. -/
structure WR (w0 w : World) (wb rb : Nat) (F : Nat → Int) (m : Int) (R : Nat → Int) : Prop where
  wl : WL w wb F m
  rf : RfAt w rb R
  ge : w0.heap.size ≤ wb ∧ w0.heap.size ≤ rb ∧ wb ≠ rb
  below : Below w0.heap.size w0 w
section
variable {w0 w w' : World} {wb rb : Nat} {F R : Nat → Int} {m : Int}
theorem WR.drewN (h : WR w0 w wb rb F m R) (n : Nat) : WR w0 (w.drewN n) wb rb F m R :=
  ⟨h.wl.drewN n, h.rf.drewN n, h.ge, ⟨h.below.os, h.below.tape, h.below.output, h.below.size, h.below.block⟩⟩
theorem WR.stay (h : WR w0 w wb rb F m R) {S : Nat → Prop} (hk : Keep S w w') (h1 : ∀ k, S k → w0.heap.size ≤ k ∧ k ≠ wb ∧ k ≠ rb) : WR w0 w' wb rb F m R :=
  ⟨h.wl.keep hk (fun e => (h1 _ e).2.1 rfl), h.rf.keep hk (fun e => (h1 _ e).2.2 rfl), h.ge, h.below.trans (hk.below h.below.size (fun k h2 h3 => by have := (h1 k h3).1; omega))⟩
theorem WR.alloc (h : WR w0 w wb rb F m R) (o : Obj) : WR w0 (w.alloc o) wb rb F m R :=
  h.stay (S := fun _ => False) ((Keep.refl _ w).alloc o) (fun _ h => h.elim)
theorem WR.wstep (h : WR w0 w wb rb F m R) {F' : Nat → Int} {m' : Int} (hk : Keep (fun k => k = wb) w w') (hw : WL w' wb F' m') : WR w0 w' wb rb F' m' R :=
  ⟨hw, h.rf.keep hk (fun e => h.ge.2.2 e.symm), h.ge, h.below.trans (hk.below h.below.size (fun k h2 h3 => by have := h.ge; omega))⟩
theorem WR.rstep (h : WR w0 w wb rb F m R) {R' : Nat → Int} (hk : Keep (fun k => k = rb) w w') (hr : RfAt w' rb R') : WR w0 w' wb rb F m R' :=
  ⟨h.wl.keep hk h.ge.2.2, hr, h.ge, h.below.trans (hk.below h.below.size (fun k h2 h3 => by have := h.ge; omega))⟩
theorem WR.laid (h : WR w0 w wb rb F m R) (hL : LaidW w0) : LaidW w := laidW_below hL h.below (Nat.le_refl _)
end
end Go.Proofs.YtkeeledkdoiglaaDoor.Wh
