/- QueueOrder: slices of truth values as arguments; the closure with the state as one. -/
import Derived.Test.YtkeeledkdoiglaaQoPull
import Derived.SizedLaws
import Derived.ChangeSlices
import Derived.OpenShut
import Derived.Deep.Fields
namespace Go.Proofs.Ytkeeledkdoiglaa
open Go.RowKit Go.Deep Go.ChangeShapes Go.WideShapes
/-- A slice of truth values that is there. -/
def IsB (w : World) (a : Option Addr) (len : Nat) (z : List Bool) : Prop :=
  len = z.length ∧ (0 < len → ∃ b o, a = some ⟨b, o, none⟩ ∧ b < w.heap.size ∧ ∀ i, i < len → w.cell? ⟨b, o + i, none⟩ = some (.bool (z.getD i false)))
theorem trod_is_bool {H : Type} {enc : TypeId × Value → H} {P : Program} {w : World} {t : TypeId} {fuel : Nat} {cs : List Value} {x : DataW H × List MemPlace} {b : Nat} {sp : Nat → Bool} {held : Bool}
    (hu : P.underlying t = some .bool) (h : DataW.trod enc P w b sp held fuel t cs = some x) : ∃ v, cs = [.bool v] := by
  cases fuel with
  | zero => simp [DataW.trod] at h
  | succ f =>
    unfold DataW.trod at h
    rw [hu] at h
    split at h <;> simp_all
theorem isB_of {H : Type} {enc : TypeId × Value → H} {P : Program} {W : World} {t e : TypeId} {v : Value} {d : DataW H} {ps : List MemPlace}
    (hu : P.underlying t = some (.slice e)) (he : P.underlying e = some .bool) (hc : P.cellsOf e = 1) (h : DataW.Trod enc P W 0 (fun _ => true) true t v d ps) (o : Value.okWide P W .any 0 t v) :
    ∃ a len cap z, v = .slice a len cap ∧ IsB W a len z ∧ len ≤ cap ∧ cap ≤ maxLen := by
  obtain ⟨a, len, cap, rfl⟩ := okWide_slice hu o
  obtain ⟨fuel, hf⟩ := h
  rcases open_slice hu hf with ⟨h0, _⟩ | ⟨a', len', cap', m, n, D, Pl, h0, hb, hl, hm, hmm, -, hx⟩
  · simp [Value.cells] at h0
    obtain ⟨rfl, rfl, rfl⟩ := h0
    exact ⟨none, 0, 0, [], rfl, ⟨rfl, fun h => by omega⟩, Nat.le_refl _, Nat.zero_le _⟩
  · simp [Value.cells] at h0
    obtain ⟨rfl, rfl, rfl⟩ := h0
    have hlm : len ≤ m := by rw [hmm]; split <;> omega
    have key : ∀ i, i < len → ∃ z : Bool, a' = ⟨a'.block, a'.off, none⟩ ∧ a'.block < W.heap.size ∧ W.cell? ⟨a'.block, a'.off + i, none⟩ = some (.bool z) := by
      intro i hi
      obtain ⟨cs', h1, h2⟩ := hx i (by omega)
      obtain ⟨hb', hlen, hcell⟩ := World.cells?_some h1
      rw [hc] at hlen hcell
      obtain ⟨z, rfl⟩ := trod_is_bool he h2
      have h0 := hcell 0 (by omega)
      have hspot : a'.spot = none := by
        obtain ⟨cs0, k1, k2⟩ := hx 0 (by omega)
        obtain ⟨-, hlen0, hcell0⟩ := World.cells?_some k1
        rw [hc] at hlen0 hcell0
        have k0 := hcell0 0 (by omega)
        rw [List.getElem?_eq_getElem (by omega), Nat.zero_mul] at k0
        simpa [Addr.add] using World.cell?_spot k0
      clear o
      obtain ⟨b, o, spot⟩ := a'
      simp only at hspot
      subst hspot
      have e2 : ((⟨b, o, none⟩ : Addr).add (i * 1)).add 0 = ⟨b, o + i, none⟩ := by
        rw [Nat.mul_one]
        unfold Addr.add
        by_cases hi0 : i = 0 <;> simp [hi0]
      rw [e2] at h0
      have h3 : W.cell? ⟨b, o + i, none⟩ = some (.bool z) := by simpa using h0
      exact ⟨z, rfl, (show b < W.heap.size from World.block_lt_of_cell? W ⟨b, o + i, none⟩ h3), h3⟩
    obtain ⟨f, hf⟩ := choose_lt (α := Bool) (n := len) (p := fun i z => a' = ⟨a'.block, a'.off, none⟩ ∧ a'.block < W.heap.size ∧ W.cell? ⟨a'.block, a'.off + i, none⟩ = some (.bool z)) key
    refine ⟨some a', len, cap, (List.range len).map f, rfl, ⟨by simp, fun h0 => ?_⟩, hl, hm⟩
    obtain ⟨e1, e2, _⟩ := hf 0 h0
    refine ⟨a'.block, a'.off, by rw [e1], e2, fun i hi => ?_⟩
    rw [(hf i hi).2.2]
    simp [List.getD_eq_getElem?_getD, hi]
end Go.Proofs.Ytkeeledkdoiglaa
namespace Go.Proofs.Ytkeeledkdoiglaa.Qo
open Go.RowKit Go.Proofs.Ytkeeledkdoiglaa
/-- The state: what waits, what went in; what came out is the rest. -/
def SQ (w0 w : World) (b8 b9 b10 qb cb n base : Nat) (fl : Bool) (l0 l1 i0 i1 : List Int) : Prop :=
  ∃ o0 o1 vi0 vi1 vo0 vo1, QO w0 w b8 b9 b10 qb cb n base fl l0 l1 i0 i1 o0 o1 vi0 vi1 vo0 vo1 ∧ i0 = o0 ++ l0 ∧ i1 = o1 ++ l1
section
variable {w0 w : World} {b8 b9 b10 qb cb n base : Nat} {fl : Bool} {l0 l1 i0 i1 : List Int}
theorem SQ.drewN (h : SQ w0 w b8 b9 b10 qb cb n base fl l0 l1 i0 i1) (k : Nat) : SQ w0 (w.drewN k) b8 b9 b10 qb cb n base fl l0 l1 i0 i1 := by
  obtain ⟨o0, o1, vi0, vi1, vo0, vo1, h, r⟩ := h
  exact ⟨o0, o1, vi0, vi1, vo0, vo1, h.drewN k, r⟩
theorem SQ.q (h : SQ w0 w b8 b9 b10 qb cb n base fl l0 l1 i0 i1) : Qi.QIs w qb cb n fl l0 l1 := by
  obtain ⟨o0, o1, vi0, vi1, vo0, vo1, h, r⟩ := h
  exact h.q
theorem SQ.c8 (h : SQ w0 w b8 b9 b10 qb cb n base fl l0 l1 i0 i1) : w.cell? ⟨b8, 0, none⟩ = some (.pointer (some ⟨qb, 0, none⟩)) := by
  obtain ⟨o0, o1, vi0, vi1, vo0, vo1, h, r⟩ := h
  exact h.c8.cell 0
theorem SQ.below (h : SQ w0 w b8 b9 b10 qb cb n base fl l0 l1 i0 i1) : Below w0.heap.size w0 w := by
  obtain ⟨o0, o1, vi0, vi1, vo0, vo1, h, r⟩ := h
  exact h.below
theorem SQ.queue (h : SQ w0 w b8 b9 b10 qb cb n base fl l0 l1 i0 i1) {w' : World} {fl' : Bool} (hk : Keep (fun k => k = qb ∨ k = cb) w w') (hq : Qi.QIs w' qb cb n fl' l0 l1) : SQ w0 w' b8 b9 b10 qb cb n base fl' l0 l1 i0 i1 := by
  obtain ⟨o0, o1, vi0, vi1, vo0, vo1, h, r⟩ := h
  exact ⟨o0, o1, vi0, vi1, vo0, vo1, h.queue hk hq, r⟩
theorem pull_any (h : SQ w0 w b8 b9 b10 qb cb n base fl l0 l1 i0 i1) (h0 : i0.length ≤ 1000) (h1 : i1.length ≤ 1000) (hi : Bool) :
    Calls Try.prog 37 #[.bool hi, .pointer (some ⟨b8, 0, none⟩), .pointer (some ⟨b10, 0, none⟩)] w fun e w' => e = .returned (.tuple #[]) ∧ SQ w0 w' b8 b9 b10 qb cb n base fl (if hi then l0 else l0.tail) (if hi then l1.tail else l1) i0 i1 := by
  obtain ⟨o0, o1, vi0, vi1, vo0, vo1, h, e0, e1⟩ := h
  have ho0 : o0.length ≤ 1000 := by rw [e0, List.length_append] at h0; omega
  have ho1 : o1.length ≤ 1000 := by rw [e1, List.length_append] at h1; omega
  cases hi
  · match l0, h, e0 with
    | [], h, e0 =>
      refine (pull0_none h).mono ?_
      rintro e w' ⟨rfl, h⟩
      exact ⟨rfl, _, _, _, _, _, _, h, e0, e1⟩
    | x :: r, h, e0 =>
      refine (pull0_some h ho0).mono ?_
      rintro e w' ⟨rfl, v', h⟩
      exact ⟨rfl, _, _, _, _, _, _, h, by rw [e0]; simp, e1⟩
  · match l1, h, e1 with
    | [], h, e1 =>
      refine (pull1_none h).mono ?_
      rintro e w' ⟨rfl, h⟩
      exact ⟨rfl, _, _, _, _, _, _, h, e0, e1⟩
    | x :: r, h, e1 =>
      refine (pull1_some h ho1).mono ?_
      rintro e w' ⟨rfl, v', h⟩
      exact ⟨rfl, _, _, _, _, _, _, h, e0, by rw [e1]; simp⟩
end
/-- The state when all begins. -/
theorem SQ.start (w0 w1 : World) (qb cb n : Nat) (hq : Qi.QIs w1 qb cb n false [] []) (h1 : w0.heap.size ≤ qb) (h2 : w0.heap.size ≤ cb) (hb : Below w0.heap.size w0 w1) :
    SQ w0 (((w1.alloc (.cells #[.pointer (some ⟨qb, 0, none⟩)] 66)).alloc (.cells #[.slice none 0 0, .slice none 0 0] 68)).alloc (.cells #[.slice none 0 0, .slice none 0 0] 68))
      w1.heap.size (w1.heap.size + 1) (w1.heap.size + 1 + 1) qb cb n (w1.heap.size + 1 + 1 + 1) false [] [] [] [] := by
  have hl := hq.lt
  have ha : Apart (.slice none 0 0) (.slice none 0 0) := fun k hk => by simp [Value.ownBlock] at hk
  have k1 : Keep (fun _ => False) w1 (((w1.alloc (.cells #[.pointer (some ⟨qb, 0, none⟩)] 66)).alloc (.cells #[.slice none 0 0, .slice none 0 0] 68)).alloc (.cells #[.slice none 0 0, .slice none 0 0] 68)) := (((Keep.refl _ w1).alloc _).alloc _).alloc _
  have hsz := hb.size
  refine ⟨[], [], .slice none 0 0, .slice none 0 0, .slice none 0 0, .slice none 0 0, ⟨hq.keep k1 (fun h => h) (fun h => h), ((ObjAt.new w1 _ _).alloc _).alloc _, ?_, ?_, World.ownsRow_nil _ _ _ _, World.ownsRow_nil _ _ _ _, World.ownsRow_nil _ _ _ _, World.ownsRow_nil _ _ _ _, ⟨⟨ha, ha, ha⟩, ⟨ha, ha⟩, ha⟩, ⟨by omega, by omega, by simp⟩, ⟨by omega, by omega, by omega, by omega⟩, ⟨by omega, by omega, by omega, by omega⟩, ((hb.alloc hb.size _).alloc (by simp; omega) _).alloc (by simp; omega) _⟩, rfl, rfl⟩
  · have := ObjAt.new (w1.alloc (.cells #[.pointer (some ⟨qb, 0, none⟩)] 66)) #[.slice none 0 0, .slice none 0 0] 68
    rw [World.size_alloc] at this
    exact this.alloc _
  · have := ObjAt.new ((w1.alloc (.cells #[.pointer (some ⟨qb, 0, none⟩)] 66)).alloc (.cells #[.slice none 0 0, .slice none 0 0] 68)) #[.slice none 0 0, .slice none 0 0] 68
    rw [World.size_alloc, World.size_alloc] at this
    exact this
end Go.Proofs.Ytkeeledkdoiglaa.Qo
