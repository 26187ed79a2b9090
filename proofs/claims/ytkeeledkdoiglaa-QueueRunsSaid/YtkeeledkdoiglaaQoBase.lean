/- QueueOrder: what it holds in memory: a queue of numbers, what went in, what came out. -/
import Derived.Test.YtkeeledkdoiglaaQiQue3
import Derived.Test.YtkeeledkdoiglaaQsQue3
import Derived.Test.YtkeeledkdoiglaaApp
import Derived.BigQuiet
namespace Go.Proofs.Ytkeeledkdoiglaa.Qo
open Go.RowKit Go.Proofs.Ytkeeledkdoiglaa
def ints (l : List Int) : List Value := l.map (Value.int .i64)
def Apart (u v : Value) : Prop := ∀ k, u.ownBlock = some k → v.ownBlock ≠ some k
theorem Apart.symm {u v : Value} (h : Apart u v) : Apart v u := fun k hv hu => h k hu hv
abbrev Own (w : World) (base : Nat) (v : Value) (l : List Int) : Prop := w.ownsRow base 3 1 v l.length (ints l)
theorem own_block {w w' : World} {base : Nat} {v : Value} {l : List Int} (h : Own w base v l) (hb : ∀ k, base ≤ k → k < w.heap.size → w'.heap[k]? = w.heap[k]?) : Own w' base v l := by
  obtain ⟨h1, h2⟩ := h
  refine ⟨h1, ?_⟩
  rcases h2 with h2 | ⟨g, cap, cur, rfl, hg, hh, r⟩
  · exact .inl h2
  · exact .inr ⟨g, cap, cur, rfl, hg, (hb g hg (Array.getElem?_eq_some_iff.1 hh).1).trans hh, r⟩
theorem own_keep {w w' : World} {base : Nat} {u v : Value} {l : List Int} (h : Own w base v l) (hg : w.grownBy w' u.ownBlock) (ap : Apart u v) : Own w' base v l :=
  h.kept hg (by
    cases hbb : v.ownBlock with
    | none => exact .inl rfl
    | some j => exact .inr (fun e => ap j e.symm hbb))
/-- What lies where: the queue's pointer, what went in, what came out. -/
structure QO (w0 w : World) (b8 b9 b10 qb cb n base : Nat) (fl : Bool) (l0 l1 i0 i1 o0 o1 : List Int) (vi0 vi1 vo0 vo1 : Value) : Prop where
  q : Qi.QIs w qb cb n fl l0 l1
  c8 : ObjAt w b8 #[.pointer (some ⟨qb, 0, none⟩)] 66
  a9 : ObjAt w b9 #[vi0, vi1] 68
  a10 : ObjAt w b10 #[vo0, vo1] 68
  ri0 : Own w base vi0 i0
  ri1 : Own w base vi1 i1
  ro0 : Own w base vo0 o0
  ro1 : Own w base vo1 o1
  ap : (Apart vi0 vi1 ∧ Apart vi0 vo0 ∧ Apart vi0 vo1) ∧ (Apart vi1 vo0 ∧ Apart vi1 vo1) ∧ Apart vo0 vo1
  lt : (qb < base ∧ cb < base) ∧ (b8 < base ∧ b9 < base ∧ b10 < base) ∧ base ≤ w.heap.size
  ne : (b8 ≠ b9 ∧ b8 ≠ b10 ∧ b9 ≠ b10) ∧ (b8 ≠ qb ∧ b8 ≠ cb) ∧ (b9 ≠ qb ∧ b9 ≠ cb) ∧ (b10 ≠ qb ∧ b10 ≠ cb)
  ge : (w0.heap.size ≤ qb ∧ w0.heap.size ≤ cb) ∧ w0.heap.size ≤ b8 ∧ w0.heap.size ≤ b9 ∧ w0.heap.size ≤ b10
  below : Below w0.heap.size w0 w
section
variable {w0 w : World} {b8 b9 b10 qb cb n base : Nat} {fl : Bool} {l0 l1 i0 i1 o0 o1 : List Int} {vi0 vi1 vo0 vo1 : Value}
theorem QO.drewN (h : QO w0 w b8 b9 b10 qb cb n base fl l0 l1 i0 i1 o0 o1 vi0 vi1 vo0 vo1) (k : Nat) : QO w0 (w.drewN k) b8 b9 b10 qb cb n base fl l0 l1 i0 i1 o0 o1 vi0 vi1 vo0 vo1 :=
  ⟨h.q.drewN k, h.c8, h.a9, h.a10, h.ri0, h.ri1, h.ro0, h.ro1, h.ap, h.lt, h.ne, h.ge, ⟨h.below.os, h.below.tape, h.below.output, h.below.size, h.below.block⟩⟩
/-- Behind work of the queue. -/
theorem QO.queue (h : QO w0 w b8 b9 b10 qb cb n base fl l0 l1 i0 i1 o0 o1 vi0 vi1 vo0 vo1) {w' : World} {fl' : Bool} {l0' l1' : List Int} (hk : Keep (fun k => k = qb ∨ k = cb) w w') (hq : Qi.QIs w' qb cb n fl' l0' l1') :
    QO w0 w' b8 b9 b10 qb cb n base fl' l0' l1' i0 i1 o0 o1 vi0 vi1 vo0 vo1 := by
  obtain ⟨_, c8, a9, a10, ri0, ri1, ro0, ro1, ap, lt, ne, ge, bl⟩ := h
  have hb : ∀ k, base ≤ k → k < w.heap.size → w'.heap[k]? = w.heap[k]? := fun k h1 h2 => hk.block k h2 (by omega)
  exact ⟨hq, hk.obj c8 (by omega), hk.obj a9 (by omega), hk.obj a10 (by omega), own_block ri0 hb, own_block ri1 hb, own_block ro0 hb, own_block ro1 hb, ap, ⟨lt.1, lt.2.1, Nat.le_trans lt.2.2 hk.size⟩, ne, ge,
    bl.trans (hk.below bl.size (by intro k h1; omega))⟩
theorem QO.heap (h : QO w0 w b8 b9 b10 qb cb n base fl l0 l1 i0 i1 o0 o1 vi0 vi1 vo0 vo1) : base ≤ w.heap.size := h.lt.2.2
theorem QO.bl (h : QO w0 w b8 b9 b10 qb cb n base fl l0 l1 i0 i1 o0 o1 vi0 vi1 vo0 vo1) : Below w0.heap.size w0 w := h.below

theorem QO.put_vi0 (h : QO w0 w b8 b9 b10 qb cb n base fl l0 l1 i0 i1 o0 o1 vi0 vi1 vo0 vo1) {w2 : World} {v' : Value} {x : Int} (ho : w2.ownsRow base 3 1 v' (i0.length + 1) (ints i0 ++ [.int .i64 x]))
    (hg : w.grownBy w2 vi0.ownBlock) (hv : v'.ownBlock = vi0.ownBlock ∨ ∃ k, v'.ownBlock = some k ∧ w.heap.size ≤ k) :
    QO w0 (w2.setCell ⟨b9, 0, none⟩ v') b8 b9 b10 qb cb n base fl l0 l1 (i0 ++ [x]) i1 o0 o1 v' vi1 vo0 vo1 := by
  obtain ⟨q, c8, a9, a10, ri0, ri1, ro0, ro1, ap, lt, ne, ge, bl⟩ := h
  have hown := fun k hk => (ri0.lt k hk).1
  have hgb : ∀ k, k < base → w2.heap[k]? = w.heap[k]? := fun k hk => hg.block k (by omega) (fun e => by have := hown k e.symm; omega)
  have hw2 : w.heap.size ≤ w2.heap.size := hg.size
  have hset : ∀ k, k ≠ b9 → (w2.setCell ⟨b9, 0, none⟩ v').heap[k]? = w2.heap[k]? := fun k hk => heap_setCell_other _ _ _ _ hk
  have hK : Keep (fun k => k = b9 ∨ base ≤ k) w (w2.setCell ⟨b9, 0, none⟩ v') := ⟨hg.os, hg.tape, hg.output, by simpa [World.setCell] using hg.size, fun k h1 h2 => by rw [hset k (by omega), hgb k (by omega)]⟩
  have hs : ∀ {v : Value} {l : List Int}, Own w2 base v l → Own (w2.setCell ⟨b9, 0, none⟩ v') base v l := fun h => own_block h fun k h1 h2 => hset k (by omega)
  have na : ∀ {u : Value} {l : List Int}, Own w base u l → Apart vi0 u → Apart v' u := by
    intro u l hu hau k hk hu2
    rcases hv with e | ⟨j, e, hj⟩
    · rw [e] at hk; exact hau k hk hu2
    · rw [e] at hk
      injection hk with hk
      have := (hu.lt k hu2).2
      omega
  have k_vi1 := hs (own_keep ri1 hg (ap.1.1))
  have n_vi1 := na ri1 (ap.1.1)
  have k_vo0 := hs (own_keep ro0 hg (ap.1.2.1))
  have n_vo0 := na ro0 (ap.1.2.1)
  have k_vo1 := hs (own_keep ro1 hg (ap.1.2.2))
  have n_vo1 := na ro1 (ap.1.2.2)
  have k_vi0 : Own (w2.setCell ⟨b9, 0, none⟩ v') base v' (i0 ++ [x]) := hs (by unfold Own; rw [List.length_append]; unfold ints at ho ⊢; rw [List.map_append]; exact ho)
  exact ⟨q.keep hK (by omega) (by omega), hK.obj c8 (by omega), heap_setCell_same _ b9 0 _ _ v' ((hgb b9 (by omega)).trans a9), hK.obj a10 (by omega), k_vi0, k_vi1, k_vo0, k_vo1, ⟨⟨n_vi1, n_vo0, n_vo1⟩, ⟨ap.2.1.1, ap.2.1.2⟩, ap.2.2⟩, ⟨lt.1, lt.2.1, Nat.le_trans lt.2.2 hK.size⟩, ne, ge, bl.trans (hK.below bl.size (by intro k h1; omega))⟩

theorem QO.put_vi1 (h : QO w0 w b8 b9 b10 qb cb n base fl l0 l1 i0 i1 o0 o1 vi0 vi1 vo0 vo1) {w2 : World} {v' : Value} {x : Int} (ho : w2.ownsRow base 3 1 v' (i1.length + 1) (ints i1 ++ [.int .i64 x]))
    (hg : w.grownBy w2 vi1.ownBlock) (hv : v'.ownBlock = vi1.ownBlock ∨ ∃ k, v'.ownBlock = some k ∧ w.heap.size ≤ k) :
    QO w0 (w2.setCell ⟨b9, 1, none⟩ v') b8 b9 b10 qb cb n base fl l0 l1 i0 (i1 ++ [x]) o0 o1 vi0 v' vo0 vo1 := by
  obtain ⟨q, c8, a9, a10, ri0, ri1, ro0, ro1, ap, lt, ne, ge, bl⟩ := h
  have hown := fun k hk => (ri1.lt k hk).1
  have hgb : ∀ k, k < base → w2.heap[k]? = w.heap[k]? := fun k hk => hg.block k (by omega) (fun e => by have := hown k e.symm; omega)
  have hw2 : w.heap.size ≤ w2.heap.size := hg.size
  have hset : ∀ k, k ≠ b9 → (w2.setCell ⟨b9, 1, none⟩ v').heap[k]? = w2.heap[k]? := fun k hk => heap_setCell_other _ _ _ _ hk
  have hK : Keep (fun k => k = b9 ∨ base ≤ k) w (w2.setCell ⟨b9, 1, none⟩ v') := ⟨hg.os, hg.tape, hg.output, by simpa [World.setCell] using hg.size, fun k h1 h2 => by rw [hset k (by omega), hgb k (by omega)]⟩
  have hs : ∀ {v : Value} {l : List Int}, Own w2 base v l → Own (w2.setCell ⟨b9, 1, none⟩ v') base v l := fun h => own_block h fun k h1 h2 => hset k (by omega)
  have na : ∀ {u : Value} {l : List Int}, Own w base u l → Apart vi1 u → Apart v' u := by
    intro u l hu hau k hk hu2
    rcases hv with e | ⟨j, e, hj⟩
    · rw [e] at hk; exact hau k hk hu2
    · rw [e] at hk
      injection hk with hk
      have := (hu.lt k hu2).2
      omega
  have k_vi0 := hs (own_keep ri0 hg ((ap.1.1).symm))
  have n_vi0 := na ri0 ((ap.1.1).symm)
  have k_vo0 := hs (own_keep ro0 hg (ap.2.1.1))
  have n_vo0 := na ro0 (ap.2.1.1)
  have k_vo1 := hs (own_keep ro1 hg (ap.2.1.2))
  have n_vo1 := na ro1 (ap.2.1.2)
  have k_vi1 : Own (w2.setCell ⟨b9, 1, none⟩ v') base v' (i1 ++ [x]) := hs (by unfold Own; rw [List.length_append]; unfold ints at ho ⊢; rw [List.map_append]; exact ho)
  exact ⟨q.keep hK (by omega) (by omega), hK.obj c8 (by omega), heap_setCell_same _ b9 1 _ _ v' ((hgb b9 (by omega)).trans a9), hK.obj a10 (by omega), k_vi0, k_vi1, k_vo0, k_vo1, ⟨⟨n_vi0.symm, ap.1.2.1, ap.1.2.2⟩, ⟨n_vo0, n_vo1⟩, ap.2.2⟩, ⟨lt.1, lt.2.1, Nat.le_trans lt.2.2 hK.size⟩, ne, ge, bl.trans (hK.below bl.size (by intro k h1; omega))⟩

theorem QO.put_vo0 (h : QO w0 w b8 b9 b10 qb cb n base fl l0 l1 i0 i1 o0 o1 vi0 vi1 vo0 vo1) {w2 : World} {v' : Value} {x : Int} (ho : w2.ownsRow base 3 1 v' (o0.length + 1) (ints o0 ++ [.int .i64 x]))
    (hg : w.grownBy w2 vo0.ownBlock) (hv : v'.ownBlock = vo0.ownBlock ∨ ∃ k, v'.ownBlock = some k ∧ w.heap.size ≤ k) :
    QO w0 (w2.setCell ⟨b10, 0, none⟩ v') b8 b9 b10 qb cb n base fl l0 l1 i0 i1 (o0 ++ [x]) o1 vi0 vi1 v' vo1 := by
  obtain ⟨q, c8, a9, a10, ri0, ri1, ro0, ro1, ap, lt, ne, ge, bl⟩ := h
  have hown := fun k hk => (ro0.lt k hk).1
  have hgb : ∀ k, k < base → w2.heap[k]? = w.heap[k]? := fun k hk => hg.block k (by omega) (fun e => by have := hown k e.symm; omega)
  have hw2 : w.heap.size ≤ w2.heap.size := hg.size
  have hset : ∀ k, k ≠ b10 → (w2.setCell ⟨b10, 0, none⟩ v').heap[k]? = w2.heap[k]? := fun k hk => heap_setCell_other _ _ _ _ hk
  have hK : Keep (fun k => k = b10 ∨ base ≤ k) w (w2.setCell ⟨b10, 0, none⟩ v') := ⟨hg.os, hg.tape, hg.output, by simpa [World.setCell] using hg.size, fun k h1 h2 => by rw [hset k (by omega), hgb k (by omega)]⟩
  have hs : ∀ {v : Value} {l : List Int}, Own w2 base v l → Own (w2.setCell ⟨b10, 0, none⟩ v') base v l := fun h => own_block h fun k h1 h2 => hset k (by omega)
  have na : ∀ {u : Value} {l : List Int}, Own w base u l → Apart vo0 u → Apart v' u := by
    intro u l hu hau k hk hu2
    rcases hv with e | ⟨j, e, hj⟩
    · rw [e] at hk; exact hau k hk hu2
    · rw [e] at hk
      injection hk with hk
      have := (hu.lt k hu2).2
      omega
  have k_vi0 := hs (own_keep ri0 hg ((ap.1.2.1).symm))
  have n_vi0 := na ri0 ((ap.1.2.1).symm)
  have k_vi1 := hs (own_keep ri1 hg ((ap.2.1.1).symm))
  have n_vi1 := na ri1 ((ap.2.1.1).symm)
  have k_vo1 := hs (own_keep ro1 hg (ap.2.2))
  have n_vo1 := na ro1 (ap.2.2)
  have k_vo0 : Own (w2.setCell ⟨b10, 0, none⟩ v') base v' (o0 ++ [x]) := hs (by unfold Own; rw [List.length_append]; unfold ints at ho ⊢; rw [List.map_append]; exact ho)
  exact ⟨q.keep hK (by omega) (by omega), hK.obj c8 (by omega), hK.obj a9 (by omega), heap_setCell_same _ b10 0 _ _ v' ((hgb b10 (by omega)).trans a10), k_vi0, k_vi1, k_vo0, k_vo1, ⟨⟨ap.1.1, n_vi0.symm, ap.1.2.2⟩, ⟨n_vi1.symm, ap.2.1.2⟩, n_vo1⟩, ⟨lt.1, lt.2.1, Nat.le_trans lt.2.2 hK.size⟩, ne, ge, bl.trans (hK.below bl.size (by intro k h1; omega))⟩

theorem QO.put_vo1 (h : QO w0 w b8 b9 b10 qb cb n base fl l0 l1 i0 i1 o0 o1 vi0 vi1 vo0 vo1) {w2 : World} {v' : Value} {x : Int} (ho : w2.ownsRow base 3 1 v' (o1.length + 1) (ints o1 ++ [.int .i64 x]))
    (hg : w.grownBy w2 vo1.ownBlock) (hv : v'.ownBlock = vo1.ownBlock ∨ ∃ k, v'.ownBlock = some k ∧ w.heap.size ≤ k) :
    QO w0 (w2.setCell ⟨b10, 1, none⟩ v') b8 b9 b10 qb cb n base fl l0 l1 i0 i1 o0 (o1 ++ [x]) vi0 vi1 vo0 v' := by
  obtain ⟨q, c8, a9, a10, ri0, ri1, ro0, ro1, ap, lt, ne, ge, bl⟩ := h
  have hown := fun k hk => (ro1.lt k hk).1
  have hgb : ∀ k, k < base → w2.heap[k]? = w.heap[k]? := fun k hk => hg.block k (by omega) (fun e => by have := hown k e.symm; omega)
  have hw2 : w.heap.size ≤ w2.heap.size := hg.size
  have hset : ∀ k, k ≠ b10 → (w2.setCell ⟨b10, 1, none⟩ v').heap[k]? = w2.heap[k]? := fun k hk => heap_setCell_other _ _ _ _ hk
  have hK : Keep (fun k => k = b10 ∨ base ≤ k) w (w2.setCell ⟨b10, 1, none⟩ v') := ⟨hg.os, hg.tape, hg.output, by simpa [World.setCell] using hg.size, fun k h1 h2 => by rw [hset k (by omega), hgb k (by omega)]⟩
  have hs : ∀ {v : Value} {l : List Int}, Own w2 base v l → Own (w2.setCell ⟨b10, 1, none⟩ v') base v l := fun h => own_block h fun k h1 h2 => hset k (by omega)
  have na : ∀ {u : Value} {l : List Int}, Own w base u l → Apart vo1 u → Apart v' u := by
    intro u l hu hau k hk hu2
    rcases hv with e | ⟨j, e, hj⟩
    · rw [e] at hk; exact hau k hk hu2
    · rw [e] at hk
      injection hk with hk
      have := (hu.lt k hu2).2
      omega
  have k_vi0 := hs (own_keep ri0 hg ((ap.1.2.2).symm))
  have n_vi0 := na ri0 ((ap.1.2.2).symm)
  have k_vi1 := hs (own_keep ri1 hg ((ap.2.1.2).symm))
  have n_vi1 := na ri1 ((ap.2.1.2).symm)
  have k_vo0 := hs (own_keep ro0 hg ((ap.2.2).symm))
  have n_vo0 := na ro0 ((ap.2.2).symm)
  have k_vo1 : Own (w2.setCell ⟨b10, 1, none⟩ v') base v' (o1 ++ [x]) := hs (by unfold Own; rw [List.length_append]; unfold ints at ho ⊢; rw [List.map_append]; exact ho)
  exact ⟨q.keep hK (by omega) (by omega), hK.obj c8 (by omega), hK.obj a9 (by omega), heap_setCell_same _ b10 1 _ _ v' ((hgb b10 (by omega)).trans a10), k_vi0, k_vi1, k_vo0, k_vo1, ⟨⟨ap.1.1, ap.1.2.1, n_vi0.symm⟩, ⟨ap.2.1.1, n_vi1.symm⟩, n_vo0.symm⟩, ⟨lt.1, lt.2.1, Nat.le_trans lt.2.2 hK.size⟩, ne, ge, bl.trans (hK.below bl.size (by intro k h1; omega))⟩
end
end Go.Proofs.Ytkeeledkdoiglaa.Qo
