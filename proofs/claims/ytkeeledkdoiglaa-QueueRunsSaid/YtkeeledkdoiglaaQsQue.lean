/- The queue (of texts): what it holds in memory, and its functions walked. -/
import Derived.Test.YtkeeledkdoiglaagBase
import Derived.StillTailTactics
import Derived.BigQuiet
namespace Go.Proofs.Ytkeeledkdoiglaa.Qs
open Go.RowKit
/-- What a queue holds: things and next ones of its cells; which is free; of each class the first, the last, how many; the fault. -/
structure QS where
  X : Nat → ByteArray
  N : Nat → Int
  free : Int
  a0 : Int
  b0 : Int
  n0 : Int
  a1 : Int
  b1 : Int
  n1 : Int
  fault : Bool
def qcells (cb n : Nat) (s : QS) : Array Value := #[.slice (some ⟨cb, 0, none⟩) n n, .int .i64 s.free, .int .i64 s.a0, .int .i64 s.b0, .int .i64 s.n0, .int .i64 s.a1, .int .i64 s.b1, .int .i64 s.n1, .bool s.fault]
/-- A queue in memory. -/
structure QAt (w : World) (qb cb n : Nat) (s : QS) : Prop where
  obj : ObjAt w qb (qcells cb n s) 84
  ne : qb ≠ cb
  lt : cb < w.heap.size
  x : ∀ i : Nat, i < n → w.cell? ⟨cb, i * 2, none⟩ = some (Value.string (s.X i))
  nx : ∀ i : Nat, i < n → w.cell? ⟨cb, i * 2 + 1, none⟩ = some (.int .i64 (s.N i))
  free0 : ∀ i : Nat, i < n → w.frozen? ⟨cb, i * 2, none⟩ = false
  free1 : ∀ i : Nat, i < n → w.frozen? ⟨cb, i * 2 + 1, none⟩ = false
theorem QAt.keep {w w' : World} {qb cb n : Nat} {s : QS} (h : QAt w qb cb n s) {S : Nat → Prop} (hk : Keep S w w') (h1 : ¬ S qb) (h2 : ¬ S cb) : QAt w' qb cb n s := by
  have hb := hk.block cb h.lt h2
  have hc : ∀ o, w'.cell? ⟨cb, o, none⟩ = w.cell? ⟨cb, o, none⟩ := fun o => by unfold World.cell?; simp only [hb]
  have hf : ∀ o, w'.frozen? ⟨cb, o, none⟩ = w.frozen? ⟨cb, o, none⟩ := fun o => by unfold World.frozen?; simp only [hb]
  exact ⟨hk.obj h.obj h1, h.ne, Nat.lt_of_lt_of_le h.lt hk.size, fun i hi => (hc _).trans (h.x i hi), fun i hi => (hc _).trans (h.nx i hi), fun i hi => (hf _).trans (h.free0 i hi), fun i hi => (hf _).trans (h.free1 i hi)⟩
theorem QAt.drew {w : World} {qb cb n : Nat} {s : QS} (h : QAt w qb cb n s) : QAt w.drew qb cb n s := ⟨h.obj, h.ne, h.lt, h.x, h.nx, h.free0, h.free1⟩
theorem QAt.drewN {w : World} {qb cb n : Nat} {s : QS} (h : QAt w qb cb n s) (k : Nat) : QAt (w.drewN k) qb cb n s := ⟨h.obj, h.ne, h.lt, h.x, h.nx, h.free0, h.free1⟩
def upd {α : Type} (f : Nat → α) (i : Nat) (x : α) : Nat → α := fun k => if k = i then x else f k
theorem QAt.setq {w : World} {qb cb n j : Nat} {v : Value} {s s' : QS} (h : QAt w qb cb n s) (hs : (qcells cb n s).setIfInBounds j v = qcells cb n s') (hX : s'.X = s.X) (hN : s'.N = s.N) : QAt (w.setCell ⟨qb, j, none⟩ v) qb cb n s' := by
  have hc : ∀ o, (w.setCell ⟨qb, j, none⟩ v).cell? ⟨cb, o, none⟩ = w.cell? ⟨cb, o, none⟩ := fun o => World.cell?_setCell_far _ _ _ _ h.ne
  refine ⟨by rw [← hs]; exact h.obj.set j v, h.ne, by simpa [World.setCell] using h.lt, fun i hi => ?_, fun i hi => ?_, fun i hi => ?_, fun i hi => ?_⟩
  · rw [hc, hX]; exact h.x i hi
  · rw [hc, hN]; exact h.nx i hi
  · rw [World.frozen?_setCell]; exact h.free0 i hi
  · rw [World.frozen?_setCell]; exact h.free1 i hi
theorem QAt.setx {w : World} {qb cb n i : Nat} {s : QS} (h : QAt w qb cb n s) (hi : i < n) (x : ByteArray) : QAt (w.setCell ⟨cb, i * 2, none⟩ (Value.string x)) qb cb n { s with X := upd s.X i x } := by
  refine ⟨h.obj.set_other ⟨cb, i * 2, none⟩ h.ne _, h.ne, by simpa [World.setCell] using h.lt, fun k hk => ?_, fun k hk => ?_, fun k hk => ?_, fun k hk => ?_⟩
  · by_cases e : k = i
    · subst e
      rw [World.cell?_setCell_same _ _ _ (h.x k hk)]
      simp [upd]
    · rw [World.cell?_setCell_other _ _ _ _ (by simp <;> omega)]
      simp only [upd, if_neg e]
      exact h.x k hk
  · rw [World.cell?_setCell_other _ _ _ _ (by simp <;> omega)]; exact h.nx k hk
  · rw [World.frozen?_setCell]; exact h.free0 k hk
  · rw [World.frozen?_setCell]; exact h.free1 k hk
theorem QAt.setn {w : World} {qb cb n i : Nat} {s : QS} (h : QAt w qb cb n s) (hi : i < n) (x : Int) : QAt (w.setCell ⟨cb, i * 2 + 1, none⟩ (.int .i64 x)) qb cb n { s with N := upd s.N i x } := by
  refine ⟨h.obj.set_other ⟨cb, i * 2 + 1, none⟩ h.ne _, h.ne, by simpa [World.setCell] using h.lt, fun k hk => ?_, fun k hk => ?_, fun k hk => ?_, fun k hk => ?_⟩
  · rw [World.cell?_setCell_other _ _ _ _ (by simp <;> omega)]; exact h.x k hk
  · by_cases e : k = i
    · subst e
      rw [World.cell?_setCell_same _ _ _ (h.nx k hk)]
      simp [upd]
    · rw [World.cell?_setCell_other _ _ _ _ (by simp <;> omega)]
      simp only [upd, if_neg e]
      exact h.nx k hk
  · rw [World.frozen?_setCell]; exact h.free0 k hk
  · rw [World.frozen?_setCell]; exact h.free1 k hk
set_option maxRecDepth 100000 in
theorem lane_any (qb cb n : Nat) (s : QS) (hi : Bool) (w : World) :
    Calls Try.prog 46 #[.pointer (some ⟨qb, 0, none⟩), .bool hi] w fun e w' => e = .returned (.pointer (some ⟨qb, if hi then 5 else 2, none⟩)) ∧ w' = w := by
  cases hi
  · go_enter Try.func46, Try.ntmps46
    go_wp2
    go_ret
    exact ⟨rfl, rfl⟩
  · go_enter Try.func46, Try.ntmps46
    go_wp2
    go_ret
    exact ⟨rfl, rfl⟩
def QS.cnt (s : QS) (hi : Bool) : Int := if hi then s.n1 else s.n0
def QS.fst (s : QS) (hi : Bool) : Int := if hi then s.a1 else s.a0
def QS.lst (s : QS) (hi : Bool) : Int := if hi then s.b1 else s.b0
theorem QAt.cell {w : World} {qb cb n : Nat} {s : QS} (h : QAt w qb cb n s) (j : Nat) : w.cell? ⟨qb, j, none⟩ = (qcells cb n s)[j]? := h.obj.cell j
set_option maxRecDepth 100000 in
theorem len_any (qb cb n : Nat) (s : QS) (hi : Bool) (w : World) (h : QAt w qb cb n s) :
    Calls Try.prog 33 #[.pointer (some ⟨qb, 0, none⟩), .bool hi] w fun e w' => e = .returned (.int .i64 (s.cnt hi)) ∧ w' = w := by
  have c4 : w.cell? ⟨qb, 4, none⟩ = some (.int .i64 s.n0) := h.cell 4
  have c7 : w.cell? ⟨qb, 7, none⟩ = some (.int .i64 s.n1) := h.cell 7
  cases hi
  · go_enter Try.func33, Try.ntmps33
    go_wp2_with fail
    refine (lane_any qb cb n s false w).mono ?_
    rintro e w' ⟨rfl, rfl⟩
    go_wp2
    go_ret
    exact ⟨rfl, rfl⟩
  · go_enter Try.func33, Try.ntmps33
    go_wp2_with fail
    refine (lane_any qb cb n s true w).mono ?_
    rintro e w' ⟨rfl, rfl⟩
    go_wp2
    go_ret
    exact ⟨rfl, rfl⟩
set_option maxRecDepth 100000 in
theorem fault_any (qb cb n : Nat) (s : QS) (w : World) (h : QAt w qb cb n s) :
    Calls Try.prog 31 #[.pointer (some ⟨qb, 0, none⟩)] w fun e w' => e = .returned (.bool s.fault) ∧ Keep (· = qb) w w' ∧ QAt w' qb cb n { s with fault := false } := by
  have c8 : w.cell? ⟨qb, 8, none⟩ = some (.bool s.fault) := h.cell 8
  have f8 : w.frozen? ⟨qb, 8, none⟩ = false := h.obj.free 8
  go_enter Try.func31, Try.ntmps31
  go_wp2
  go_ret
  exact ⟨rfl, (Keep.refl _ w).here 8 _, h.setq (j := 8) rfl rfl rfl⟩

set_option maxRecDepth 100000 in
theorem peek_none0 (qb cb n : Nat) (s : QS) (w : World) (h : QAt w qb cb n s) (h0 : s.n0 = 0) :
    Calls Try.prog 29 #[.pointer (some ⟨qb, 0, none⟩), .bool false] w fun e w' => e = .returned (.tuple #[Value.string (⟨#[]⟩ : ByteArray), .bool false]) ∧ w' = w := by
  go_enter Try.func29, Try.ntmps29
  go_wp2_with fail
  refine (len_any qb cb n s false w h).mono ?_
  rintro e w' ⟨rfl, rfl⟩
  have e0 : s.cnt false = 0 := h0
  go_wp2
  go_ret2
  exact ⟨rfl, rfl⟩
set_option maxRecDepth 100000 in
theorem peek_some0 (qb cb n i : Nat) (s : QS) (w : World) (h : QAt w qb cb n s) (hn : n ≤ 64) (h0 : s.n0 ≠ 0) (hi : i < n) (hf : s.a0 = i) :
    Calls Try.prog 29 #[.pointer (some ⟨qb, 0, none⟩), .bool false] w fun e w' => e = .returned (.tuple #[Value.string (s.X i), .bool true]) ∧ ∃ k, w' = w.drewN k := by
  have c0 : w.cell? ⟨qb, 0, none⟩ = some (.slice (some ⟨cb, 0, none⟩) n n) := h.cell 0
  have c1 : w.cell? ⟨qb, 2, none⟩ = some (.int .i64 i) := by rw [← hf]; exact h.cell 2
  have hx := h.x i hi
  go_enter Try.func29, Try.ntmps29
  go_wp2_with fail
  refine (len_any qb cb n s false w h).mono ?_
  rintro e w' ⟨rfl, rfl⟩
  have e0 : (s.cnt false == 0) = false := by simpa using (show ¬ s.cnt false = 0 from h0)
  go_wp2_with fail
  go_quiet ((go_at_call 46; exact Calls.quiet_of_same (lane_any qb cb n s false _)))
  go_wp2
  go_ret2
  exact ⟨rfl, _, rfl⟩
set_option maxRecDepth 100000 in
theorem take_none0 (qb cb n : Nat) (s : QS) (w : World) (h : QAt w qb cb n s) (h0 : s.n0 = 0) :
    Calls Try.prog 28 #[.pointer (some ⟨qb, 0, none⟩), .bool false] w fun e w' => e = .returned (.tuple #[Value.string (⟨#[]⟩ : ByteArray), .bool false]) ∧ w' = w := by
  go_enter Try.func28, Try.ntmps28
  go_wp2_with fail
  refine (peek_none0 qb cb n s w h h0).mono ?_
  rintro e w' ⟨rfl, rfl⟩
  go_wp2
  go_ret2
  exact ⟨rfl, rfl⟩
def QS.take0 (s : QS) (i : Nat) : QS := { s with X := upd s.X i (⟨#[]⟩ : ByteArray), N := upd s.N i s.free, free := i, a0 := s.N i, n0 := s.n0 - 1 }
set_option maxRecDepth 100000 in
theorem take_some0 (qb cb n i : Nat) (s : QS) (w : World) (h : QAt w qb cb n s) (hn : n ≤ 64) (h0 : 0 < s.n0) (h1 : s.n0 ≤ 64) (hi : i < n) (hf : s.a0 = i) :
    Calls Try.prog 28 #[.pointer (some ⟨qb, 0, none⟩), .bool false] w fun e w' => e = .returned (.tuple #[Value.string (s.X i), .bool true]) ∧ Keep (fun k => k = qb ∨ k = cb) w w' ∧ QAt w' qb cb n (s.take0 i) := by
  have H := Lib.hid h
  have hne := h.ne
  have hne2 := h.ne.symm
  clear h
  go_enter Try.func28, Try.ntmps28
  go_wp2_with fail
  refine (peek_some0 qb cb n i s w H.out hn (by omega) hi hf).mono ?_
  rintro e w1 ⟨rfl, k1, rfl⟩
  go_wp2_with fail
  refine (lane_any qb cb n s false _).mono ?_
  rintro e w1 ⟨rfl, rfl⟩
  have h2 := H.out.drewN k1
  have HK := Lib.hid ((Keep.refl (fun k => k = qb ∨ k = cb) w).drewN k1)
  generalize w.drewN k1 = w1 at *
  have c0 : w1.cell? ⟨qb, 0, none⟩ = some (.slice (some ⟨cb, 0, none⟩) n n) := h2.cell 0
  have c1 : w1.cell? ⟨qb, 1, none⟩ = some (.int .i64 s.free) := h2.cell 1
  have c2 : w1.cell? ⟨qb, 2, none⟩ = some (.int .i64 i) := by rw [← hf]; exact h2.cell 2
  have c4 : w1.cell? ⟨qb, 4, none⟩ = some (.int .i64 s.n0) := h2.cell 4
  have fq : ∀ j, w1.frozen? ⟨qb, j, none⟩ = false := fun j => h2.obj.free j
  have hx := h2.x i hi
  have hnx := h2.nx i hi
  have g0 := h2.free0 i hi
  have g1 := h2.free1 i hi
  have H2 := Lib.hid h2
  clear h2
  go_wp2_with fail
  -- region 8 draws
  have w2eq := (H2.out.setq (j := 2) (v := .int .i64 (s.N i)) (s' := { s with a0 := s.N i }) rfl rfl rfl).setq (j := 4) (v := .int .i64 (s.n0 - 1)) (s' := { s with a0 := s.N i, n0 := s.n0 - 1 }) rfl rfl rfl
  have HK2 := Lib.hid ((HK.out.setCell (p := ⟨qb, 2, none⟩) (.inr (.inl rfl)) (.int .i64 (s.N i))).setCell (p := ⟨qb, 4, none⟩) (.inr (.inl rfl)) (.int .i64 (s.n0 - 1)))
  have W2 := Lib.hid w2eq
  clear w2eq c0 c1 c2 c4 fq hx hnx g0 g1 H2 HK
  generalize (w1.setCell ⟨qb, 2, none⟩ (.int .i64 (s.N i))).setCell ⟨qb, 4, none⟩ (.int .i64 (s.n0 - 1)) = w2 at *
  have c0 : w2.cell? ⟨qb, 0, none⟩ = some (.slice (some ⟨cb, 0, none⟩) n n) := W2.out.cell 0
  have c1 : w2.cell? ⟨qb, 1, none⟩ = some (.int .i64 s.free) := W2.out.cell 1
  have fq : ∀ j, w2.frozen? ⟨qb, j, none⟩ = false := fun j => W2.out.obj.free j
  have hx : w2.cell? ⟨cb, i * 2, none⟩ = some (Value.string (s.X i)) := W2.out.x i hi
  have hnx : w2.cell? ⟨cb, i * 2 + 1, none⟩ = some (.int .i64 (s.N i)) := W2.out.nx i hi
  have g0 := W2.out.free0 i hi
  have g1 := W2.out.free1 i hi
  go_still_tail 11, (by kernel_rfl)
  change wpList _ _ _ _ _ w2.drew
  have W3 := Lib.hid W2.out.drew
  have HK3 := Lib.hid HK2.out.drew
  clear c0 c1 fq hx hnx g0 g1 W2 HK2
  generalize w2.drew = w3 at *
  have fq : ∀ j, w3.frozen? ⟨qb, j, none⟩ = false := fun j => W3.out.obj.free j
  have hx : w3.cell? ⟨cb, i * 2, none⟩ = some (Value.string (s.X i)) := W3.out.x i hi
  have hnx : w3.cell? ⟨cb, i * 2 + 1, none⟩ = some (.int .i64 (s.N i)) := W3.out.nx i hi
  have g0 := W3.out.free0 i hi
  have g1 := W3.out.free1 i hi
  have c1 : w3.cell? ⟨qb, 1, none⟩ = some (.int .i64 s.free) := W3.out.cell 1
  go_wp2
  go_ret2
  exact ⟨rfl, ((HK3.out.setCell (p := ⟨cb, i * 2, none⟩) (.inr (.inr rfl)) _).setCell (p := ⟨cb, i * 2 + 1, none⟩) (.inr (.inr rfl)) _).setCell (p := ⟨qb, 1, none⟩) (.inr (.inl rfl)) _, ((W3.out.setx hi _).setn hi _).setq (j := 1) rfl rfl rfl⟩
set_option maxRecDepth 100000 in
theorem put_full0 (qb cb n : Nat) (s : QS) (x : ByteArray) (w : World) (h : QAt w qb cb n s) (hf : s.free = -1) :
    Calls Try.prog 26 #[.pointer (some ⟨qb, 0, none⟩), Value.string x, .bool false] w fun e w' => e = .returned (.int .i64 8) ∧ Keep (fun k => k = qb ∨ k = cb) w w' ∧ QAt w' qb cb n { s with fault := true } := by
  have c1 : w.cell? ⟨qb, 1, none⟩ = some (.int .i64 (-1)) := by rw [← hf]; exact h.cell 1
  have c8 : w.cell? ⟨qb, 8, none⟩ = some (.bool s.fault) := h.cell 8
  have f8 : w.frozen? ⟨qb, 8, none⟩ = false := h.obj.free 8
  go_enter Try.func26, Try.ntmps26
  go_wp2
  go_ret
  exact ⟨rfl, (Keep.refl _ w).setCell (p := ⟨qb, 8, none⟩) (.inr (.inl rfl)) _, h.setq (j := 8) rfl rfl rfl⟩
def QS.first0 (s : QS) (i : Nat) (x : ByteArray) : QS := { s with X := upd s.X i x, N := upd s.N i (-1), free := s.N i, a0 := i, b0 := i, n0 := s.n0 + 1 }
def QS.more0 (s : QS) (i l : Nat) (x : ByteArray) : QS := { s with X := upd s.X i x, N := upd (upd s.N i (-1)) l i, free := s.N i, b0 := i, n0 := s.n0 + 1 }
set_option maxRecDepth 100000 in
theorem put_first0 (qb cb n i : Nat) (s : QS) (x : ByteArray) (w : World) (h : QAt w qb cb n s) (hn : n ≤ 64) (hi : i < n) (hf : s.free = i) (h0 : s.n0 = 0) :
    Calls Try.prog 26 #[.pointer (some ⟨qb, 0, none⟩), Value.string x, .bool false] w fun e w' => e = .returned (.int .i64 0) ∧ Keep (fun k => k = qb ∨ k = cb) w w' ∧ QAt w' qb cb n (s.first0 i x) := by
  have c0 : w.cell? ⟨qb, 0, none⟩ = some (.slice (some ⟨cb, 0, none⟩) n n) := h.cell 0
  have c1 : w.cell? ⟨qb, 1, none⟩ = some (.int .i64 i) := by rw [← hf]; exact h.cell 1
  have fq : ∀ j, w.frozen? ⟨qb, j, none⟩ = false := fun j => h.obj.free j
  have hx := h.x i hi
  have hnx := h.nx i hi
  have g0 := h.free0 i hi
  have g1 := h.free1 i hi
  have H := Lib.hid h
  have hne := h.ne
  have hne2 := h.ne.symm
  have e1 : ((i : Int) == -1) = false := by simp
  clear h
  go_enter Try.func26, Try.ntmps26
  go_wp2_with fail
  refine (lane_any qb cb n s false _).mono ?_
  rintro e w1 ⟨rfl, rfl⟩
  have W2 := Lib.hid (((H.out.setq (j := 1) (v := .int .i64 (s.N i)) (s' := { s with free := s.N i }) rfl rfl rfl).setx hi x).setn hi (-1))
  have HK2 := Lib.hid ((((Keep.refl (fun k => k = qb ∨ k = cb) w).setCell (p := ⟨qb, 1, none⟩) (.inr (.inl rfl)) (.int .i64 (s.N i))).setCell (p := ⟨cb, i * 2, none⟩) (.inr (.inr rfl)) (Value.string x)).setCell (p := ⟨cb, i * 2 + 1, none⟩) (.inr (.inr rfl)) (.int .i64 (-1)))
  clear c0 c1 fq hx hnx g0 g1 H
  generalize ((w.setCell ⟨qb, 1, none⟩ (.int .i64 (s.N i))).setCell ⟨cb, i * 2, none⟩ (Value.string x)).setCell ⟨cb, i * 2 + 1, none⟩ (.int .i64 (-1)) = w2 at *
  have cl : w2.cell? ⟨qb, 2, none⟩ = some (.int .i64 s.a0) := W2.out.cell 2
  have cm : w2.cell? ⟨qb, 3, none⟩ = some (.int .i64 s.b0) := W2.out.cell 3
  have cn : w2.cell? ⟨qb, 4, none⟩ = some (.int .i64 0) := by rw [← h0]; exact W2.out.cell 4
  have fq : ∀ j, w2.frozen? ⟨qb, j, none⟩ = false := fun j => W2.out.obj.free j
  go_wp2
  go_ret
  refine ⟨rfl, ((HK2.out.setCell (p := ⟨qb, 2, none⟩) (.inr (.inl rfl)) _).setCell (p := ⟨qb, 3, none⟩) (.inr (.inl rfl)) _).setCell (p := ⟨qb, 4, none⟩) (.inr (.inl rfl)) _, ?_⟩
  have e2 : s.n0 + 1 = 1 := by omega
  have hs : s.first0 i x = { s with X := upd s.X i x, N := upd s.N i (-1), free := s.N i, a0 := i, b0 := i, n0 := 1 } := by unfold QS.first0; rw [e2]
  rw [hs]
  exact ((W2.out.setq (j := 2) (s' := { s with X := upd s.X i x, N := upd s.N i (-1), free := s.N i, a0 := i }) rfl rfl rfl).setq (j := 3) (s' := { s with X := upd s.X i x, N := upd s.N i (-1), free := s.N i, a0 := i, b0 := i }) rfl rfl rfl).setq (j := 4) rfl rfl rfl
set_option maxRecDepth 100000 in
theorem put_more0 (qb cb n i l : Nat) (s : QS) (x : ByteArray) (w : World) (h : QAt w qb cb n s) (hn : n ≤ 64) (hi : i < n) (hf : s.free = i) (h0 : 0 < s.n0) (h1 : s.n0 ≤ 64) (hl : l < n) (hli : l ≠ i) (hb : s.b0 = l) :
    Calls Try.prog 26 #[.pointer (some ⟨qb, 0, none⟩), Value.string x, .bool false] w fun e w' => e = .returned (.int .i64 0) ∧ Keep (fun k => k = qb ∨ k = cb) w w' ∧ QAt w' qb cb n (s.more0 i l x) := by
  have c0 : w.cell? ⟨qb, 0, none⟩ = some (.slice (some ⟨cb, 0, none⟩) n n) := h.cell 0
  have c1 : w.cell? ⟨qb, 1, none⟩ = some (.int .i64 i) := by rw [← hf]; exact h.cell 1
  have fq : ∀ j, w.frozen? ⟨qb, j, none⟩ = false := fun j => h.obj.free j
  have hx := h.x i hi
  have hnx := h.nx i hi
  have g0 := h.free0 i hi
  have g1 := h.free1 i hi
  have H := Lib.hid h
  have hne := h.ne
  have hne2 := h.ne.symm
  have e1 : ((i : Int) == -1) = false := by simp
  clear h
  go_enter Try.func26, Try.ntmps26
  go_wp2_with fail
  refine (lane_any qb cb n s false _).mono ?_
  rintro e w1 ⟨rfl, rfl⟩
  have W2 := Lib.hid (((H.out.setq (j := 1) (v := .int .i64 (s.N i)) (s' := { s with free := s.N i }) rfl rfl rfl).setx hi x).setn hi (-1))
  have HK2 := Lib.hid ((((Keep.refl (fun k => k = qb ∨ k = cb) w).setCell (p := ⟨qb, 1, none⟩) (.inr (.inl rfl)) (.int .i64 (s.N i))).setCell (p := ⟨cb, i * 2, none⟩) (.inr (.inr rfl)) (Value.string x)).setCell (p := ⟨cb, i * 2 + 1, none⟩) (.inr (.inr rfl)) (.int .i64 (-1)))
  clear c0 c1 fq hx hnx g0 g1 H
  generalize ((w.setCell ⟨qb, 1, none⟩ (.int .i64 (s.N i))).setCell ⟨cb, i * 2, none⟩ (Value.string x)).setCell ⟨cb, i * 2 + 1, none⟩ (.int .i64 (-1)) = w2 at *
  have c0 : w2.cell? ⟨qb, 0, none⟩ = some (.slice (some ⟨cb, 0, none⟩) n n) := W2.out.cell 0
  have cm : w2.cell? ⟨qb, 3, none⟩ = some (.int .i64 l) := by rw [← hb]; exact W2.out.cell 3
  have cn : w2.cell? ⟨qb, 4, none⟩ = some (.int .i64 s.n0) := W2.out.cell 4
  have e3 : (s.n0 == 0) = false := by simp; omega
  have hxl := W2.out.x l hl
  have hnl := W2.out.nx l hl
  have gl1 := W2.out.free1 l hl
  go_wp2_with fail
  go_still_tail 11, (by kernel_rfl)
  change wpList _ _ _ _ _ w2.drew
  have W3 := Lib.hid W2.out.drew
  have HK3 := Lib.hid HK2.out.drew
  clear c0 cm cn hxl hnl gl1 W2 HK2
  generalize w2.drew = w3 at *
  have cm : w3.cell? ⟨qb, 3, none⟩ = some (.int .i64 l) := by rw [← hb]; exact W3.out.cell 3
  have cn : w3.cell? ⟨qb, 4, none⟩ = some (.int .i64 s.n0) := W3.out.cell 4
  have fq : ∀ j, w3.frozen? ⟨qb, j, none⟩ = false := fun j => W3.out.obj.free j
  have hnl := W3.out.nx l hl
  have gl1 := W3.out.free1 l hl
  go_wp2
  go_ret
  exact ⟨rfl, ((HK3.out.setCell (p := ⟨cb, l * 2 + 1, none⟩) (.inr (.inr rfl)) _).setCell (p := ⟨qb, 3, none⟩) (.inr (.inl rfl)) _).setCell (p := ⟨qb, 4, none⟩) (.inr (.inl rfl)) _,
    ((W3.out.setn hl _).setq (j := 3) (s' := { s with X := upd s.X i x, N := upd (upd s.N i (-1)) l i, free := s.N i, b0 := i }) rfl rfl rfl).setq (j := 4) rfl rfl rfl⟩

set_option maxRecDepth 100000 in
theorem peek_none1 (qb cb n : Nat) (s : QS) (w : World) (h : QAt w qb cb n s) (h0 : s.n1 = 0) :
    Calls Try.prog 29 #[.pointer (some ⟨qb, 0, none⟩), .bool true] w fun e w' => e = .returned (.tuple #[Value.string (⟨#[]⟩ : ByteArray), .bool false]) ∧ w' = w := by
  go_enter Try.func29, Try.ntmps29
  go_wp2_with fail
  refine (len_any qb cb n s true w h).mono ?_
  rintro e w' ⟨rfl, rfl⟩
  have e0 : s.cnt true = 0 := h0
  go_wp2
  go_ret2
  exact ⟨rfl, rfl⟩
set_option maxRecDepth 100000 in
theorem peek_some1 (qb cb n i : Nat) (s : QS) (w : World) (h : QAt w qb cb n s) (hn : n ≤ 64) (h0 : s.n1 ≠ 0) (hi : i < n) (hf : s.a1 = i) :
    Calls Try.prog 29 #[.pointer (some ⟨qb, 0, none⟩), .bool true] w fun e w' => e = .returned (.tuple #[Value.string (s.X i), .bool true]) ∧ ∃ k, w' = w.drewN k := by
  have c0 : w.cell? ⟨qb, 0, none⟩ = some (.slice (some ⟨cb, 0, none⟩) n n) := h.cell 0
  have c1 : w.cell? ⟨qb, 5, none⟩ = some (.int .i64 i) := by rw [← hf]; exact h.cell 5
  have hx := h.x i hi
  go_enter Try.func29, Try.ntmps29
  go_wp2_with fail
  refine (len_any qb cb n s true w h).mono ?_
  rintro e w' ⟨rfl, rfl⟩
  have e0 : (s.cnt true == 0) = false := by simpa using (show ¬ s.cnt true = 0 from h0)
  go_wp2_with fail
  go_quiet ((go_at_call 46; exact Calls.quiet_of_same (lane_any qb cb n s true _)))
  go_wp2
  go_ret2
  exact ⟨rfl, _, rfl⟩
set_option maxRecDepth 100000 in
theorem take_none1 (qb cb n : Nat) (s : QS) (w : World) (h : QAt w qb cb n s) (h0 : s.n1 = 0) :
    Calls Try.prog 28 #[.pointer (some ⟨qb, 0, none⟩), .bool true] w fun e w' => e = .returned (.tuple #[Value.string (⟨#[]⟩ : ByteArray), .bool false]) ∧ w' = w := by
  go_enter Try.func28, Try.ntmps28
  go_wp2_with fail
  refine (peek_none1 qb cb n s w h h0).mono ?_
  rintro e w' ⟨rfl, rfl⟩
  go_wp2
  go_ret2
  exact ⟨rfl, rfl⟩
def QS.take1 (s : QS) (i : Nat) : QS := { s with X := upd s.X i (⟨#[]⟩ : ByteArray), N := upd s.N i s.free, free := i, a1 := s.N i, n1 := s.n1 - 1 }
set_option maxRecDepth 100000 in
theorem take_some1 (qb cb n i : Nat) (s : QS) (w : World) (h : QAt w qb cb n s) (hn : n ≤ 64) (h0 : 0 < s.n1) (h1 : s.n1 ≤ 64) (hi : i < n) (hf : s.a1 = i) :
    Calls Try.prog 28 #[.pointer (some ⟨qb, 0, none⟩), .bool true] w fun e w' => e = .returned (.tuple #[Value.string (s.X i), .bool true]) ∧ Keep (fun k => k = qb ∨ k = cb) w w' ∧ QAt w' qb cb n (s.take1 i) := by
  have H := Lib.hid h
  have hne := h.ne
  have hne2 := h.ne.symm
  clear h
  go_enter Try.func28, Try.ntmps28
  go_wp2_with fail
  refine (peek_some1 qb cb n i s w H.out hn (by omega) hi hf).mono ?_
  rintro e w1 ⟨rfl, k1, rfl⟩
  go_wp2_with fail
  refine (lane_any qb cb n s true _).mono ?_
  rintro e w1 ⟨rfl, rfl⟩
  have h2 := H.out.drewN k1
  have HK := Lib.hid ((Keep.refl (fun k => k = qb ∨ k = cb) w).drewN k1)
  generalize w.drewN k1 = w1 at *
  have c0 : w1.cell? ⟨qb, 0, none⟩ = some (.slice (some ⟨cb, 0, none⟩) n n) := h2.cell 0
  have c1 : w1.cell? ⟨qb, 1, none⟩ = some (.int .i64 s.free) := h2.cell 1
  have c2 : w1.cell? ⟨qb, 5, none⟩ = some (.int .i64 i) := by rw [← hf]; exact h2.cell 5
  have c4 : w1.cell? ⟨qb, 7, none⟩ = some (.int .i64 s.n1) := h2.cell 7
  have fq : ∀ j, w1.frozen? ⟨qb, j, none⟩ = false := fun j => h2.obj.free j
  have hx := h2.x i hi
  have hnx := h2.nx i hi
  have g0 := h2.free0 i hi
  have g1 := h2.free1 i hi
  have H2 := Lib.hid h2
  clear h2
  go_wp2_with fail
  -- region 8 draws
  have w2eq := (H2.out.setq (j := 5) (v := .int .i64 (s.N i)) (s' := { s with a1 := s.N i }) rfl rfl rfl).setq (j := 7) (v := .int .i64 (s.n1 - 1)) (s' := { s with a1 := s.N i, n1 := s.n1 - 1 }) rfl rfl rfl
  have HK2 := Lib.hid ((HK.out.setCell (p := ⟨qb, 5, none⟩) (.inr (.inl rfl)) (.int .i64 (s.N i))).setCell (p := ⟨qb, 7, none⟩) (.inr (.inl rfl)) (.int .i64 (s.n1 - 1)))
  have W2 := Lib.hid w2eq
  clear w2eq c0 c1 c2 c4 fq hx hnx g0 g1 H2 HK
  generalize (w1.setCell ⟨qb, 5, none⟩ (.int .i64 (s.N i))).setCell ⟨qb, 7, none⟩ (.int .i64 (s.n1 - 1)) = w2 at *
  have c0 : w2.cell? ⟨qb, 0, none⟩ = some (.slice (some ⟨cb, 0, none⟩) n n) := W2.out.cell 0
  have c1 : w2.cell? ⟨qb, 1, none⟩ = some (.int .i64 s.free) := W2.out.cell 1
  have fq : ∀ j, w2.frozen? ⟨qb, j, none⟩ = false := fun j => W2.out.obj.free j
  have hx : w2.cell? ⟨cb, i * 2, none⟩ = some (Value.string (s.X i)) := W2.out.x i hi
  have hnx : w2.cell? ⟨cb, i * 2 + 1, none⟩ = some (.int .i64 (s.N i)) := W2.out.nx i hi
  have g0 := W2.out.free0 i hi
  have g1 := W2.out.free1 i hi
  go_still_tail 11, (by kernel_rfl)
  change wpList _ _ _ _ _ w2.drew
  have W3 := Lib.hid W2.out.drew
  have HK3 := Lib.hid HK2.out.drew
  clear c0 c1 fq hx hnx g0 g1 W2 HK2
  generalize w2.drew = w3 at *
  have fq : ∀ j, w3.frozen? ⟨qb, j, none⟩ = false := fun j => W3.out.obj.free j
  have hx : w3.cell? ⟨cb, i * 2, none⟩ = some (Value.string (s.X i)) := W3.out.x i hi
  have hnx : w3.cell? ⟨cb, i * 2 + 1, none⟩ = some (.int .i64 (s.N i)) := W3.out.nx i hi
  have g0 := W3.out.free0 i hi
  have g1 := W3.out.free1 i hi
  have c1 : w3.cell? ⟨qb, 1, none⟩ = some (.int .i64 s.free) := W3.out.cell 1
  go_wp2
  go_ret2
  exact ⟨rfl, ((HK3.out.setCell (p := ⟨cb, i * 2, none⟩) (.inr (.inr rfl)) _).setCell (p := ⟨cb, i * 2 + 1, none⟩) (.inr (.inr rfl)) _).setCell (p := ⟨qb, 1, none⟩) (.inr (.inl rfl)) _, ((W3.out.setx hi _).setn hi _).setq (j := 1) rfl rfl rfl⟩
set_option maxRecDepth 100000 in
theorem put_full1 (qb cb n : Nat) (s : QS) (x : ByteArray) (w : World) (h : QAt w qb cb n s) (hf : s.free = -1) :
    Calls Try.prog 26 #[.pointer (some ⟨qb, 0, none⟩), Value.string x, .bool true] w fun e w' => e = .returned (.int .i64 8) ∧ Keep (fun k => k = qb ∨ k = cb) w w' ∧ QAt w' qb cb n { s with fault := true } := by
  have c1 : w.cell? ⟨qb, 1, none⟩ = some (.int .i64 (-1)) := by rw [← hf]; exact h.cell 1
  have c8 : w.cell? ⟨qb, 8, none⟩ = some (.bool s.fault) := h.cell 8
  have f8 : w.frozen? ⟨qb, 8, none⟩ = false := h.obj.free 8
  go_enter Try.func26, Try.ntmps26
  go_wp2
  go_ret
  exact ⟨rfl, (Keep.refl _ w).setCell (p := ⟨qb, 8, none⟩) (.inr (.inl rfl)) _, h.setq (j := 8) rfl rfl rfl⟩
def QS.first1 (s : QS) (i : Nat) (x : ByteArray) : QS := { s with X := upd s.X i x, N := upd s.N i (-1), free := s.N i, a1 := i, b1 := i, n1 := s.n1 + 1 }
def QS.more1 (s : QS) (i l : Nat) (x : ByteArray) : QS := { s with X := upd s.X i x, N := upd (upd s.N i (-1)) l i, free := s.N i, b1 := i, n1 := s.n1 + 1 }
set_option maxRecDepth 100000 in
theorem put_first1 (qb cb n i : Nat) (s : QS) (x : ByteArray) (w : World) (h : QAt w qb cb n s) (hn : n ≤ 64) (hi : i < n) (hf : s.free = i) (h0 : s.n1 = 0) :
    Calls Try.prog 26 #[.pointer (some ⟨qb, 0, none⟩), Value.string x, .bool true] w fun e w' => e = .returned (.int .i64 0) ∧ Keep (fun k => k = qb ∨ k = cb) w w' ∧ QAt w' qb cb n (s.first1 i x) := by
  have c0 : w.cell? ⟨qb, 0, none⟩ = some (.slice (some ⟨cb, 0, none⟩) n n) := h.cell 0
  have c1 : w.cell? ⟨qb, 1, none⟩ = some (.int .i64 i) := by rw [← hf]; exact h.cell 1
  have fq : ∀ j, w.frozen? ⟨qb, j, none⟩ = false := fun j => h.obj.free j
  have hx := h.x i hi
  have hnx := h.nx i hi
  have g0 := h.free0 i hi
  have g1 := h.free1 i hi
  have H := Lib.hid h
  have hne := h.ne
  have hne2 := h.ne.symm
  have e1 : ((i : Int) == -1) = false := by simp
  clear h
  go_enter Try.func26, Try.ntmps26
  go_wp2_with fail
  refine (lane_any qb cb n s true _).mono ?_
  rintro e w1 ⟨rfl, rfl⟩
  have W2 := Lib.hid (((H.out.setq (j := 1) (v := .int .i64 (s.N i)) (s' := { s with free := s.N i }) rfl rfl rfl).setx hi x).setn hi (-1))
  have HK2 := Lib.hid ((((Keep.refl (fun k => k = qb ∨ k = cb) w).setCell (p := ⟨qb, 1, none⟩) (.inr (.inl rfl)) (.int .i64 (s.N i))).setCell (p := ⟨cb, i * 2, none⟩) (.inr (.inr rfl)) (Value.string x)).setCell (p := ⟨cb, i * 2 + 1, none⟩) (.inr (.inr rfl)) (.int .i64 (-1)))
  clear c0 c1 fq hx hnx g0 g1 H
  generalize ((w.setCell ⟨qb, 1, none⟩ (.int .i64 (s.N i))).setCell ⟨cb, i * 2, none⟩ (Value.string x)).setCell ⟨cb, i * 2 + 1, none⟩ (.int .i64 (-1)) = w2 at *
  have cl : w2.cell? ⟨qb, 5, none⟩ = some (.int .i64 s.a1) := W2.out.cell 5
  have cm : w2.cell? ⟨qb, 6, none⟩ = some (.int .i64 s.b1) := W2.out.cell 6
  have cn : w2.cell? ⟨qb, 7, none⟩ = some (.int .i64 0) := by rw [← h0]; exact W2.out.cell 7
  have fq : ∀ j, w2.frozen? ⟨qb, j, none⟩ = false := fun j => W2.out.obj.free j
  go_wp2
  go_ret
  refine ⟨rfl, ((HK2.out.setCell (p := ⟨qb, 5, none⟩) (.inr (.inl rfl)) _).setCell (p := ⟨qb, 6, none⟩) (.inr (.inl rfl)) _).setCell (p := ⟨qb, 7, none⟩) (.inr (.inl rfl)) _, ?_⟩
  have e2 : s.n1 + 1 = 1 := by omega
  have hs : s.first1 i x = { s with X := upd s.X i x, N := upd s.N i (-1), free := s.N i, a1 := i, b1 := i, n1 := 1 } := by unfold QS.first1; rw [e2]
  rw [hs]
  exact ((W2.out.setq (j := 5) (s' := { s with X := upd s.X i x, N := upd s.N i (-1), free := s.N i, a1 := i }) rfl rfl rfl).setq (j := 6) (s' := { s with X := upd s.X i x, N := upd s.N i (-1), free := s.N i, a1 := i, b1 := i }) rfl rfl rfl).setq (j := 7) rfl rfl rfl
set_option maxRecDepth 100000 in
theorem put_more1 (qb cb n i l : Nat) (s : QS) (x : ByteArray) (w : World) (h : QAt w qb cb n s) (hn : n ≤ 64) (hi : i < n) (hf : s.free = i) (h0 : 0 < s.n1) (h1 : s.n1 ≤ 64) (hl : l < n) (hli : l ≠ i) (hb : s.b1 = l) :
    Calls Try.prog 26 #[.pointer (some ⟨qb, 0, none⟩), Value.string x, .bool true] w fun e w' => e = .returned (.int .i64 0) ∧ Keep (fun k => k = qb ∨ k = cb) w w' ∧ QAt w' qb cb n (s.more1 i l x) := by
  have c0 : w.cell? ⟨qb, 0, none⟩ = some (.slice (some ⟨cb, 0, none⟩) n n) := h.cell 0
  have c1 : w.cell? ⟨qb, 1, none⟩ = some (.int .i64 i) := by rw [← hf]; exact h.cell 1
  have fq : ∀ j, w.frozen? ⟨qb, j, none⟩ = false := fun j => h.obj.free j
  have hx := h.x i hi
  have hnx := h.nx i hi
  have g0 := h.free0 i hi
  have g1 := h.free1 i hi
  have H := Lib.hid h
  have hne := h.ne
  have hne2 := h.ne.symm
  have e1 : ((i : Int) == -1) = false := by simp
  clear h
  go_enter Try.func26, Try.ntmps26
  go_wp2_with fail
  refine (lane_any qb cb n s true _).mono ?_
  rintro e w1 ⟨rfl, rfl⟩
  have W2 := Lib.hid (((H.out.setq (j := 1) (v := .int .i64 (s.N i)) (s' := { s with free := s.N i }) rfl rfl rfl).setx hi x).setn hi (-1))
  have HK2 := Lib.hid ((((Keep.refl (fun k => k = qb ∨ k = cb) w).setCell (p := ⟨qb, 1, none⟩) (.inr (.inl rfl)) (.int .i64 (s.N i))).setCell (p := ⟨cb, i * 2, none⟩) (.inr (.inr rfl)) (Value.string x)).setCell (p := ⟨cb, i * 2 + 1, none⟩) (.inr (.inr rfl)) (.int .i64 (-1)))
  clear c0 c1 fq hx hnx g0 g1 H
  generalize ((w.setCell ⟨qb, 1, none⟩ (.int .i64 (s.N i))).setCell ⟨cb, i * 2, none⟩ (Value.string x)).setCell ⟨cb, i * 2 + 1, none⟩ (.int .i64 (-1)) = w2 at *
  have c0 : w2.cell? ⟨qb, 0, none⟩ = some (.slice (some ⟨cb, 0, none⟩) n n) := W2.out.cell 0
  have cm : w2.cell? ⟨qb, 6, none⟩ = some (.int .i64 l) := by rw [← hb]; exact W2.out.cell 6
  have cn : w2.cell? ⟨qb, 7, none⟩ = some (.int .i64 s.n1) := W2.out.cell 7
  have e3 : (s.n1 == 0) = false := by simp; omega
  have hxl := W2.out.x l hl
  have hnl := W2.out.nx l hl
  have gl1 := W2.out.free1 l hl
  go_wp2_with fail
  go_still_tail 11, (by kernel_rfl)
  change wpList _ _ _ _ _ w2.drew
  have W3 := Lib.hid W2.out.drew
  have HK3 := Lib.hid HK2.out.drew
  clear c0 cm cn hxl hnl gl1 W2 HK2
  generalize w2.drew = w3 at *
  have cm : w3.cell? ⟨qb, 6, none⟩ = some (.int .i64 l) := by rw [← hb]; exact W3.out.cell 6
  have cn : w3.cell? ⟨qb, 7, none⟩ = some (.int .i64 s.n1) := W3.out.cell 7
  have fq : ∀ j, w3.frozen? ⟨qb, j, none⟩ = false := fun j => W3.out.obj.free j
  have hnl := W3.out.nx l hl
  have gl1 := W3.out.free1 l hl
  go_wp2
  go_ret
  exact ⟨rfl, ((HK3.out.setCell (p := ⟨cb, l * 2 + 1, none⟩) (.inr (.inr rfl)) _).setCell (p := ⟨qb, 6, none⟩) (.inr (.inl rfl)) _).setCell (p := ⟨qb, 7, none⟩) (.inr (.inl rfl)) _,
    ((W3.out.setn hl _).setq (j := 6) (s' := { s with X := upd s.X i x, N := upd (upd s.N i (-1)) l i, free := s.N i, b1 := i }) rfl rfl rfl).setq (j := 7) rfl rfl rfl⟩
end Go.Proofs.Ytkeeledkdoiglaa.Qs
