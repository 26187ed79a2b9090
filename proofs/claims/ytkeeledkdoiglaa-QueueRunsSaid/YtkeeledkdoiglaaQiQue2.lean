/- The queue (of numbers): room, clearing, making. -/
import Derived.Test.YtkeeledkdoiglaaQiQue
import Derived.IntWalk
namespace Go.Proofs.Ytkeeledkdoiglaa.Qi
open Go.RowKit
set_option maxRecDepth 100000 in
theorem room_any (qb cb n : Nat) (s : QS) (w : World) (h : QAt w qb cb n s) (hn : n ≤ 64) (h0 : 0 ≤ s.n0 ∧ s.n0 ≤ 64) (h1 : 0 ≤ s.n1 ∧ s.n1 ≤ 64) :
    Calls Try.prog 39 #[.pointer (some ⟨qb, 0, none⟩)] w fun e w' => e = .returned (.int .i64 ((n : Int) - s.n1 - s.n0)) ∧ ∃ k, w' = w.drewN k := by
  have c0 : w.cell? ⟨qb, 0, none⟩ = some (.slice (some ⟨cb, 0, none⟩) n n) := h.cell 0
  have e1 : IntKind.i64.wrap ((n : Int) - s.cnt true) = (n : Int) - s.n1 := IntWalk.i64_in _ (by unfold QS.cnt; simp; omega)
  have e2 : IntKind.i64.wrap ((n : Int) - s.n1 - s.cnt false) = (n : Int) - s.n1 - s.n0 := IntWalk.i64_in _ (by unfold QS.cnt; simp; omega)
  go_enter Try.func39, Try.ntmps39
  go_wp2_with fail
  go_quiet ((go_at_call 42; refine Calls.quiet_of_same (len_any qb cb n s _ _ ?_); exact h.drewN _))
  go_wp2
  go_ret
  exact ⟨rfl, _, rfl⟩
def clrN (n k : Nat) : Int := if k + 1 < n then (k : Int) + 1 else -1
def QS.zero (n : Nat) : QS := ⟨fun _ => (0 : Int), clrN n, if 0 < n then 0 else -1, -1, -1, 0, -1, -1, 0, false⟩
theorem QAt.congr {w : World} {qb cb n : Nat} {s s' : QS} (h : QAt w qb cb n s) (h0 : qcells cb n s' = qcells cb n s) (hX : ∀ k, k < n → s'.X k = s.X k) (hN : ∀ k, k < n → s'.N k = s.N k) : QAt w qb cb n s' :=
  ⟨by rw [h0]; exact h.obj, h.ne, h.lt, fun i hi => by rw [hX i hi]; exact h.x i hi, fun i hi => by rw [hN i hi]; exact h.nx i hi, h.free0, h.free1⟩
structure ClrR (w : World) (qb cb n : Nat) (v : Value) (wr : World) (j : Nat) (s : QS) : Prop where
  le : j ≤ n
  ctr : v = .int .i64 ((j : Int) - 1)
  keep : Keep (fun k => k = qb ∨ k = cb) w wr
  at_ : QAt wr qb cb n s
  free : s.free = if j < n then (j : Int) else -1
  done : ∀ k, j ≤ k → k < n → s.X k = (0 : Int) ∧ s.N k = clrN n k
set_option maxRecDepth 100000 in
theorem clear_any (qb cb n : Nat) (s : QS) (w : World) (h : QAt w qb cb n s) (hn : n ≤ 64) :
    Calls Try.prog 48 #[.pointer (some ⟨qb, 0, none⟩)] w fun e w' => e = .returned (.tuple #[]) ∧ Keep (fun k => k = qb ∨ k = cb) w w' ∧ QAt w' qb cb n (QS.zero n) := by
  have c0 : w.cell? ⟨qb, 0, none⟩ = some (.slice (some ⟨cb, 0, none⟩) n n) := h.cell 0
  have c1 : w.cell? ⟨qb, 1, none⟩ = some (.int .i64 s.free) := h.cell 1
  have fq : ∀ j, w.frozen? ⟨qb, j, none⟩ = false := fun j => h.obj.free j
  have hne := h.ne
  have hne2 := h.ne.symm
  have H := Lib.hid h
  clear h
  go_enter Try.func48, Try.ntmps48
  go_wp2_with fail
  go_loopw [2] (fun i wr => ∃ (j : Nat) (s : QS), ClrR w qb cb n i wr j s) (fun i _ => (intOf i + 1).toNat)
  case atStart =>
    exact ⟨n, { s with free := -1 }, Nat.le_refl _, rfl, (Keep.refl _ w).setCell (p := ⟨qb, 1, none⟩) (.inr (.inl rfl)) _, H.out.setq (j := 1) rfl rfl rfl, by simp, fun k h1 h2 => by omega⟩
  case round =>
    obtain ⟨j, s1, R⟩ := hrel
    obtain rfl := R.ctr
    have hle := R.le
    have HR := Lib.hid R
    clear R
    by_cases hj : j = 0
    · subst hj
      have d2 : wr.cell? ⟨qb, 2, none⟩ = some (.int .i64 s1.a0) := HR.out.at_.cell 2
      have d3 : wr.cell? ⟨qb, 3, none⟩ = some (.int .i64 s1.b0) := HR.out.at_.cell 3
      have d4 : wr.cell? ⟨qb, 4, none⟩ = some (.int .i64 s1.n0) := HR.out.at_.cell 4
      have d5 : wr.cell? ⟨qb, 5, none⟩ = some (.int .i64 s1.a1) := HR.out.at_.cell 5
      have d6 : wr.cell? ⟨qb, 6, none⟩ = some (.int .i64 s1.b1) := HR.out.at_.cell 6
      have d7 : wr.cell? ⟨qb, 7, none⟩ = some (.int .i64 s1.n1) := HR.out.at_.cell 7
      have d8 : wr.cell? ⟨qb, 8, none⟩ = some (.bool s1.fault) := HR.out.at_.cell 8
      have fr : ∀ j, wr.frozen? ⟨qb, j, none⟩ = false := fun j => HR.out.at_.obj.free j
      go_wp2
      go_end0
      refine ⟨rfl, ((((((HR.out.keep.setCell (p := ⟨qb, 2, none⟩) (.inr (.inl rfl)) _).setCell (p := ⟨qb, 3, none⟩) (.inr (.inl rfl)) _).setCell (p := ⟨qb, 4, none⟩) (.inr (.inl rfl)) _).setCell (p := ⟨qb, 5, none⟩) (.inr (.inl rfl)) _).setCell (p := ⟨qb, 6, none⟩) (.inr (.inl rfl)) _).setCell (p := ⟨qb, 7, none⟩) (.inr (.inl rfl)) _).setCell (p := ⟨qb, 8, none⟩) (.inr (.inl rfl)) _, ?_⟩
      have A := HR.out.at_
      have B := ((((((A.setq (j := 2) (v := .int .i64 (-1)) (s' := { s1 with a0 := -1 }) rfl rfl rfl).setq (j := 3) (v := .int .i64 (-1)) (s' := { s1 with a0 := -1, b0 := -1 }) rfl rfl rfl).setq (j := 4) (v := .int .i64 0) (s' := { s1 with a0 := -1, b0 := -1, n0 := 0 }) rfl rfl rfl).setq (j := 5) (v := .int .i64 (-1)) (s' := { s1 with a0 := -1, b0 := -1, n0 := 0, a1 := -1 }) rfl rfl rfl).setq (j := 6) (v := .int .i64 (-1)) (s' := { s1 with a0 := -1, b0 := -1, n0 := 0, a1 := -1, b1 := -1 }) rfl rfl rfl).setq (j := 7) (v := .int .i64 0) (s' := { s1 with a0 := -1, b0 := -1, n0 := 0, a1 := -1, b1 := -1, n1 := 0 }) rfl rfl rfl).setq (j := 8) (v := .bool false) (s' := { s1 with a0 := -1, b0 := -1, n0 := 0, a1 := -1, b1 := -1, n1 := 0, fault := false }) rfl rfl rfl
      refine B.congr ?_ (fun k hk => ((HR.out.done k (by omega) hk).1).symm) (fun k hk => ((HR.out.done k (by omega) hk).2).symm)
      have := HR.out.free
      unfold qcells QS.zero
      simp [this]
    · obtain ⟨i, rfl⟩ : ∃ i, j = i + 1 := ⟨j - 1, by omega⟩
      have hi : i < n := by omega
      have e1 : (((i + 1 : Nat) : Int) - 1) = (i : Int) := by omega
      rw [e1]
      have c0 : wr.cell? ⟨qb, 0, none⟩ = some (.slice (some ⟨cb, 0, none⟩) n n) := HR.out.at_.cell 0
      have c1 : wr.cell? ⟨qb, 1, none⟩ = some (.int .i64 s1.free) := HR.out.at_.cell 1
      have hx := HR.out.at_.x i hi
      have hnx := HR.out.at_.nx i hi
      have g0 := HR.out.at_.free0 i hi
      have g1 := HR.out.at_.free1 i hi
      go_wp2_with fail
      go_still_tail 11, (by kernel_rfl)
      change wpList _ _ _ _ _ wr.drew
      have W3 := Lib.hid HR.out.at_.drew
      have HK3 := Lib.hid HR.out.keep.drew
      clear c0 c1 hx hnx g0 g1
      generalize wr.drew = w3 at *
      have c1 : w3.cell? ⟨qb, 1, none⟩ = some (.int .i64 s1.free) := W3.out.cell 1
      have fq : ∀ j, w3.frozen? ⟨qb, j, none⟩ = false := fun j => W3.out.obj.free j
      have hx := W3.out.x i hi
      have hnx := W3.out.nx i hi
      have g0 := W3.out.free0 i hi
      have g1 := W3.out.free1 i hi
      go_wp2
      go_roundw
      case rel =>
        refine ⟨i, { s1 with X := upd s1.X i (0 : Int), N := upd s1.N i s1.free, free := i }, by omega, by go_num, ((HK3.out.setCell (p := ⟨cb, i * 2, none⟩) (.inr (.inr rfl)) _).setCell (p := ⟨cb, i * 2 + 1, none⟩) (.inr (.inr rfl)) _).setCell (p := ⟨qb, 1, none⟩) (.inr (.inl rfl)) _,
          ((W3.out.setx hi _).setn hi _).setq (j := 1) rfl rfl rfl, by simp [hi], fun k h1 h2 => ?_⟩
        by_cases e : k = i
        · subst e
          simp only [upd, if_true]
          refine ⟨trivial, ?_⟩
          rw [HR.out.free]
          unfold clrN
          by_cases e2 : k + 1 < n
          · rw [if_pos e2, if_pos e2]; omega
          · rw [if_neg e2, if_neg e2]
        · simp only [upd, if_neg e]
          exact HR.out.done k (by omega) h2
      case measure => simp [intOf]
theorem make_cells (n : Nat) (h : n ≤ 64) (w : World) :
    (Instr.makeSlice 89 (.int .i64 (n : Int)) (.int .i64 (n : Int))).run Try.prog w = .ok (.slice (some ⟨w.heap.size, 0, none⟩) n n) (w.alloc (.cells (madeCells #[Value.int .i64 (0 : Int), .int .i64 0] (n * 2)) 93)) := by
  have hinfo : (Try.prog.info? 93).map (fun i => (i.zero, i.size, i.bytes)) = some (some (.agg #[Value.int .i64 (0 : Int), .int .i64 0]), 2, 16) := by kernel_rfl
  obtain ⟨i, hi, hzz⟩ := Option.map_eq_some_iff.1 hinfo
  simp only [Prod.mk.injEq] at hzz
  obtain ⟨hz, hs, hb⟩ := hzz
  have := run_make (P := Try.prog) w 89 93 i _ (by kernel_rfl) hi hz .i64 .i64 n n (by omega) (Int.le_refl _) (by rw [hb]; omega) (by omega)
  have hc : (Value.agg #[Value.int .i64 (0 : Int), .int .i64 0]).cells = #[Value.int .i64 (0 : Int), .int .i64 0] := rfl
  rw [hs, hc] at this
  simpa only [Int.toNat_natCast] using this
set_option maxRecDepth 100000 in
theorem new_any (p : Int) (w : World) :
    Calls Try.prog 36 #[.int .i64 p] w fun e w' => ∃ qb cb, w.heap.size ≤ qb ∧ w.heap.size ≤ cb ∧ e = .returned (.pointer (some ⟨qb, 0, none⟩)) ∧ Below w.heap.size w w' ∧ QAt w' qb cb (min (max p 0) 64).toNat (QS.zero (min (max p 0) 64).toNat) := by
  obtain ⟨n, hn⟩ : ∃ n : Nat, (n : Int) = min (max p 0) 64 := ⟨(min (max p 0) 64).toNat, by omega⟩
  rw [← hn, Int.toNat_natCast]
  have hn2 : n ≤ 64 := by omega
  have hn3 := hn.symm
  have hmk := make_cells n hn2 w
  clear hn
  go_enter Try.func36, Try.ntmps36
  go_wp2_with fail
  have h0 : (w.alloc (.cells (madeCells #[Value.int .i64 (0 : Int), .int .i64 0] (n * 2)) 93)).heap[w.heap.size]? = some (.cells (madeCells #[Value.int .i64 (0 : Int), .int .i64 0] (n * 2)) 93 (0, 0)) := heap_alloc_new w _
  have h1 := Below.heap_alloc (w.alloc (.cells (madeCells #[Value.int .i64 (0 : Int), .int .i64 0] (n * 2)) 93)) (.cells #[.slice (some ⟨w.heap.size, 0, none⟩) n n, .int .i64 0, .int .i64 0, .int .i64 0, .int .i64 0, .int .i64 0, .int .i64 0, .int .i64 0, .bool false] 91) w.heap.size (by simp)
  have h2 := h1.trans h0
  have A : QAt ((w.alloc (.cells (madeCells #[Value.int .i64 (0 : Int), .int .i64 0] (n * 2)) 93)).alloc (.cells #[.slice (some ⟨w.heap.size, 0, none⟩) n n, .int .i64 0, .int .i64 0, .int .i64 0, .int .i64 0, .int .i64 0, .int .i64 0, .int .i64 0, .bool false] 91)) (w.heap.size + 1) w.heap.size n ⟨fun _ => (0 : Int), fun _ => 0, 0, 0, 0, 0, 0, 0, 0, false⟩ := by
    refine ⟨?_, by omega, by simp; omega, fun i hi => ?_, fun i hi => ?_, fun i hi => frozen_of_row _ _ _ _ _ h2, fun i hi => frozen_of_row _ _ _ _ _ h2⟩
    · have := ObjAt.new (w.alloc (.cells (madeCells #[Value.int .i64 (0 : Int), .int .i64 0] (n * 2)) 93)) #[.slice (some ⟨w.heap.size, 0, none⟩) n n, .int .i64 0, .int .i64 0, .int .i64 0, .int .i64 0, .int .i64 0, .int .i64 0, .int .i64 0, .bool false] 91
      rw [World.size_alloc] at this
      exact this
    · rw [cell_of_row _ _ _ _ _ _ h2]
      simp [madeCells, hi]
    · rw [cell_of_row _ _ _ _ _ _ h2]
      simp [madeCells, show i * 2 + 1 < n * 2 by omega, Nat.mul_add_mod]
  refine (clear_any _ _ _ _ _ A hn2).mono ?_
  rintro e w' ⟨rfl, hk, hq⟩
  have HK := Lib.hid hk
  have HQ := Lib.hid hq
  clear hk hq A h0 h1 h2
  go_wp2
  go_ret
  refine ⟨w.heap.size + 1, w.heap.size, by omega, by omega, rfl, ?_, HQ.out⟩
  exact (((Below.refl _ w).alloc (Nat.le_refl _) _).alloc (by simp) _).trans (HK.out.below (by simp; omega) (by intro k hk; omega))
end Go.Proofs.Ytkeeledkdoiglaa.Qi
