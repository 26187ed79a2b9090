/- The walks through a store's methods. -/
import Derived.Test.YtpkgpffodkfncaaStoBase
import Derived.StillTailTactics
import Derived.Deep.OwnRows
namespace Go.Proofs.Ytpkgpffodkfncaa
open Go.RowKit
/-- What a store's work may turn. -/
abbrev StoKeep (b g : Nat) (w w' : World) : Prop := Keep (fun k => k = b ∨ k = g) w w'
set_option maxRecDepth 100000 in
theorem stoArm_any (b g cap : Nat) (d : Sto) (n : Int) (hn : -9223372036854775808 ≤ n ∧ n ≤ 9223372036854775807) (w : World) (h : StoAt w b g cap d) :
    Calls Try.prog 50 #[.pointer (some ⟨b, 0, none⟩), .int .i64 n] w fun e w' => e = .returned (.tuple #[]) ∧ StoAt w' b g cap { d with armed := true, left := n.toNat } ∧ StoKeep b g w w' := by
  have f2 : w.frozen? ⟨b, 2, none⟩ = false := h.obj.free 2
  have f3 : w.frozen? ⟨b, 3, none⟩ = false := h.obj.free 3
  have c2 : w.cell? ⟨b, 2, none⟩ = some (.bool d.armed) := h.obj.cell 2
  have c3 : w.cell? ⟨b, 3, none⟩ = some (.int .i64 (d.left : Int)) := h.obj.cell 3
  have hk : StoKeep b g w ((w.setCell ⟨b, 2, none⟩ (.bool true)).setCell ⟨b, 3, none⟩ (.int .i64 (n.toNat : Int))) := (Keep.setCell (p := ⟨b, 2, none⟩) (Keep.refl _ w) (.inr (.inl rfl)) _).setCell (p := ⟨b, 3, none⟩) (.inr (.inl rfl)) _
  have ho := (h.obj.set 2 (.bool true)).set 3 (.int .i64 (n.toNat : Int))
  have hr : RowAt ((w.setCell ⟨b, 2, none⟩ (.bool true)).setCell ⟨b, 3, none⟩ (.int .i64 (n.toNat : Int))) g d.l := h.row.block (by rw [heap_setCell_other _ _ _ _ (by exact h.ne), heap_setCell_other _ _ _ _ (by exact h.ne)])
  have e : (n.toNat : Int) = max n 0 := by omega
  rw [e] at hk ho hr
  have HE := Lib.hid e
  clear e
  go_enter Try.func50, Try.ntmps50
  go_wp2
  go_end0
  refine ⟨rfl, ⟨?_, hr, h.ne, h.le, h.max, h.most⟩, hk⟩
  dsimp only
  rw [HE.out]
  exact ho
def Sto.off (d : Sto) : Sto := { d with dark := true, armed := false, left := 0 }
set_option maxRecDepth 100000 in
theorem stoOff_any (b g cap : Nat) (d : Sto) (w : World) (h : StoAt w b g cap d) :
    Calls Try.prog 52 #[.pointer (some ⟨b, 0, none⟩)] w fun e w' => e = .returned (.tuple #[]) ∧ StoAt w' b g cap d.off ∧ StoKeep b g w w' := by
  have f1 : w.frozen? ⟨b, 1, none⟩ = false := h.obj.free 1
  have f2 : w.frozen? ⟨b, 2, none⟩ = false := h.obj.free 2
  have f3 : w.frozen? ⟨b, 3, none⟩ = false := h.obj.free 3
  have c1 : w.cell? ⟨b, 1, none⟩ = some (.bool d.dark) := h.obj.cell 1
  have c2 : w.cell? ⟨b, 2, none⟩ = some (.bool d.armed) := h.obj.cell 2
  have c3 : w.cell? ⟨b, 3, none⟩ = some (.int .i64 (d.left : Int)) := h.obj.cell 3
  have hk : StoKeep b g w (((w.setCell ⟨b, 1, none⟩ (.bool true)).setCell ⟨b, 2, none⟩ (.bool false)).setCell ⟨b, 3, none⟩ (.int .i64 0)) := ((Keep.setCell (p := ⟨b, 1, none⟩) (Keep.refl _ w) (.inr (.inl rfl)) _).setCell (p := ⟨b, 2, none⟩) (.inr (.inl rfl)) _).setCell (p := ⟨b, 3, none⟩) (.inr (.inl rfl)) _
  have ho := ((h.obj.set 1 (.bool true)).set 2 (.bool false)).set 3 (.int .i64 0)
  have hr : RowAt (((w.setCell ⟨b, 1, none⟩ (.bool true)).setCell ⟨b, 2, none⟩ (.bool false)).setCell ⟨b, 3, none⟩ (.int .i64 0)) g d.l := h.row.block (by rw [heap_setCell_other _ _ _ _ (by exact h.ne), heap_setCell_other _ _ _ _ (by exact h.ne), heap_setCell_other _ _ _ _ (by exact h.ne)])
  go_enter Try.func52, Try.ntmps52
  go_wp2
  go_end0
  exact ⟨rfl, ⟨ho, hr, h.ne, h.le, h.max, h.most⟩, hk⟩
set_option maxRecDepth 100000 in
theorem stoOn_any (b g cap : Nat) (d : Sto) (w : World) (h : StoAt w b g cap d) :
    Calls Try.prog 53 #[.pointer (some ⟨b, 0, none⟩)] w fun e w' => e = .returned (.tuple #[]) ∧ StoAt w' b g cap { d with dark := false } ∧ StoKeep b g w w' := by
  have f1 : w.frozen? ⟨b, 1, none⟩ = false := h.obj.free 1
  have c1 : w.cell? ⟨b, 1, none⟩ = some (.bool d.dark) := h.obj.cell 1
  have hk : StoKeep b g w (w.setCell ⟨b, 1, none⟩ (.bool false)) := Keep.setCell (p := ⟨b, 1, none⟩) (Keep.refl _ w) (.inr (.inl rfl)) _
  have ho := h.obj.set 1 (.bool false)
  have hr : RowAt (w.setCell ⟨b, 1, none⟩ (.bool false)) g d.l := h.row.block (by rw [heap_setCell_other _ _ _ _ (by exact h.ne)])
  go_enter Try.func53, Try.ntmps53
  go_wp2
  go_end0
  exact ⟨rfl, ⟨ho, hr, h.ne, h.le, h.max, h.most⟩, hk⟩
set_option maxRecDepth 100000 in
theorem stoPower_any (b g cap : Nat) (d : Sto) (w : World) (h : StoAt w b g cap d) :
    Calls Try.prog 51 #[.pointer (some ⟨b, 0, none⟩)] w fun e w' => e = .returned (.bool (!d.dark)) ∧ w' = w := by
  have c1 : w.cell? ⟨b, 1, none⟩ = some (.bool d.dark) := h.obj.cell 1
  go_enter Try.func51, Try.ntmps51
  go_wp2
  go_ret
  exact ⟨rfl, rfl⟩
set_option maxRecDepth 100000 in
theorem stoWrote_any (b g cap : Nat) (d : Sto) (w : World) (h : StoAt w b g cap d) :
    Calls Try.prog 48 #[.pointer (some ⟨b, 0, none⟩)] w fun e w' => e = .returned (.int .i64 (d.wrote : Int)) ∧ w' = w := by
  have c1 : w.cell? ⟨b, 4, none⟩ = some (.int .i64 (d.wrote : Int)) := h.obj.cell 4
  go_enter Try.func48, Try.ntmps48
  go_wp2
  go_ret
  exact ⟨rfl, rfl⟩
set_option maxRecDepth 100000 in
theorem stoRead_in (b g cap : Nat) (d : Sto) (a n : Nat) (hfit : a + n ≤ d.l.length) (w : World) (h : StoAt w b g cap d) :
    Calls Try.prog 47 #[.pointer (some ⟨b, 0, none⟩), .int .i64 (a : Int), .int .i64 (n : Int)] w fun e w' => e = .returned (.tuple #[.string ⟨((d.l.drop a).take n).toArray⟩, .bool true]) ∧ w = w' := by
  have c0 : w.cell? ⟨b, 0, none⟩ = some (.slice (some ⟨g, 0, none⟩) d.l.length cap) := h.obj.cell 0
  have hm := h.most
  have hle := h.le
  have hmax := h.max
  have ht : stoThere d.l.length (a : Int) (n : Int) = true := by simp [stoThere]; omega
  by_cases hac : a < cap
  · have hcv := row_string h.row a n (cap - a) hfit
    go_enter Try.func47, Try.ntmps47
    go_wp2_with fail
    refine (stoThere_any b g cap d (a : Int) (n : Int) (by omega) (by omega) w h).mono ?_
    rintro e w' ⟨rfl, rfl⟩
    go_wp2
    go_ret2
    exact ⟨rfl, rfl⟩
  · have hn0 : n = 0 := by omega
    have hac2 : a = cap := by omega
    have hcv := row_string h.row 0 n 0 (by omega)
    have HN := Lib.hid hn0
    clear hn0 hac
    subst hac2
    go_enter Try.func47, Try.ntmps47
    go_wp2_with fail
    refine (stoThere_any b g _ d (a : Int) (n : Int) (by omega) (by omega) w h).mono ?_
    rintro e w' ⟨rfl, rfl⟩
    go_wp2
    go_ret2
    rw [HN.out]
    exact ⟨rfl, rfl⟩
set_option maxRecDepth 100000 in
theorem stoNew_any (n : Nat) (hn : n ≤ 1000) (w : World) :
    Calls Try.prog 45 #[.int .i64 (n : Int)] w fun e w' => e = .returned (.pointer (some ⟨w.heap.size + 1, 0, none⟩)) ∧ StoAt w' (w.heap.size + 1) w.heap.size n ⟨List.replicate n 0, false, false, 0, 0⟩ ∧ Below w.heap.size w w' := by
  have hmk := run_make_row' (P := Try.prog) 33 5 (.int .u8 0) 1 (by kernel_rfl) (by kernel_rfl) rfl .i64 .i64 n (by omega) (by omega) w
  have e : min (n : Int) 1000 = (n : Int) := by omega
  go_enter Try.func45, Try.ntmps45
  go_wp2
  go_ret
  refine ⟨rfl, ⟨?_, ?_, ?_, ?_, ?_, ?_⟩, ?_⟩
  · simp only [List.length_replicate]
    have := ObjAt.new (w.alloc (.cells (madeCells #[Value.int .u8 0] n) 5)) #[.slice (some ⟨w.heap.size, 0, none⟩) n n, .bool false, .bool false, .int .i64 0, .int .i64 0] 93
    rw [World.size_alloc] at this
    exact this
  · have h0 : (w.alloc (.cells (madeCells #[Value.int .u8 0] n) 5)).heap[w.heap.size]? = some (.cells (madeCells #[Value.int .u8 0] n) 5 (0, 0)) := heap_alloc_new w _
    have hr : RowAt (w.alloc (.cells (madeCells #[Value.int .u8 0] n) 5)) w.heap.size (List.replicate n 0) := by
      refine ⟨by simp, fun j hj => ?_, fun j hj => frozen_of_row _ _ j _ _ h0⟩
      rw [cell_of_row _ _ j _ _ _ h0]
      rw [List.length_replicate] at hj
      simp [madeCells, List.getD_eq_getElem?_getD, hj, Nat.mod_one]
    exact hr.block (Below.heap_alloc _ _ _ (by simp))
  · omega
  · simp
  · omega
  · simpa using hn
  · exact ((Below.refl _ w).alloc (Nat.le_refl _) _).alloc (by simp) _
/-- What is written: so many bytes. -/
def Sto.put (d : Sto) (a n : Nat) (s : ByteArray) : Sto := { d with l := putAt d.l a (s.extract 0 n).data.toList, left := if d.armed then d.left - n else d.left, wrote := d.wrote + n }
theorem extract_len (s : ByteArray) (n : Nat) (h : n ≤ s.size) : (s.extract 0 n).data.toList.length = n := by
  have : (s.extract 0 n).size = n := by rw [ByteArray.size_extract]; omega
  simpa using this
set_option maxRecDepth 100000 in
set_option maxHeartbeats 2000000 in
theorem stoWrite_whole (b g cap : Nat) (d : Sto) (a : Nat) (s : ByteArray) (hfit : a + s.size ≤ d.l.length) (hac : a < cap) (hd : d.dark = false) (harm : d.armed = false) (hwr : d.wrote ≤ 1000000) (w : World) (h : StoAt w b g cap d) :
    Calls Try.prog 46 #[.pointer (some ⟨b, 0, none⟩), .int .i64 (a : Int), .string s] w fun e w' => e = .returned (.int .i64 0) ∧ StoAt w' b g cap (d.put a s.size s) ∧ StoKeep b g w w' := by
  have c0 : w.cell? ⟨b, 0, none⟩ = some (.slice (some ⟨g, 0, none⟩) d.l.length cap) := h.obj.cell 0
  have c1 : w.cell? ⟨b, 1, none⟩ = some (.bool false) := by rw [← hd]; exact h.obj.cell 1
  have c2 : w.cell? ⟨b, 2, none⟩ = some (.bool false) := by rw [← harm]; exact h.obj.cell 2
  have c3 : w.cell? ⟨b, 3, none⟩ = some (.int .i64 (d.left : Int)) := h.obj.cell 3
  have c4 : w.cell? ⟨b, 4, none⟩ = some (.int .i64 (d.wrote : Int)) := h.obj.cell 4
  have hm := h.most
  have hle := h.le
  have hmax := h.max
  have ht : stoThere d.l.length (a : Int) (s.size : Int) = true := by simp [stoThere]; omega
  have HH := Lib.hid h
  have hal : a ≤ d.l.length := by omega
  have hali : (a : Int) ≤ d.l.length := by omega
  have haci : (a : Int) < cap := by omega
  have HA := Lib.hid harm
  clear hd harm
  go_enter Try.func46, Try.ntmps46
  go_wp2_with fail
  refine (stoThere_any b g cap d (a : Int) (s.size : Int) (by omega) (by omega) w HH.out).mono ?_
  rintro e w' ⟨rfl, rfl⟩
  go_wp2
  go_still_tail 9, (by kernel_rfl)
  change wpList _ _ _ _ _ w.drew
  have hK2 : StoKeep b g w w.drew := (Keep.refl _ w).drew
  have hO2 : ObjAt w.drew b #[.slice (some ⟨g, 0, none⟩) d.l.length cap, .bool d.dark, .bool d.armed, .int .i64 (d.left : Int), .int .i64 (d.wrote : Int)] 93 := HH.out.obj
  have hR2 : RowAt w.drew g d.l := HH.out.row.block rfl
  have hex : s.extract 0 s.size = s := ByteArray.extract_zero_size
  generalize w.drew = w2 at hK2 hO2 hR2 ⊢
  have hne := HH.out.ne
  have hcp := row_copy hR2 3 a (cap - a) s (by omega)
  have hcp2 := row_copy hR2 3 a (cap - a) (s.extract 0 s.size) (by rw [hex]; omega)
  have hO3 : ObjAt (w2.setCells g a (u8Vals s.data.toList)) b #[.slice (some ⟨g, 0, none⟩) d.l.length cap, .bool d.dark, .bool d.armed, .int .i64 (d.left : Int), .int .i64 (d.wrote : Int)] 93 := (setCells_heap_other g b (Ne.symm hne) _ a w2).trans hO2
  have k4 : (w2.setCells g a (u8Vals s.data.toList)).cell? ⟨b, 4, none⟩ = some (.int .i64 (d.wrote : Int)) := hO3.cell 4
  have z4 : (w2.setCells g a (u8Vals s.data.toList)).frozen? ⟨b, 4, none⟩ = false := hO3.free 4
  have hO4 := Lib.hid (hO3.set 4 (.int .i64 ((d.wrote : Int) + s.size)))
  have hR3 : RowAt (w2.setCells g a (u8Vals s.data.toList)) g (putAt d.l a s.data.toList) := hR2.put a s.data.toList (by simpa using hfit)
  have hR4 : RowAt ((w2.setCells g a (u8Vals s.data.toList)).setCell ⟨b, 4, none⟩ (.int .i64 ((d.wrote : Int) + s.size))) g (putAt d.l a s.data.toList) := hR3.block (heap_setCell_other _ _ _ _ (by exact hne))
  have hK4 : StoKeep b g w ((w2.setCells g a (u8Vals s.data.toList)).setCell ⟨b, 4, none⟩ (.int .i64 ((d.wrote : Int) + s.size))) := (hK2.trans (keep_setCells _ g (.inr rfl) _ a w2)).setCell (p := ⟨b, 4, none⟩) (.inr (.inl rfl)) _
  have hpl := Lib.hid (putAt_length d.l a s.data.toList (by simpa using hfit))
  have HEX := Lib.hid hex
  have hss : s.size ≤ 1000 := by omega
  clear c0 c1 c2 c3 c4 h hex hO3 hO2 hR2 hR3 hK2
  go_wp2_with (at_builtin; first | refine Lib.wpList_copy_run _ rfl _ _ 33 9 rfl _ _ rfl rfl hcp ?_ | refine Lib.wpList_copy_run _ rfl _ _ 33 9 rfl _ _ rfl rfl hcp2 ?_)
  go_ret
  refine ⟨rfl, ⟨?_, ?_, hne, ?_, hmax, ?_⟩, hK4⟩
  · have := hO4.out
    rw [HA.out] at this
    simp only [Sto.put, HEX.out, hpl.out, HA.out, Bool.false_eq_true, if_false, Int.natCast_add]
    exact this
  · simp only [Sto.put, HEX.out]
    exact hR4
  · simp only [Sto.put, HEX.out, hpl.out]
    exact hle
  · simp only [Sto.put, HEX.out, hpl.out]
    exact hm
set_option maxRecDepth 100000 in
set_option maxHeartbeats 2000000 in
theorem stoWrite_torn (b g cap : Nat) (d : Sto) (a : Nat) (s : ByteArray) (hfit : a + s.size ≤ d.l.length) (hls : d.left < s.size) (hd : d.dark = false) (harm : d.armed = true) (hwr : d.wrote ≤ 1000000) (w : World) (h : StoAt w b g cap d) :
    Calls Try.prog 46 #[.pointer (some ⟨b, 0, none⟩), .int .i64 (a : Int), .string s] w fun e w' => e = .returned (.int .i64 12) ∧ StoAt w' b g cap (d.put a d.left s).off ∧ StoKeep b g w w' := by
  have c0 : w.cell? ⟨b, 0, none⟩ = some (.slice (some ⟨g, 0, none⟩) d.l.length cap) := h.obj.cell 0
  have c1 : w.cell? ⟨b, 1, none⟩ = some (.bool false) := by rw [← hd]; exact h.obj.cell 1
  have c2 : w.cell? ⟨b, 2, none⟩ = some (.bool true) := by rw [← harm]; exact h.obj.cell 2
  have c3 : w.cell? ⟨b, 3, none⟩ = some (.int .i64 (d.left : Int)) := h.obj.cell 3
  have c4 : w.cell? ⟨b, 4, none⟩ = some (.int .i64 (d.wrote : Int)) := h.obj.cell 4
  have hm := h.most
  have hle := h.le
  have hmax := h.max
  have ht : stoThere d.l.length (a : Int) (s.size : Int) = true := by simp [stoThere]; omega
  have HH := Lib.hid h
  have f3 : w.frozen? ⟨b, 3, none⟩ = false := h.obj.free 3
  have hmin : min (s.size : Int) (d.left : Int) = (d.left : Int) := by omega
  have hO1 := h.obj.set 3 (.int .i64 0)
  have hR1 : RowAt (w.setCell ⟨b, 3, none⟩ (.int .i64 0)) g d.l := h.row.block (heap_setCell_other _ _ _ _ (by exact h.ne))
  have hK1 : StoKeep b g w (w.setCell ⟨b, 3, none⟩ (.int .i64 0)) := (Keep.refl _ w).setCell (p := ⟨b, 3, none⟩) (.inr (.inl rfl)) _
  have hal : a < d.l.length := by omega
  have hac : a < cap := by omega
  have hali : (a : Int) ≤ d.l.length := by omega
  have haci : (a : Int) < cap := by omega
  have HA := Lib.hid harm
  clear hd harm
  go_enter Try.func46, Try.ntmps46
  go_wp2_with fail
  refine (stoThere_any b g cap d (a : Int) (s.size : Int) (by omega) (by omega) w HH.out).mono ?_
  rintro e w' ⟨rfl, rfl⟩
  go_wp2
  clear c0 c1 c2 c3 c4
  have hl1 : d.left ≤ s.size := by omega
  have hl2 : (d.left : Int) ≤ s.size := by omega
  generalize w.setCell ⟨b, 3, none⟩ (.int .i64 0) = w1 at hO1 hR1 hK1 ⊢
  have c0 : w1.cell? ⟨b, 0, none⟩ = some (.slice (some ⟨g, 0, none⟩) d.l.length cap) := hO1.cell 0
  go_still_tail 9, (by kernel_rfl)
  change wpList _ _ _ _ _ w1.drew
  have hK2 : StoKeep b g w w1.drew := hK1.drew
  have hO2 : ObjAt w1.drew b #[.slice (some ⟨g, 0, none⟩) d.l.length cap, .bool d.dark, .bool d.armed, .int .i64 0, .int .i64 (d.wrote : Int)] 93 := hO1
  have hR2 : RowAt w1.drew g d.l := hR1.block rfl
  generalize w1.drew = w2 at hK2 hO2 hR2 ⊢
  have hne := HH.out.ne
  have hxl : (s.extract 0 d.left).size = d.left := by rw [ByteArray.size_extract]; omega
  generalize hx : s.extract 0 d.left = x at *
  have HX := Lib.hid hx
  have hcp := row_copy hR2 3 a (cap - a) x (by omega)
  have hO3 : ObjAt (w2.setCells g a (u8Vals x.data.toList)) b #[.slice (some ⟨g, 0, none⟩) d.l.length cap, .bool d.dark, .bool d.armed, .int .i64 0, .int .i64 (d.wrote : Int)] 93 := (setCells_heap_other g b (Ne.symm hne) _ a w2).trans hO2
  have k4 : (w2.setCells g a (u8Vals x.data.toList)).cell? ⟨b, 4, none⟩ = some (.int .i64 (d.wrote : Int)) := hO3.cell 4
  have z4 : (w2.setCells g a (u8Vals x.data.toList)).frozen? ⟨b, 4, none⟩ = false := hO3.free 4
  have hO4 := hO3.set 4 (.int .i64 ((d.wrote : Int) + d.left))
  have hxl2 : a + x.data.toList.length ≤ d.l.length := by simp; omega
  have hR3 : RowAt (w2.setCells g a (u8Vals x.data.toList)) g (putAt d.l a x.data.toList) := hR2.put a x.data.toList hxl2
  have hR4 : RowAt ((w2.setCells g a (u8Vals x.data.toList)).setCell ⟨b, 4, none⟩ (.int .i64 ((d.wrote : Int) + d.left))) g (putAt d.l a x.data.toList) := hR3.block (heap_setCell_other _ _ _ _ (by exact hne))
  have hK4 : StoKeep b g w ((w2.setCells g a (u8Vals x.data.toList)).setCell ⟨b, 4, none⟩ (.int .i64 ((d.wrote : Int) + d.left))) := (hK2.trans (keep_setCells _ g (.inr rfl) _ a w2)).setCell (p := ⟨b, 4, none⟩) (.inr (.inl rfl)) _
  have hpl := putAt_length d.l a x.data.toList hxl2
  have hS4 : StoAt ((w2.setCells g a (u8Vals x.data.toList)).setCell ⟨b, 4, none⟩ (.int .i64 ((d.wrote : Int) + d.left))) b g cap (d.put a d.left s) := by
    refine ⟨?_, ?_, hne, ?_, hmax, ?_⟩
    · have := hO4
      rw [HA.out] at this
      simp only [Sto.put, HX.out, hpl, HA.out, if_true, Int.natCast_add, Nat.sub_self]
      exact this
    · simp only [Sto.put, HX.out]
      exact hR4
    · simp only [Sto.put, HX.out, hpl]
      exact hle
    · simp only [Sto.put, HX.out, hpl]
      exact hm
  have HS4 := Lib.hid hS4
  have hss : d.left ≤ 1000 := by omega
  have hls2 : (d.left : Int) < s.size := by omega
  clear c0 h hx hO3 hO2 hR2 hR3 hK2 hO4 hR4 hpl hS4 hO1 hR1 hK1 hxl2
  go_wp2_with (first | (at_builtin; refine Lib.wpList_copy_run _ rfl _ _ 33 9 rfl _ _ rfl rfl hcp ?_) | (go_at_call 52; fail))
  refine (stoOff_any b g cap _ _ HS4.out).mono ?_
  rintro e w9 ⟨rfl, hS9, hK9⟩
  go_wp2
  go_ret
  exact ⟨rfl, hS9, hK4.trans hK9⟩
set_option maxRecDepth 100000 in
set_option maxHeartbeats 2000000 in
theorem stoWrite_armed (b g cap : Nat) (d : Sto) (a : Nat) (s : ByteArray) (hfit : a + s.size ≤ d.l.length) (hls : s.size ≤ d.left) (hac : a < cap) (hlm : d.left ≤ 9223372036854775807) (hd : d.dark = false) (harm : d.armed = true) (hwr : d.wrote ≤ 1000000) (w : World) (h : StoAt w b g cap d) :
    Calls Try.prog 46 #[.pointer (some ⟨b, 0, none⟩), .int .i64 (a : Int), .string s] w fun e w' => e = .returned (.int .i64 0) ∧ StoAt w' b g cap (d.put a s.size s) ∧ StoKeep b g w w' := by
  have c0 : w.cell? ⟨b, 0, none⟩ = some (.slice (some ⟨g, 0, none⟩) d.l.length cap) := h.obj.cell 0
  have c1 : w.cell? ⟨b, 1, none⟩ = some (.bool false) := by rw [← hd]; exact h.obj.cell 1
  have c2 : w.cell? ⟨b, 2, none⟩ = some (.bool true) := by rw [← harm]; exact h.obj.cell 2
  have c3 : w.cell? ⟨b, 3, none⟩ = some (.int .i64 (d.left : Int)) := h.obj.cell 3
  have c4 : w.cell? ⟨b, 4, none⟩ = some (.int .i64 (d.wrote : Int)) := h.obj.cell 4
  have hm := h.most
  have hle := h.le
  have hmax := h.max
  have ht : stoThere d.l.length (a : Int) (s.size : Int) = true := by simp [stoThere]; omega
  have HH := Lib.hid h
  have f3 : w.frozen? ⟨b, 3, none⟩ = false := h.obj.free 3
  have hmin : min (s.size : Int) (d.left : Int) = (s.size : Int) := by omega
  have hsub : (d.left : Int) - (s.size : Int) = ((d.left - s.size : Nat) : Int) := by omega
  have hO1 := h.obj.set 3 (.int .i64 ((d.left - s.size : Nat) : Int))
  have hR1 : RowAt (w.setCell ⟨b, 3, none⟩ (.int .i64 ((d.left - s.size : Nat) : Int))) g d.l := h.row.block (heap_setCell_other _ _ _ _ (by exact h.ne))
  have hK1 : StoKeep b g w (w.setCell ⟨b, 3, none⟩ (.int .i64 ((d.left - s.size : Nat) : Int))) := (Keep.refl _ w).setCell (p := ⟨b, 3, none⟩) (.inr (.inl rfl)) _
  have hal : a ≤ d.l.length := by omega
  have hali : (a : Int) ≤ d.l.length := by omega
  have haci : (a : Int) < cap := by omega
  have HA := Lib.hid harm
  clear hd harm
  go_enter Try.func46, Try.ntmps46
  go_wp2_with fail
  refine (stoThere_any b g cap d (a : Int) (s.size : Int) (by omega) (by omega) w HH.out).mono ?_
  rintro e w' ⟨rfl, rfl⟩
  go_wp2
  clear c0 c1 c2 c3 c4
  generalize w.setCell ⟨b, 3, none⟩ (.int .i64 ((d.left - s.size : Nat) : Int)) = w1 at hO1 hR1 hK1 ⊢
  have c0 : w1.cell? ⟨b, 0, none⟩ = some (.slice (some ⟨g, 0, none⟩) d.l.length cap) := hO1.cell 0
  go_still_tail 9, (by kernel_rfl)
  change wpList _ _ _ _ _ w1.drew
  have hK2 : StoKeep b g w w1.drew := hK1.drew
  have hO2 : ObjAt w1.drew b #[.slice (some ⟨g, 0, none⟩) d.l.length cap, .bool d.dark, .bool d.armed, .int .i64 ((d.left - s.size : Nat) : Int), .int .i64 (d.wrote : Int)] 93 := hO1
  have hR2 : RowAt w1.drew g d.l := hR1.block rfl
  generalize w1.drew = w2 at hK2 hO2 hR2 ⊢
  have hne := HH.out.ne
  have hx : s.extract 0 s.size = s := ByteArray.extract_zero_size
  have HX := Lib.hid hx
  have hcp := row_copy hR2 3 a (cap - a) s (by omega)
  have hO3 : ObjAt (w2.setCells g a (u8Vals s.data.toList)) b #[.slice (some ⟨g, 0, none⟩) d.l.length cap, .bool d.dark, .bool d.armed, .int .i64 ((d.left - s.size : Nat) : Int), .int .i64 (d.wrote : Int)] 93 := (setCells_heap_other g b (Ne.symm hne) _ a w2).trans hO2
  have k4 : (w2.setCells g a (u8Vals s.data.toList)).cell? ⟨b, 4, none⟩ = some (.int .i64 (d.wrote : Int)) := hO3.cell 4
  have z4 : (w2.setCells g a (u8Vals s.data.toList)).frozen? ⟨b, 4, none⟩ = false := hO3.free 4
  have hO4 := hO3.set 4 (.int .i64 ((d.wrote : Int) + s.size))
  have hxl2 : a + s.data.toList.length ≤ d.l.length := by simp; omega
  have hR3 : RowAt (w2.setCells g a (u8Vals s.data.toList)) g (putAt d.l a s.data.toList) := hR2.put a s.data.toList hxl2
  have hR4 : RowAt ((w2.setCells g a (u8Vals s.data.toList)).setCell ⟨b, 4, none⟩ (.int .i64 ((d.wrote : Int) + s.size))) g (putAt d.l a s.data.toList) := hR3.block (heap_setCell_other _ _ _ _ (by exact hne))
  have hK4 : StoKeep b g w ((w2.setCells g a (u8Vals s.data.toList)).setCell ⟨b, 4, none⟩ (.int .i64 ((d.wrote : Int) + s.size))) := (hK2.trans (keep_setCells _ g (.inr rfl) _ a w2)).setCell (p := ⟨b, 4, none⟩) (.inr (.inl rfl)) _
  have hpl := putAt_length d.l a s.data.toList hxl2
  have hS4 : StoAt ((w2.setCells g a (u8Vals s.data.toList)).setCell ⟨b, 4, none⟩ (.int .i64 ((d.wrote : Int) + s.size))) b g cap (d.put a s.size s) := by
    refine ⟨?_, ?_, hne, ?_, hmax, ?_⟩
    · have := hO4
      rw [HA.out] at this
      simp only [Sto.put, HX.out, hpl, HA.out, if_true, Int.natCast_add]
      exact this
    · simp only [Sto.put, HX.out]
      exact hR4
    · simp only [Sto.put, HX.out, hpl]
      exact hle
    · simp only [Sto.put, HX.out, hpl]
      exact hm
  have HS4 := Lib.hid hS4
  have hss : s.size ≤ 1000 := by omega
  clear c0 h hx hO3 hO2 hR2 hR3 hK2 hO4 hR4 hpl hS4 hO1 hR1 hK1 hxl2
  go_wp2_with (at_builtin; refine Lib.wpList_copy_run _ rfl _ _ 33 9 rfl _ _ rfl rfl hcp ?_)
  go_ret
  exact ⟨rfl, HS4.out, hK4⟩
end Go.Proofs.Ytpkgpffodkfncaa
