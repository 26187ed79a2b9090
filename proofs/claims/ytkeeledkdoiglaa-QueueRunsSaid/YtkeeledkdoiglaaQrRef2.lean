/- QueueRuns: the reference's queue: Put, Take. -/
import Derived.Test.YtkeeledkdoiglaaQrRef
import Derived.Deep.RegionLaw
import Derived.StillTailTactics
import Derived.BigQuiet
namespace Go.Proofs.Ytkeeledkdoiglaa.Qr
open Go.RowKit Go.Proofs.Ytkeeledkdoiglaa
theorem string_info : ∃ i, Try.prog.info? 9 = some i ∧ i.zero = some (.string (⟨#[]⟩ : ByteArray)) ∧ i.size = 1 ∧ i.bytes = 16 := by
  have h : (Try.prog.info? 9).map (fun i => (i.zero, i.size, i.bytes)) = some (some (.string (⟨#[]⟩ : ByteArray)), 1, 16) := by kernel_rfl
  obtain ⟨i, hi, hzz⟩ := Option.map_eq_some_iff.1 h
  simp only [Prod.mk.injEq] at hzz
  exact ⟨i, hi, hzz.1, hzz.2.1, hzz.2.2⟩
theorem TRow.mono {w : World} {E E' : Nat → Prop} {v : Value} {l : List ByteArray} (h : TRow w E' v l) (hs : ∀ k, E k → E' k) : TRow w E v l := h.block (fun _ _ _ => rfl) (fun k _ => hs k)
theorem TRow.head {w : World} {E : Nat → Prop} {v : Value} {x : ByteArray} {r : List ByteArray} (h : TRow w E v (x :: r)) : ∃ g off cap, v = .slice (some ⟨g, off, none⟩) (r.length + 1) cap ∧ r.length + 1 ≤ cap ∧ w.cell? ⟨g, off, none⟩ = some (.string x) := by
  rcases h with ⟨_, h⟩ | ⟨g, off, cap, cur, rfl, hg, ho, h1, h2, h3⟩
  · cases h
  · refine ⟨g, off, cap, rfl, h1, ?_⟩
    rw [ho.cell]
    exact h3 0 _ rfl
theorem TRow.tail {w : World} {E : Nat → Prop} {g off cap : Nat} {x : ByteArray} {r : List ByteArray} (h : TRow w E (.slice (some ⟨g, off, none⟩) (r.length + 1) cap) (x :: r)) : TRow w E (.slice (some ⟨g, off + 1, none⟩) r.length (cap - 1)) r := by
  rcases h with ⟨h, _⟩ | ⟨g, off, cap, cur, h, hg, ho, h1, h2, h3⟩
  · cases h
  · cases h
    simp only [List.length_cons] at h1
    refine .inr ⟨g, off + 1, cap - 1, cur, rfl, hg, ho, by omega, by omega, fun j u hj => ?_⟩
    rw [Nat.add_assoc, Nat.add_comm 1 j]
    exact h3 (j + 1) u (by simpa [strs] using hj)
theorem TRow.last {w : World} {E : Nat → Prop} {g off : Nat} {x : ByteArray} (h : TRow w E (.slice (some ⟨g, off, none⟩) 1 1) [x]) : TRow w E (.slice (some ⟨g, off, none⟩) 0 0) [] := by
  rcases h with ⟨h, _⟩ | ⟨g, off, cap, cur, h, hg, ho, h1, h2, h3⟩
  · cases h
  · cases h
    exact .inr ⟨g, off, 0, cur, rfl, hg, ho, Nat.le_refl _, by omega, fun j u hj => by simp [strs] at hj⟩
section
variable {w : World} {E E' : Nat → Prop} {rb n : Nat} {fl : Bool} {v0 v1 : Value} {l0 l1 : List ByteArray}
theorem RAt.mono (h : RAt w E' rb n fl v0 v1 l0 l1) (hs : ∀ k, E k → E' k) : RAt w E rb n fl v0 v1 l0 l1 :=
  ⟨h.obj, h.r0.mono (fun k hk => hk.imp_left (hs k)), h.r1.mono (fun k hk => hk.imp_left (hs k)), h.ap, fun k => h.ne (hs _ k), fun k hk => h.lt k (hs _ hk)⟩
theorem RAt.fault (h : RAt w E rb n fl v0 v1 l0 l1) (b : Bool) : RAt (w.setCell ⟨rb, 3, none⟩ (.bool b)) E rb n b v0 v1 l0 l1 ∧ Keep (fun k => ¬ E k) w (w.setCell ⟨rb, 3, none⟩ (.bool b)) := by
  have hb : ∀ k, k ≠ rb → (w.setCell ⟨rb, 3, none⟩ (.bool b)).heap[k]? = w.heap[k]? := fun k hk => heap_setCell_other _ _ _ _ hk
  refine ⟨⟨h.obj.set 3 _, h.r0.block (fun k h1 h2 => hb k (fun e => (h.r0.own k h2).1 (.inr e))) (fun _ _ h => h), h.r1.block (fun k h1 h2 => hb k (fun e => (h.r1.own k h2).1 (.inr e))) (fun _ _ h => h), h.ap, h.ne, fun k hk => by simpa [World.setCell] using h.lt k hk⟩, ?_⟩
  exact Keep.setCell (p := ⟨rb, 3, none⟩) (Keep.refl _ w) (.inr h.ne) _
theorem grown_refl (w : World) (o : Option Nat) : w.grownBy w o := ⟨rfl, rfl, rfl, Nat.le_refl _, fun _ _ _ => rfl⟩
theorem RAt.put0 (h : RAt w E rb n fl v0 v1 l0 l1) {w2 : World} {v' : Value} {l' : List ByteArray} (hr : TRow w2 (fun k => E k ∨ k = rb) v' l') (hg : w.grownBy w2 v0.ownBlock) (hv : v'.ownBlock = v0.ownBlock ∨ ∃ k, v'.ownBlock = some k ∧ w.heap.size ≤ k) :
    RAt (w2.setCell ⟨rb, 1, none⟩ v') E rb n fl v' v1 l' l1 ∧ Keep (fun k => ¬ E k) w (w2.setCell ⟨rb, 1, none⟩ v') := by
  have hb : ∀ k, k ≠ rb → (w2.setCell ⟨rb, 1, none⟩ v').heap[k]? = w2.heap[k]? := fun k hk => heap_setCell_other _ _ _ _ hk
  have hsz : w.heap.size ≤ (w2.setCell ⟨rb, 1, none⟩ v').heap.size := by simpa [World.setCell] using hg.size
  have hrb : w2.heap[rb]? = w.heap[rb]? := hg.block rb h.obj.lt (fun e => (h.r0.own rb e.symm).1 (.inr rfl))
  refine ⟨⟨heap_setCell_same _ rb 1 _ _ v' (hrb.trans h.obj), hr.block (fun k h1 h2 => hb k (fun e => (hr.own k h2).1 (.inr e))) (fun _ _ h => h), h.r1.block (fun k h1 h2 => (hb k (fun e => (h.r1.own k h2).1 (.inr e))).trans (hg.block k h1 (fun e => h.ap k e.symm h2))) (fun _ _ h => h), fun k hk hu => ?_, h.ne, fun k hk => Nat.lt_of_lt_of_le (h.lt k hk) hsz⟩, hg.os, hg.tape, hg.output, hsz, fun k h1 h2 => ?_⟩
  · rcases hv with e | ⟨i, e, hi⟩
    · rw [e] at hk; exact h.ap k hk hu
    · rw [e] at hk
      injection hk with hk
      have := (h.r1.own k hu).2
      omega
  · have hk : E k := Classical.byContradiction h2
    rw [hb k (fun e => h.ne (e ▸ hk))]
    exact hg.block k h1 (fun e => (h.r0.own k e.symm).1 (.inl hk))
theorem RAt.put1 (h : RAt w E rb n fl v0 v1 l0 l1) {w2 : World} {v' : Value} {l' : List ByteArray} (hr : TRow w2 (fun k => E k ∨ k = rb) v' l') (hg : w.grownBy w2 v1.ownBlock) (hv : v'.ownBlock = v1.ownBlock ∨ ∃ k, v'.ownBlock = some k ∧ w.heap.size ≤ k) :
    RAt (w2.setCell ⟨rb, 2, none⟩ v') E rb n fl v0 v' l0 l' ∧ Keep (fun k => ¬ E k) w (w2.setCell ⟨rb, 2, none⟩ v') := by
  have hb : ∀ k, k ≠ rb → (w2.setCell ⟨rb, 2, none⟩ v').heap[k]? = w2.heap[k]? := fun k hk => heap_setCell_other _ _ _ _ hk
  have hsz : w.heap.size ≤ (w2.setCell ⟨rb, 2, none⟩ v').heap.size := by simpa [World.setCell] using hg.size
  have hrb : w2.heap[rb]? = w.heap[rb]? := hg.block rb h.obj.lt (fun e => (h.r1.own rb e.symm).1 (.inr rfl))
  refine ⟨⟨heap_setCell_same _ rb 2 _ _ v' (hrb.trans h.obj), h.r0.block (fun k h1 h2 => (hb k (fun e => (h.r0.own k h2).1 (.inr e))).trans (hg.block k h1 (fun e => h.ap k h2 e.symm))) (fun _ _ h => h), hr.block (fun k h1 h2 => hb k (fun e => (hr.own k h2).1 (.inr e))) (fun _ _ h => h), fun k hu hk => ?_, h.ne, fun k hk => Nat.lt_of_lt_of_le (h.lt k hk) hsz⟩, hg.os, hg.tape, hg.output, hsz, fun k h1 h2 => ?_⟩
  · rcases hv with e | ⟨i, e, hi⟩
    · rw [e] at hk; exact h.ap k hu hk
    · rw [e] at hk
      injection hk with hk
      have := (h.r0.own k hu).2
      omega
  · have hk : E k := Classical.byContradiction h2
    rw [hb k (fun e => h.ne (e ▸ hk))]
    exact hg.block k h1 (fun e => (h.r1.own k e.symm).1 (.inl hk))
end
set_option maxRecDepth 100000 in
theorem rtake_none0 (E : Nat → Prop) (rb n : Nat) (fl g : Bool) (l1 : List ByteArray) (w : World) (h : RQ w E rb n fl [] l1) :
    Calls Try.prog 30 #[.pointer (some ⟨rb, 0, none⟩), .bool false, .bool g] w fun e w' => e = .returned (.tuple #[.string (⟨#[]⟩ : ByteArray), .bool false]) ∧ w' = w := by
  obtain ⟨v0, v1, h⟩ := h
  obtain ⟨a, c, rfl⟩ := h.form0
  have c0 : w.cell? ⟨rb, 1, none⟩ = some (.slice a 0 c) := h.obj.cell 1
  clear h
  go_enter Try.func30, Try.ntmps30
  go_wp2_with fail
  refine (class_f _).mono ?_
  rintro e w1 ⟨rfl, rfl⟩
  go_wp2
  go_ret2
  exact ⟨rfl, rfl⟩
set_option maxRecDepth 100000 in
theorem rtake_look0 (E : Nat → Prop) (rb n : Nat) (fl : Bool) (x : ByteArray) (r l1 : List ByteArray) (w : World) (h : RQ w E rb n fl (x :: r) l1) (hl : r.length ≤ 1000) :
    Calls Try.prog 30 #[.pointer (some ⟨rb, 0, none⟩), .bool false, .bool false] w fun e w' => e = .returned (.tuple #[.string x, .bool true]) ∧ w' = w := by
  obtain ⟨v0, v1, h⟩ := h
  obtain ⟨g, off, cap, rfl, h1, h2⟩ := h.r0.head
  have c0 : w.cell? ⟨rb, 1, none⟩ = some (.slice (some ⟨g, off, none⟩) (r.length + 1) cap) := h.obj.cell 1
  have hp : (0 : Int) < (r.length : Int) + 1 := by omega
  have hp2 : ((r.length : Int) + 1 == 0) = false := by simp; omega
  clear h
  go_enter Try.func30, Try.ntmps30
  go_wp2_with fail
  refine (class_f _).mono ?_
  rintro e w1 ⟨rfl, rfl⟩
  go_wp2
  go_ret2
  exact ⟨rfl, rfl⟩
set_option maxRecDepth 100000 in
theorem rtake_go0 (E : Nat → Prop) (rb n : Nat) (fl : Bool) (x : ByteArray) (r l1 : List ByteArray) (w : World) (h : RQ w E rb n fl (x :: r) l1) (hl : r.length ≤ 1000) :
    Calls Try.prog 30 #[.pointer (some ⟨rb, 0, none⟩), .bool false, .bool true] w fun e w' => e = .returned (.tuple #[.string x, .bool true]) ∧ Keep (fun k => ¬ E k) w w' ∧ RQ w' E rb n fl r l1 := by
  obtain ⟨v0, v1, h⟩ := h
  obtain ⟨g, off, cap, rfl, h1, h2⟩ := h.r0.head
  have c0 : w.cell? ⟨rb, 1, none⟩ = some (.slice (some ⟨g, off, none⟩) (r.length + 1) cap) := h.obj.cell 1
  have f0 : w.frozen? ⟨rb, 1, none⟩ = false := h.obj.free 1
  have hp : (0 : Int) < (r.length : Int) + 1 := by omega
  have hp2 : ((r.length : Int) + 1 == 0) = false := by simp; omega
  have H := Lib.hid h
  clear h
  go_enter Try.func30, Try.ntmps30
  go_wp2_with fail
  refine (class_f _).mono ?_
  rintro e w1 ⟨rfl, rfl⟩
  go_wp2_with fail
  by_cases hcap : cap = 1
  · subst hcap
    obtain rfl : r = [] := List.eq_nil_of_length_eq_zero (by omega)
    have HS := Lib.hid ((H.out.drewN 1).put0 (w2 := w1.drew) ((H.out.drewN 1).r0.last) (grown_refl _ _) (.inl rfl))
    go_still_tail 12, (by kernel_rfl)
    change wpList _ _ _ _ _ w1.drew
    have c0 : w1.drew.cell? ⟨rb, 1, none⟩ = some (.slice (some ⟨g, off, none⟩) 1 1) := H.out.drewN 1 |>.obj.cell 1
    have f0 : w1.drew.frozen? ⟨rb, 1, none⟩ = false := H.out.drewN 1 |>.obj.free 1
    clear H
    generalize w1.drew = w2 at *
    go_wp2
    go_ret2
    exact ⟨rfl, ⟨HS.out.2.os, HS.out.2.tape, HS.out.2.output, HS.out.2.size, HS.out.2.block⟩, _, _, HS.out.1⟩
  · have HS := Lib.hid ((H.out.drewN 1).put0 (w2 := w1.drew) ((H.out.drewN 1).r0.tail) (grown_refl _ _) (.inl rfl))
    have hcap' : ¬ (cap ≤ 1) := by omega
    have hcap2 : ¬ (1 = cap) := by omega
    have hcap3 : 1 < cap := by omega
    have hp3 : (1 : Int) ≤ (r.length : Int) + 1 := by omega
    go_still_tail 12, (by kernel_rfl)
    change wpList _ _ _ _ _ w1.drew
    have c0 : w1.drew.cell? ⟨rb, 1, none⟩ = some (.slice (some ⟨g, off, none⟩) (r.length + 1) cap) := H.out.drewN 1 |>.obj.cell 1
    have f0 : w1.drew.frozen? ⟨rb, 1, none⟩ = false := H.out.drewN 1 |>.obj.free 1
    clear H
    generalize w1.drew = w2 at *
    go_wp2
    go_ret2
    exact ⟨rfl, ⟨HS.out.2.os, HS.out.2.tape, HS.out.2.output, HS.out.2.size, HS.out.2.block⟩, _, _, HS.out.1⟩
set_option maxRecDepth 100000 in
theorem rtake_none1 (E : Nat → Prop) (rb n : Nat) (fl g : Bool) (l0 : List ByteArray) (w : World) (h : RQ w E rb n fl l0 []) :
    Calls Try.prog 30 #[.pointer (some ⟨rb, 0, none⟩), .bool true, .bool g] w fun e w' => e = .returned (.tuple #[.string (⟨#[]⟩ : ByteArray), .bool false]) ∧ w' = w := by
  obtain ⟨v0, v1, h⟩ := h
  obtain ⟨a, c, rfl⟩ := h.form1
  have c0 : w.cell? ⟨rb, 2, none⟩ = some (.slice a 0 c) := h.obj.cell 2
  clear h
  go_enter Try.func30, Try.ntmps30
  go_wp2_with fail
  refine (class_t _).mono ?_
  rintro e w1 ⟨rfl, rfl⟩
  go_wp2
  go_ret2
  exact ⟨rfl, rfl⟩
set_option maxRecDepth 100000 in
theorem rtake_look1 (E : Nat → Prop) (rb n : Nat) (fl : Bool) (x : ByteArray) (r l0 : List ByteArray) (w : World) (h : RQ w E rb n fl l0 (x :: r)) (hl : r.length ≤ 1000) :
    Calls Try.prog 30 #[.pointer (some ⟨rb, 0, none⟩), .bool true, .bool false] w fun e w' => e = .returned (.tuple #[.string x, .bool true]) ∧ w' = w := by
  obtain ⟨v0, v1, h⟩ := h
  obtain ⟨g, off, cap, rfl, h1, h2⟩ := h.r1.head
  have c0 : w.cell? ⟨rb, 2, none⟩ = some (.slice (some ⟨g, off, none⟩) (r.length + 1) cap) := h.obj.cell 2
  have hp : (0 : Int) < (r.length : Int) + 1 := by omega
  have hp2 : ((r.length : Int) + 1 == 0) = false := by simp; omega
  clear h
  go_enter Try.func30, Try.ntmps30
  go_wp2_with fail
  refine (class_t _).mono ?_
  rintro e w1 ⟨rfl, rfl⟩
  go_wp2
  go_ret2
  exact ⟨rfl, rfl⟩
set_option maxRecDepth 100000 in
theorem rtake_go1 (E : Nat → Prop) (rb n : Nat) (fl : Bool) (x : ByteArray) (r l0 : List ByteArray) (w : World) (h : RQ w E rb n fl l0 (x :: r)) (hl : r.length ≤ 1000) :
    Calls Try.prog 30 #[.pointer (some ⟨rb, 0, none⟩), .bool true, .bool true] w fun e w' => e = .returned (.tuple #[.string x, .bool true]) ∧ Keep (fun k => ¬ E k) w w' ∧ RQ w' E rb n fl l0 r := by
  obtain ⟨v0, v1, h⟩ := h
  obtain ⟨g, off, cap, rfl, h1, h2⟩ := h.r1.head
  have c0 : w.cell? ⟨rb, 2, none⟩ = some (.slice (some ⟨g, off, none⟩) (r.length + 1) cap) := h.obj.cell 2
  have f0 : w.frozen? ⟨rb, 2, none⟩ = false := h.obj.free 2
  have hp : (0 : Int) < (r.length : Int) + 1 := by omega
  have hp2 : ((r.length : Int) + 1 == 0) = false := by simp; omega
  have H := Lib.hid h
  clear h
  go_enter Try.func30, Try.ntmps30
  go_wp2_with fail
  refine (class_t _).mono ?_
  rintro e w1 ⟨rfl, rfl⟩
  go_wp2_with fail
  by_cases hcap : cap = 1
  · subst hcap
    obtain rfl : r = [] := List.eq_nil_of_length_eq_zero (by omega)
    have HS := Lib.hid ((H.out.drewN 1).put1 (w2 := w1.drew) ((H.out.drewN 1).r1.last) (grown_refl _ _) (.inl rfl))
    go_still_tail 12, (by kernel_rfl)
    change wpList _ _ _ _ _ w1.drew
    have c0 : w1.drew.cell? ⟨rb, 2, none⟩ = some (.slice (some ⟨g, off, none⟩) 1 1) := H.out.drewN 1 |>.obj.cell 2
    have f0 : w1.drew.frozen? ⟨rb, 2, none⟩ = false := H.out.drewN 1 |>.obj.free 2
    clear H
    generalize w1.drew = w2 at *
    go_wp2
    go_ret2
    exact ⟨rfl, ⟨HS.out.2.os, HS.out.2.tape, HS.out.2.output, HS.out.2.size, HS.out.2.block⟩, _, _, HS.out.1⟩
  · have HS := Lib.hid ((H.out.drewN 1).put1 (w2 := w1.drew) ((H.out.drewN 1).r1.tail) (grown_refl _ _) (.inl rfl))
    have hcap' : ¬ (cap ≤ 1) := by omega
    have hcap2 : ¬ (1 = cap) := by omega
    have hcap3 : 1 < cap := by omega
    have hp3 : (1 : Int) ≤ (r.length : Int) + 1 := by omega
    go_still_tail 12, (by kernel_rfl)
    change wpList _ _ _ _ _ w1.drew
    have c0 : w1.drew.cell? ⟨rb, 2, none⟩ = some (.slice (some ⟨g, off, none⟩) (r.length + 1) cap) := H.out.drewN 1 |>.obj.cell 2
    have f0 : w1.drew.frozen? ⟨rb, 2, none⟩ = false := H.out.drewN 1 |>.obj.free 2
    clear H
    generalize w1.drew = w2 at *
    go_wp2
    go_ret2
    exact ⟨rfl, ⟨HS.out.2.os, HS.out.2.tape, HS.out.2.output, HS.out.2.size, HS.out.2.block⟩, _, _, HS.out.1⟩
set_option maxRecDepth 100000 in
theorem rput_full0 (E : Nat → Prop) (rb n : Nat) (fl : Bool) (x : ByteArray) (l0 l1 : List ByteArray) (w : World) (h : RQ w E rb n fl l0 l1) (hn : n ≤ 64) (hl : l0.length + l1.length = n) :
    Calls Try.prog 27 #[.pointer (some ⟨rb, 0, none⟩), .string x, .bool false] w fun e w' => e = .returned (.int .i64 8) ∧ Keep (fun k => ¬ E k) w w' ∧ RQ w' E rb n true l0 l1 := by
  obtain ⟨v0, v1, h⟩ := h
  obtain ⟨a0, c0', rfl⟩ := h.form0
  obtain ⟨a1, c1', rfl⟩ := h.form1
  have p0 : w.cell? ⟨rb, 0, none⟩ = some (.int .i64 (n : Int)) := h.obj.cell 0
  have p1 : w.cell? ⟨rb, 1, none⟩ = some (.slice a0 l0.length c0') := h.obj.cell 1
  have p2 : w.cell? ⟨rb, 2, none⟩ = some (.slice a1 l1.length c1') := h.obj.cell 2
  have hw : IntKind.i64.wrap ((l0.length : Int) + (l1.length : Int)) = (l0.length : Int) + (l1.length : Int) := IntWalk.i64_in _ (by omega)
  have hge : decide ((n : Int) ≤ (l0.length : Int) + (l1.length : Int)) = true := by simp; omega
  have H := Lib.hid h
  clear h
  go_enter Try.func27, Try.ntmps27
  go_wp2_with fail
  go_quiet (fail)
  have H2 := Lib.hid ((H.out.drewN nq).fault true)
  have p3 : (w.drewN nq).cell? ⟨rb, 3, none⟩ = some (.bool fl) := (H.out.drewN nq).obj.cell 3
  have f3 : (w.drewN nq).frozen? ⟨rb, 3, none⟩ = false := (H.out.drewN nq).obj.free 3
  clear p0 p1 p2 H
  have HK := Lib.hid (show Keep (fun k => ¬ E k) w (w.drewN nq) from (Keep.refl _ w).drewN nq)
  generalize w.drewN nq = w1 at *
  go_wp2
  go_ret
  exact ⟨rfl, HK.out.trans H2.out.2, _, _, H2.out.1⟩
set_option maxRecDepth 100000 in
theorem rput_room0 (E : Nat → Prop) (rb n : Nat) (fl : Bool) (x : ByteArray) (l0 l1 : List ByteArray) (w : World) (h : RQ w E rb n fl l0 l1) (hn : n ≤ 64) (hl : l0.length + l1.length < n) :
    Calls Try.prog 27 #[.pointer (some ⟨rb, 0, none⟩), .string x, .bool false] w fun e w' => e = .returned (.int .i64 0) ∧ Keep (fun k => ¬ E k) w w' ∧ RQ w' E rb n fl (l0 ++ [x]) l1 := by
  obtain ⟨v0, v1, h⟩ := h
  obtain ⟨a0, c0', rfl⟩ := h.form0
  obtain ⟨a1, c1', rfl⟩ := h.form1
  have p0 : w.cell? ⟨rb, 0, none⟩ = some (.int .i64 (n : Int)) := h.obj.cell 0
  have p1 : w.cell? ⟨rb, 1, none⟩ = some (.slice a0 l0.length c0') := h.obj.cell 1
  have p2 : w.cell? ⟨rb, 2, none⟩ = some (.slice a1 l1.length c1') := h.obj.cell 2
  have hw : IntKind.i64.wrap ((l0.length : Int) + (l1.length : Int)) = (l0.length : Int) + (l1.length : Int) := IntWalk.i64_in _ (by omega)
  have hge : decide ((n : Int) ≤ (l0.length : Int) + (l1.length : Int)) = false := by simp; omega
  have H := Lib.hid h
  obtain ⟨ii, hi1, hi2, hi3, hi4⟩ := string_info
  have HI := Lib.hid (And.intro hi1 (And.intro hi2 (And.intro hi3 hi4)))
  have HLL := Lib.hid (show l0.length ≤ 1000 ∧ l1.length ≤ 1000 by omega)
  clear h hi1 hi2 hi3 hi4
  go_enter Try.func27, Try.ntmps27
  go_wp2_with fail
  go_quiet (fail)
  have H1 := Lib.hid (H.out.drewN nq)
  have HK := Lib.hid (show Keep (fun k => ¬ E k) w (w.drewN nq) from (Keep.refl _ w).drewN nq)
  clear p0 p1 p2 H hw hge
  generalize w.drewN nq = w1 at *
  go_wp2_with fail
  refine (class_f _).mono ?_
  rintro e w1' ⟨rfl, rfl⟩
  go_wp2_with fail
  have HD := Lib.hid (H1.out.drewN 1)
  have HKD := Lib.hid (HK.out.drewN 1)
  have HA := Lib.hid (show RAt (w1'.alloc (.cells #[.string x] 9)).drew _ rb n fl (.slice a0 l0.length c0') (.slice a1 l1.length c1') l0 l1 from (H1.out.drewN 1).alloc (.cells #[.string x] 9))
  have HO := Lib.hid (show ObjAt w1'.drew rb #[.int .i64 (n : Int), .slice a0 l0.length c0', .slice a1 l1.length c1', .bool fl] 61 from H1.out.obj)
  clear H1 HK
  have hc1 : w1'.drew.cell? ⟨rb, 1, none⟩ = some (.slice a0 l0.length c0') := HO.out.cell 1
  have hc2 : (w1'.alloc (.cells #[.string x] 9)).drew.cell? ⟨rb, 1, none⟩ = some (.slice a0 l0.length c0') := (HO.out.alloc _).cell 1
  have hf1 : w1'.drew.frozen? ⟨rb, 1, none⟩ = false := HO.out.free 1
  go_region_law
    ((refine step_append_t (by rfl) _ _ 58 (by rfl) _ (fun k hk => hk.elim (HA.out.lt k) (fun e => e ▸ HA.out.obj.lt)) ii _ (by kernel_rfl) HI.out.1 HI.out.2.1 HI.out.2.2.1 HI.out.2.2.2 rfl (.slice a0 l0.length c0') l0 (by rfl) HA.out.r0 ⟨w1'.drew.heap.size, 0, none⟩ x (by rfl) ((ObjAt.new w1'.drew #[.string x] 9).cell 0) HLL.out.1 ?_; intro ad' c'' w5 h2 h3 h4; have HX := Lib.hid (show ObjAt w5 rb _ _ from (h3.block rb HA.out.obj.lt (fun e => (HA.out.r0.own rb e.symm).1 (.inr rfl))).trans HA.out.obj); have hc5 : w5.cell? ⟨rb, 1, none⟩ = some (.slice a0 l0.length c0') := HX.out.cell 1; have hf5 : w5.frozen? ⟨rb, 1, none⟩ = false := HX.out.free 1))
  all_goals
    have HF := HA.out.put0 h2 h3 (h4.imp_right fun h => ⟨_, rfl, h⟩)
    have HR := Lib.hid (show RQ (w5.setCell ⟨rb, 1, none⟩ (.slice (some ad') (l0.length + 1) c'')) E rb n fl (l0 ++ [x]) l1 from ⟨_, _, HF.1.mono (fun k hk => .inl hk)⟩)
    have HK := Lib.hid (show Keep (fun k => ¬ E k) w (w5.setCell ⟨rb, 1, none⟩ (.slice (some ad') (l0.length + 1) c'')) from (HKD.out.alloc (.cells #[.string x] 9)).trans (HF.2.mono fun k _ h he => h (.inl he)))
    clear HF h2 h3 h4 HX hc5 hf5 hc1 hc2 hf1 HA HD HO HKD
    go_wp2
    go_ret
    exact ⟨rfl, HK.out, HR.out⟩
set_option maxRecDepth 100000 in
theorem rput_full1 (E : Nat → Prop) (rb n : Nat) (fl : Bool) (x : ByteArray) (l0 l1 : List ByteArray) (w : World) (h : RQ w E rb n fl l0 l1) (hn : n ≤ 64) (hl : l0.length + l1.length = n) :
    Calls Try.prog 27 #[.pointer (some ⟨rb, 0, none⟩), .string x, .bool true] w fun e w' => e = .returned (.int .i64 8) ∧ Keep (fun k => ¬ E k) w w' ∧ RQ w' E rb n true l0 l1 := by
  obtain ⟨v0, v1, h⟩ := h
  obtain ⟨a0, c0', rfl⟩ := h.form0
  obtain ⟨a1, c1', rfl⟩ := h.form1
  have p0 : w.cell? ⟨rb, 0, none⟩ = some (.int .i64 (n : Int)) := h.obj.cell 0
  have p1 : w.cell? ⟨rb, 1, none⟩ = some (.slice a0 l0.length c0') := h.obj.cell 1
  have p2 : w.cell? ⟨rb, 2, none⟩ = some (.slice a1 l1.length c1') := h.obj.cell 2
  have hw : IntKind.i64.wrap ((l0.length : Int) + (l1.length : Int)) = (l0.length : Int) + (l1.length : Int) := IntWalk.i64_in _ (by omega)
  have hge : decide ((n : Int) ≤ (l0.length : Int) + (l1.length : Int)) = true := by simp; omega
  have H := Lib.hid h
  clear h
  go_enter Try.func27, Try.ntmps27
  go_wp2_with fail
  go_quiet (fail)
  have H2 := Lib.hid ((H.out.drewN nq).fault true)
  have p3 : (w.drewN nq).cell? ⟨rb, 3, none⟩ = some (.bool fl) := (H.out.drewN nq).obj.cell 3
  have f3 : (w.drewN nq).frozen? ⟨rb, 3, none⟩ = false := (H.out.drewN nq).obj.free 3
  clear p0 p1 p2 H
  have HK := Lib.hid (show Keep (fun k => ¬ E k) w (w.drewN nq) from (Keep.refl _ w).drewN nq)
  generalize w.drewN nq = w1 at *
  go_wp2
  go_ret
  exact ⟨rfl, HK.out.trans H2.out.2, _, _, H2.out.1⟩
set_option maxRecDepth 100000 in
theorem rput_room1 (E : Nat → Prop) (rb n : Nat) (fl : Bool) (x : ByteArray) (l0 l1 : List ByteArray) (w : World) (h : RQ w E rb n fl l0 l1) (hn : n ≤ 64) (hl : l0.length + l1.length < n) :
    Calls Try.prog 27 #[.pointer (some ⟨rb, 0, none⟩), .string x, .bool true] w fun e w' => e = .returned (.int .i64 0) ∧ Keep (fun k => ¬ E k) w w' ∧ RQ w' E rb n fl l0 (l1 ++ [x]) := by
  obtain ⟨v0, v1, h⟩ := h
  obtain ⟨a0, c0', rfl⟩ := h.form0
  obtain ⟨a1, c1', rfl⟩ := h.form1
  have p0 : w.cell? ⟨rb, 0, none⟩ = some (.int .i64 (n : Int)) := h.obj.cell 0
  have p1 : w.cell? ⟨rb, 1, none⟩ = some (.slice a0 l0.length c0') := h.obj.cell 1
  have p2 : w.cell? ⟨rb, 2, none⟩ = some (.slice a1 l1.length c1') := h.obj.cell 2
  have hw : IntKind.i64.wrap ((l0.length : Int) + (l1.length : Int)) = (l0.length : Int) + (l1.length : Int) := IntWalk.i64_in _ (by omega)
  have hge : decide ((n : Int) ≤ (l0.length : Int) + (l1.length : Int)) = false := by simp; omega
  have H := Lib.hid h
  obtain ⟨ii, hi1, hi2, hi3, hi4⟩ := string_info
  have HI := Lib.hid (And.intro hi1 (And.intro hi2 (And.intro hi3 hi4)))
  have HLL := Lib.hid (show l0.length ≤ 1000 ∧ l1.length ≤ 1000 by omega)
  clear h hi1 hi2 hi3 hi4
  go_enter Try.func27, Try.ntmps27
  go_wp2_with fail
  go_quiet (fail)
  have H1 := Lib.hid (H.out.drewN nq)
  have HK := Lib.hid (show Keep (fun k => ¬ E k) w (w.drewN nq) from (Keep.refl _ w).drewN nq)
  clear p0 p1 p2 H hw hge
  generalize w.drewN nq = w1 at *
  go_wp2_with fail
  refine (class_t _).mono ?_
  rintro e w1' ⟨rfl, rfl⟩
  go_wp2_with fail
  have HD := Lib.hid (H1.out.drewN 1)
  have HKD := Lib.hid (HK.out.drewN 1)
  have HA := Lib.hid (show RAt (w1'.alloc (.cells #[.string x] 9)).drew _ rb n fl (.slice a0 l0.length c0') (.slice a1 l1.length c1') l0 l1 from (H1.out.drewN 1).alloc (.cells #[.string x] 9))
  have HO := Lib.hid (show ObjAt w1'.drew rb #[.int .i64 (n : Int), .slice a0 l0.length c0', .slice a1 l1.length c1', .bool fl] 61 from H1.out.obj)
  clear H1 HK
  have hc1 : w1'.drew.cell? ⟨rb, 2, none⟩ = some (.slice a1 l1.length c1') := HO.out.cell 2
  have hc2 : (w1'.alloc (.cells #[.string x] 9)).drew.cell? ⟨rb, 2, none⟩ = some (.slice a1 l1.length c1') := (HO.out.alloc _).cell 2
  have hf1 : w1'.drew.frozen? ⟨rb, 2, none⟩ = false := HO.out.free 2
  go_region_law
    ((refine step_append_t (by rfl) _ _ 58 (by rfl) _ (fun k hk => hk.elim (HA.out.lt k) (fun e => e ▸ HA.out.obj.lt)) ii _ (by kernel_rfl) HI.out.1 HI.out.2.1 HI.out.2.2.1 HI.out.2.2.2 rfl (.slice a1 l1.length c1') l1 (by rfl) HA.out.r1 ⟨w1'.drew.heap.size, 0, none⟩ x (by rfl) ((ObjAt.new w1'.drew #[.string x] 9).cell 0) HLL.out.2 ?_; intro ad' c'' w5 h2 h3 h4; have HX := Lib.hid (show ObjAt w5 rb _ _ from (h3.block rb HA.out.obj.lt (fun e => (HA.out.r1.own rb e.symm).1 (.inr rfl))).trans HA.out.obj); have hc5 : w5.cell? ⟨rb, 2, none⟩ = some (.slice a1 l1.length c1') := HX.out.cell 2; have hf5 : w5.frozen? ⟨rb, 2, none⟩ = false := HX.out.free 2))
  all_goals
    have HF := HA.out.put1 h2 h3 (h4.imp_right fun h => ⟨_, rfl, h⟩)
    have HR := Lib.hid (show RQ (w5.setCell ⟨rb, 2, none⟩ (.slice (some ad') (l1.length + 1) c'')) E rb n fl l0 (l1 ++ [x]) from ⟨_, _, HF.1.mono (fun k hk => .inl hk)⟩)
    have HK := Lib.hid (show Keep (fun k => ¬ E k) w (w5.setCell ⟨rb, 2, none⟩ (.slice (some ad') (l1.length + 1) c'')) from (HKD.out.alloc (.cells #[.string x] 9)).trans (HF.2.mono fun k _ h he => h (.inl he)))
    clear HF h2 h3 h4 HX hc5 hf5 hc1 hc2 hf1 HA HD HO HKD
    go_wp2
    go_ret
    exact ⟨rfl, HK.out, HR.out⟩
end Go.Proofs.Ytkeeledkdoiglaa.Qr
