/- QueueOrder: awake; the closure that pulls. -/
import Derived.Test.YtkeeledkdoiglaaQoBase
import Derived.Deep.AppendLies
namespace Go.Proofs.Ytkeeledkdoiglaa.Qo
open Go.RowKit Go.Proofs.Ytkeeledkdoiglaa
set_option maxRecDepth 100000 in
set_option maxHeartbeats 4000000 in
theorem awake10_any (w : World) : Calls Try.prog 23 #[] w fun e w' => e = .returned (.bool true) ∧ Below w.heap.size w w' := by
  go_enter Try.func23, Try.ntmps23
  go_wp2_with fail
  refine (Qs.newQ 1 w).mono ?_
  rintro e w1 ⟨qb, cb, hqb, hcb, rfl, hb1, hq1⟩
  have HB1 := Lib.hid hb1
  have HGE := Lib.hid (And.intro hqb hcb)
  have hn1 : (min (max (1 : Int) 0) 64).toNat = 1 := by decide
  rw [hn1] at hq1
  have HQ1 := Lib.hid hq1
  clear hb1 hqb hcb hn1 hq1
  go_wp2_with fail
  refine (Qs.putQ qb cb 1 false true ⟨#[97]⟩ [] [] w1 HQ1.out).mono ?_
  rintro e w2 ⟨rfl, hk2, hq2⟩
  have HK2 := Lib.hid (HB1.out.trans (hk2.below HB1.out.size (by intro k h1 h2; have := HGE.out; omega)))
  have HQ2 := Lib.hid (show Qs.QIs w2 qb cb 1 false [] [⟨#[97]⟩] from hq2)
  clear hk2 hq2
  go_wp2_with fail
  refine (Qs.putQ qb cb 1 false false ⟨#[98]⟩ [] [⟨#[97]⟩] w2 HQ2.out).mono ?_
  rintro e w3 ⟨rfl, hk3, hq3⟩
  have HK3 := Lib.hid (HK2.out.trans (hk3.below HK2.out.size (by intro k h1 h2; have := HGE.out; omega)))
  have HQ3 := Lib.hid (show Qs.QIs w3 qb cb 1 true [] [⟨#[97]⟩] from hq3)
  clear hk3 hq3
  go_wp2_with fail
  refine (Qs.takeQ qb cb 1 true true [] [⟨#[97]⟩] w3 HQ3.out).mono ?_
  rintro e w4 ⟨he4, hk4, hq4⟩
  obtain rfl : e = .returned (.tuple #[.string ⟨#[97]⟩, .bool true]) := he4
  have HK4 := Lib.hid (HK3.out.trans (hk4.below HK3.out.size (by intro k h1 h2; have := HGE.out; omega)))
  have HQ4 := Lib.hid (show Qs.QIs w4 qb cb 1 true [] [] from hq4)
  clear hk4 hq4
  go_wp2_with fail
  refine (Qs.faultQ qb cb 1 true [] [] w4 HQ4.out).mono ?_
  rintro e w5 ⟨rfl, hk5, hq5⟩
  have HK5 := Lib.hid (HK4.out.trans (hk5.below HK4.out.size (by intro k h1 h2; have := HGE.out; omega)))
  have HQ5 := Lib.hid hq5
  clear hk5 hq5
  go_wp2_with fail
  refine (Qs.faultQ qb cb 1 false [] [] w5 HQ5.out).mono ?_
  rintro e w6 ⟨rfl, hk6, hq6⟩
  have HK6 := Lib.hid (HK5.out.trans (hk6.below HK5.out.size (by intro k h1 h2; have := HGE.out; omega)))
  clear hk6 hq6
  go_wp2
  go_ret
  exact ⟨rfl, HK6.out⟩
theorem int_info : ∃ i, Try.prog.info? 3 = some i ∧ i.zero = some (.int .i64 0) ∧ i.size = 1 ∧ i.bytes = 8 := by
  have h : (Try.prog.info? 3).map (fun i => (i.zero, i.size, i.bytes)) = some (some (.int .i64 0), 1, 8) := by kernel_rfl
  obtain ⟨i, hi, hzz⟩ := Option.map_eq_some_iff.1 h
  simp only [Prod.mk.injEq] at hzz
  exact ⟨i, hi, hzz.1, hzz.2.1, hzz.2.2⟩

set_option maxRecDepth 100000 in
set_option maxHeartbeats 4000000 in
theorem pull0_none {w0 w : World} {b8 b9 b10 qb cb n base : Nat} {fl : Bool} {l1 i0 i1 o0 o1 : List Int} {vi0 vi1 vo0 vo1 : Value} (h : QO w0 w b8 b9 b10 qb cb n base fl [] l1 i0 i1 o0 o1 vi0 vi1 vo0 vo1) :
    Calls Try.prog 37 #[.bool false, .pointer (some ⟨b8, 0, none⟩), .pointer (some ⟨b10, 0, none⟩)] w fun e w' => e = .returned (.tuple #[]) ∧ QO w0 w' b8 b9 b10 qb cb n base fl [] l1 i0 i1 o0 o1 vi0 vi1 vo0 vo1 := by
  have c8 : w.cell? ⟨b8, 0, none⟩ = some (.pointer (some ⟨qb, 0, none⟩)) := h.c8.cell 0
  have H := Lib.hid h
  clear h
  go_enter Try.func37, Try.ntmps37
  go_wp2_with fail
  refine (Qi.takeQ qb cb n fl false [] l1 w H.out.q).mono ?_
  rintro e w1 ⟨he, hk, hq⟩
  obtain rfl : e = .returned (.tuple #[.int .i64 0, .bool false]) := he
  have H1 := Lib.hid (H.out.queue hk hq)
  clear hk hq c8
  go_wp2
  go_end0
  exact ⟨rfl, H1.out⟩

set_option maxRecDepth 100000 in
set_option maxHeartbeats 4000000 in
theorem pull0_some {w0 w : World} {b8 b9 b10 qb cb n base : Nat} {fl : Bool} {x : Int} {r l1 i0 i1 o0 o1 : List Int} {vi0 vi1 vo0 vo1 : Value} (h : QO w0 w b8 b9 b10 qb cb n base fl (x :: r) l1 i0 i1 o0 o1 vi0 vi1 vo0 vo1) (ho : o0.length ≤ 1000) :
    Calls Try.prog 37 #[.bool false, .pointer (some ⟨b8, 0, none⟩), .pointer (some ⟨b10, 0, none⟩)] w fun e w' => e = .returned (.tuple #[]) ∧ ∃ v', QO w0 w' b8 b9 b10 qb cb n base fl r l1 i0 i1 (o0 ++ [x]) o1 vi0 vi1 v' vo1 := by
  have c8 : w.cell? ⟨b8, 0, none⟩ = some (.pointer (some ⟨qb, 0, none⟩)) := h.c8.cell 0
  have H := Lib.hid h
  have HLEN := Lib.hid ho
  clear h ho
  go_enter Try.func37, Try.ntmps37
  go_wp2_with fail
  refine (Qi.takeQ qb cb n fl false (x :: r) l1 w H.out.q).mono ?_
  rintro e w1 ⟨he, hk, hq⟩
  obtain rfl : e = .returned (.tuple #[.int .i64 x, .bool true]) := he
  have H1 := Lib.hid (show QO w0 w1 b8 b9 b10 qb cb n base fl r l1 i0 i1 o0 o1 vi0 vi1 vo0 vo1 from H.out.queue hk hq)
  clear hk hq c8
  have c0 : w1.cell? ⟨b10, 0, none⟩ = some vo0 := H1.out.a10.cell 0
  obtain ⟨ii, hi1, hi2, hi3, hi4⟩ := int_info
  have HI := Lib.hid (And.intro hi1 (And.intro hi2 (And.intro hi3 hi4)))
  clear hi1 hi2 hi3 hi4
  go_wp2_with (at_builtin; refine wpList_append_one rfl (.tmp 18) (.tmp 20) 34 rfl base 3 ii (.int .i64 0) 8 (by kernel_rfl) HI.out.1 HI.out.2.1 HI.out.2.2.1 HI.out.2.2.2 rfl vo0 o0.length (ints o0) (.int .i64 x) rfl H1.out.ro0 rfl rfl (by have := HLEN.out; unfold maxLen; omega) (by have := HLEN.out; omega) H1.out.heap ?_)
  intro v' w2 ho hg hv
  obtain ⟨gn, capn, rfl, -, -⟩ := ho.form (by omega)
  have H2 := Lib.hid (H1.out.put_vo0 ho hg hv)
  have hb10 : w2.heap[b10]? = w1.heap[b10]? := by
    have hl := H1.out.lt
    exact hg.block b10 (by omega) (fun e => by have := (H1.out.ro0.lt b10 e.symm).1; omega)
  have c1 : w2.cell? ⟨b10, 0, none⟩ = some vo0 := (World.cell?_of_block (a := ⟨b10, 0, none⟩) hb10).trans c0
  have f1 : w2.frozen? ⟨b10, 0, none⟩ = false := (World.frozen?_of_block (a := ⟨b10, 0, none⟩) hb10).trans (H1.out.a10.free 0)
  clear ho hg hv c0 hb10
  go_wp2
  go_end0
  exact ⟨rfl, _, H2.out⟩

set_option maxRecDepth 100000 in
set_option maxHeartbeats 4000000 in
theorem pull1_none {w0 w : World} {b8 b9 b10 qb cb n base : Nat} {fl : Bool} {l0 i0 i1 o0 o1 : List Int} {vi0 vi1 vo0 vo1 : Value} (h : QO w0 w b8 b9 b10 qb cb n base fl l0 [] i0 i1 o0 o1 vi0 vi1 vo0 vo1) :
    Calls Try.prog 37 #[.bool true, .pointer (some ⟨b8, 0, none⟩), .pointer (some ⟨b10, 0, none⟩)] w fun e w' => e = .returned (.tuple #[]) ∧ QO w0 w' b8 b9 b10 qb cb n base fl l0 [] i0 i1 o0 o1 vi0 vi1 vo0 vo1 := by
  have c8 : w.cell? ⟨b8, 0, none⟩ = some (.pointer (some ⟨qb, 0, none⟩)) := h.c8.cell 0
  have H := Lib.hid h
  clear h
  go_enter Try.func37, Try.ntmps37
  go_wp2_with fail
  refine (Qi.takeQ qb cb n fl true l0 [] w H.out.q).mono ?_
  rintro e w1 ⟨he, hk, hq⟩
  obtain rfl : e = .returned (.tuple #[.int .i64 0, .bool false]) := he
  have H1 := Lib.hid (H.out.queue hk hq)
  clear hk hq c8
  go_wp2
  go_end0
  exact ⟨rfl, H1.out⟩

set_option maxRecDepth 100000 in
set_option maxHeartbeats 4000000 in
theorem pull1_some {w0 w : World} {b8 b9 b10 qb cb n base : Nat} {fl : Bool} {x : Int} {r l0 i0 i1 o0 o1 : List Int} {vi0 vi1 vo0 vo1 : Value} (h : QO w0 w b8 b9 b10 qb cb n base fl l0 (x :: r) i0 i1 o0 o1 vi0 vi1 vo0 vo1) (ho : o1.length ≤ 1000) :
    Calls Try.prog 37 #[.bool true, .pointer (some ⟨b8, 0, none⟩), .pointer (some ⟨b10, 0, none⟩)] w fun e w' => e = .returned (.tuple #[]) ∧ ∃ v', QO w0 w' b8 b9 b10 qb cb n base fl l0 r i0 i1 o0 (o1 ++ [x]) vi0 vi1 vo0 v' := by
  have c8 : w.cell? ⟨b8, 0, none⟩ = some (.pointer (some ⟨qb, 0, none⟩)) := h.c8.cell 0
  have H := Lib.hid h
  have HLEN := Lib.hid ho
  clear h ho
  go_enter Try.func37, Try.ntmps37
  go_wp2_with fail
  refine (Qi.takeQ qb cb n fl true l0 (x :: r) w H.out.q).mono ?_
  rintro e w1 ⟨he, hk, hq⟩
  obtain rfl : e = .returned (.tuple #[.int .i64 x, .bool true]) := he
  have H1 := Lib.hid (show QO w0 w1 b8 b9 b10 qb cb n base fl l0 r i0 i1 o0 o1 vi0 vi1 vo0 vo1 from H.out.queue hk hq)
  clear hk hq c8
  have c0 : w1.cell? ⟨b10, 1, none⟩ = some vo1 := H1.out.a10.cell 1
  obtain ⟨ii, hi1, hi2, hi3, hi4⟩ := int_info
  have HI := Lib.hid (And.intro hi1 (And.intro hi2 (And.intro hi3 hi4)))
  clear hi1 hi2 hi3 hi4
  go_wp2_with (at_builtin; refine wpList_append_one rfl (.tmp 18) (.tmp 20) 34 rfl base 3 ii (.int .i64 0) 8 (by kernel_rfl) HI.out.1 HI.out.2.1 HI.out.2.2.1 HI.out.2.2.2 rfl vo1 o1.length (ints o1) (.int .i64 x) rfl H1.out.ro1 rfl rfl (by have := HLEN.out; unfold maxLen; omega) (by have := HLEN.out; omega) H1.out.heap ?_)
  intro v' w2 ho hg hv
  obtain ⟨gn, capn, rfl, -, -⟩ := ho.form (by omega)
  have H2 := Lib.hid (H1.out.put_vo1 ho hg hv)
  have hb10 : w2.heap[b10]? = w1.heap[b10]? := by
    have hl := H1.out.lt
    exact hg.block b10 (by omega) (fun e => by have := (H1.out.ro1.lt b10 e.symm).1; omega)
  have c1 : w2.cell? ⟨b10, 1, none⟩ = some vo1 := (World.cell?_of_block (a := ⟨b10, 1, none⟩) hb10).trans c0
  have f1 : w2.frozen? ⟨b10, 1, none⟩ = false := (World.frozen?_of_block (a := ⟨b10, 1, none⟩) hb10).trans (H1.out.a10.free 1)
  clear ho hg hv c0 hb10
  go_wp2
  go_end0
  exact ⟨rfl, _, H2.out⟩
end Go.Proofs.Ytkeeledkdoiglaa.Qo
