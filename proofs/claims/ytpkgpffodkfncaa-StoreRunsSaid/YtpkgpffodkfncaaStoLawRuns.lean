/- The law StoreRuns: whatever is done, a store answers as the document says, and has its bytes. -/
import Derived.Test.YtpkgpffodkfncaaStoActs
import Derived.Test.YtpkgpffodkfncaaStoRef3
namespace Go.Proofs.Ytpkgpffodkfncaa
open Go.RowKit Go.ChangeShapes Go.WideShapes
structure RunAt (w0 wr : World) (b1 g1 cap1 b2 g2 cap2 : Nat) (d0 : Sto) (xs : List ActV) (k : Nat) : Prop where
  one : StoAt wr b1 g1 cap1 ((xs.take k).foldl stepS d0)
  two : RAs wr b2 g2 cap2 ((xs.take k).foldl stepS d0)
  below : Below w0.heap.size w0 wr
  wrote : ((xs.take k).foldl stepS d0).wrote ≤ 100 * k
  left : ((xs.take k).foldl stepS d0).left ≤ 9223372036854775807
def RunR (w0 : World) (b1 g1 cap1 b2 g2 cap2 : Nat) (d0 : Sto) (xs : List ActV) (c : Value) (wr : World) : Prop := ∃ k, k ≤ xs.length ∧ c = .int .i64 (k : Int) ∧ RunAt w0 wr b1 g1 cap1 b2 g2 cap2 d0 xs k
theorem take_acts (xs : List ActV) (d0 : Sto) (k : Nat) (h : k < xs.length) : (xs.take (k + 1)).foldl stepS d0 = stepS ((xs.take k).foldl stepS d0) xs[k] := by
  rw [List.take_succ_eq_append_getElem h, List.foldl_append]
  rfl
theorem Below.drewN' {B : Nat} {a w : World} (h : Below B a w) (n : Nat) : Below B a (w.drewN n) := ⟨h.os, h.tape, h.output, h.size, h.block⟩
set_option maxRecDepth 100000 in
set_option maxHeartbeats 8000000 in
theorem runs_walk (size : Int) (hsize : -9223372036854775808 ≤ size ∧ size ≤ 9223372036854775807) (s : ByteArray) (hs : s.size ≤ 200) (v : Value) (xs : List ActV) (hl : xs.length ≤ 60) (hok : ∀ x ∈ xs, x.ok) {w : World} (hA : ActsAt w v xs) :
    Calls Try.prog 13 #[.int .i64 size, .string s, v] w fun e w' => e = .returned (.bool true) ∧ Below w.heap.size w w' := by
  obtain ⟨a, cap, b, o, rfl, hcap, hcm, hne, hcell⟩ := hA
  unfold maxLen at hcm
  have HC := Lib.hid (And.intro hne hcell)
  clear hne hcell
  have hs' : (s.size : Int) ≤ 200 := by omega
  have hl' : (xs.length : Int) ≤ 60 := by omega
  by_cases hs0 : s.size = 0
  · obtain rfl : s = ByteArray.empty := by
      cases s with | mk data => cases data with | mk l => cases l with
        | nil => rfl
        | cons x l => simp [ByteArray.size] at hs0
    go_enter Try.func13, Try.ntmps13
    go_wp2_with fail
    refine (sawake_any _).mono ?_
    rintro e w1 ⟨rfl, hb1⟩
    go_wp2_with fail
    refine (stoNew_int size hsize _).mono ?_
    rintro e w2 ⟨rfl, hS, hb2⟩
    go_wp2_with fail
    refine (rstNew_any size hsize _).mono ?_
    rintro e w3 ⟨rfl, hR, hb3⟩
    go_wp2_with fail
    have hS3 := hS.keep (Keep.of_below (S := fun _ => False) (hb3.mono (Nat.le_refl _))) (by simp) (by simp)
    have hsz2 : w1.heap.size + 1 < w2.heap.size := hS.obj.lt
    have hsz1 := hb1.size
    have hB3 : Below w.heap.size w w3 := (hb1.trans (hb2.mono hb1.size)).trans (hb3.mono (by omega))
    obtain ⟨d0, hd0⟩ : ∃ d0 : Sto, d0 = ⟨List.replicate (clampN size) 0, false, false, 0, 0⟩ := ⟨_, rfl⟩
    have R0 : RunAt w w3 (w1.heap.size + 1) w1.heap.size (clampN size) (w2.heap.size + 1) w2.heap.size (clampN size) d0 xs 0 := by
      rw [hd0]
      exact ⟨hS3, hR, hB3, by simp, by simp⟩
    have hge : (w.heap.size ≤ w1.heap.size + 1 ∧ w.heap.size ≤ w1.heap.size ∧ w.heap.size ≤ w2.heap.size + 1 ∧ w.heap.size ≤ w2.heap.size) ∧ w1.heap.size + 1 ≠ w2.heap.size + 1 ∧ w1.heap.size + 1 ≠ w2.heap.size ∧ w1.heap.size ≠ w2.heap.size + 1 ∧ w1.heap.size ≠ w2.heap.size := by omega
    generalize clampN size = cap1 at R0
    have hcc : ∃ cap2, cap2 = cap1 := ⟨_, rfl⟩
    generalize w1.heap.size + 1 = b1 at R0 hge ⊢
    generalize w1.heap.size = g1 at R0 hge
    generalize w2.heap.size + 1 = b2 at R0 hge ⊢
    generalize w2.heap.size = g2 at R0 hge
    obtain ⟨cap2, hcc⟩ := hcc
    rw [show RunAt w w3 b1 g1 cap1 b2 g2 cap1 d0 xs 0 = RunAt w w3 b1 g1 cap1 b2 g2 cap2 d0 xs 0 by rw [hcc]] at R0
    clear hS3 hR hS hb1 hb2 hb3 hsz1 hsz2 hB3 hd0 hcc
    have HGE := Lib.hid hge
    have HR0 := Lib.hid R0
    clear R0 hge
    go_loopw [35] (fun c wr => RunR w b1 g1 cap1 b2 g2 cap2 d0 xs c wr) (fun c _ => xs.length - (intOf c).toNat)
    case atStart => exact ⟨0, Nat.zero_le _, rfl, HR0.out⟩
    case round =>
      obtain ⟨k, hk, rfl, R⟩ := hrel
      have HRR := Lib.hid R
      by_cases hlt : k < xs.length
      · obtain ⟨rfl, hbw⟩ := HC.out.1 (by intro h; rw [h] at hlt; simp at hlt)
        obtain ⟨k0, k1, k2, k3⟩ := HC.out.2 k hlt
        have c0 : wr.cell? ⟨b, o + k * 4 + 0, none⟩ = some (.int .u8 (xs[k].what : Int)) := (R.below.cell (p := ⟨b, o + k * 4 + 0, none⟩) hbw).trans k0
        have c1 : wr.cell? ⟨b, o + k * 4 + 1, none⟩ = some (.int .i64 xs[k].at_) := (R.below.cell (p := ⟨b, o + k * 4 + 1, none⟩) hbw).trans k1
        have c2 : wr.cell? ⟨b, o + k * 4 + 2, none⟩ = some (.int .i64 xs[k].n) := (R.below.cell (p := ⟨b, o + k * 4 + 2, none⟩) hbw).trans k2
        have c3 : wr.cell? ⟨b, o + k * 4 + 3, none⟩ = some (.string xs[k].s) := (R.below.cell (p := ⟨b, o + k * 4 + 3, none⟩) hbw).trans k3
        rw [Nat.add_zero] at c0
        have hxok := hok _ (List.getElem_mem hlt)
        have htake := take_acts xs d0 k hlt
        obtain ⟨x, hx⟩ : ∃ x, x = xs[k] := ⟨_, rfl⟩
        rw [← hx] at c0 c1 c2 c3 hxok htake
        have HX := Lib.hid hx
        have HOK := Lib.hid hxok
        have HTK := Lib.hid htake
        have hlti : (k : Int) < (xs.length : Int) := by omega
        clear k0 k1 k2 k3 hx hxok htake R
        by_cases hbig : 100 < x.s.size
        · have hbigi : (100 : Int) < (x.s.size : Int) := by omega
          go_wp2
          go_ret
          exact ⟨rfl, HRR.out.below.alloc HRR.out.below.size _⟩
        · have hbigi : ¬ (100 : Int) < (x.s.size : Int) := by omega
          go_wp2_with fail
          have h1a := HRR.out.one.keep (Keep.of_below (S := fun _ => False) ((Below.refl wr.heap.size wr).alloc (Nat.le_refl _) (.cells #[.int .u8 (x.what : Int), .int .i64 x.at_, .int .i64 x.n, .string x.s] 72))) (by simp) (by simp)
          have h2a := RstAt.keep HRR.out.two (Keep.of_below (S := fun _ => False) ((Below.refl wr.heap.size wr).alloc (Nat.le_refl _) (.cells #[.int .u8 (x.what : Int), .int .i64 x.at_, .int .i64 x.n, .string x.s] 72))) (by simp) (by simp)
          have hwr := HRR.out.wrote
          refine (one_any b1 g1 cap1 b2 g2 cap2 _ x HOK.out (by omega) (by omega) HRR.out.left HGE.out.2.1 HGE.out.2.2.1 HGE.out.2.2.2.1 HGE.out.2.2.2.2 _ h1a h2a).mono ?_
          rintro e w9 ⟨rfl, hS9, hR9, hK9⟩
          have hB9 : Below w.heap.size w w9 := (HRR.out.below.alloc HRR.out.below.size _).trans (hK9.below (by simp; exact Nat.le_succ_of_le HRR.out.below.size) (fun j hj he => by have := HGE.out.1; omega))
          have hw9 := step_wrote ((xs.take k).foldl stepS d0) x
          have hl9 := step_left ((xs.take k).foldl stepS d0) x HRR.out.left HOK.out.2.2.2
          rw [← HTK.out] at hS9 hR9 hw9 hl9
          have HN := Lib.hid (show RunAt w w9 b1 g1 cap1 b2 g2 cap2 d0 xs (k + 1) from ⟨hS9, hR9, hB9, by omega, hl9⟩)
          clear h1a h2a hwr hS9 hR9 hK9 hB9 hw9 hl9
          go_wp2_with fail
          go_roundw
          case rel => exact ⟨k + 1, by omega, by go_num, HN.out⟩
          case measure => simp [intOf]; omega
      · have hkl : k = xs.length := by omega
        have hS := R.one
        have hR := R.two
        obtain ⟨d9, hd9⟩ : ∃ d9, d9 = (xs.take k).foldl stepS d0 := ⟨_, rfl⟩
        rw [← hd9] at hS hR
        subst hkl
        have hlm := hS.most
        have c0 : wr.cell? ⟨b2, 0, none⟩ = some (.slice (some ⟨g2, 0, none⟩) d9.l.length cap2) := (RstAt.obj hR).cell 0
        obtain ⟨t, ht⟩ : ∃ t : ByteArray, t = ⟨((d9.l.drop 0).take d9.l.length).toArray⟩ := ⟨_, rfl⟩
        have hcv : ∀ n, (convert 33 9 (.slice (some ⟨g2, 0, none⟩) d9.l.length cap2)).run Try.prog (wr.drewN n) = .ok (.string t) (wr.drewN n) := fun n => by rw [ht]; exact row_string (RstAt.row (RstAt.drewN hR n)) 0 d9.l.length cap2 (by omega)
        clear R hd9
        go_wp2_with fail
        refine (stoLen_any b1 g1 cap1 d9 wr hS).mono ?_
        rintro e w' ⟨rfl, rfl⟩
        go_wp2_with fail
        refine (stoRead_in b1 g1 cap1 d9 0 d9.l.length (by omega) wr hS).mono ?_
        rintro e w' ⟨rfl, rfl⟩
        rw [← ht]
        clear ht
        have hLn : ∀ n, Calls Try.prog 57 #[.pointer (some ⟨b1, 0, none⟩)] (wr.drewN n) fun e w' => e = .returned (.int .i64 (d9.l.length : Int)) ∧ w' = wr.drewN n := fun n => (stoLen_any b1 g1 cap1 d9 _ (hS.drewN n)).mono fun _ _ ⟨h1, h2⟩ => ⟨h1, h2.symm⟩
        have HLn := Lib.hid hLn
        clear hLn
        go_wp2_with fail
        go_quiet ((go_at_call 57; exact Calls.quiet_of_same (HLn.out _)))
        go_wp2
        go_ret
        exact ⟨rfl, Below.drewN' HRR.out.below _⟩
  · have hemp : s.toList.isEmpty = false := by
      cases hq : s.toList with
      | nil => exfalso; apply hs0; rw [← ByteArray.size_data, ← Array.length_toList, ← ByteArray.toList_eq, hq]; rfl
      | cons _ _ => rfl
    go_enter Try.func13, Try.ntmps13
    go_wp2_with fail
    refine (sawake_any _).mono ?_
    rintro e w1 ⟨rfl, hb1⟩
    go_wp2_with fail
    refine (stoNew_int size hsize _).mono ?_
    rintro e w2 ⟨rfl, hS, hb2⟩
    go_wp2_with fail
    refine (rstNew_any size hsize _).mono ?_
    rintro e w3 ⟨rfl, hR, hb3⟩
    clear hS hR
    go_wp2_with fail
    refine (stoOf_any s (by omega) _).mono ?_
    rintro e w4 ⟨rfl, hS, hb4⟩
    go_wp2_with fail
    refine (rstOf_any s hs _).mono ?_
    rintro e w5 ⟨rfl, hR, hb5⟩
    go_wp2_with fail
    have hS3 := hS.keep (Keep.of_below (S := fun _ => False) (hb5.mono (Nat.le_refl _))) (by simp) (by simp)
    have hsz4 : w3.heap.size + 1 < w4.heap.size := hS.obj.lt
    have hsz1 := hb1.size
    have hsz2 := hb2.size
    have hsz3 := hb3.size
    have hB3 : Below w.heap.size w w5 := (((hb1.trans (hb2.mono hb1.size)).trans (hb3.mono (by omega))).trans (hb4.mono (by omega))).trans (hb5.mono (by omega))
    obtain ⟨d0, hd0⟩ : ∃ d0 : Sto, d0 = ⟨s.data.toList, false, false, 0, 0⟩ := ⟨_, rfl⟩
    have R0 : RunAt w w5 (w3.heap.size + 1) w3.heap.size (grownCap w3 s.size 0 5) (w4.heap.size + 1) w4.heap.size s.size d0 xs 0 := by
      rw [hd0]
      exact ⟨hS3, hR, hB3, by simp, by simp⟩
    have hge : (w.heap.size ≤ w3.heap.size + 1 ∧ w.heap.size ≤ w3.heap.size ∧ w.heap.size ≤ w4.heap.size + 1 ∧ w.heap.size ≤ w4.heap.size) ∧ w3.heap.size + 1 ≠ w4.heap.size + 1 ∧ w3.heap.size + 1 ≠ w4.heap.size ∧ w3.heap.size ≠ w4.heap.size + 1 ∧ w3.heap.size ≠ w4.heap.size := by omega
    generalize grownCap w3 s.size 0 5 = cap1 at R0
    obtain ⟨cap2, hcc⟩ : ∃ cap2, cap2 = s.size := ⟨_, rfl⟩
    rw [← hcc] at R0
    generalize w3.heap.size + 1 = b1 at R0 hge ⊢
    generalize w3.heap.size = g1 at R0 hge
    generalize w4.heap.size + 1 = b2 at R0 hge ⊢
    generalize w4.heap.size = g2 at R0 hge
    clear hS3 hR hS hb1 hb2 hb3 hb4 hb5 hsz1 hsz2 hsz3 hsz4 hB3 hd0 hcc
    have HGE := Lib.hid hge
    have HR0 := Lib.hid R0
    clear R0 hge
    go_loopw [35] (fun c wr => RunR w b1 g1 cap1 b2 g2 cap2 d0 xs c wr) (fun c _ => xs.length - (intOf c).toNat)
    case atStart => exact ⟨0, Nat.zero_le _, rfl, HR0.out⟩
    case round =>
      obtain ⟨k, hk, rfl, R⟩ := hrel
      have HRR := Lib.hid R
      by_cases hlt : k < xs.length
      · obtain ⟨rfl, hbw⟩ := HC.out.1 (by intro h; rw [h] at hlt; simp at hlt)
        obtain ⟨k0, k1, k2, k3⟩ := HC.out.2 k hlt
        have c0 : wr.cell? ⟨b, o + k * 4 + 0, none⟩ = some (.int .u8 (xs[k].what : Int)) := (R.below.cell (p := ⟨b, o + k * 4 + 0, none⟩) hbw).trans k0
        have c1 : wr.cell? ⟨b, o + k * 4 + 1, none⟩ = some (.int .i64 xs[k].at_) := (R.below.cell (p := ⟨b, o + k * 4 + 1, none⟩) hbw).trans k1
        have c2 : wr.cell? ⟨b, o + k * 4 + 2, none⟩ = some (.int .i64 xs[k].n) := (R.below.cell (p := ⟨b, o + k * 4 + 2, none⟩) hbw).trans k2
        have c3 : wr.cell? ⟨b, o + k * 4 + 3, none⟩ = some (.string xs[k].s) := (R.below.cell (p := ⟨b, o + k * 4 + 3, none⟩) hbw).trans k3
        rw [Nat.add_zero] at c0
        have hxok := hok _ (List.getElem_mem hlt)
        have htake := take_acts xs d0 k hlt
        obtain ⟨x, hx⟩ : ∃ x, x = xs[k] := ⟨_, rfl⟩
        rw [← hx] at c0 c1 c2 c3 hxok htake
        have HX := Lib.hid hx
        have HOK := Lib.hid hxok
        have HTK := Lib.hid htake
        have hlti : (k : Int) < (xs.length : Int) := by omega
        clear k0 k1 k2 k3 hx hxok htake R
        by_cases hbig : 100 < x.s.size
        · have hbigi : (100 : Int) < (x.s.size : Int) := by omega
          go_wp2
          go_ret
          exact ⟨rfl, HRR.out.below.alloc HRR.out.below.size _⟩
        · have hbigi : ¬ (100 : Int) < (x.s.size : Int) := by omega
          go_wp2_with fail
          have h1a := HRR.out.one.keep (Keep.of_below (S := fun _ => False) ((Below.refl wr.heap.size wr).alloc (Nat.le_refl _) (.cells #[.int .u8 (x.what : Int), .int .i64 x.at_, .int .i64 x.n, .string x.s] 72))) (by simp) (by simp)
          have h2a := RstAt.keep HRR.out.two (Keep.of_below (S := fun _ => False) ((Below.refl wr.heap.size wr).alloc (Nat.le_refl _) (.cells #[.int .u8 (x.what : Int), .int .i64 x.at_, .int .i64 x.n, .string x.s] 72))) (by simp) (by simp)
          have hwr := HRR.out.wrote
          refine (one_any b1 g1 cap1 b2 g2 cap2 _ x HOK.out (by omega) (by omega) HRR.out.left HGE.out.2.1 HGE.out.2.2.1 HGE.out.2.2.2.1 HGE.out.2.2.2.2 _ h1a h2a).mono ?_
          rintro e w9 ⟨rfl, hS9, hR9, hK9⟩
          have hB9 : Below w.heap.size w w9 := (HRR.out.below.alloc HRR.out.below.size _).trans (hK9.below (by simp; exact Nat.le_succ_of_le HRR.out.below.size) (fun j hj he => by have := HGE.out.1; omega))
          have hw9 := step_wrote ((xs.take k).foldl stepS d0) x
          have hl9 := step_left ((xs.take k).foldl stepS d0) x HRR.out.left HOK.out.2.2.2
          rw [← HTK.out] at hS9 hR9 hw9 hl9
          have HN := Lib.hid (show RunAt w w9 b1 g1 cap1 b2 g2 cap2 d0 xs (k + 1) from ⟨hS9, hR9, hB9, by omega, hl9⟩)
          clear h1a h2a hwr hS9 hR9 hK9 hB9 hw9 hl9
          go_wp2_with fail
          go_roundw
          case rel => exact ⟨k + 1, by omega, by go_num, HN.out⟩
          case measure => simp [intOf]; omega
      · have hkl : k = xs.length := by omega
        have hS := R.one
        have hR := R.two
        obtain ⟨d9, hd9⟩ : ∃ d9, d9 = (xs.take k).foldl stepS d0 := ⟨_, rfl⟩
        rw [← hd9] at hS hR
        subst hkl
        have hlm := hS.most
        have c0 : wr.cell? ⟨b2, 0, none⟩ = some (.slice (some ⟨g2, 0, none⟩) d9.l.length cap2) := (RstAt.obj hR).cell 0
        obtain ⟨t, ht⟩ : ∃ t : ByteArray, t = ⟨((d9.l.drop 0).take d9.l.length).toArray⟩ := ⟨_, rfl⟩
        have hcv : ∀ n, (convert 33 9 (.slice (some ⟨g2, 0, none⟩) d9.l.length cap2)).run Try.prog (wr.drewN n) = .ok (.string t) (wr.drewN n) := fun n => by rw [ht]; exact row_string (RstAt.row (RstAt.drewN hR n)) 0 d9.l.length cap2 (by omega)
        clear R hd9
        go_wp2_with fail
        refine (stoLen_any b1 g1 cap1 d9 wr hS).mono ?_
        rintro e w' ⟨rfl, rfl⟩
        go_wp2_with fail
        refine (stoRead_in b1 g1 cap1 d9 0 d9.l.length (by omega) wr hS).mono ?_
        rintro e w' ⟨rfl, rfl⟩
        rw [← ht]
        clear ht
        have hLn : ∀ n, Calls Try.prog 57 #[.pointer (some ⟨b1, 0, none⟩)] (wr.drewN n) fun e w' => e = .returned (.int .i64 (d9.l.length : Int)) ∧ w' = wr.drewN n := fun n => (stoLen_any b1 g1 cap1 d9 _ (hS.drewN n)).mono fun _ _ ⟨h1, h2⟩ => ⟨h1, h2.symm⟩
        have HLn := Lib.hid hLn
        clear hLn
        go_wp2_with fail
        go_quiet ((go_at_call 57; exact Calls.quiet_of_same (HLn.out _)))
        go_wp2
        go_ret
        exact ⟨rfl, Below.drewN' HRR.out.below _⟩
theorem storeRuns_walk {H : Type} {enc : TypeId × Value → H} (size : Int) (wsize : (Lit.int .i64 size).wf = true) (s : ByteArray) (ws : s.size ≤ 140737488351232) (v : Value) (d : DataW H) (p : List MemPlace) {w : World}
    (h : DataW.Trod enc Try.prog w 0 (fun _ => true) true 67 v d p) (o : Value.okWide Try.prog w .any 0 67 v) (_ : ∀ x ∈ d.weights Try.prog 67, x ≤ 140737488351232) (_ : World) :
    Calls Try.prog 13 #[.int .i64 size, .string s, v] w fun e w' => e = .returned (.bool true) ∧ Below w.heap.size w w' := by
  obtain ⟨xs, hA, hok⟩ := acts_of h o
  by_cases hg : s.size ≤ 200 ∧ xs.length ≤ 60
  · exact runs_walk size (bounds_i64 wsize) s hg.1 v xs hg.2 hok hA
  · obtain ⟨a, cap, b, o', rfl, hcap, hcm, -, -⟩ := hA
    clear h o hok wsize
    by_cases hs : 200 < s.size
    · have hsi : (200 : Int) < (s.size : Int) := by omega
      clear hg
      go_enter Try.func13, Try.ntmps13
      go_wp2_with (refine (sawake_any _).mono ?_; rintro e w1 ⟨rfl, hb1⟩)
      go_ret
      exact ⟨rfl, hb1⟩
    · have hsi : ¬ (200 : Int) < (s.size : Int) := by omega
      have hli : (60 : Int) < (xs.length : Int) := by omega
      clear hg
      go_enter Try.func13, Try.ntmps13
      go_wp2_with (refine (sawake_any _).mono ?_; rintro e w1 ⟨rfl, hb1⟩)
      go_ret
      exact ⟨rfl, hb1⟩
end Go.Proofs.Ytpkgpffodkfncaa
