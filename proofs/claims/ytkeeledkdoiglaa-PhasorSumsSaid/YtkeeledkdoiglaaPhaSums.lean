/- PhasorSums' walks: samples that are there; none. -/
import Derived.Test.YtkeeledkdoiglaaPhaBack
import Derived.Test.YtkeeledkdoiglaaPhaPlain
import Derived.Test.YtkeeledkdoiglaaApp
import Derived.Deep.QuietTactic
import Derived.BigQuiet
namespace Go.Proofs.Ytkeeledkdoiglaa
open Go.RowKit
def ints (l : List Int) : List Value := l.map (Value.int .i64)
def Apart (u v : Value) : Prop := ∀ k, u.ownBlock = some k → v.ownBlock ≠ some k
structure SumRel (l m : List Int) (B : Nat) (w0 : World) (bo la c : Value) (wr : World) (k : Nat) : Prop where
  le : k ≤ l.length
  ctr : c = .int .i64 (k : Int)
  both : wr.ownsRow B 3 1 bo k (ints ((List.zipWith (· + ·) l m).take k))
  later : wr.ownsRow B 3 1 la (k + 1) (ints ((0 :: l).take (k + 1)))
  apart : Apart bo la
  below : Below B w0 wr
  inl : ∀ i, i < k → -100000 ≤ l.getD i 0 ∧ l.getD i 0 ≤ 100000
  inm : ∀ i, i < k → -100000 ≤ m.getD i 0 ∧ m.getD i 0 ≤ 100000
theorem SumRel.drewN {l m : List Int} {B : Nat} {w0 wr : World} {bo la c : Value} {k : Nat} (h : SumRel l m B w0 bo la c wr k) (n : Nat) : SumRel l m B w0 bo la c (wr.drewN n) k :=
  ⟨h.le, h.ctr, h.both, h.later, h.apart, ⟨h.below.os, h.below.tape, h.below.output, h.below.size, h.below.block⟩, h.inl, h.inm⟩
theorem take_getD {α : Type} (l : List α) (k : Nat) (d : α) (h : k < l.length) : l.take (k + 1) = l.take k ++ [l.getD k d] := by
  rw [List.take_succ_eq_append_getElem h]
  simp [List.getD_eq_getElem?_getD, h]
theorem SumRel.next {l m : List Int} {B : Nat} {w0 wr w2 w3 : World} {bo la bo2 la2 c : Value} {k : Nat} (h : SumRel l m B w0 bo la c wr k) (hk : k < l.length) (hm : m.length = l.length) (hB : B ≤ wr.heap.size)
    (hx : -100000 ≤ l.getD k 0 ∧ l.getD k 0 ≤ 100000) (hy : -100000 ≤ m.getD k 0 ∧ m.getD k 0 ≤ 100000)
    (ho1 : w2.ownsRow B 3 1 bo2 (k + 1) (ints ((List.zipWith (· + ·) l m).take k) ++ [.int .i64 (l.getD k 0 + m.getD k 0)])) (hg1 : wr.grownBy w2 bo.ownBlock) (hb1 : bo2.ownBlock = bo.ownBlock ∨ ∃ j, bo2.ownBlock = some j ∧ wr.heap.size ≤ j)
    (ho2 : w3.ownsRow B 3 1 la2 (k + 1 + 1) (ints ((0 :: l).take (k + 1)) ++ [.int .i64 (l.getD k 0)])) (hg2 : w2.grownBy w3 la.ownBlock) (hb2 : la2.ownBlock = la.ownBlock ∨ ∃ j, la2.ownBlock = some j ∧ w2.heap.size ≤ j) :
    SumRel l m B w0 bo2 la2 (.int .i64 ((k + 1 : Nat) : Int)) w3 (k + 1) := by
  have hbo := fun j hj => (h.both.lt j hj).1
  have hla := fun j hj => h.later.lt j hj
  have ap1 : Apart bo2 la := fun j hj hl => by
    rcases hb1 with e | ⟨i, e, hi⟩
    · rw [e] at hj; exact h.apart j hj hl
    · rw [e] at hj
      injection hj with hj
      have := (hla j hl).2
      omega
  have hbo2 := ho1.lt
  refine ⟨by omega, rfl, ?_, ?_, ?_, (h.below.grown hg1 hB hbo).grown hg2 (Nat.le_trans hB hg1.size) (fun j hj => (hla j hj).1), ?_, ?_⟩
  · rw [take_getD _ k 0 (by simp; omega), show (List.zipWith (· + ·) l m).getD k 0 = l.getD k 0 + m.getD k 0 by
      have h1 : k < m.length := by omega
      simp [List.getD_eq_getElem?_getD, List.getElem?_zipWith, hk, h1]]
    unfold ints at ho1 ⊢
    rw [List.map_append]
    refine ho1.kept hg2 ?_
    cases hbb : bo2.ownBlock with
    | none => exact .inl rfl
    | some j => exact .inr (fun e => ap1 j hbb e.symm)
  · rw [take_getD _ (k + 1) 0 (by simp; omega), show (0 :: l).getD (k + 1) 0 = l.getD k 0 by simp [List.getD_eq_getElem?_getD]]
    unfold ints at ho2 ⊢
    rw [List.map_append]
    exact ho2
  · intro j hj hl
    rcases hb2 with e | ⟨i, e, hi⟩
    · rw [e] at hl; exact ap1 j hj hl
    · rw [e] at hl
      injection hl with hl
      have := (hbo2 j hj).2
      omega
  · intro i hi
    by_cases e : i = k
    · subst e; exact hx
    · exact h.inl i (by omega)
  · intro i hi
    by_cases e : i = k
    · subst e; exact hy
    · exact h.inm i (by omega)
theorem rowV_of_own {w : World} {B : Nat} {v : Value} {n : Nat} {l : List Int} (h : w.ownsRow B 3 1 v n (ints l)) (hn : n = l.length) : RowV .i64 w v l := by
  subst hn
  obtain ⟨h1, ⟨rfl, h0⟩ | ⟨g, cap, cur, rfl, hb, hg, hc, hm, hs, ht⟩⟩ := h
  · exact .inl ⟨rfl, List.eq_nil_of_length_eq_zero h0⟩
  · refine .inr (.inr ⟨g, 0, cap, rfl, hc, hm, (Array.getElem?_eq_some_iff.1 hg).1, fun i hi => ?_⟩)
    rw [Nat.zero_add, cell_of_row w g i cur 3 (0, 0) hg]
    have e : (ints l)[i]? = some (.int .i64 (l.getD i 0)) := by simp [ints, List.getD_eq_getElem?_getD, hi]
    rw [← ht, List.getElem?_take_of_lt (by omega)] at e
    simpa using e
theorem fl_four : Fl 4616189618054758400 4 := ⟨false, 4503599627370496, 50, by decide, by decide⟩
theorem order_eq {a b : Nat} {x : Int} (ha : Fl a x) (hb : Fl b x) : FloatKind.f64.format.order a b = some .eq := by
  rw [fl_order ha hb]; simp
theorem bd60 (l : List Int) (k : Int) (n : Nat) (hn : n ≤ 300) : BdZ 314572800 (binZ l k n) := (binZ_bd l k n).mono (by omega)
def SumR (l m : List Int) (B : Nat) (w0 : World) (bo la c : Value) (wr : World) : Prop := ∃ k, SumRel l m B w0 bo la c wr k
theorem i64_row : (Try.prog.info? 3).map (fun i => (i.zero, i.size, i.bytes)) = some (some (.int .i64 0), 1, 8) := by kernel_rfl
theorem i64_info : ∃ i, Try.prog.info? 3 = some i ∧ i.zero = some (.int .i64 0) ∧ i.size = 1 ∧ i.bytes = 8 := by
  have := i64_row
  cases h : Try.prog.info? 3 with
  | none => simp [h] at this
  | some i => simp [h] at this; exact ⟨i, rfl, this.1, this.2.1, this.2.2⟩
set_option maxRecDepth 100000 in
set_option maxHeartbeats 4000000 in
theorem sums_main (l m : List Int) (hl : 0 < l.length ∧ l.length ≤ 60) (hm : m.length = l.length) (b0 o0 cap0 b1 o1 cap1 : Nat) (hc0 : l.length ≤ cap0 ∧ cap0 ≤ maxLen) (hc1 : l.length ≤ cap1 ∧ cap1 ≤ maxLen) (kk : Nat) (hkk : kk < 256) {w : World}
    (h0 : b0 < w.heap.size ∧ ∀ i, i < l.length → w.cell? ⟨b0, o0 + i, none⟩ = some (.int .i64 (l.getD i 0))) (h1 : b1 < w.heap.size ∧ ∀ i, i < l.length → w.cell? ⟨b1, o1 + i, none⟩ = some (.int .i64 (m.getD i 0))) :
    Calls Try.prog 4 #[.slice (some ⟨b0, o0, none⟩) l.length cap0, .slice (some ⟨b1, o1, none⟩) l.length cap1, .int .u8 (kk : Int)] w fun e w' => e = .returned (.bool true) ∧ Below w.heap.size w w' := by
  obtain ⟨hc0, hc0m⟩ := hc0
  obtain ⟨hc1, hc1m⟩ := hc1
  unfold maxLen at hc0m hc1m
  obtain ⟨hl0, hl60⟩ := hl
  obtain ⟨i0, hi, z1, z2, z3⟩ := i64_info
  have H0 := Lib.hid h0
  have H1 := Lib.hid h1
  have HM := Lib.hid hm
  have HI := Lib.hid (And.intro hi (And.intro z1 (And.intro z2 z3)))
  clear h0 h1 hm hi z1 z2 z3
  have hl60' : ¬ (60 : Int) < (l.length : Int) := by omega
  go_enter Try.func4, Try.ntmps4
  go_wp2_with fail
  refine (pawake_any _).mono ?_
  rintro e w1 ⟨rfl, hb1⟩
  have HB1 := Lib.hid hb1
  clear hb1
  go_wp2_with (at_builtin; refine wpList_append_one rfl (.tmp 26) (.tmp 27) 34 rfl w.heap.size 3 i0 (.int .i64 0) 8 (by kernel_rfl) HI.out.1 HI.out.2.1 HI.out.2.2.1 HI.out.2.2.2 rfl (.slice none 0 0) 0 [] (.int .i64 0) rfl (World.ownsRow_nil _ _ _ _) rfl rfl (by decide) (by decide) HB1.out.size ?_)
  intro la w2 hown hgrow hblk
  try simp only [Nat.zero_add, List.nil_append] at hown
  have HO := Lib.hid hown
  have HB2 := Lib.hid (HB1.out.grown hgrow HB1.out.size (fun k hk => by simp [Value.ownBlock] at hk))
  clear hown hgrow hblk
  go_wp2
  go_loopw [7, 8, 31] (fun bo la c wr => SumR l m w.heap.size w bo la c wr) (fun _ _ c _ => l.length - (intOf c).toNat)
  case atStart =>
    exact ⟨0, Nat.zero_le _, rfl, World.ownsRow_nil _ _ _ _, HO.out, by intro k hk; simp [Value.ownBlock] at hk, HB2.out, by intro i hi; omega, by intro i hi; omega⟩
  case round =>
    obtain ⟨k, R⟩ := hrel
    have hle := R.le
    obtain rfl := R.ctr
    have HR := Lib.hid R
    by_cases hlt : k < l.length
    · have c0 : wr.cell? ⟨b0, o0 + k, none⟩ = some (.int .i64 (l.getD k 0)) := (R.below.cell (p := ⟨b0, o0 + k, none⟩) H0.out.1).trans (H0.out.2 k hlt)
      have c1 : wr.cell? ⟨b1, o1 + k, none⟩ = some (.int .i64 (m.getD k 0)) := (R.below.cell (p := ⟨b1, o1 + k, none⟩) H1.out.1).trans (H1.out.2 k hlt)
      obtain ⟨x, hx⟩ : ∃ x, x = l.getD k 0 := ⟨_, rfl⟩
      obtain ⟨y, hy⟩ : ∃ y, y = m.getD k 0 := ⟨_, rfl⟩
      rw [← hx] at c0
      rw [← hy] at c1
      have HX := Lib.hid hx
      have HY := Lib.hid hy
      have hlti : (k : Int) < (l.length : Int) := by omega
      clear hx hy R
      go_wp2_with fail
      go_quiet (fail)
      obtain ⟨w3, hw3⟩ : ∃ w3, w3 = wr.drewN nq := ⟨_, rfl⟩
      have HR3 : Hid (SumRel l m w.heap.size w u7 u8 (.int .i64 (k : Int)) w3 k) := by rw [hw3]; exact Lib.hid (HR.out.drewN nq)
      have HBE := Lib.hid HR3.out.below
      rw [← hw3]
      clear hw3 c0 c1 HR
      by_cases hxb : -100000 ≤ x ∧ x ≤ 100000
      · by_cases hyb : -100000 ≤ y ∧ y ≤ 100000
        · have HXY := Lib.hid (And.intro hxb hyb)
          obtain ⟨x1, x2⟩ := hxb
          obtain ⟨y1, y2⟩ := hyb
          go_wp2_with (at_builtin; refine wpList_append_one rfl (.tmp 56) (.tmp 60) 34 rfl w.heap.size 3 i0 (.int .i64 0) 8 (by kernel_rfl) HI.out.1 HI.out.2.1 HI.out.2.2.1 HI.out.2.2.2 rfl u7 k (ints ((List.zipWith (· + ·) l m).take k)) (.int .i64 (x + y)) rfl HR3.out.both rfl rfl (by unfold maxLen; omega) (by omega) HBE.out.size ?_)
          intro bo2 w4 ho1 hg1 hb1
          have hla4 := HR3.out.later.kept hg1 (by
            cases hbb : u8.ownBlock with
            | none => exact .inl rfl
            | some j => exact .inr (fun e => HR3.out.apart j e.symm hbb))
          have HO1 := Lib.hid (And.intro ho1 (And.intro hg1 (And.intro hb1 hla4)))
          clear ho1 hg1 hb1 hla4
          go_wp2_with (at_builtin; refine wpList_append_one rfl (.tmp 62) (.tmp 64) 34 rfl w.heap.size 3 i0 (.int .i64 0) 8 (by kernel_rfl) HI.out.1 HI.out.2.1 HI.out.2.2.1 HI.out.2.2.2 rfl u8 (k + 1) (ints ((0 :: l).take (k + 1))) (.int .i64 x) rfl HO1.out.2.2.2 rfl rfl (by unfold maxLen; omega) (by omega) (Nat.le_trans HBE.out.size HO1.out.2.1.size) ?_)
          intro la2 w5 ho2 hg2 hb2
          have HO2 := Lib.hid (And.intro ho2 (And.intro hg2 hb2))
          clear ho2 hg2 hb2
          go_wp2
          go_roundw
          case rel =>
            refine ⟨k + 1, ?_⟩
            have ho1 := HO1.out.1
            have ho2 := HO2.out.1
            have hxy := HXY.out
            rw [HX.out, HY.out] at ho1 hxy
            rw [HX.out] at ho2
            exact HR3.out.next hlt HM.out HBE.out.size hxy.1 hxy.2 ho1 HO1.out.2.1 HO1.out.2.2.1 ho2 HO2.out.2.1 HO2.out.2.2
          case measure => simp [intOf]; omega
        · rcases (by omega : y < -100000 ∨ 100000 < y) with h | h
          · go_wp2
            go_ret
            exact ⟨rfl, HBE.out⟩
          · go_wp2
            go_ret
            exact ⟨rfl, HBE.out⟩
      · rcases (by omega : x < -100000 ∨ 100000 < x) with h | h
        · go_wp2
          go_ret
          exact ⟨rfl, HBE.out⟩
        · go_wp2
          go_ret
          exact ⟨rfl, HBE.out⟩
    · obtain rfl : k = l.length := by omega
      have hbo := R.both
      have hla := R.later
      rw [List.take_of_length_le (by simp; omega)] at hbo
      rw [List.take_of_length_le (by simp)] at hla
      have hbr : RowV .i64 wr u7 (List.zipWith (· + ·) l m) := rowV_of_own hbo (by simp; have := HM.out; omega)
      have hlr : RowV .i64 wr u8 (0 :: l) := rowV_of_own hla (by simp)
      have hl0r : RowV .i64 wr (.slice (some ⟨b0, o0, none⟩) l.length cap0) l := .inr (.inr ⟨b0, o0, cap0, rfl, hc0, by unfold maxLen; omega, Nat.lt_of_lt_of_le H0.out.1 R.below.size, fun i hi => (R.below.cell (p := ⟨b0, o0 + i, none⟩) H0.out.1).trans (H0.out.2 i hi)⟩)
      have hl1r : RowV .i64 wr (.slice (some ⟨b1, o1, none⟩) l.length cap1) m := .inr (.inr ⟨b1, o1, cap1, by rw [HM.out], by rw [HM.out]; exact hc1, by unfold maxLen; omega, Nat.lt_of_lt_of_le H1.out.1 R.below.size, fun i hi => (R.below.cell (p := ⟨b1, o1 + i, none⟩) H1.out.1).trans (H1.out.2 i (by rw [← HM.out]; exact hi))⟩)
      have hxl : ∀ x ∈ l, -100000 ≤ x ∧ x ≤ 100000 := fun x hx => by
        obtain ⟨i, hi, rfl⟩ := List.mem_iff_getElem.1 hx
        have := R.inl i hi
        simpa [List.getD_eq_getElem?_getD, hi] using this
      have hxm : ∀ x ∈ m, -100000 ≤ x ∧ x ≤ 100000 := fun x hx => by
        obtain ⟨i, hi, rfl⟩ := List.mem_iff_getElem.1 hx
        have := R.inm i (by have := HM.out; omega)
        simpa [List.getD_eq_getElem?_getD, hi] using this
      have e1 := binZ_sum l m HM.out.symm hxl hxm ((kk : Int) % 4) l.length (Nat.le_refl _)
      have e2 := binZ_later l ((kk : Int) % 4) l.length (Nat.le_refl _)
      have e3 := fun h4 => binZ_four l h4 ((kk : Int) % 4)
      have HE := Lib.hid (And.intro e1 (And.intro e2 e3))
      have HRW := Lib.hid (And.intro hbr (And.intro hlr (And.intro hl0r hl1r)))
      have hq0 : (0 : Int) ≤ (kk : Int) % 4 := by omega
      have hq1 : (kk : Int) % 4 < 4 := by omega
      clear hbo hla hbr hlr hl0r hl1r hxl hxm e1 e2 e3 R
      go_wp2_with fail
      refine (bin_any HRW.out.1 _).mono ?_
      rintro e w' ⟨r1, i1, rfl, hr1, hi1, rfl⟩
      rw [show min (List.zipWith (· + ·) l m).length 1000 = l.length by have := HM.out; simp; omega, HE.out.1] at hr1 hi1
      have P1 := Lib.hid (And.intro hr1 hi1)
      clear hr1 hi1
      go_wp2_with fail
      refine (bin_any HRW.out.2.2.1 _).mono ?_
      rintro e w' ⟨r2, i2, rfl, hr2, hi2, rfl⟩
      rw [show min l.length 1000 = l.length by omega] at hr2 hi2
      have P2 := Lib.hid (And.intro hr2 hi2)
      clear hr2 hi2
      go_wp2_with fail
      refine (bin_any HRW.out.2.2.2 _).mono ?_
      rintro e w' ⟨r3, i3, rfl, hr3, hi3, rfl⟩
      rw [show min m.length 1000 = l.length by have := HM.out; omega] at hr3 hi3
      obtain ⟨r4, i4, hs4, hp4⟩ := add_flz (z := binZ l ((kk : Int) % 4) l.length) (t := binZ m ((kk : Int) % 4) l.length) P2.out ⟨hr3, hi3⟩ ((bd60 _ _ _ (by omega)).mono (by decide)) ((bd60 _ _ _ (by omega)).mono (by decide))
      have hrun := fun w => run_complex_sum (P := Try.prog) w .add (.inl rfl) 26 .f64 r2 i2 r3 i3 r4 i4 hs4
      have q1 := order_eq P1.out.1 hp4.1
      have q2 := order_eq P1.out.2 hp4.2
      clear hr3 hi3 hs4 hp4
      go_wp2_with fail
      clear hrun q1 q2
      refine (bin_any HRW.out.2.1 _).mono ?_
      rintro e w' ⟨r5, i5, rfl, hr5, hi5, rfl⟩
      rw [show min (0 :: l).length 1000 = l.length + 1 by simp; omega, HE.out.2.1] at hr5 hi5
      have P5 := Lib.hid (And.intro hr5 hi5)
      clear hr5 hi5
      go_wp2_with fail
      refine (bin_any HRW.out.2.2.1 _).mono ?_
      rintro e w' ⟨r6, i6, rfl, hr6, hi6, rfl⟩
      rw [show min l.length 1000 = l.length by omega] at hr6 hi6
      go_wp2_with fail
      refine (turn_fl (z := binZ l ((kk : Int) % 4) l.length) (-((kk : Int) % 4)) hr6 hi6 ((bd60 _ _ _ (by omega)).mono (by decide)) _).mono ?_
      rintro e w' ⟨r7, i7, rfl, hr7, hi7, rfl⟩
      have hmm : -((kk : Int) % 4 % 4) = -((kk : Int) % 4) := by omega
      have hp5 := P5.out
      rw [hmm] at hp5
      have q1 := order_eq hp5.1 hr7
      have q2 := order_eq hp5.2 hi7
      clear hr6 hi6 hr7 hi7 hmm hp5
      by_cases h4 : l.length % 4 = 0
      · have h4i : (l.length : Int) % 4 = 0 := by omega
        have H4 := Lib.hid h4
        clear h4
        go_wp2_with fail
        clear q1 q2
        have hnw : ∀ w' : World, Below w.heap.size w w' → ∀ (j : Nat) (u : Value), (ints l)[j]? = some u → w'.cell? ((⟨b0, o0, none⟩ : Addr).add j) = some u := fun w' hb j u hj => by
          have hjl : j < l.length := by
            have := (List.getElem?_eq_some_iff.1 hj).1
            simpa [ints] using this
          have e : (⟨b0, o0, none⟩ : Addr).add j = ⟨b0, o0 + j, none⟩ := by
            unfold Addr.add
            split
            · rename_i hz; simp [hz]
            · rfl
          rw [e, hb.cell (p := ⟨b0, o0 + j, none⟩) H0.out.1, H0.out.2 j hjl, ← hj]
          simp [ints, List.getD_eq_getElem?_getD, hjl]
        have HN := Lib.hid hnw
        have hx1 : ∀ u ∈ ints l, u.oneCell' = true := fun u hu => by
          simp only [ints, List.mem_map] at hu
          obtain ⟨x, _, rfl⟩ := hu
          rfl
        have HX1 := Lib.hid hx1
        have HL0 : Hid (wr.ownsRow w.heap.size 3 1 (.slice none 0 0) 0 (ints [])) := Lib.hid (World.ownsRow_nil _ _ _ _)
        have HB0 := Lib.hid HR.out.below
        clear hnw hx1
        refine wp_loop_rounds 5 ?_
        rw [rounds_succ]
        go_wp2_with (at_builtin; refine wpList_append_own _ rfl (.tmp 99) (.tmp 100) 34 rfl w.heap.size 3 i0 (.int .i64 0) 1 8 (by kernel_rfl) HI.out.1 HI.out.2.1 HI.out.2.2.1 HI.out.2.2.2 rfl (by decide) (.slice none 0 0) (0) (ints []) rfl HL0.out ⟨b0, o0, none⟩ l.length cap0 (ints l) rfl (by simp [ints]) (HN.out _ HB0.out) HX1.out (by unfold maxLen; omega) (by omega) HB0.out.size ?_)
        intro v1 y1 ho hg _
        have HL1 : Hid (y1.ownsRow w.heap.size 3 1 v1 (0 + l.length) (ints l)) := Lib.hid (by simpa [ints] using ho)
        have HB1 := Lib.hid (HB0.out.grown hg HB0.out.size (fun j hj => (HL0.out.lt j hj).1))
        clear ho hg
        go_wp2_with fail
        rw [rounds_succ]
        go_wp2_with (at_builtin; refine wpList_append_own _ rfl (.tmp 99) (.tmp 100) 34 rfl w.heap.size 3 i0 (.int .i64 0) 1 8 (by kernel_rfl) HI.out.1 HI.out.2.1 HI.out.2.2.1 HI.out.2.2.2 rfl (by decide) v1 (0 + l.length) (ints l) rfl HL1.out ⟨b0, o0, none⟩ l.length cap0 (ints l) rfl (by simp [ints]) (HN.out _ HB1.out) HX1.out (by unfold maxLen; omega) (by omega) HB1.out.size ?_)
        intro v2 y2 ho hg _
        have HL2 : Hid (y2.ownsRow w.heap.size 3 1 v2 (0 + l.length + l.length) (ints (l ++ l))) := Lib.hid (by simpa [ints] using ho)
        have HB2 := Lib.hid (HB1.out.grown hg HB1.out.size (fun j hj => (HL1.out.lt j hj).1))
        clear ho hg
        go_wp2_with fail
        rw [rounds_succ]
        go_wp2_with (at_builtin; refine wpList_append_own _ rfl (.tmp 99) (.tmp 100) 34 rfl w.heap.size 3 i0 (.int .i64 0) 1 8 (by kernel_rfl) HI.out.1 HI.out.2.1 HI.out.2.2.1 HI.out.2.2.2 rfl (by decide) v2 (0 + l.length + l.length) (ints (l ++ l)) rfl HL2.out ⟨b0, o0, none⟩ l.length cap0 (ints l) rfl (by simp [ints]) (HN.out _ HB2.out) HX1.out (by unfold maxLen; omega) (by omega) HB2.out.size ?_)
        intro v3 y3 ho hg _
        have HL3 : Hid (y3.ownsRow w.heap.size 3 1 v3 (0 + l.length + l.length + l.length) (ints ((l ++ l) ++ l))) := Lib.hid (by simpa [ints] using ho)
        have HB3 := Lib.hid (HB2.out.grown hg HB2.out.size (fun j hj => (HL2.out.lt j hj).1))
        clear ho hg
        go_wp2_with fail
        rw [rounds_succ]
        go_wp2_with (at_builtin; refine wpList_append_own _ rfl (.tmp 99) (.tmp 100) 34 rfl w.heap.size 3 i0 (.int .i64 0) 1 8 (by kernel_rfl) HI.out.1 HI.out.2.1 HI.out.2.2.1 HI.out.2.2.2 rfl (by decide) v3 (0 + l.length + l.length + l.length) (ints ((l ++ l) ++ l)) rfl HL3.out ⟨b0, o0, none⟩ l.length cap0 (ints l) rfl (by simp [ints]) (HN.out _ HB3.out) HX1.out (by unfold maxLen; omega) (by omega) HB3.out.size ?_)
        intro v4 y4 ho hg _
        have HL4 : Hid (y4.ownsRow w.heap.size 3 1 v4 (0 + l.length + l.length + l.length + l.length) (ints (((l ++ l) ++ l) ++ l))) := Lib.hid (by simpa [ints] using ho)
        have HB4 := Lib.hid (HB3.out.grown hg HB3.out.size (fun j hj => (HL3.out.lt j hj).1))
        clear ho hg
        go_wp2_with fail
        rw [rounds_succ]
        have hlong : RowV .i64 y4 v4 (((l ++ l) ++ l) ++ l) := rowV_of_own HL4.out (by simp; omega)
        have HLG := Lib.hid hlong
        have hl0y : RowV .i64 y4 (.slice (some ⟨b0, o0, none⟩) l.length cap0) l := .inr (.inr ⟨b0, o0, cap0, rfl, hc0, by unfold maxLen; omega, Nat.lt_of_lt_of_le H0.out.1 HB4.out.size, fun i hi => (HB4.out.cell (p := ⟨b0, o0 + i, none⟩) H0.out.1).trans (H0.out.2 i hi)⟩)
        have HLY := Lib.hid hl0y
        clear hlong hl0y
        go_wp2_with fail
        refine (bin_any HLG.out _).mono ?_
        rintro e w' ⟨r8, i8, rfl, hr8, hi8, rfl⟩
        rw [show min (((l ++ l) ++ l) ++ l).length 1000 = l.length * 4 by simp; omega, HE.out.2.2 H4.out] at hr8 hi8
        go_wp2_with fail
        refine (bin_any HLY.out _).mono ?_
        rintro e w' ⟨r9, i9, rfl, hr9, hi9, rfl⟩
        rw [show min l.length 1000 = l.length by omega] at hr9 hi9
        have hbd := bd60 l ((kk : Int) % 4) l.length (by omega)
        obtain ⟨⟨v1', v2'⟩, v3', v4'⟩ := hbd
        obtain ⟨ra, ia, hs, hp1, hp2⟩ := mul_fl fl_four fl_0 hr9 hi9 (by unfold Small53; omega) (by unfold Small53; omega) (by unfold Small53; omega) (by unfold Small53; omega) (by unfold Small53; omega) (by unfold Small53; omega)
        have hrun := fun w => run_complex_mul (P := Try.prog) w 26 4616189618054758400 0 r9 i9 ra ia hs
        have q1 := order_eq hr8 (by rw [Int.zero_mul, Int.sub_zero] at hp1; exact hp1)
        have q2 := order_eq hi8 (by rw [Int.zero_mul, Int.add_zero] at hp2; exact hp2)
        clear hr8 hi8 hr9 hi9 hs hp1 hp2 v1' v2' v3' v4'
        go_wp2
        go_ret
        exact ⟨rfl, HB4.out⟩
      · have h4i : ¬ (l.length : Int) % 4 = 0 := by omega
        go_wp2
        go_ret
        exact ⟨rfl, HR.out.below⟩
theorem binZ_nought (k : Int) : binZ [0] k 1 = (0, 0) := by
  have e : smallZ 0 = 0 := by decide
  simp [binZ, addZ, turnZ, e]
set_option maxRecDepth 100000 in
set_option maxHeartbeats 4000000 in
theorem sums_zero (s0 s1 : Value) (kk : Nat) (hkk : kk < 256) {w : World} (h0 : RowV .i64 w s0 []) (h1 : RowV .i64 w s1 []) :
    Calls Try.prog 4 #[s0, s1, .int .u8 (kk : Int)] w fun e w' => e = .returned (.bool true) ∧ Below w.heap.size w w' := by
  obtain ⟨i0, hi, z1, z2, z3⟩ := i64_info
  have HI := Lib.hid (And.intro hi (And.intro z1 (And.intro z2 z3)))
  have hz : ∀ s, RowV .i64 w s [] → s = .slice none 0 0 ∨ ∃ x cap, s = .slice (some x) 0 cap := fun s h => by
    rcases h with ⟨h, _⟩ | ⟨x, cap, h, _⟩ | ⟨b, o, cap, h, _⟩
    · exact .inl h
    · exact .inr ⟨x, cap, h⟩
    · exact .inr ⟨_, cap, h⟩
  have HW := Lib.hid (fun w' (hb : Below w.heap.size w w') => And.intro (h0.below hb) (h1.below hb))
  have e0 := hz s0 h0
  have e1 := hz s1 h1
  clear hi z1 z2 z3 hz h0 h1
  rcases e0 with rfl | ⟨x0, cap0, rfl⟩ <;> rcases e1 with rfl | ⟨x1, cap1, rfl⟩
  all_goals
    go_enter Try.func4, Try.ntmps4
    go_wp2_with fail
    refine (pawake_any _).mono ?_
    rintro e w1 ⟨rfl, hb1⟩
    have HB1 := Lib.hid hb1
    clear hb1
    go_wp2_with (at_builtin; refine wpList_append_one rfl (.tmp 26) (.tmp 27) 34 rfl w.heap.size 3 i0 (.int .i64 0) 8 (by kernel_rfl) HI.out.1 HI.out.2.1 HI.out.2.2.1 HI.out.2.2.2 rfl (.slice none 0 0) 0 [] (.int .i64 0) rfl (World.ownsRow_nil _ _ _ _) rfl rfl (by decide) (by decide) HB1.out.size ?_)
    intro la w2 hown hgrow hblk
    try simp only [Nat.zero_add, List.nil_append] at hown
    have HLR : Hid (RowV .i64 w2 la [0]) := Lib.hid (rowV_of_own (l := [0]) hown rfl)
    have HB2 := Lib.hid (HB1.out.grown hgrow HB1.out.size (fun k hk => by simp [Value.ownBlock] at hk))
    clear hown hgrow hblk
    go_wp2_with fail
    refine wp_loop_rounds 1 ?_
    rw [rounds_succ]
    have hq0 : (0 : Int) ≤ (kk : Int) % 4 := by omega
    have hq1 : (kk : Int) % 4 < 4 := by omega
    go_wp2_with fail
    refine (bin_nil _ _).mono ?_
    rintro e w' ⟨r1, i1, rfl, hr1, hi1, rfl⟩
    go_wp2_with fail
    refine (bin_any (HW.out _ HB2.out).1 _).mono ?_
    rintro e w' ⟨r2, i2, rfl, hr2, hi2, rfl⟩
    go_wp2_with fail
    refine (bin_any (HW.out _ HB2.out).2 _).mono ?_
    rintro e w' ⟨r3, i3, rfl, hr3, hi3, rfl⟩
    obtain ⟨r4, i4, hs4, hp4⟩ := add_flz (z := (0, 0)) (t := (0, 0)) ⟨hr2, hi2⟩ ⟨hr3, hi3⟩ (by unfold BdZ; decide) (by unfold BdZ; decide)
    have hrun := fun w => run_complex_sum (P := Try.prog) w .add (.inl rfl) 26 .f64 r2 i2 r3 i3 r4 i4 hs4
    have q1 := order_eq hr1 hp4.1
    have q2 := order_eq hi1 hp4.2
    clear hr2 hi2 hr3 hi3 hs4 hp4 hr1 hi1
    go_wp2_with fail
    clear hrun q1 q2
    refine (bin_any HLR.out _).mono ?_
    rintro e w' ⟨r5, i5, rfl, hr5, hi5, rfl⟩
    rw [show min ([0] : List Int).length 1000 = 1 by decide, binZ_nought] at hr5 hi5
    go_wp2_with fail
    refine (bin_any (HW.out _ HB2.out).1 _).mono ?_
    rintro e w' ⟨r6, i6, rfl, hr6, hi6, rfl⟩
    go_wp2_with fail
    refine (turn_fl (z := (0, 0)) (-((kk : Int) % 4)) hr6 hi6 (by unfold BdZ; decide) _).mono ?_
    rintro e w' ⟨r7, i7, rfl, hr7, hi7, rfl⟩
    rw [turnZ_zero] at hr7 hi7
    have q1 := order_eq hr5 hr7
    have q2 := order_eq hi5 hi7
    clear hr5 hi5 hr6 hi6 hr7 hi7
    go_wp2_with fail
    clear q1 q2
    refine wp_loop_rounds 5 ?_
    rw [rounds_succ]
    go_wp2_with fail
    rw [rounds_succ]
    go_wp2_with fail
    rw [rounds_succ]
    go_wp2_with fail
    rw [rounds_succ]
    go_wp2_with fail
    rw [rounds_succ]
    go_wp2_with fail
    refine (bin_nil _ _).mono ?_
    rintro e w' ⟨r8, i8, rfl, hr8, hi8, rfl⟩
    go_wp2_with fail
    refine (bin_any (HW.out _ HB2.out).1 _).mono ?_
    rintro e w' ⟨r9, i9, rfl, hr9, hi9, rfl⟩
    obtain ⟨ra, ia, hs, hp1, hp2⟩ := mul_fl (u := 0) (v := 0) fl_four fl_0 hr9 hi9 (by unfold Small53; decide) (by unfold Small53; decide) (by unfold Small53; decide) (by unfold Small53; decide) (by unfold Small53; decide) (by unfold Small53; decide)
    have hrun := fun w => run_complex_mul (P := Try.prog) w 26 4616189618054758400 0 r9 i9 ra ia hs
    have q1 := order_eq hr8 hp1
    have q2 := order_eq hi8 hp2
    clear hr8 hi8 hr9 hi9 hs hp1 hp2
    go_wp2
    go_ret
    exact ⟨rfl, HB2.out⟩
end Go.Proofs.Ytkeeledkdoiglaa
