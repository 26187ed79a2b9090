/- The law WheelComes: one that is set to so many ticks comes with just that tick. -/
import Derived.Test.YtkeeledkdoiglaaDoorWhActs
namespace Go.Proofs.YtkeeledkdoiglaaDoor.Wh
open Go.RowKit Go.Proofs.YtkeeledkdoiglaaDoor
/-- One wheel in memory. -/
structure W1 (w0 w : World) (wb : Nat) (F : Nat → Int) (m : Int) : Prop where
  wl : WL w wb F m
  ge : w0.heap.size ≤ wb
  below : Below w0.heap.size w0 w
section
variable {w0 w w' : World} {wb : Nat} {F : Nat → Int} {m : Int}
theorem W1.drewN (h : W1 w0 w wb F m) (n : Nat) : W1 w0 (w.drewN n) wb F m :=
  ⟨h.wl.drewN n, h.ge, ⟨h.below.os, h.below.tape, h.below.output, h.below.size, h.below.block⟩⟩
theorem W1.alloc (h : W1 w0 w wb F m) (o : Obj) : W1 w0 (w.alloc o) wb F m :=
  ⟨h.wl.keep (P := fun _ => False) ((Keep.refl _ w).alloc o) (fun h => h), h.ge, h.below.alloc h.below.size o⟩
theorem W1.step (h : W1 w0 w wb F m) {F' : Nat → Int} {m' : Int} (hk : Keep (fun k => k = wb) w w') (hw : WL w' wb F' m') : W1 w0 w' wb F' m' :=
  ⟨hw, h.ge, h.below.trans (hk.below h.below.size (fun k h2 h3 => by have := h.ge; omega))⟩
theorem W1.laid (h : W1 w0 w wb F m) (hL : LaidW w0) : LaidW w := laidW_below hL h.below (Nat.le_refl _)
end
theorem comes_mem (F : Nat → Int) (c : Nat) : ∀ k, ((c : Int) ∈ comes F k ↔ c < k ∧ F c = 1)
  | 0 => by simp [comes]
  | k + 1 => by
    have ih := comes_mem F c k
    unfold comes
    by_cases h : F k = 1
    · rw [if_pos h, List.mem_append, ih]
      simp only [List.mem_singleton]
      constructor
      · rintro (h1 | h1)
        · exact ⟨by omega, h1.2⟩
        · obtain rfl : c = k := by omega
          exact ⟨by omega, h⟩
      · rintro ⟨h1, h2⟩
        by_cases e : c = k
        · exact .inr (by omega)
        · exact .inl ⟨by omega, h2⟩
    · rw [if_neg h, ih]
      constructor
      · rintro ⟨h1, h2⟩
        exact ⟨by omega, h2⟩
      · rintro ⟨h1, h2⟩
        refine ⟨?_, h2⟩
        by_cases e : c = k
        · subst e; exact absurd h2 h
        · omega
theorem setF_at (F : Nat → Int) (i t : Int) (c : Nat) (h : i ≠ (c : Int)) : setF F i t c = F c := by
  unfold setF
  split
  · next ho =>
    unfold upd
    rw [if_neg (by have := ho.1.1; omega)]
  · rfl
theorem cancF_at (F : Nat → Int) (i : Int) (c : Nat) (h : i ≠ (c : Int)) : cancF F i c = F c := by
  unfold cancF
  split
  · next ho =>
    unfold upd
    rw [if_neg (by have := ho.1; omega)]
  · rfl
set_option maxRecDepth 100000 in
set_option maxHeartbeats 40000000 in
theorem wheelComes_law (i : Nat) (hi : i < 256) (ticks : Int) (v : Value) (xs : List ActV) (hok : okActs xs) {w : World} (hA : ActsAt w v xs) (hL : LaidW w) :
    Calls Tryd.prog 3 #[.int .u8 (i : Int), .int .i64 ticks, v] w fun e w' => e = .returned (.bool true) ∧ Below w.heap.size w w' := by
  obtain ⟨ad, cap, bl, o, rfl, hcap, hcm, hne, hcell⟩ := hA
  have HC := Lib.hid (And.intro hne hcell)
  have HOK := Lib.hid hok
  have HCM := Lib.hid hcm
  have HL := Lib.hid hL
  clear hne hcell hok hcm hcap hL
  by_cases h1 : ticks < 1
  · go_enter Tryd.func3, Tryd.ntmps3
    go_wp2_with fail
    refine (awake8_any w HL.out).mono ?_
    rintro e w1 ⟨rfl, hb1⟩
    go_wp2
    go_ret
    exact ⟨rfl, hb1⟩
  by_cases h2 : 300 < ticks
  · go_enter Tryd.func3, Tryd.ntmps3
    go_wp2_with fail
    refine (awake8_any w HL.out).mono ?_
    rintro e w1 ⟨rfl, hb1⟩
    go_wp2
    go_ret
    exact ⟨rfl, hb1⟩
  by_cases h3 : (60 : Int) < (xs.length : Int)
  · go_enter Tryd.func3, Tryd.ntmps3
    go_wp2_with fail
    refine (awake8_any w HL.out).mono ?_
    rintro e w1 ⟨rfl, hb1⟩
    go_wp2
    go_ret
    exact ⟨rfl, hb1⟩
  obtain ⟨tn, rfl⟩ := Int.eq_ofNat_of_zero_le (show 0 ≤ ticks by omega)
  obtain ⟨c, hc⟩ : ∃ c : Nat, (i : Int) % 16 = (c : Int) := ⟨i % 16, by omega⟩
  have hc16 : c < 16 := by omega
  go_enter Tryd.func3, Tryd.ntmps3
  go_wp2_with fail
  refine (awake8_any w HL.out).mono ?_
  rintro e w1 ⟨rfl, hb1⟩
  go_wp2_with fail
  refine (newW w1).mono ?_
  rintro e w2 ⟨rfl, hb2, hw2⟩
  have H2 := Lib.hid (show W1 w w2 w1.heap.size (fun _ => 0) 0 from ⟨hw2, hb1.size, hb1.trans (hb2.mono hb1.size)⟩)
  clear hb1 hb2 hw2
  generalize w1.heap.size = wb at *
  go_wp2_with fail
  refine (setW H2.out.wl (by omega) c tn hc16 (by omega)).mono ?_
  rintro e w3 ⟨rfl, hk3, hw3⟩
  have H3 := Lib.hid (H2.out.step hk3 hw3)
  clear hk3 hw3 H2
  go_wp2_with fail
  go_loopw [9] (fun tv wr => ∃ (j : Nat) (F : Nat → Int) (m z : Int), j ≤ tn ∧ tv = .int .i64 z ∧ z = (j : Int) + 1 ∧ (0 ≤ m ∧ m ≤ j) ∧ F c = (tn : Int) - j ∧ W1 w wr wb F m) (fun tv _ => tn + 1 - (intOf tv).toNat)
  case atStart => exact ⟨0, _, 0, 1, Nat.zero_le _, rfl, by omega, by omega, by simp [upd], H3.out⟩
  case round =>
    clear H3
    obtain ⟨j, F, m, z, hj, rfl, hz, hm0, hF, R⟩ := hrel
    have HR := Lib.hid R
    have HF := Lib.hid hF
    have HZ := Lib.hid hz
    clear R hF
    by_cases hlt : j < tn
    · have hlti : z ≤ (tn : Int) := by omega
      have hzb : 1 ≤ z := by omega
      have hzj : z - 1 = (j : Int) := by omega
      by_cases hx : z ≤ (xs.length : Int)
      · have hjx : j < xs.length := by omega
        have hjxi : (j : Int) < (xs.length : Int) := by omega
        obtain ⟨rfl, hbw⟩ := HC.out.1 (by intro h; rw [h] at hjx; simp at hjx)
        obtain ⟨k0, k1, k2⟩ := HC.out.2 j hjx
        have c0 : wr.cell? ⟨bl, o + j * 3 + 0, none⟩ = some (.int .u8 (xs[j].what : Int)) := (HR.out.below.cell (p := ⟨bl, o + j * 3 + 0, none⟩) hbw).trans k0
        have c1 : wr.cell? ⟨bl, o + j * 3 + 1, none⟩ = some (.int .i64 xs[j].id) := (HR.out.below.cell (p := ⟨bl, o + j * 3 + 1, none⟩) hbw).trans k1
        have c2 : wr.cell? ⟨bl, o + j * 3 + 2, none⟩ = some (.int .i64 xs[j].n) := (HR.out.below.cell (p := ⟨bl, o + j * 3 + 2, none⟩) hbw).trans k2
        rw [Nat.add_zero] at c0
        obtain ⟨hwh, hid, hnb⟩ := HOK.out _ (List.getElem_mem hjx)
        obtain ⟨wh, hx0⟩ : ∃ x, x = xs[j].what := ⟨_, rfl⟩
        obtain ⟨id, hx1⟩ : ∃ x, x = xs[j].id := ⟨_, rfl⟩
        obtain ⟨n, hx2⟩ : ∃ x, x = xs[j].n := ⟨_, rfl⟩
        rw [← hx0] at c0 hwh
        rw [← hx1] at c1 hid
        rw [← hx2] at c2 hnb
        clear k0 k1 k2 hx0 hx1 hx2 hid hnb hz
        have hal := HR.out.alloc (.cells #[.int .u8 (wh : Int), .int .i64 id, .int .i64 n] 28)
        have hob := ObjAt.new wr #[.int .u8 (wh : Int), .int .i64 id, .int .i64 n] 28
        have hqv := HR.out.wl.lt
        have H1a := Lib.hid hal
        have HOa := Lib.hid hob
        have HNE := Lib.hid (show wr.heap.size ≠ wb by omega)
        have a0 : (wr.alloc (.cells #[.int .u8 (wh : Int), .int .i64 id, .int .i64 n] 28)).cell? ⟨wr.heap.size, 0, none⟩ = some (.int .u8 (wh : Int)) := HOa.out.cell 0
        have a1 : (wr.alloc (.cells #[.int .u8 (wh : Int), .int .i64 id, .int .i64 n] 28)).cell? ⟨wr.heap.size, 1, none⟩ = some (.int .i64 id) := HOa.out.cell 1
        have a2 : (wr.alloc (.cells #[.int .u8 (wh : Int), .int .i64 id, .int .i64 n] 28)).cell? ⟨wr.heap.size, 2, none⟩ = some (.int .i64 n) := HOa.out.cell 2
        clear hal hob hqv HR
        by_cases hidc : id = (c : Int)
        · subst hidc
          go_wp2_with fail
          clear c0 c1 c2 a0 a1 a2 HOa HNE
          generalize wr.alloc (.cells #[.int .u8 (wh : Int), .int .i64 (c : Int), .int .i64 n] 28) = wa at *
          have HB := H1a
          have HFB := HF
          clear H1a HF
          have hL := leftW HB.out.wl (by omega) c hc16
          have hval : F c = (tn : Int) - z + 1 := by rw [HFB.out]; omega
          rw [hval] at hL
          have HLF := Lib.hid hL
          clear hL hval
          go_wp2_with fail
          refine HLF.out.mono ?_
          rintro e w6 ⟨rfl, k6, rfl⟩
          have H6 := Lib.hid (HB.out.drewN k6)
          clear HB HLF
          generalize wa.drewN k6 = w6 at *
          go_wp2_with fail
          refine (tickW H6.out.wl (by omega) (H6.out.laid HL.out)).mono ?_
          rintro e w7 ⟨va, rfl, hva, hw7, hk7⟩
          have H7 := Lib.hid (H6.out.step hk7 hw7)
          obtain ⟨ra, rca, rg, rfl, hrn, hrc, -⟩ := own_form hva
          have hmem := comes_mem F c 16
          obtain ⟨lr, hlr⟩ : ∃ lr, lr = comes F 16 := ⟨_, rfl⟩
          rw [← hlr] at hrn hrc hmem ⊢
          have hlen : lr.length ≤ 16 := by rw [hlr]; exact comes_len F 16
          have HRC := Lib.hid (And.intro hrn hrc)
          have HME := Lib.hid hmem
          clear hva hw7 hk7 hrn hrc hmem hlr H6
          go_wp2_with fail
          go_loopw [11, 91] (fun mv cv w8 => ∃ q : Nat, q ≤ lr.length ∧ cv = .int .i64 (q : Int) ∧ mv = .bool (decide ((c : Int) ∈ lr.take q)) ∧ w8 = w7) (fun _ cv _ => lr.length - (intOf cv).toNat)
          case atStart => exact ⟨0, Nat.zero_le _, rfl, by simp, rfl⟩
          case round =>
            obtain ⟨q, hq, rfl, rfl, rfl⟩ := hrel
            by_cases hql : q < lr.length
            · have hqi : (q : Int) < (lr.length : Int) := by omega
              obtain rfl := HRC.out.1 (by intro h; rw [h] at hql; simp at hql)
              have cx := HRC.out.2 q hql
              obtain ⟨x, hx⟩ : ∃ x, x = lr[q] := ⟨_, rfl⟩
              rw [← hx] at cx
              obtain ⟨mt, hmt⟩ : ∃ mt, mt = decide ((c : Int) ∈ lr.take q) := ⟨_, rfl⟩
              have hnx : decide ((c : Int) ∈ lr.take (q + 1)) = (mt || (x == (c : Int))) := by
                rw [hmt, List.take_succ_eq_append_getElem hql, ← hx]
                simp only [List.mem_append, List.mem_singleton]
                by_cases e1 : (c : Int) ∈ List.take q lr
                · simp [e1]
                · by_cases e2 : (c : Int) = x
                  · simp [e2]
                  · simp [e1, e2, Ne.symm e2]
              rw [← hmt]
              have HNX := Lib.hid hnx
              clear hnx hmt hx
              cases mt
              · go_wp2
                go_roundw
                case rel => exact ⟨q + 1, by omega, by go_num, by rw [HNX.out]; rfl, by first | rfl | trivial⟩
                case measure => simp [intOf]; omega
              · go_wp2
                go_roundw
                case rel => exact ⟨q + 1, by omega, by go_num, by rw [HNX.out]; rfl, by first | rfl | trivial⟩
                case measure => simp [intOf]; omega
            · obtain rfl : q = lr.length := by omega
              rw [List.take_length]
              have hdn : down F 16 c = F c - 1 := by
                unfold down
                rw [if_pos ⟨hc16, by rw [HFB.out]; omega⟩]
              have hF2 : down F 16 c = (tn : Int) - ((j + 1 : Nat) : Int) := by rw [hdn, HFB.out]; omega
              have HF2 := Lib.hid hF2
              have hdec : decide ((c : Int) ∈ lr) = decide (z = (tn : Int)) := by
                have h1 : (c : Int) ∈ lr ↔ z = (tn : Int) := HME.out.trans (by
                  rw [HFB.out]
                  constructor
                  · rintro ⟨-, h⟩; omega
                  · intro h; exact ⟨hc16, by omega⟩)
                simp only [h1]
              rw [hdec]
              clear hdn hF2 hdec
              by_cases hl : z = (tn : Int)
              · have hl' : decide (z = (tn : Int)) = true := by simpa using hl
                rw [hl']
                have hl2 : (z == (tn : Int)) = true := by simpa using hl
                have HL2 := Lib.hid hl
                clear hl hl'
                go_wp2
                go_roundw
                case rel => exact ⟨j + 1, _, _, z + 1, by omega, by go_num, by have := HZ.out; omega, by omega, HF2.out, H7.out⟩
                case measure => simp [intOf]; omega
              · have hl' : decide (z = (tn : Int)) = false := by simpa using hl
                rw [hl']
                have hl2 : (z == (tn : Int)) = false := by simpa using hl
                clear hl hl'
                go_wp2
                go_roundw
                case rel => exact ⟨j + 1, _, _, z + 1, by omega, by go_num, by have := HZ.out; omega, by omega, HF2.out, H7.out⟩
                case measure => simp [intOf]; omega
        · have hidc' : (id == (c : Int)) = false := by simpa using hidc
          rcases (by omega : wh % 2 = 0 ∨ wh % 2 = 1) with hm2 | hm2
          · have hmi : (wh : Int) % 2 = 0 := by omega
            have hfs := setF_at F id n c hidc
            have HFS := Lib.hid hfs
            clear hfs
            go_wp2_with fail
            refine (setAny H1a.out.wl (by omega) id n).mono ?_
            rintro e w5 ⟨rfl, hk5, hw5⟩
            have HB := Lib.hid (H1a.out.step hk5 hw5)
            have HO5 := Lib.hid (hk5.obj HOa.out HNE.out)
            have HFB := Lib.hid (HFS.out.trans HF.out)
            have b0 : w5.cell? ⟨wr.heap.size, 0, none⟩ = some (.int .u8 (wh : Int)) := HO5.out.cell 0
            have b1 : w5.cell? ⟨wr.heap.size, 1, none⟩ = some (.int .i64 id) := HO5.out.cell 1
            obtain ⟨FF, hFF⟩ : ∃ FF, FF = setF F id n := ⟨_, rfl⟩
            rw [← hFF] at HB HFB
            clear c0 c1 c2 a0 a1 a2 hk5 hw5 H1a HOa HF HFS hFF
            have hL := leftW HB.out.wl (by omega) c hc16
            have hval : FF c = (tn : Int) - z + 1 := by rw [HFB.out]; omega
            rw [hval] at hL
            have HLF := Lib.hid hL
            clear hL hval
            go_wp2_with fail
            refine HLF.out.mono ?_
            rintro e w6 ⟨rfl, k6, rfl⟩
            have H6 := Lib.hid (HB.out.drewN k6)
            clear HB HLF
            generalize w5.drewN k6 = w6 at *
            go_wp2_with fail
            refine (tickW H6.out.wl (by omega) (H6.out.laid HL.out)).mono ?_
            rintro e w7 ⟨va, rfl, hva, hw7, hk7⟩
            have H7 := Lib.hid (H6.out.step hk7 hw7)
            obtain ⟨ra, rca, rg, rfl, hrn, hrc, -⟩ := own_form hva
            have hmem := comes_mem FF c 16
            obtain ⟨lr, hlr⟩ : ∃ lr, lr = comes FF 16 := ⟨_, rfl⟩
            rw [← hlr] at hrn hrc hmem ⊢
            have hlen : lr.length ≤ 16 := by rw [hlr]; exact comes_len FF 16
            have HRC := Lib.hid (And.intro hrn hrc)
            have HME := Lib.hid hmem
            clear hva hw7 hk7 hrn hrc hmem hlr H6
            go_wp2_with fail
            go_loopw [11, 91] (fun mv cv w8 => ∃ q : Nat, q ≤ lr.length ∧ cv = .int .i64 (q : Int) ∧ mv = .bool (decide ((c : Int) ∈ lr.take q)) ∧ w8 = w7) (fun _ cv _ => lr.length - (intOf cv).toNat)
            case atStart => exact ⟨0, Nat.zero_le _, rfl, by simp, rfl⟩
            case round =>
              obtain ⟨q, hq, rfl, rfl, rfl⟩ := hrel
              by_cases hql : q < lr.length
              · have hqi : (q : Int) < (lr.length : Int) := by omega
                obtain rfl := HRC.out.1 (by intro h; rw [h] at hql; simp at hql)
                have cx := HRC.out.2 q hql
                obtain ⟨x, hx⟩ : ∃ x, x = lr[q] := ⟨_, rfl⟩
                rw [← hx] at cx
                obtain ⟨mt, hmt⟩ : ∃ mt, mt = decide ((c : Int) ∈ lr.take q) := ⟨_, rfl⟩
                have hnx : decide ((c : Int) ∈ lr.take (q + 1)) = (mt || (x == (c : Int))) := by
                  rw [hmt, List.take_succ_eq_append_getElem hql, ← hx]
                  simp only [List.mem_append, List.mem_singleton]
                  by_cases e1 : (c : Int) ∈ List.take q lr
                  · simp [e1]
                  · by_cases e2 : (c : Int) = x
                    · simp [e2]
                    · simp [e1, e2, Ne.symm e2]
                rw [← hmt]
                have HNX := Lib.hid hnx
                clear hnx hmt hx
                cases mt
                · go_wp2
                  go_roundw
                  case rel => exact ⟨q + 1, by omega, by go_num, by rw [HNX.out]; rfl, by first | rfl | trivial⟩
                  case measure => simp [intOf]; omega
                · go_wp2
                  go_roundw
                  case rel => exact ⟨q + 1, by omega, by go_num, by rw [HNX.out]; rfl, by first | rfl | trivial⟩
                  case measure => simp [intOf]; omega
              · obtain rfl : q = lr.length := by omega
                rw [List.take_length]
                have hdn : down FF 16 c = FF c - 1 := by
                  unfold down
                  rw [if_pos ⟨hc16, by rw [HFB.out]; omega⟩]
                have hF2 : down FF 16 c = (tn : Int) - ((j + 1 : Nat) : Int) := by rw [hdn, HFB.out]; omega
                have HF2 := Lib.hid hF2
                have hdec : decide ((c : Int) ∈ lr) = decide (z = (tn : Int)) := by
                  have h1 : (c : Int) ∈ lr ↔ z = (tn : Int) := HME.out.trans (by
                    rw [HFB.out]
                    constructor
                    · rintro ⟨-, h⟩; omega
                    · intro h; exact ⟨hc16, by omega⟩)
                  simp only [h1]
                rw [hdec]
                clear hdn hF2 hdec
                by_cases hl : z = (tn : Int)
                · have hl' : decide (z = (tn : Int)) = true := by simpa using hl
                  rw [hl']
                  have hl2 : (z == (tn : Int)) = true := by simpa using hl
                  have HL2 := Lib.hid hl
                  clear hl hl'
                  go_wp2
                  go_roundw
                  case rel => exact ⟨j + 1, _, _, z + 1, by omega, by go_num, by have := HZ.out; omega, by omega, HF2.out, H7.out⟩
                  case measure => simp [intOf]; omega
                · have hl' : decide (z = (tn : Int)) = false := by simpa using hl
                  rw [hl']
                  have hl2 : (z == (tn : Int)) = false := by simpa using hl
                  clear hl hl'
                  go_wp2
                  go_roundw
                  case rel => exact ⟨j + 1, _, _, z + 1, by omega, by go_num, by have := HZ.out; omega, by omega, HF2.out, H7.out⟩
                  case measure => simp [intOf]; omega
          · have hmi : (wh : Int) % 2 = 1 := by omega
            have hfs := cancF_at F id c hidc
            have HFS := Lib.hid hfs
            clear hfs
            go_wp2_with fail
            refine (cancelAny H1a.out.wl (by omega) id).mono ?_
            rintro e w5 ⟨rfl, hk5, hw5⟩
            have HB := Lib.hid (H1a.out.step hk5 hw5)
            have HFB := Lib.hid (HFS.out.trans HF.out)
            obtain ⟨FF, hFF⟩ : ∃ FF, FF = cancF F id := ⟨_, rfl⟩
            rw [← hFF] at HB HFB
            clear c0 c1 c2 a0 a1 a2 hk5 hw5 H1a HOa HF HFS hFF
            have hL := leftW HB.out.wl (by omega) c hc16
            have hval : FF c = (tn : Int) - z + 1 := by rw [HFB.out]; omega
            rw [hval] at hL
            have HLF := Lib.hid hL
            clear hL hval
            go_wp2_with fail
            refine HLF.out.mono ?_
            rintro e w6 ⟨rfl, k6, rfl⟩
            have H6 := Lib.hid (HB.out.drewN k6)
            clear HB HLF
            generalize w5.drewN k6 = w6 at *
            go_wp2_with fail
            refine (tickW H6.out.wl (by omega) (H6.out.laid HL.out)).mono ?_
            rintro e w7 ⟨va, rfl, hva, hw7, hk7⟩
            have H7 := Lib.hid (H6.out.step hk7 hw7)
            obtain ⟨ra, rca, rg, rfl, hrn, hrc, -⟩ := own_form hva
            have hmem := comes_mem FF c 16
            obtain ⟨lr, hlr⟩ : ∃ lr, lr = comes FF 16 := ⟨_, rfl⟩
            rw [← hlr] at hrn hrc hmem ⊢
            have hlen : lr.length ≤ 16 := by rw [hlr]; exact comes_len FF 16
            have HRC := Lib.hid (And.intro hrn hrc)
            have HME := Lib.hid hmem
            clear hva hw7 hk7 hrn hrc hmem hlr H6
            go_wp2_with fail
            go_loopw [11, 91] (fun mv cv w8 => ∃ q : Nat, q ≤ lr.length ∧ cv = .int .i64 (q : Int) ∧ mv = .bool (decide ((c : Int) ∈ lr.take q)) ∧ w8 = w7) (fun _ cv _ => lr.length - (intOf cv).toNat)
            case atStart => exact ⟨0, Nat.zero_le _, rfl, by simp, rfl⟩
            case round =>
              obtain ⟨q, hq, rfl, rfl, rfl⟩ := hrel
              by_cases hql : q < lr.length
              · have hqi : (q : Int) < (lr.length : Int) := by omega
                obtain rfl := HRC.out.1 (by intro h; rw [h] at hql; simp at hql)
                have cx := HRC.out.2 q hql
                obtain ⟨x, hx⟩ : ∃ x, x = lr[q] := ⟨_, rfl⟩
                rw [← hx] at cx
                obtain ⟨mt, hmt⟩ : ∃ mt, mt = decide ((c : Int) ∈ lr.take q) := ⟨_, rfl⟩
                have hnx : decide ((c : Int) ∈ lr.take (q + 1)) = (mt || (x == (c : Int))) := by
                  rw [hmt, List.take_succ_eq_append_getElem hql, ← hx]
                  simp only [List.mem_append, List.mem_singleton]
                  by_cases e1 : (c : Int) ∈ List.take q lr
                  · simp [e1]
                  · by_cases e2 : (c : Int) = x
                    · simp [e2]
                    · simp [e1, e2, Ne.symm e2]
                rw [← hmt]
                have HNX := Lib.hid hnx
                clear hnx hmt hx
                cases mt
                · go_wp2
                  go_roundw
                  case rel => exact ⟨q + 1, by omega, by go_num, by rw [HNX.out]; rfl, by first | rfl | trivial⟩
                  case measure => simp [intOf]; omega
                · go_wp2
                  go_roundw
                  case rel => exact ⟨q + 1, by omega, by go_num, by rw [HNX.out]; rfl, by first | rfl | trivial⟩
                  case measure => simp [intOf]; omega
              · obtain rfl : q = lr.length := by omega
                rw [List.take_length]
                have hdn : down FF 16 c = FF c - 1 := by
                  unfold down
                  rw [if_pos ⟨hc16, by rw [HFB.out]; omega⟩]
                have hF2 : down FF 16 c = (tn : Int) - ((j + 1 : Nat) : Int) := by rw [hdn, HFB.out]; omega
                have HF2 := Lib.hid hF2
                have hdec : decide ((c : Int) ∈ lr) = decide (z = (tn : Int)) := by
                  have h1 : (c : Int) ∈ lr ↔ z = (tn : Int) := HME.out.trans (by
                    rw [HFB.out]
                    constructor
                    · rintro ⟨-, h⟩; omega
                    · intro h; exact ⟨hc16, by omega⟩)
                  simp only [h1]
                rw [hdec]
                clear hdn hF2 hdec
                by_cases hl : z = (tn : Int)
                · have hl' : decide (z = (tn : Int)) = true := by simpa using hl
                  rw [hl']
                  have hl2 : (z == (tn : Int)) = true := by simpa using hl
                  have HL2 := Lib.hid hl
                  clear hl hl'
                  go_wp2
                  go_roundw
                  case rel => exact ⟨j + 1, _, _, z + 1, by omega, by go_num, by have := HZ.out; omega, by omega, HF2.out, H7.out⟩
                  case measure => simp [intOf]; omega
                · have hl' : decide (z = (tn : Int)) = false := by simpa using hl
                  rw [hl']
                  have hl2 : (z == (tn : Int)) = false := by simpa using hl
                  clear hl hl'
                  go_wp2
                  go_roundw
                  case rel => exact ⟨j + 1, _, _, z + 1, by omega, by go_num, by have := HZ.out; omega, by omega, HF2.out, H7.out⟩
                  case measure => simp [intOf]; omega
      · have HB := HR
        have HFB := HF
        clear HR HF hz
        have hL := leftW HB.out.wl (by omega) c hc16
        have hval : F c = (tn : Int) - z + 1 := by rw [HFB.out]; omega
        rw [hval] at hL
        have HLF := Lib.hid hL
        clear hL hval
        go_wp2_with fail
        refine HLF.out.mono ?_
        rintro e w6 ⟨rfl, k6, rfl⟩
        have H6 := Lib.hid (HB.out.drewN k6)
        clear HB HLF
        generalize wr.drewN k6 = w6 at *
        go_wp2_with fail
        refine (tickW H6.out.wl (by omega) (H6.out.laid HL.out)).mono ?_
        rintro e w7 ⟨va, rfl, hva, hw7, hk7⟩
        have H7 := Lib.hid (H6.out.step hk7 hw7)
        obtain ⟨ra, rca, rg, rfl, hrn, hrc, -⟩ := own_form hva
        have hmem := comes_mem F c 16
        obtain ⟨lr, hlr⟩ : ∃ lr, lr = comes F 16 := ⟨_, rfl⟩
        rw [← hlr] at hrn hrc hmem ⊢
        have hlen : lr.length ≤ 16 := by rw [hlr]; exact comes_len F 16
        have HRC := Lib.hid (And.intro hrn hrc)
        have HME := Lib.hid hmem
        clear hva hw7 hk7 hrn hrc hmem hlr H6
        go_wp2_with fail
        go_loopw [11, 91] (fun mv cv w8 => ∃ q : Nat, q ≤ lr.length ∧ cv = .int .i64 (q : Int) ∧ mv = .bool (decide ((c : Int) ∈ lr.take q)) ∧ w8 = w7) (fun _ cv _ => lr.length - (intOf cv).toNat)
        case atStart => exact ⟨0, Nat.zero_le _, rfl, by simp, rfl⟩
        case round =>
          obtain ⟨q, hq, rfl, rfl, rfl⟩ := hrel
          by_cases hql : q < lr.length
          · have hqi : (q : Int) < (lr.length : Int) := by omega
            obtain rfl := HRC.out.1 (by intro h; rw [h] at hql; simp at hql)
            have cx := HRC.out.2 q hql
            obtain ⟨x, hx⟩ : ∃ x, x = lr[q] := ⟨_, rfl⟩
            rw [← hx] at cx
            obtain ⟨mt, hmt⟩ : ∃ mt, mt = decide ((c : Int) ∈ lr.take q) := ⟨_, rfl⟩
            have hnx : decide ((c : Int) ∈ lr.take (q + 1)) = (mt || (x == (c : Int))) := by
              rw [hmt, List.take_succ_eq_append_getElem hql, ← hx]
              simp only [List.mem_append, List.mem_singleton]
              by_cases e1 : (c : Int) ∈ List.take q lr
              · simp [e1]
              · by_cases e2 : (c : Int) = x
                · simp [e2]
                · simp [e1, e2, Ne.symm e2]
            rw [← hmt]
            have HNX := Lib.hid hnx
            clear hnx hmt hx
            cases mt
            · go_wp2
              go_roundw
              case rel => exact ⟨q + 1, by omega, by go_num, by rw [HNX.out]; rfl, by first | rfl | trivial⟩
              case measure => simp [intOf]; omega
            · go_wp2
              go_roundw
              case rel => exact ⟨q + 1, by omega, by go_num, by rw [HNX.out]; rfl, by first | rfl | trivial⟩
              case measure => simp [intOf]; omega
          · obtain rfl : q = lr.length := by omega
            rw [List.take_length]
            have hdn : down F 16 c = F c - 1 := by
              unfold down
              rw [if_pos ⟨hc16, by rw [HFB.out]; omega⟩]
            have hF2 : down F 16 c = (tn : Int) - ((j + 1 : Nat) : Int) := by rw [hdn, HFB.out]; omega
            have HF2 := Lib.hid hF2
            have hdec : decide ((c : Int) ∈ lr) = decide (z = (tn : Int)) := by
              have h1 : (c : Int) ∈ lr ↔ z = (tn : Int) := HME.out.trans (by
                rw [HFB.out]
                constructor
                · rintro ⟨-, h⟩; omega
                · intro h; exact ⟨hc16, by omega⟩)
              simp only [h1]
            rw [hdec]
            clear hdn hF2 hdec
            by_cases hl : z = (tn : Int)
            · have hl' : decide (z = (tn : Int)) = true := by simpa using hl
              rw [hl']
              have hl2 : (z == (tn : Int)) = true := by simpa using hl
              have HL2 := Lib.hid hl
              clear hl hl'
              go_wp2
              go_roundw
              case rel => exact ⟨j + 1, _, _, z + 1, by omega, by go_num, by have := HZ.out; omega, by omega, HF2.out, H7.out⟩
              case measure => simp [intOf]; omega
            · have hl' : decide (z = (tn : Int)) = false := by simpa using hl
              rw [hl']
              have hl2 : (z == (tn : Int)) = false := by simpa using hl
              clear hl hl'
              go_wp2
              go_roundw
              case rel => exact ⟨j + 1, _, _, z + 1, by omega, by go_num, by have := HZ.out; omega, by omega, HF2.out, H7.out⟩
              case measure => simp [intOf]; omega
    · have hjt : j = tn := by omega
      have hzz : (tn : Int) < z := by omega
      have hz0 : F c = 0 := by rw [HF.out]; omega
      have hL := leftW HR.out.wl (by omega) c hc16
      rw [hz0] at hL
      have HLF := Lib.hid hL
      clear hL hz0 hz
      go_wp2_with fail
      refine HLF.out.mono ?_
      rintro e w5 ⟨rfl, k5, rfl⟩
      have H5 := Lib.hid (HR.out.drewN k5)
      clear HR HLF
      generalize wr.drewN k5 = w5 at *
      go_wp2
      go_ret
      exact ⟨rfl, H5.out.below⟩
end Go.Proofs.YtkeeledkdoiglaaDoor.Wh
