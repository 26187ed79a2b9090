/- The law WheelRuns: whatever is set, cancelled and ticked, both wheels say the same. -/
import Derived.Test.YtkeeledkdoiglaaDoorWhActs
import Derived.Deep.RegionHeld3
namespace Go.Proofs.YtkeeledkdoiglaaDoor.Wh
open Go.RowKit Go.Proofs.YtkeeledkdoiglaaDoor
theorem adv_bd {F : Nat → Int} (h : ∀ i, i < 16 → 0 ≤ F i ∧ F i ≤ 10000) : ∀ j, ∀ i, i < 16 → 0 ≤ adv F j i ∧ adv F j i ≤ 10000
  | 0 => h
  | j + 1 => by
    refine adv_bd (F := down F 16) (fun i hi => ?_) j
    have := h i hi
    unfold down
    split <;> omega
theorem zero_rf (w : World) : RfAt (w.alloc (.cells #[.int .i64 0, .int .i64 0, .int .i64 0, .int .i64 0, .int .i64 0, .int .i64 0, .int .i64 0, .int .i64 0, .int .i64 0, .int .i64 0, .int .i64 0, .int .i64 0, .int .i64 0, .int .i64 0, .int .i64 0, .int .i64 0] 36)) w.heap.size (fun _ => 0) := by
  refine ⟨by simp, fun i hi => ?_, fun j => (ObjAt.new w _ _).free j⟩
  refine ((ObjAt.new w _ _).cell i).trans ?_
  rcases i with _|_|_|_|_|_|_|_|_|_|_|_|_|_|_|_|i
  all_goals first | rfl | omega
set_option maxRecDepth 100000 in
set_option maxHeartbeats 40000000 in
theorem wheelRuns_law (v : Value) (xs : List ActV) (hok : okActs xs) {w : World} (hA : ActsAt w v xs) (hL : LaidW w) :
    Calls Tryd.prog 4 #[v] w fun e w' => e = .returned (.bool true) ∧ Below w.heap.size w w' := by
  obtain ⟨a, cap, b, o, rfl, hcap, hcm, hne, hcell⟩ := hA
  have HC := Lib.hid (And.intro hne hcell)
  have HOK := Lib.hid hok
  have HCM := Lib.hid hcm
  have HL := Lib.hid hL
  clear hne hcell hok hcm hcap hL
  by_cases hl : (xs.length : Int) ≤ 40
  · go_enter Tryd.func4, Tryd.ntmps4
    go_wp2_with fail
    refine (awake8_any w HL.out).mono ?_
    rintro e w1 ⟨rfl, hb1⟩
    go_wp2_with fail
    refine (newW w1).mono ?_
    rintro e w2 ⟨rfl, hb2, hw2⟩
    obtain ⟨wb, hwb⟩ : ∃ wb, wb = w1.heap.size := ⟨_, rfl⟩
    have hsz := hb2.size
    have hs1 := hb1.size
    have hlt2 := hw2.lt
    rw [← hwb] at hw2 hlt2 ⊢
    have H2 := Lib.hid (show WR w (w2.alloc (.cells #[.int .i64 0, .int .i64 0, .int .i64 0, .int .i64 0, .int .i64 0, .int .i64 0, .int .i64 0, .int .i64 0, .int .i64 0, .int .i64 0, .int .i64 0, .int .i64 0, .int .i64 0, .int .i64 0, .int .i64 0, .int .i64 0] 36)) wb w2.heap.size (fun _ => 0) 0 (fun _ => 0) from
      ⟨hw2.keep (P := fun _ => False) ((Keep.refl _ w2).alloc _) (fun h => h), zero_rf w2, ⟨by omega, by omega, by omega⟩, (hb1.trans (hb2.mono hb1.size)).alloc (by omega) _⟩)
    clear hb1 hb2 hw2 hsz hs1 hlt2 hwb
    go_wp2_with fail
    generalize w2.heap.size = rb at *
    go_loopw [5, 22] (fun tv c wr => ∃ (k : Nat) (F : Nat → Int) (m T : Int), k ≤ xs.length ∧ tv = .int .i64 T ∧ c = .int .i64 (k : Int) ∧ (0 ≤ T ∧ T ≤ 30000) ∧ (0 ≤ m ∧ m ≤ T + k) ∧ WR w wr wb rb F m F) (fun _ c _ => xs.length - (intOf c).toNat)
    case atStart => exact ⟨0, _, 0, 0, Nat.zero_le _, rfl, rfl, by omega, by omega, H2.out⟩
    case round =>
      clear H2
      obtain ⟨k, F, m, T, hk, rfl, rfl, hT0, hm0, R⟩ := hrel
      have HR := Lib.hid R
      clear R
      by_cases hlt : k < xs.length
      · obtain ⟨rfl, hbw⟩ := HC.out.1 (by intro h; rw [h] at hlt; simp at hlt)
        obtain ⟨k0, k1, k2⟩ := HC.out.2 k hlt
        have c0 : wr.cell? ⟨b, o + k * 3 + 0, none⟩ = some (.int .u8 (xs[k].what : Int)) := (HR.out.below.cell (p := ⟨b, o + k * 3 + 0, none⟩) hbw).trans k0
        have c1 : wr.cell? ⟨b, o + k * 3 + 1, none⟩ = some (.int .i64 xs[k].id) := (HR.out.below.cell (p := ⟨b, o + k * 3 + 1, none⟩) hbw).trans k1
        have c2 : wr.cell? ⟨b, o + k * 3 + 2, none⟩ = some (.int .i64 xs[k].n) := (HR.out.below.cell (p := ⟨b, o + k * 3 + 2, none⟩) hbw).trans k2
        rw [Nat.add_zero] at c0
        obtain ⟨hwh, hid, hnb⟩ := HOK.out _ (List.getElem_mem hlt)
        obtain ⟨wh, hx0⟩ : ∃ x, x = xs[k].what := ⟨_, rfl⟩
        obtain ⟨id, hx1⟩ : ∃ x, x = xs[k].id := ⟨_, rfl⟩
        obtain ⟨n, hx2⟩ : ∃ x, x = xs[k].n := ⟨_, rfl⟩
        rw [← hx0] at c0 hwh
        rw [← hx1] at c1 hid
        rw [← hx2] at c2 hnb
        have hlti : (k : Int) < (xs.length : Int) := by omega
        unfold i64b at hid hnb
        have HNB := Lib.hid hnb
        clear k0 k1 k2 hx0 hx1 hx2
        have hal := HR.out.alloc (.cells #[.int .u8 (wh : Int), .int .i64 id, .int .i64 n] 28)
        have hob := ObjAt.new wr #[.int .u8 (wh : Int), .int .i64 id, .int .i64 n] 28
        have hql := HR.out.wl.lt
        have hqr := HR.out.rf.lt
        have H1a := Lib.hid hal
        have HOa := Lib.hid hob
        have HNE := Lib.hid (show wr.heap.size ≠ wb ∧ wr.heap.size ≠ rb by omega)
        clear hal hob hql hqr HR
        rcases (by omega : wh % 4 = 0 ∨ wh % 4 = 1 ∨ wh % 4 = 2 ∨ wh % 4 = 3) with hm | hm | hm | hm
        · have hmi : (wh : Int) % 4 = 0 := by omega
          go_wp2_with fail
          clear c0 c1 c2
          generalize wr.alloc (.cells #[.int .u8 (wh : Int), .int .i64 id, .int .i64 n] 28) = wa at *
          have a0 : wa.cell? ⟨wr.heap.size, 0, none⟩ = some (.int .u8 (wh : Int)) := HOa.out.cell 0
          have a1 : wa.cell? ⟨wr.heap.size, 1, none⟩ = some (.int .i64 id) := HOa.out.cell 1
          have a2 : wa.cell? ⟨wr.heap.size, 2, none⟩ = some (.int .i64 n) := HOa.out.cell 2
          clear a0
          have HW0 := Lib.hid (show WR w wa.drew wb rb F m F from H1a.out.drewN 1)
          have HO0 := Lib.hid (show ObjAt wa.drew wr.heap.size _ _ from HOa.out.drewN 1)
          obtain ⟨bk, hbk⟩ : ∃ bk, bk = decide (setOk id n) := ⟨_, rfl⟩
          obtain ⟨FF, hFF⟩ : ∃ FF, FF = setF F id n := ⟨_, rfl⟩
          have hs1 := setAny HW0.out.wl (by omega) id n
          rw [← hbk, ← hFF] at hs1
          have hs2 := fun (w5 : World) (h : RfAt w5 rb F) => rsetAny h id n
          simp only [← hbk, ← hFF] at hs2
          have HS1 := Lib.hid hs1
          have HS2 := Lib.hid hs2
          clear hs1 hs2 hbk hFF
          go_region_held3 (fun w' => w'.cell? ⟨wr.heap.size, 1, none⟩ = some (.int .i64 id) ∧ w'.cell? ⟨wr.heap.size, 2, none⟩ = some (.int .i64 n))
            (first | exact ⟨HOa.out.cell 1, HOa.out.cell 2⟩ | exact ⟨HO5.out.cell 1, HO5.out.cell 2⟩ | exact ⟨HO6.out.cell 1, HO6.out.cell 2⟩)
            (first
              | (go_at_call 9; (with_reducible refine HS1.out.mono ?_); rintro e w5 ⟨rfl, hk5, hq5⟩; have HB5 := Lib.hid (HW0.out.wstep hk5 hq5); have HO5 := Lib.hid (hk5.obj HO0.out HNE.out.1))
              | (go_at_call 13; (with_reducible refine (HS2.out _ HB5.out.rf).mono ?_); rintro e w6 ⟨rfl, hk6, hr6⟩; have HB := Lib.hid (HB5.out.rstep hk6 hr6); have HO6 := Lib.hid (hk6.obj HO5.out HNE.out.2)))
          clear a1 a2 hk5 hq5 hk6 hr6 HS1 HS2

          -- the tail: FF, m, T
          go_wp2_with fail
          refine (alike_any wb rb FF m (by omega) w6 HB.out.wl HB.out.rf).mono ?_
          rintro e w9 ⟨rfl, kq, rfl⟩
          have HB9 := Lib.hid (HB.out.drewN kq)
          clear HB
          generalize w6.drewN kq = w9 at *
          go_wp2
          go_roundw
          case rel => exact ⟨k + 1, FF, m, T, by omega, rfl, by go_num, by omega, by omega, HB9.out⟩
          case measure => simp [intOf]; omega
        · have hmi : (wh : Int) % 4 = 1 := by omega
          go_wp2_with fail
          clear c0 c1 c2
          generalize wr.alloc (.cells #[.int .u8 (wh : Int), .int .i64 id, .int .i64 n] 28) = wa at *
          have a0 : wa.cell? ⟨wr.heap.size, 0, none⟩ = some (.int .u8 (wh : Int)) := HOa.out.cell 0
          have a1 : wa.cell? ⟨wr.heap.size, 1, none⟩ = some (.int .i64 id) := HOa.out.cell 1
          have a2 : wa.cell? ⟨wr.heap.size, 2, none⟩ = some (.int .i64 n) := HOa.out.cell 2
          clear a0 a2
          refine (rleftAny H1a.out.rf id).mono ?_
          rintro e w5 ⟨rfl, rfl⟩
          obtain ⟨lf, hlf⟩ : ∃ lf, lf = leftF F id := ⟨_, rfl⟩
          rw [← hlf]
          have hcs := fun (w5 : World) (R : Nat → Int) (h : WR w w5 wb rb F m R) => cancelAny h.wl (by omega) id
          simp only [← hlf] at hcs
          have HCS := Lib.hid hcs
          have HLF := Lib.hid hlf
          clear hlf hcs
          by_cases h0 : 0 < lf
          · have hin : inR id := by
              have := HLF.out
              unfold leftF at this
              split at this
              · assumption
              · omega
            obtain ⟨i, rfl⟩ := Int.eq_ofNat_of_zero_le hin.1
            have hi16 : i < 16 := by have := hin.2; omega
            have hi16' : (i : Int) < 16 := by omega
            have HIN := Lib.hid hin
            clear hin
            go_wp2_with fail
            go_still_tail 5, (by kernel_rfl)
            change wpList _ _ _ _ _ w5.drew
            have H2a := Lib.hid (show WR w w5.drew wb rb F m F from H1a.out.drewN 1)
            have HO2 := Lib.hid (show ObjAt w5.drew wr.heap.size _ _ from HOa.out.drewN 1)
            clear a1 H1a HOa
            generalize w5.drew = w6 at *
            have a1 : w6.cell? ⟨wr.heap.size, 1, none⟩ = some (.int .i64 (i : Int)) := HO2.out.cell 1
            have cr : w6.cell? ⟨rb, i, none⟩ = some (.int .i64 (F i)) := H2a.out.rf.c i hi16
            have fr : w6.frozen? ⟨rb, i, none⟩ = false := H2a.out.rf.free i
            have hkr : Keep (fun k => k = rb) w6 (w6.setCell ⟨rb, i, none⟩ (.int .i64 0)) := Keep.setCell (S := fun k => k = rb) (p := ⟨rb, i, none⟩) (Keep.refl _ w6) (.inr rfl) _
            have H3a := Lib.hid (H2a.out.rstep hkr (H2a.out.rf.st hi16 0))
            have HO3 := Lib.hid (hkr.obj HO2.out HNE.out.2)
            have a3 : (w6.setCell ⟨rb, i, none⟩ (.int .i64 0)).cell? ⟨wr.heap.size, 1, none⟩ = some (.int .i64 (i : Int)) := HO3.out.cell 1
            clear hkr H2a HO2
            go_wp2_with fail
            clear a1 a3 cr fr
            generalize w6.setCell ⟨rb, i, none⟩ (.int .i64 0) = w7 at *
            refine (HCS.out _ _ H3a.out).mono ?_
            rintro e w8 ⟨rfl, hk8, hw8⟩
            have hb8 := H3a.out.wstep hk8 hw8
            have he : cancF F (i : Int) = upd F i 0 := by unfold cancF; rw [if_pos HIN.out]; rfl
            rw [he] at hb8
            obtain ⟨FF, hFF⟩ : ∃ FF, FF = upd F i 0 := ⟨_, rfl⟩
            rw [← hFF] at hb8
            have HB := Lib.hid hb8
            clear hb8 hk8 hw8 he hFF HCS H3a HO3 HLF
            -- the tail: FF, m, T
            go_wp2_with fail
            refine (alike_any wb rb FF m (by omega) w8 HB.out.wl HB.out.rf).mono ?_
            rintro e w9 ⟨rfl, kq, rfl⟩
            have HB9 := Lib.hid (HB.out.drewN kq)
            clear HB
            generalize w8.drewN kq = w9 at *
            go_wp2
            go_roundw
            case rel => exact ⟨k + 1, FF, m, T, by omega, rfl, by go_num, by omega, by omega, HB9.out⟩
            case measure => simp [intOf]; omega
          · go_wp2_with fail
            refine (HCS.out _ _ H1a.out).mono ?_
            rintro e w8 ⟨rfl, hk8, hw8⟩
            have hb8 := H1a.out.wstep hk8 hw8
            have hb9 : WR w w8 wb rb (cancF F id) m (cancF F id) := by
              refine ⟨hb8.wl, hb8.rf.congr fun i hi => ?_, hb8.ge, hb8.below⟩
              unfold cancF
              split
              · next hin =>
                have h1 := HLF.out
                unfold leftF at h1
                rw [if_pos hin] at h1
                unfold upd
                split
                · next e =>
                  have := (H1a.out.wl.bd i hi).1
                  rw [← e] at h1
                  omega
                · rfl
              · rfl
            obtain ⟨FF, hFF⟩ : ∃ FF, FF = cancF F id := ⟨_, rfl⟩
            rw [← hFF] at hb9
            have HB := Lib.hid hb9
            clear hb8 hb9 hk8 hw8 hFF a1 HCS HLF
            -- the tail: FF, m, T
            go_wp2_with fail
            refine (alike_any wb rb FF m (by omega) w8 HB.out.wl HB.out.rf).mono ?_
            rintro e w9 ⟨rfl, kq, rfl⟩
            have HB9 := Lib.hid (HB.out.drewN kq)
            clear HB
            generalize w8.drewN kq = w9 at *
            go_wp2
            go_roundw
            case rel => exact ⟨k + 1, FF, m, T, by omega, rfl, by go_num, by omega, by omega, HB9.out⟩
            case measure => simp [intOf]; omega
        · have hmi : (wh : Int) % 4 = 2 := by omega
          go_wp2_with fail
          clear c0 c1 c2
          generalize wr.alloc (.cells #[.int .u8 (wh : Int), .int .i64 id, .int .i64 n] 28) = wa at *
          have a0 : wa.cell? ⟨wr.heap.size, 0, none⟩ = some (.int .u8 (wh : Int)) := HOa.out.cell 0
          have a1 : wa.cell? ⟨wr.heap.size, 1, none⟩ = some (.int .i64 id) := HOa.out.cell 1
          have a2 : wa.cell? ⟨wr.heap.size, 2, none⟩ = some (.int .i64 n) := HOa.out.cell 2
          clear a0 a1 a2
          refine (tickW H1a.out.wl (by omega) (H1a.out.laid HL.out)).mono ?_
          rintro e w5 ⟨va, rfl, hva, hw5, hk5⟩
          have HB5 := Lib.hid (H1a.out.wstep hk5 hw5)
          have HVA := Lib.hid hva
          clear hva hw5 hk5
          go_wp2_with fail
          have hbd := H1a.out.wl.bd
          refine (rtick_any rb F hbd w5 HB5.out.rf).mono ?_
          rintro e w6 ⟨vb, rfl, hvb, hr6, hk6⟩
          have hva6 := own_block HVA.out (w' := w6) (fun j h1 h2 => hk6.block j h2 (fun e => by have := H1a.out.rf.lt; omega))
          have HVB := Lib.hid hvb
          have HVA6 := Lib.hid hva6
          obtain ⟨FF, hFF⟩ : ∃ FF, FF = down F 16 := ⟨_, rfl⟩
          have hb6 := HB5.out.rstep hk6 hr6
          rw [← hFF] at hb6
          have HB6 := Lib.hid hb6
          clear hvb hr6 hk6 hva6 hb6 hFF HVA HB5 hbd
          go_wp2_with fail
          refine (same_eq _ _ va vb (comes F 16) (by have := comes_len F 16; omega) w6 HVA6.out HVB.out).mono ?_
          rintro e w7 ⟨rfl, k7, rfl⟩
          have HB := Lib.hid (HB6.out.drewN k7)
          clear HB6 HVA6 HVB
          generalize w6.drewN k7 = w7 at *

          -- the tail: FF, (m + 1), T
          go_wp2_with fail
          refine (alike_any wb rb FF (m + 1) (by omega) w7 HB.out.wl HB.out.rf).mono ?_
          rintro e w9 ⟨rfl, kq, rfl⟩
          have HB9 := Lib.hid (HB.out.drewN kq)
          clear HB
          generalize w7.drewN kq = w9 at *
          go_wp2
          go_roundw
          case rel => exact ⟨k + 1, FF, (m + 1), T, by omega, rfl, by go_num, by omega, by omega, HB9.out⟩
          case measure => simp [intOf]; omega
        · have hmi : (wh : Int) % 4 = 3 := by omega
          obtain ⟨N, hN⟩ : ∃ N : Nat, min (max n 0) 20000 = (N : Int) := ⟨(min (max n 0) 20000).toNat, by omega⟩
          have hN2 : N ≤ 20000 := by omega
          have hN3 : N = (min n 20000).toNat := by omega
          have HN3 := Lib.hid hN3
          clear hN3
          by_cases hT : 30000 < T + (N : Int)
          · go_wp2
            go_ret
            exact ⟨rfl, H1a.out.below⟩
          · go_wp2_with fail
            clear c0 c1 c2
            generalize wr.alloc (.cells #[.int .u8 (wh : Int), .int .i64 id, .int .i64 n] 28) = wa at *
            have a0 : wa.cell? ⟨wr.heap.size, 0, none⟩ = some (.int .u8 (wh : Int)) := HOa.out.cell 0
            have a1 : wa.cell? ⟨wr.heap.size, 1, none⟩ = some (.int .i64 id) := HOa.out.cell 1
            have a2 : wa.cell? ⟨wr.heap.size, 2, none⟩ = some (.int .i64 n) := HOa.out.cell 2
            clear a0 a1
            generalize wr.heap.size = pa at *
            have hlta := HOa.out.lt
            have HG := Lib.hid H1a.out.ge
            have hrlt := H1a.out.rf.lt
            have hwlt := H1a.out.wl.lt
            have hbd := H1a.out.wl.bd
            have hbdA : ∀ j, ∀ i, i < 16 → 0 ≤ adv F j i ∧ adv F j i ≤ 10000 := adv_bd hbd
            have HBD := Lib.hid hbdA
            clear hbd hbdA a2
            go_loopw [11, 82] (fun ov c wi => ∃ j : Nat, j ≤ N ∧ c = .int .i64 (j : Int) ∧ Own wi wa.heap.size ov (rows F j) ∧ RfAt wi rb (adv F j) ∧ Keep (fun k => k = rb) wa wi) (fun _ c _ => N - (intOf c).toNat)
            case atStart => exact ⟨0, by omega, rfl, World.ownsRow_nil _ _ _ _, H1a.out.rf, Keep.refl _ _⟩
            case round =>
              obtain ⟨j, hj, rfl, ho, hr, hk⟩ := hrel
              have HO := Lib.hid ho
              have HR := Lib.hid hr
              have HK := Lib.hid hk
              clear ho hr hk
              by_cases hjl : j < N
              · have hji : (j : Int) < (N : Int) := by omega
                go_wp2_with fail
                refine (rtick_any rb (adv F j) (HBD.out j) wr HR.out).mono ?_
                rintro e w3 ⟨vt, rfl, hot, hr3, hk3⟩
                have hro := own_block HO.out (w' := w3) (fun i h1 h2 => hk3.block i h2 (by omega))
                have hka := HK.out.trans hk3
                have HRO := Lib.hid hro
                have HOT := Lib.hid hot
                have HK3 := Lib.hid hka
                have HR3 := Lib.hid hr3
                have hcl := comes_len (adv F j) 16
                have hrl := rows_len j F
                have HCL := Lib.hid (And.intro hcl hrl)
                obtain ⟨ii, hi1, hi2, hi3, hi4⟩ := int_info
                have HI := Lib.hid (And.intro hi1 (And.intro hi2 (And.intro hi3 hi4)))
                clear hi1 hi2 hi3 hi4 hot hr3 hk3 hro hka hcl hrl HO HR HK
                go_wp2_with (at_builtin; refine wpList_append_rows rfl (.tmp 84) (.tmp 86) 31 rfl wa.heap.size ii (by kernel_rfl) HI.out.1 HI.out.2.1 HI.out.2.2.1 HI.out.2.2.2 _ (rows F j) rfl HRO.out _ vt (comes (adv F j) 16) rfl HOT.out (by have := HCL.out; omega) HK3.out.size ?_)
                intro v' w4 ho hg hv
                have hk4 : Keep (fun k => k = rb) wa w4 := keep_grow HK3.out HRO.out hg
                have hr4 := HR3.out.block hg.size (hg.block rb HR3.out.lt (fun e => by have := (HRO.out.lt rb e.symm).1; omega))
                have HO4 := Lib.hid (show Own w4 wa.heap.size v' (rows F (j + 1)) by rw [(rows_succ F j).1]; exact ho)
                have HR4 := Lib.hid (show RfAt w4 rb (adv F (j + 1)) by rw [(rows_succ F j).2]; exact hr4)
                have HK4 := Lib.hid hk4
                clear ho hg hv hk4 hr4 HRO HOT HK3 HR3 HCL HI
                go_wp2
                go_roundw
                case rel => exact ⟨j + 1, by omega, by go_num, HO4.out, HR4.out, HK4.out⟩
                case measure => simp [intOf]; omega
              · obtain rfl : j = N := by omega
                have HB1 := Lib.hid (H1a.out.rstep HK.out HR.out)
                have a2 : wr.cell? ⟨pa, 2, none⟩ = some (.int .i64 n) := (HK.out.obj HOa.out HNE.out.2).cell 2
                clear HR
                go_wp2_with fail
                refine (skipW HB1.out.wl n HNB.out j HN3.out (by omega) (HB1.out.laid HL.out)).mono ?_
                rintro e w5 ⟨va, rfl, hva, hw5, hk5⟩
                have hvb := own_block HO.out (w' := w5) (fun i h1 h2 => hk5.block i h2 (by omega))
                have HVA := Lib.hid hva
                have HVB := Lib.hid hvb
                obtain ⟨FF, hFF⟩ : ∃ FF, FF = adv F j := ⟨_, rfl⟩
                have hb5 := HB1.out.wstep hk5 hw5
                rw [← hFF] at hb5
                have HB5 := Lib.hid hb5
                have hrl := rows_len j F
                clear hva hw5 hk5 hvb hb5 hFF a2 HO HK HB1
                go_wp2_with fail
                refine (same_eq _ _ va _ (rows F j) (by omega) w5 HVA.out HVB.out).mono ?_
                rintro e w7 ⟨rfl, k7, rfl⟩
                have HB := Lib.hid (HB5.out.drewN k7)
                clear HB5 HVA HVB hrl
                generalize w5.drewN k7 = w7 at *
                -- the tail: FF, (m + (j : Int)), (T + (j : Int))
                go_wp2_with fail
                refine (alike_any wb rb FF (m + (j : Int)) (by omega) w7 HB.out.wl HB.out.rf).mono ?_
                rintro e w9 ⟨rfl, kq, rfl⟩
                have HB9 := Lib.hid (HB.out.drewN kq)
                clear HB
                generalize w7.drewN kq = w9 at *
                go_wp2
                go_roundw
                case rel => exact ⟨k + 1, FF, (m + (j : Int)), (T + (j : Int)), by omega, rfl, by go_num, by omega, by omega, HB9.out⟩
                case measure => simp [intOf]; omega
      · obtain rfl : k = xs.length := by omega
        go_wp2
        go_ret
        exact ⟨rfl, HR.out.below⟩
  · have h1 : decide ((40 : Int) < (xs.length : Int)) = true := by simp; omega
    have h2 : (40 : Int) < (xs.length : Int) := by omega
    go_enter Tryd.func4, Tryd.ntmps4
    go_wp2_with fail
    refine (awake8_any w HL.out).mono ?_
    rintro e w1 ⟨rfl, hb1⟩
    go_wp2
    go_ret
    exact ⟨rfl, hb1⟩
end Go.Proofs.YtkeeledkdoiglaaDoor.Wh
