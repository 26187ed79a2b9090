/- Wheel: Tick, walked. -/
import Derived.Test.YtkeeledkdoiglaaDoorWhTick2
import Derived.Test.YtkeeledkdoiglaaDoorWhWL
namespace Go.Proofs.YtkeeledkdoiglaaDoor
open Go.RowKit
theorem laidW_block {w w' : World} (h : LaidW w) (he : w'.heap[0]? = w.heap[0]?) : LaidW w' := by
  unfold LaidW Lib.TabIs World.var? at *
  rw [g32, Option.bind_some] at h ⊢
  rw [he]
  exact h
theorem laidW_lt {w : World} (h : LaidW w) : 0 < w.heap.size := by
  have := Lib.TabIs.cell h g32 0 (by decide)
  exact World.block_lt_of_cell? w ⟨0, 0, none⟩ this
theorem laidW_keep {w w' : World} {S : Nat → Prop} (h : LaidW w) (hk : Keep S w w') (hs : ¬ S 0) : LaidW w' := laidW_block h (hk.block 0 (laidW_lt h) hs)
end Go.Proofs.YtkeeledkdoiglaaDoor
namespace Go.Proofs.YtkeeledkdoiglaaDoor.Wh
open Go.RowKit Go.Proofs.YtkeeledkdoiglaaDoor
theorem WAt.ne0 {w : World} {wb : Nat} {s : WS} (h : WAt w wb s) (hL : LaidW w) : wb ≠ 0 := by
  rintro rfl
  have h1 := Lib.TabIs.cell hL g32 0 (by decide)
  have h2 := h.now
  have := h1.symm.trans h2
  simp at this
structure TK (w wr : World) (wb : Nat) (s : WS) (o lv : Value) (l k : Nat) : Prop where
  lv : lv = .int .u16 (l : Int)
  row : Own wr w.heap.size o (comes s.left k)
  st : ∃ s1, WAt wr wb s1 ∧ TS s s1 l k
  keep : Keep (fun j => j = wb) w wr
set_option maxRecDepth 100000 in
set_option maxHeartbeats 4000000 in
theorem tick_any (wb : Nat) (s : WS) (hG : Good s) (hn : s.now ≤ 400000) (w : World) (h : WAt w wb s) (hL : LaidW w) :
    Calls Tryd.prog 12 #[.pointer (some ⟨wb, 0, none⟩)] w fun e w' => ∃ v s', e = .returned v ∧ Own w' w.heap.size v (comes s.left 16) ∧ WAt w' wb s' ∧ Good s' ∧ s'.now ≤ s.now + 1 ∧ (∀ i, i < 16 → s'.left i = down s.left 16 i) ∧ Keep (fun j => j = wb) w w' := by
  have hn0 := hG.n
  obtain ⟨nn, hnn⟩ : ∃ nn : Nat, s.now + 1 = (nn : Int) := ⟨(s.now + 1).toNat, by omega⟩
  obtain ⟨j, hj⟩ : ∃ j : Nat, ((s.now + 1) % 32).toNat = j := ⟨_, rfl⟩
  have hj32 : (j : Int) < 32 := by omega
  have hj32' : j < 32 := by omega
  have hnn' : nn ≤ 400001 := by omega
  have hq : (nn : Int).tmod 32 = (j : Int) := by rw [Int.tmod_eq_emod_of_nonneg (by omega)]; omega
  have HTS := Lib.hid (ts_start hG)
  rw [hj, hnn] at HTS
  have hwb := h.ne0 hL
  have c0 := h.now
  have f0 := h.free 0
  have hw : IntKind.i64.wrap (s.now + 1) = (nn : Int) := by rw [hnn]; exact IntWalk.i64_in _ (by omega)
  have HG := Lib.hid hG
  have H := Lib.hid h
  have HL := Lib.hid hL
  have hlt := h.lt
  have HNN := Lib.hid (And.intro hnn hj)
  have hs16 := hG.s16 j hj32'
  clear h hG hL hnn hj hn0 hn
  go_enter Tryd.func12, Tryd.ntmps12
  go_wp2_with fail
  have H1 := Lib.hid (H.out.st_now (nn : Int))
  have HK1 := Lib.hid (Keep.setCell (S := fun k => k = wb) (p := ⟨wb, 0, none⟩) (Keep.refl _ w) (.inr rfl) (.int .i64 (nn : Int)))
  clear c0 f0 H hw
  generalize w.setCell ⟨wb, 0, none⟩ (.int .i64 (nn : Int)) = w1 at *
  have c0 : w1.cell? ⟨wb, 0, none⟩ = some (.int .i64 (nn : Int)) := H1.out.now
  have cs : w1.cell? ⟨wb, 18 + j, none⟩ = some (.int .u16 (s.S j : Int)) := H1.out.spoke j hj32'
  go_quiet (fail)
  have H2 := Lib.hid (show TK w (w1.drewN nq) wb s (.slice none 0 0) (.int .u16 (s.S j : Int)) (s.S j) 0 from ⟨rfl, World.ownsRow_nil _ _ _ _, ⟨_, H1.out.drewN nq, HTS.out⟩, HK1.out.drewN nq⟩)
  clear c0 cs H1 HK1 HTS
  generalize w1.drewN nq = w2 at *
  go_wp2_with fail
  go_loopw [3, 4] (fun o lv wr => ∃ l k, TK w wr wb s o lv l k) (fun _ lv _ => (intOf lv).toNat)
  case atStart => exact ⟨_, _, H2.out⟩
  case round =>
    clear H2
    obtain ⟨l, k, T⟩ := hrel
    obtain rfl := T.lv
    obtain ⟨s1, ha, ts⟩ := T.st
    by_cases hl : l = 0
    · subst hl
      have HT := Lib.hid (And.intro T (And.intro ha ts))
      have c2 : wr.cell? ⟨wb, 17, none⟩ = some (.int .u16 (s1.M : Int)) := ha.set
      have hE := ts_end HG.out ts
      have hnow : s1.now ≤ s.now + 1 := by rw [ts.now]; omega
      have HE := Lib.hid (And.intro hE hnow)
      clear T ha ts hE hnow
      by_cases hM : s1.M = 0
      · have f0 : wr.frozen? ⟨wb, 0, none⟩ = false := HT.out.2.1.free 0
        have c0 : wr.cell? ⟨wb, 0, none⟩ = some (.int .i64 s1.now) := HT.out.2.1.now
        have HM := Lib.hid hM
        rw [hM] at c2
        clear hM
        go_wp2
        go_ret
        have hr := good_rest HE.out.1.1 HM.out
        refine ⟨_, _, rfl, ?_, HT.out.2.1.st_now 0, hr.1, ?_, fun i hi => (hr.2 i hi).trans (HE.out.1.2.2 i hi), HT.out.1.keep.setCell (p := ⟨wb, 0, none⟩) (.inr rfl) _⟩
        · rw [HE.out.1.2.1]
          exact own_block HT.out.1.row (fun j h1 h2 => heap_setCell_other _ _ _ _ (by simp; omega))
        · have := HG.out.n
          show (0 : Int) ≤ s.now + 1
          omega
      · have hM' : ((s1.M : Int) == 0) = false := by simp; omega
        clear hM
        go_wp2
        go_ret
        exact ⟨_, _, rfl, by rw [HE.out.1.2.1]; exact HT.out.1.row, HT.out.2.1, HE.out.1.1, HE.out.2, HE.out.1.2.2, HT.out.1.keep⟩
    · obtain ⟨c, hc, hc16, hkc, hb, hbs, hmod, hno, hone⟩ := ts_at HG.out ts hl
      have hskip := fun hn => ts_skip HG.out ts hl hn
      have hdue := fun hn => ts_due HG.out ts hl hn
      have hlw := ts.llt
      have hclen := comes_len s.left k
      have hk16 := ts.kle
      have hDc : s1.D c = s.D c := by rw [ts.D]
      have hDb := HG.out.due c hc16 hbs
      have hn0 := HG.out.n
      obtain ⟨dn, hdn⟩ : ∃ dn : Nat, s.D c = (dn : Int) := ⟨(s.D c).toNat, by omega⟩
      have hTZ := tz16_any l hlw hl wr (laidW_keep HL.out T.keep (fun e => hwb e.symm))
      rw [← hc] at hskip hdue hTZ
      have hl0 : ((l : Int) == 0) = false := by simp; omega
      have hand : bits BinOp.and IntKind.u16 (l : Int) ((l : Int) - 1) = ((l &&& (l - 1) : Nat) : Int) := by
        rw [show (l : Int) - 1 = ((l - 1 : Nat) : Int) by omega, and16 l _ hlw (by omega)]
      have hmeas : l &&& (l - 1) < l := Nat.lt_of_le_of_lt Nat.and_le_right (by omega)
      have HTZ := Lib.hid hTZ
      have HT := Lib.hid T
      have HA := Lib.hid ha
      have HTS := Lib.hid ts
      have HSK := Lib.hid hskip
      have HDU := Lib.hid hdue
      have HF := Lib.hid (And.intro hb (And.intro hmod (And.intro hone (And.intro hDc (And.intro hclen hk16)))))
      have hci : (c : Int) < 16 := by omega
      have HH := Lib.hid (And.intro hmeas (And.intro hDb hkc))
      clear T ha ts hskip hdue hTZ hc hb hbs hno hone hmod hDc hclen hk16 hmeas hDb hkc hl
      go_wp2_with fail
      refine HTZ.out.mono ?_
      clear HTZ
      rintro e w3 ⟨rfl, rfl⟩
      have c0 : w3.cell? ⟨wb, 0, none⟩ = some (.int .i64 (nn : Int)) := by
        rw [← HNN.out.1, ← HTS.out.now]
        exact HA.out.now
      have cd : w3.cell? ⟨wb, 1 + c, none⟩ = some (.int .i64 (dn : Int)) := by
        rw [← hdn, ← HF.out.2.2.2.1]
        exact HA.out.due c hc16
      have HDN := Lib.hid hdn
      clear hdn
      go_wp2_with fail
      go_quiet (fail)
      have HA4 := Lib.hid (HA.out.drewN nq)
      have HT4 := Lib.hid (show TK w (w3.drewN nq) wb s _ _ l k from ⟨HT.out.lv, HT.out.row, ⟨s1, HA.out.drewN nq, HTS.out⟩, HT.out.keep.drewN nq⟩)
      clear c0 cd HA HT
      generalize w3.drewN nq = w4 at *
      have hwrap : IntKind.u16.wrap ((l : Int) - 1) = (l : Int) - 1 := by
        have : (l : Int) ≠ 0 := by simpa using hl0
        simp [IntKind.wrap, IntKind.bits, IntKind.signed]
        omega
      by_cases hdue : dn = nn
      · subst hdue
        have h1 : s.left c = 1 := HF.out.2.2.1.2 (by rw [HDN.out, HNN.out.1])
        have HD := Lib.hid (HDU.out h1)
        have HC := Lib.hid (cancel_in wb s1 c dn j (by have := HF.out.2.1; have := HNN.out; have := HDN.out; omega) hc16 (HF.out.2.2.2.1.trans HDN.out) (by omega) HTS.out.weak.m (HTS.out.weak.s16 j hj32') HF.out.1 w4 HA4.out)
        clear HDU HSK h1
        go_wp2_with fail
        refine HC.out.mono ?_
        clear HC
        rintro e w5 ⟨rfl, hk5, ha5⟩
        have hoff : s1.off c = { s1 with M := s1.M &&& (65535 ^^^ 2 ^ c), S := upd s1.S j (s1.S j &&& (65535 ^^^ 2 ^ c)) } := by
          have e : (s1.D c % 32).toNat = j := by
            have := HF.out.2.1
            have := HNN.out
            rw [HF.out.2.2.2.1]
            omega
          unfold WS.off
          rw [e]
        rw [← hoff] at ha5
        have hk := HT4.out.keep.trans hk5
        have hrow := own_block HT4.out.row (w' := w5) (fun i h1 h2 => hk5.block i h2 (by omega))
        have HA5 := Lib.hid ha5
        have HK5 := Lib.hid hk
        have HR5 := Lib.hid hrow
        have hcl := HF.out.2.2.2.2
        have HCL := Lib.hid hcl
        obtain ⟨ii, hi1, hi2, hi3, hi4⟩ := int_info
        have HI := Lib.hid (And.intro hi1 (And.intro hi2 (And.intro hi3 hi4)))
        clear hcl hi1 hi2 hi3 hi4 hk5 ha5 hoff hk hrow HA4 HT4
        go_wp2_with (at_builtin; refine wpList_append_one rfl (.tmp 47) (.tmp 49) 31 rfl w.heap.size 3 ii (.int .i64 0) 8 (by kernel_rfl) HI.out.1 HI.out.2.1 HI.out.2.2.1 HI.out.2.2.2 rfl _ (comes s.left k).length (ints (comes s.left k)) (.int .i64 (c : Int)) rfl HR5.out rfl rfl (by have := HCL.out; unfold maxLen; omega) (by have := HCL.out; omega) HK5.out.size ?_)
        intro v' w6 ho hg hv
        obtain ⟨gn, capn, rfl, -, -⟩ := ho.form (by omega)
        have HO := Lib.hid (own_more ho)
        rw [← HD.out.2] at HO
        have hne : w5.heap.size = w5.heap.size := rfl
        have HA6 := Lib.hid (show WAt w6 wb (s1.off c) from by
          have hb : w6.heap[wb]? = w5.heap[wb]? := hg.block wb HA5.out.lt (fun e => by have := (HR5.out.lt wb e.symm).1; omega)
          have hc : ∀ j, w6.cell? ⟨wb, j, none⟩ = w5.cell? ⟨wb, j, none⟩ := fun j => World.cell?_of_block (a := ⟨wb, j, none⟩) hb
          have hf : ∀ j, w6.frozen? ⟨wb, j, none⟩ = w5.frozen? ⟨wb, j, none⟩ := fun j => World.frozen?_of_block (a := ⟨wb, j, none⟩) hb
          have h := HA5.out
          exact ⟨Nat.lt_of_lt_of_le h.lt hg.size, (hc 0).trans h.now, fun i hi => (hc _).trans (h.due i hi), (hc 17).trans h.set, fun j hj => (hc _).trans (h.spoke j hj), fun j => (hf j).trans (h.free j)⟩)
        have HK6 := Lib.hid (keep_grow HK5.out HR5.out hg)
        clear ho hg hv hne HA5 HK5 HR5
        go_wp2
        go_roundw
        case rel =>
          refine ⟨l &&& (l - 1), c + 1, ?_, ?_, ?_, ?_⟩
          · rfl
          · exact HO.out
          · exact ⟨s1.off c, HA6.out, HD.out.1⟩
          · exact HK6.out
        case measure =>
          simp [intOf]
          exact HH.out.1
      · have hx : ((dn : Int) == (nn : Int)) = false := by simp; omega
        have h1 : s.left c ≠ 1 := fun e => by
          have := HF.out.2.2.1.1 e
          rw [HDN.out, HNN.out.1] at this
          omega
        have HS := Lib.hid (HSK.out h1)
        clear HDU HSK h1 hdue
        go_wp2
        go_roundw
        case rel =>
          refine ⟨l &&& (l - 1), c + 1, ?_, ?_, ?_, ?_⟩
          · rfl
          · rw [HS.out.2]; exact HT4.out.row
          · exact ⟨s1, HA4.out, HS.out.1⟩
          · exact HT4.out.keep
        case measure =>
          simp [intOf]
          exact HH.out.1
theorem tickW {w : World} {wb : Nat} {F : Nat → Int} {m : Int} (h : WL w wb F m) (hm : m ≤ 400000) (hL : LaidW w) :
    Calls Tryd.prog 12 #[.pointer (some ⟨wb, 0, none⟩)] w fun e w' => ∃ v, e = .returned v ∧ Own w' w.heap.size v (comes F 16) ∧ WL w' wb (down F 16) (m + 1) ∧ Keep (fun j => j = wb) w w' := by
  obtain ⟨s, ha, hG, hn, hF⟩ := h
  refine (tick_any wb s hG (by omega) w ha hL).mono ?_
  rintro e w' ⟨v, s', rfl, ho, h1, h2, h3, h4, h5⟩
  exact ⟨v, rfl, by rw [← comes_congr 16 hF]; exact ho, ⟨s', h1, h2, by omega, fun i hi => (h4 i hi).trans (down_congr hF i hi)⟩, h5⟩
theorem WL.ne0 {w : World} {wb : Nat} {F : Nat → Int} {m : Int} (h : WL w wb F m) (hL : LaidW w) : wb ≠ 0 := by
  obtain ⟨s, ha, -⟩ := h
  exact ha.ne0 hL
end Go.Proofs.YtkeeledkdoiglaaDoor.Wh
