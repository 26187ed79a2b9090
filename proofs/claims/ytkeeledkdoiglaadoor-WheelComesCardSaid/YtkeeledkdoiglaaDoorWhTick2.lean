/- Wheel: the reference's Tick, walked. -/
import Derived.Test.YtkeeledkdoiglaaDoorWhTick
namespace Go.Proofs.YtkeeledkdoiglaaDoor.Wh
open Go.RowKit Go.Proofs.YtkeeledkdoiglaaDoor
structure TR (w wr : World) (rb : Nat) (R : Nat → Int) (o c : Value) (k : Nat) : Prop where
  le : k ≤ 16
  ctr : c = .int .i64 (k : Int)
  row : Own wr w.heap.size o (comes R k)
  at_ : RfAt wr rb (down R k)
  keep : Keep (fun j => j = rb) w wr
theorem RfAt.block {w w' : World} {rb : Nat} {R : Nat → Int} (h : RfAt w rb R) (hs : w.heap.size ≤ w'.heap.size) (hb : w'.heap[rb]? = w.heap[rb]?) : RfAt w' rb R :=
  ⟨Nat.lt_of_lt_of_le h.lt hs, fun i hi => (World.cell?_of_block (a := ⟨rb, i, none⟩) hb).trans (h.c i hi), fun j => (World.frozen?_of_block (a := ⟨rb, j, none⟩) hb).trans (h.free j)⟩
theorem own_more {w1 : World} {base : Nat} {v' : Value} {l : List Int} {x : Int} (ho : w1.ownsRow base 3 1 v' (l.length + 1) (ints l ++ [.int .i64 x])) : Own w1 base v' (l ++ [x]) := by
  unfold Own
  rw [List.length_append]
  unfold ints at ho ⊢
  rw [List.map_append]
  exact ho
theorem keep_grow {w wr w1 : World} {S : Nat → Prop} {o : Value} {l : List Int} (hk : Keep S w wr) (hr : Own wr w.heap.size o l) (hg : wr.grownBy w1 o.ownBlock) : Keep S w w1 :=
  ⟨hg.os.trans hk.os, hg.tape.trans hk.tape, hg.output.trans hk.output, Nat.le_trans hk.size hg.size, fun k h1 h2 => (hg.block k (Nat.lt_of_lt_of_le h1 hk.size) (fun e => by have := (hr.lt k e.symm).1; omega)).trans (hk.block k h1 h2)⟩
theorem TR.grow {w wr w1 : World} {rb : Nat} {R : Nat → Int} {o c : Value} {k : Nat} (T : TR w wr rb R o c k) (hlt : rb < w.heap.size) (hg : wr.grownBy w1 o.ownBlock) : RfAt w1 rb (down R k) ∧ Keep (fun j => j = rb) w w1 :=
  ⟨T.at_.block hg.size (hg.block rb T.at_.lt (fun e => by have := (T.row.lt rb e.symm).1; omega)), keep_grow T.keep T.row hg⟩
set_option maxRecDepth 100000 in
set_option maxHeartbeats 4000000 in
theorem rtick_any (rb : Nat) (R : Nat → Int) (hR : ∀ i, i < 16 → 0 ≤ R i ∧ R i ≤ 10000) (w : World) (h : RfAt w rb R) :
    Calls Tryd.prog 16 #[.pointer (some ⟨rb, 0, none⟩)] w fun e w' => ∃ v, e = .returned v ∧ Own w' w.heap.size v (comes R 16) ∧ RfAt w' rb (down R 16) ∧ Keep (fun j => j = rb) w w' := by
  have hlt := h.lt
  have H0 : TR w w rb R (.slice none 0 0) (.int .i64 0) 0 := ⟨by omega, rfl, World.ownsRow_nil _ _ _ _, by
    have : down R 0 = R := by funext i; simp [down]
    rw [this]; exact h, Keep.refl _ w⟩
  have HH := Lib.hid H0
  have HR := Lib.hid hR
  clear h H0 hR
  go_enter Tryd.func16, Tryd.ntmps16
  go_wp2_with fail
  go_loopw [3, 4] (fun o c wr => ∃ k : Nat, TR w wr rb R o c k) (fun _ c _ => 16 - (intOf c).toNat)
  case atStart => exact ⟨0, HH.out⟩
  case round =>
    obtain ⟨k, T⟩ := hrel
    obtain rfl := T.ctr
    have hk := T.le
    have HT := Lib.hid T
    clear T
    by_cases hk16 : k < 16
    · have hki : (k : Int) < 16 := by omega
      obtain ⟨x, hx⟩ : ∃ x, x = R k := ⟨_, rfl⟩
      have c0 : wr.cell? ⟨rb, k, none⟩ = some (.int .i64 x) := by
        have := HT.out.at_.c k hk16
        rw [hx]
        simpa [down] using this
      have hx0 := HR.out k hk16
      rw [← hx] at hx0
      have HX := Lib.hid hx
      clear hx
      by_cases h1 : x = 1
      · subst h1
        have hcm : comes R (k + 1) = comes R k ++ [(k : Int)] := by
          conv => lhs; unfold comes
          rw [if_pos HX.out.symm]
        have HCM := Lib.hid hcm
        have hcl := comes_len R k
        have HCL := Lib.hid hcl
        obtain ⟨ii, hi1, hi2, hi3, hi4⟩ := int_info
        have HI := Lib.hid (And.intro hi1 (And.intro hi2 (And.intro hi3 hi4)))
        clear hcm hcl hi1 hi2 hi3 hi4
        have hdn : upd (down R k) k 0 = down R (k + 1) := by
          funext i
          have hx' := HX.out
          by_cases e : i = k
          · subst e
            simp only [upd, down, if_pos]
            rw [if_pos (by omega)]
            omega
          · simp only [upd, down, if_neg e]
            have : (i < k + 1 ∧ 0 < R i) ↔ (i < k ∧ 0 < R i) := by omega
            simp only [this]
        have HDN := Lib.hid hdn
        clear hdn
        go_wp2_with (at_builtin; refine wpList_append_one rfl (.tmp 15) (.tmp 17) 31 rfl w.heap.size 3 ii (.int .i64 0) 8 (by kernel_rfl) HI.out.1 HI.out.2.1 HI.out.2.2.1 HI.out.2.2.2 rfl _ (comes R k).length (ints (comes R k)) (.int .i64 (k : Int)) rfl HT.out.row rfl rfl (by have := HCL.out; unfold maxLen; omega) (by have := HCL.out; omega) HT.out.keep.size ?_)
        intro v' w1 ho hg hv
        obtain ⟨gn, capn, rfl, -, -⟩ := ho.form (by omega)
        have hgr := HT.out.grow hlt hg
        have HO := Lib.hid (own_more ho)
        rw [← HCM.out] at HO
        have H1 := Lib.hid hgr.1
        have HK1 := Lib.hid hgr.2
        clear ho hg hv hgr c0 HT HCM
        have c0 : w1.cell? ⟨rb, k, none⟩ = some (.int .i64 1) := by
          have := H1.out.c k hk16
          rw [HX.out]
          simpa [down] using this
        have f0 : w1.frozen? ⟨rb, k, none⟩ = false := H1.out.free k
        go_wp2_with fail
        go_still_tail 8, (by kernel_rfl)
        change wpList _ _ _ _ _ w1.drew
        have H2 := Lib.hid (show RfAt w1.drew rb (down R k) from H1.out.drewN 1)
        have HK2 := Lib.hid (HK1.out.drew)
        have HO2 := Lib.hid (show Own w1.drew w.heap.size _ (comes R (k + 1)) from HO.out)
        clear c0 f0 HO H1 HK1
        generalize w1.drew = w2 at *
        have f0 : w2.frozen? ⟨rb, k, none⟩ = false := H2.out.free k
        have c0 : w2.cell? ⟨rb, k, none⟩ = some (.int .i64 1) := by
          have := H2.out.c k hk16
          rw [HX.out]
          simpa [down] using this
        go_wp2
        go_roundw
        case rel =>
          refine ⟨k + 1, by omega, by go_num, ?_, ?_, HK2.out.setCell (p := ⟨rb, k, none⟩) (.inr rfl) _⟩
          · exact own_block HO2.out (fun j h1 h2 => heap_setCell_other _ _ _ _ (by simp; omega))
          · rw [← HDN.out]
            exact H2.out.st hk16 _
        case measure => simp [intOf]; omega
      · have hcm : comes R (k + 1) = comes R k := by
          conv => lhs; unfold comes
          rw [if_neg (by rw [← HX.out]; exact h1)]
        have HCM := Lib.hid hcm
        have hx1 : (x == 1) = false := by simpa using h1
        clear hcm h1
        by_cases h0 : 0 < x
        · have hw : IntKind.i64.wrap (x - 1) = x - 1 := IntWalk.i64_in _ (by omega)
          have f0 : wr.frozen? ⟨rb, k, none⟩ = false := HT.out.at_.free k
          have hdn : upd (down R k) k (x - 1) = down R (k + 1) := by
            funext i
            have hx' := HX.out
            by_cases e : i = k
            · subst e
              simp only [upd, down, if_pos]
              rw [if_pos (by omega)]
              omega
            · simp only [upd, down, if_neg e]
              have : (i < k + 1 ∧ 0 < R i) ↔ (i < k ∧ 0 < R i) := by omega
              simp only [this]
          have HDN := Lib.hid hdn
          clear hdn
          go_wp2_with fail
          go_still_tail 8, (by kernel_rfl)
          change wpList _ _ _ _ _ wr.drew
          have HT1 := Lib.hid (show TR w wr.drew rb R _ _ k from ⟨HT.out.le, HT.out.ctr, HT.out.row, HT.out.at_.drewN 1, HT.out.keep.drew⟩)
          clear c0 f0 HT
          generalize wr.drew = w1 at *
          have f0 : w1.frozen? ⟨rb, k, none⟩ = false := HT1.out.at_.free k
          have c0 : w1.cell? ⟨rb, k, none⟩ = some (.int .i64 x) := by
            have := HT1.out.at_.c k hk16
            rw [HX.out]
            simpa [down] using this
          go_wp2
          go_roundw
          case rel =>
            refine ⟨k + 1, by omega, by go_num, ?_, ?_, HT1.out.keep.setCell (p := ⟨rb, k, none⟩) (.inr rfl) _⟩
            · rw [HCM.out]
              exact own_block HT1.out.row (fun j h1 h2 => heap_setCell_other _ _ _ _ (by simp; omega))
            · rw [← HDN.out]
              exact HT1.out.at_.st hk16 _
          case measure => simp [intOf]; omega
        · have hdn : down R (k + 1) = down R k := by
            funext i
            have hx' := HX.out
            by_cases e : i = k
            · subst e
              simp only [down]
              rw [if_neg (by omega), if_neg (by omega)]
            · simp only [down]
              have : (i < k + 1 ∧ 0 < R i) ↔ (i < k ∧ 0 < R i) := by omega
              simp only [this]
          have HDN := Lib.hid hdn
          clear hdn
          go_wp2
          go_roundw
          case rel => exact ⟨k + 1, by omega, by go_num, by rw [HCM.out]; exact HT.out.row, by rw [HDN.out]; exact HT.out.at_, HT.out.keep⟩
          case measure => simp [intOf]; omega
    · obtain rfl : k = 16 := by omega
      go_wp2
      go_ret
      exact ⟨_, rfl, HT.out.row, HT.out.at_, HT.out.keep⟩
end Go.Proofs.YtkeeledkdoiglaaDoor.Wh
