/- The law of bursts. -/
import Derived.Test.YtmehafolnpkmhaaDoorFraWrd
namespace Go.Proofs.YtmehafolnpkmhaaDoor
open Go.RowKit Go.ChangeShapes Go.WideShapes
theorem dec_hurt {t : ByteArray} (h : Crc.more 65535 t.data.toList ≠ 0) : ∃ n : Int, decF t = (Fr.zero, n) ∧ n ≠ 0 := by
  unfold decF
  split
  · exact ⟨10, rfl, by decide⟩
  · rw [if_pos (by rw [Crc.opened_no t h])]
    exact ⟨9, rfl, by decide⟩
theorem enc_zero {f : Fr} (h : rightP f) : Crc.more 65535 (encF f).data.toList = 0 := by
  unfold encF
  rw [if_pos h]
  exact Crc.sealed_zero _
theorem toList_beq (s t : ByteArray) : (s.toList == t.toList) = decide (s = t) := by
  by_cases h : s = t
  · subst h
    simp
  · have h2 : ¬ s.toList = t.toList := fun e => h (by
      rw [ByteArray.toList_eq, ByteArray.toList_eq] at e
      exact Crc.ext_list e)
    simp [h, h2]
set_option maxRecDepth 100000 in
set_option maxHeartbeats 8000000 in
theorem frameBursts_walk {H : Type} {enc : TypeId × Value → H} (v : Value) (d : DataW H) (p : List MemPlace) {w : World}
    (h : DataW.Trod enc Tryd.prog w 0 (fun _ => true) true 49 v d p) (o : Value.okWide Tryd.prog w .any 0 49 v) (hsz : ∀ x ∈ d.weights Tryd.prog 49, x ≤ 140737488351232)
    (at_ : Int) (_ : (Lit.int .i64 at_).wf = true) (pt : Int) (hpt : (Lit.int .u16 pt).wf = true) (_ : World) (hL : LaidW w) :
    Calls Tryd.prog 12 #[v, .int .i64 at_, .int .u16 pt] w fun e w' => e = .returned (.bool true) ∧ Below w.heap.size w w' := by
  obtain ⟨f, rfl, hok, hts⟩ := frame_arg _ h o hsz
  have hp16 := in_u16 hpt
  obtain ⟨pn, rfl⟩ := Int.eq_ofNat_of_zero_le hp16.1
  obtain ⟨C, hC⟩ : ∃ C, C = f.cells := ⟨_, rfl⟩
  rw [← hC]
  have hCs := Fr.size hC
  have HF := Lib.hid hC
  have hC1 : C.all (·.oneCell') = true := by rw [hC]; kernel_rfl
  have hCi : (Tryd.prog.info? 49).map (·.size) = some C.size := by rw [hCs]; kernel_rfl
  have HCI := Lib.hid (And.intro hC1 hCi)
  have HOK := Lib.hid hok
  have hts2 : f.t.size ≤ 140737488355328 := by omega
  have HOa := Lib.hid (ObjAt.new w C 49)
  have HXa := Lib.hid ((Below.refl w.heap.size w).alloc (Nat.le_refl _) (.cells C 49))
  have HLa := Lib.hid (laidW_below hL HXa.out (Nat.le_refl _))
  clear hC hC1 hCi hok h o hsz hL hts
  go_enter Tryd.func12, Tryd.ntmps12
  go_wp2_with fail
  generalize w.alloc (.cells C 49) = wa at *
  generalize hgg : w.heap.size = g at *
  have HGG := Lib.hid hgg
  clear hgg
  refine (awake_any _ HLa.out).mono ?_
  rintro e wb ⟨rfl, hbb⟩
  have HOb := Lib.hid (obj_call HOa.out hbb)
  have HXb := Lib.hid (HXa.out.trans (hbb.mono (Nat.le_of_lt HOa.out.lt)))
  clear hbb
  go_wp2_with (first
    | ((with_reducible refine wpList_frame (.tmp 3) ?ho_z1 ?hw_z1 g C ?hx_z1 hCs ?hg_z1 ?h_z1); (case ho_z1 => rfl); (case hw_z1 => kernel_rfl); (case hx_z1 => rfl); (case hg_z1 => exact HOb.out)))
  by_cases hr : rightP f
  · obtain ⟨s, hs⟩ : ∃ s, s = encF f := ⟨_, rfl⟩
    have h1 := enc_size hr
    have h2 := right_bd hr
    rw [← hs] at h1
    have hsz : s.size ≤ 42 := by omega
    have HS := Lib.hid hs
    have HR := Lib.hid hr
    clear h1 h2 hs hr
    refine (encode_ok C f HF.out HOK.out HR.out s HS.out _).mono ?_
    rintro e wc ⟨rfl, hbc⟩
    have HOc := Lib.hid (obj_call HOb.out hbc)
    have HXc := Lib.hid (HXb.out.trans (hbc.mono (Nat.le_of_lt HOb.out.lt)))
    clear hbc
    go_wp2_with fail
    obtain ⟨t, ht⟩ : ∃ t, t = Crc.burst s at_ pn := ⟨_, rfl⟩
    have hbu := burst_any s (by unfold maxLen; omega) at_ pn (by omega) wc
    rw [← ht] at hbu
    have htz : t.size ≤ 42 := by rw [ht, Crc.burst_size]; exact hsz
    have HT := Lib.hid ht
    clear ht
    refine (hbu).mono ?_
    rintro e wd ⟨rfl, hbd⟩
    have HOd := Lib.hid (obj_call HOc.out hbd)
    have HXd := Lib.hid (HXc.out.trans (hbd.mono (Nat.le_of_lt HOc.out.lt)))
    clear hbd hbu
    by_cases e : t = s
    · have hbe : (t.toList == s.toList) = true := by rw [toList_beq]; exact decide_eq_true e
      have HE := Lib.hid e
      clear e
      go_wp2_with fail
      refine (decode_ok C f HF.out HOK.out HR.out t (HE.out.trans HS.out) _).mono ?_
      rintro e we ⟨rfl, hbe⟩
      have HOe := Lib.hid (obj_call HOd.out hbe)
      have HXe := Lib.hid (HXd.out.trans (hbe.mono (Nat.le_of_lt HOd.out.lt)))
      clear hbe
      go_wp2_with (first
        | ((with_reducible refine wpList_store_new ?hgd_z2 49 ?x_z2 ?y_z2 ?ho_z2 we.heap.size ?c_z2 C ?hg_z2 ?hx_z2 ?hy_z2 ?hi_z2 ?hs_z2 ?h1_z2 ?h_z2); (case ho_z2 => rfl); (case hgd_z2 => rfl); (case hg_z2 => rfl); (case hx_z2 => rfl); (case hy_z2 => rfl); (case hi_z2 => exact HCI.out.2); (case hs_z2 => rw [hCs]; rfl); (case h1_z2 => exact HCI.out.1); refine unhalt ?_))
      have HOf := Lib.hid (HOe.out.alloc (.cells C 49))
      have HPf := Lib.hid (ObjAt.new we C 49)
      have HXf := Lib.hid (HXe.out.alloc (Nat.le_of_lt HOe.out.lt) (.cells C 49))
      generalize we.alloc (.cells C 49) = wf at *
      generalize we.heap.size = g3 at *
      refine halt ?_
      go_wp2_with (first
        | ((with_reducible refine wpList_frame (.tmp 3) ?ho_z3 ?hw_z3 g C ?hx_z3 hCs ?hg_z3 ?h_z3); (case ho_z3 => rfl); (case hw_z3 => kernel_rfl); (case hx_z3 => rfl); (case hg_z3 => exact HOf.out))
        | ((with_reducible refine wpList_frame (.tmp 10) ?ho_z4 ?hw_z4 g3 C ?hx_z4 hCs ?hg_z4 ?h_z4); (case ho_z4 => rfl); (case hw_z4 => kernel_rfl); (case hx_z4 => rfl); (case hg_z4 => exact HPf.out))
        | ((with_reducible refine wpList_eqFr2 (.tmp 38) (.tmp 39) 49 ?ho_z5 ?hw_z5 f f true (fr_self f) ?hx_z5 ?hy_z5 ?h_z5); (case ho_z5 => rfl); (case hw_z5 => kernel_rfl); (case hx_z5 => rw [← HF.out]; rfl); (case hy_z5 => rw [← HF.out]; rfl)))
      go_ret
      exact ⟨rfl, by rw [HGG.out]; exact HXf.out⟩
    · have hbe : (t.toList == s.toList) = false := by rw [toList_beq]; exact decide_eq_false e
      obtain ⟨n, hd, hn⟩ := dec_hurt (t := t) (by
        have hz := enc_zero HR.out
        rw [← HS.out] at hz
        rw [HT.out]
        exact Crc.burst_found s at_ pn (by omega) hz (by rw [← HT.out]; exact e))
      have hn1 : (n != 0) = true := by simpa using hn
      have HD := Lib.hid hd
      clear hd e hn
      obtain ⟨CZ, hCZ⟩ : ∃ C, C = Fr.zero.cells := ⟨_, rfl⟩
      have HCZ := Lib.hid hCZ
      have hZs := Fr.size hCZ
      have hZ1 : CZ.all (·.oneCell') = true := by rw [hCZ]; kernel_rfl
      have hZi : (Tryd.prog.info? 49).map (·.size) = some CZ.size := by rw [hZs]; kernel_rfl
      have HZI := Lib.hid (And.intro hZ1 hZi)
      clear hCZ hZ1 hZi
      go_wp2_with fail
      refine (decode_no CZ HCZ.out t (by omega) n HD.out _).mono ?_
      rintro e we ⟨rfl, hbe⟩
      have HOe := Lib.hid (obj_call HOd.out hbe)
      have HXe := Lib.hid (HXd.out.trans (hbe.mono (Nat.le_of_lt HOd.out.lt)))
      clear hbe
      go_wp2_with (first
        | ((with_reducible refine wpList_store_new ?hgd_z6 49 ?x_z6 ?y_z6 ?ho_z6 we.heap.size ?c_z6 CZ ?hg_z6 ?hx_z6 ?hy_z6 ?hi_z6 ?hs_z6 ?h1_z6 ?h_z6); (case ho_z6 => rfl); (case hgd_z6 => rfl); (case hg_z6 => rfl); (case hx_z6 => rfl); (case hy_z6 => rfl); (case hi_z6 => exact HZI.out.2); (case hs_z6 => rw [hZs]; rfl); (case h1_z6 => exact HZI.out.1); refine unhalt ?_))
      have HOf := Lib.hid (HOe.out.alloc (.cells CZ 49))
      have HPf := Lib.hid (ObjAt.new we CZ 49)
      have HXf := Lib.hid (HXe.out.alloc (Nat.le_of_lt HOe.out.lt) (.cells CZ 49))
      generalize we.alloc (.cells CZ 49) = wf at *
      generalize we.heap.size = g3 at *
      refine halt ?_
      go_wp2_with (first
        | ((with_reducible refine wpList_frame (.tmp 10) ?ho_z7 ?hw_z7 g3 CZ ?hx_z7 hZs ?hg_z7 ?h_z7); (case ho_z7 => rfl); (case hw_z7 => kernel_rfl); (case hx_z7 => rfl); (case hg_z7 => exact HPf.out))
        | ((with_reducible refine wpList_buildg ?hw_z8 49 ?parts_z8 ?ho_z8 Fr.zero.cells ?hc_z8 ?h_z8); (case ho_z8 => rfl); (case hw_z8 => kernel_rfl); (case hc_z8 => kernel_rfl))
        | ((with_reducible refine wpList_eqFr2 (.tmp 45) (.tmp 46) 49 ?ho_z9 ?hw_z9 Fr.zero Fr.zero true (fr_self Fr.zero) ?hx_z9 ?hy_z9 ?h_z9); (case ho_z9 => rfl); (case hw_z9 => kernel_rfl); (case hx_z9 => rw [← HCZ.out]; rfl); (case hy_z9 => rfl)))
      go_ret
      exact ⟨rfl, by rw [HGG.out]; exact HXf.out⟩
  · refine (encode_no C f HF.out HOK.out hts2 hr _).mono ?_
    rintro e wc ⟨rfl, hbc⟩
    have HOc := Lib.hid (obj_call HOb.out hbc)
    have HXc := Lib.hid (HXb.out.trans (hbc.mono (Nat.le_of_lt HOb.out.lt)))
    clear hbc
    go_wp2
    go_ret
    exact ⟨rfl, by rw [HGG.out]; exact HXc.out⟩
end Go.Proofs.YtmehafolnpkmhaaDoor
