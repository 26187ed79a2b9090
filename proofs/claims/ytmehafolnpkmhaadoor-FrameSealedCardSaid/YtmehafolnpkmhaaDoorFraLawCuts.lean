/- The law of cuts. -/
import Derived.Test.YtmehafolnpkmhaaDoorFraLawBursts
namespace Go.Proofs.YtmehafolnpkmhaaDoor
open Go.RowKit Go.ChangeShapes Go.WideShapes
theorem nb_pre (s t : ByteArray) (a n : Nat) (h : a + n ≤ s.size) : nb (s ++ t) a n = nb s a n := by
  have e : s = (s ++ t).extract 0 s.size := by
    apply Crc.ext_list
    rw [Crc.extract_list, ByteArray.data_append, Array.toList_append, List.take_left' (by exact Array.length_toList)]
  conv => rhs; rw [e]
  rw [nb_ext _ _ _ _ h]
theorem dec_10 {t : ByteArray} (h : t.size < 17 ∨ (2 ≤ t.size ∧ (t.size : Int) ≠ (nb t 1 1 : Nat))) : decF t = (Fr.zero, 10) := by
  unfold decF
  rw [if_pos (by omega)]
theorem dec_cut {f : Fr} (h : rightP f) {c : Nat} (hc : c < (encF f).size) : decF ((encF f).extract 0 c) = (Fr.zero, 10) := by
  have h1 := enc_size h
  have hz : ((encF f).extract 0 c).size = c := by rw [ByteArray.size_extract]; omega
  refine dec_10 ?_
  by_cases hc2 : c < 17
  · exact .inl (by omega)
  · have := enc_b1 h
    exact .inr ⟨by omega, by rw [nb_ext _ _ _ _ (by omega)]; omega⟩
theorem dec_more {f : Fr} (h : rightP f) {t : ByteArray} (ht : t.size ≠ 0) : decF (encF f ++ t) = (Fr.zero, 10) := by
  have h1 := enc_size h
  have h2 := right_bd h
  have h3 := enc_b1 h
  refine dec_10 (.inr ⟨by rw [ByteArray.size_append]; omega, ?_⟩)
  rw [nb_pre _ _ _ _ (by omega), ByteArray.size_append]
  omega
set_option maxRecDepth 100000 in
set_option maxHeartbeats 8000000 in
theorem frameCuts_walk {H : Type} {enc : TypeId × Value → H} (v : Value) (d : DataW H) (p : List MemPlace) {w : World}
    (h : DataW.Trod enc Tryd.prog w 0 (fun _ => true) true 49 v d p) (o : Value.okWide Tryd.prog w .any 0 49 v) (hsz : ∀ x ∈ d.weights Tryd.prog 49, x ≤ 140737488351232)
    (cut : Int) (hcut : (Lit.int .i64 cut).wf = true) (more : ByteArray) (hmore : more.size ≤ 140737488351232) (_ : World) (hL : LaidW w) :
    Calls Tryd.prog 11 #[v, .int .i64 cut, .string more] w fun e w' => e = .returned (.bool true) ∧ Below w.heap.size w w' := by
  obtain ⟨f, rfl, hok, hts⟩ := frame_arg _ h o hsz
  have hc64 := in_i64 hcut
  clear hcut
  obtain ⟨C, hC⟩ : ∃ C, C = f.cells := ⟨_, rfl⟩
  rw [← hC]
  have hCs := Fr.size hC
  have HF := Lib.hid hC
  have hC1 : C.all (·.oneCell') = true := by rw [hC]; kernel_rfl
  have hCi : (Tryd.prog.info? 49).map (·.size) = some C.size := by rw [hCs]; kernel_rfl
  have HCI := Lib.hid (And.intro hC1 hCi)
  have HOK := Lib.hid hok
  have hts2 : f.t.size ≤ 140737488355328 := by omega
  have HOa := Lib.hid (ObjAt.new w C 49)
  have HXa := Lib.hid ((Below.refl w.heap.size w).alloc (Nat.le_refl _) (.cells C 49))
  have HLa := Lib.hid (laidW_below hL HXa.out (Nat.le_refl _))
  clear hC hC1 hCi hok h o hsz hL hts
  go_enter Tryd.func11, Tryd.ntmps11
  go_wp2_with fail
  generalize w.alloc (.cells C 49) = wa at *
  generalize hgg : w.heap.size = g at *
  have HGG := Lib.hid hgg
  clear hgg
  refine (awake_any _ HLa.out).mono ?_
  rintro e wb ⟨rfl, hbb⟩
  have HOb := Lib.hid (obj_call HOa.out hbb)
  have HXb := Lib.hid (HXa.out.trans (hbb.mono (Nat.le_of_lt HOa.out.lt)))
  clear hbb
  go_wp2_with (first
    | ((with_reducible refine wpList_frame (.tmp 3) ?ho_z10 ?hw_z10 g C ?hx_z10 hCs ?hg_z10 ?h_z10); (case ho_z10 => rfl); (case hw_z10 => kernel_rfl); (case hx_z10 => rfl); (case hg_z10 => exact HOb.out)))
  by_cases hr : rightP f
  · obtain ⟨s, hs⟩ : ∃ s, s = encF f := ⟨_, rfl⟩
    have h1 := enc_size hr
    have h2 := right_bd hr
    rw [← hs] at h1
    have hsz : s.size ≤ 42 := by omega
    have HS := Lib.hid hs
    have HR := Lib.hid hr
    clear h1 h2 hs hr
    obtain ⟨CZ, hCZ⟩ : ∃ C, C = Fr.zero.cells := ⟨_, rfl⟩
    have HCZ := Lib.hid hCZ
    have hZs := Fr.size hCZ
    have hZ1 : CZ.all (·.oneCell') = true := by rw [hCZ]; kernel_rfl
    have hZi : (Tryd.prog.info? 49).map (·.size) = some CZ.size := by rw [hZs]; kernel_rfl
    have HZI := Lib.hid (And.intro hZ1 hZi)
    clear hCZ hZ1 hZi
    refine (encode_ok C f HF.out HOK.out HR.out s HS.out _).mono ?_
    rintro e wc ⟨rfl, hbc⟩
    have HOc := Lib.hid (obj_call HOb.out hbc)
    have HXc := Lib.hid (HXb.out.trans (hbc.mono (Nat.le_of_lt HOb.out.lt)))
    clear hbc
    by_cases hm : 60 < (more.size : Int)
    · go_wp2
      go_ret
      exact ⟨rfl, by rw [HGG.out]; exact HXc.out⟩
    · by_cases hc : 0 ≤ cut ∧ cut < (s.size : Int)
      · obtain ⟨hc0, hc1⟩ := hc
        obtain ⟨cn, rfl⟩ := Int.eq_ofNat_of_zero_le hc0
        have hcle : (cn : Int) ≤ (s.size : Int) := by omega
        go_wp2_with fail
        have hd := dec_cut HR.out (c := cn) (by rw [← HS.out]; omega)
        rw [← HS.out] at hd
        have HD := Lib.hid hd
        clear hd
        refine (decode_no CZ HCZ.out (s.extract 0 cn) (by rw [ByteArray.size_extract]; omega) 10 HD.out _).mono ?_
        rintro e wd ⟨rfl, hbd⟩
        have HOd := Lib.hid (obj_call HOc.out hbd)
        have HXd := Lib.hid (HXc.out.trans (hbd.mono (Nat.le_of_lt HOc.out.lt)))
        clear hbd
        go_wp2_with (first
          | ((with_reducible refine wpList_store_new ?hgd_z11 49 ?x_z11 ?y_z11 ?ho_z11 wd.heap.size ?c_z11 CZ ?hg_z11 ?hx_z11 ?hy_z11 ?hi_z11 ?hs_z11 ?h1_z11 ?h_z11); (case ho_z11 => rfl); (case hgd_z11 => rfl); (case hg_z11 => rfl); (case hx_z11 => rfl); (case hy_z11 => rfl); (case hi_z11 => exact HZI.out.2); (case hs_z11 => rw [hZs]; rfl); (case h1_z11 => exact HZI.out.1); refine unhalt ?_))
        have HOe := Lib.hid (HOd.out.alloc (.cells CZ 49))
        have HPe := Lib.hid (ObjAt.new wd CZ 49)
        have HXe := Lib.hid (HXd.out.alloc (Nat.le_of_lt HOd.out.lt) (.cells CZ 49))
        generalize wd.alloc (.cells CZ 49) = we at *
        generalize wd.heap.size = g3 at *
        refine halt ?_
        have r1 : ¬ (9223372036854775807 < s.size + more.size) := by omega
        go_wp2_with (first
          | ((with_reducible refine wpList_frame (.tmp 9) ?ho_z12 ?hw_z12 g3 CZ ?hx_z12 hZs ?hg_z12 ?h_z12); (case ho_z12 => rfl); (case hw_z12 => kernel_rfl); (case hx_z12 => rfl); (case hg_z12 => exact HPe.out))
          | ((with_reducible refine wpList_buildg ?hw_z13 49 ?parts_z13 ?ho_z13 Fr.zero.cells ?hc_z13 ?h_z13); (case ho_z13 => rfl); (case hw_z13 => kernel_rfl); (case hc_z13 => kernel_rfl))
          | ((with_reducible refine wpList_neFr2 (.tmp 45) (.tmp 46) 49 ?ho_z14 ?hw_z14 Fr.zero Fr.zero false (fr_self_ne Fr.zero) ?hx_z14 ?hy_z14 ?h_z14); (case ho_z14 => rfl); (case hw_z14 => kernel_rfl); (case hx_z14 => rw [← HCZ.out]; rfl); (case hy_z14 => rfl)))
        clear r1
        by_cases hm0 : more.size = 0
        · have hme : more = ⟨#[]⟩ := by
            apply Crc.ext_list
            exact List.eq_nil_of_length_eq_zero (by rw [Array.length_toList]; exact hm0)
          have f1 : more.toList = [] := (toList_none more).2 hme
          obtain ⟨t, ht⟩ : ∃ t, t = s ++ more := ⟨_, rfl⟩
          have hts : t = encF f := by rw [ht, hme, ← HS.out]; apply Crc.ext_list; rw [ByteArray.data_append, Array.toList_append]; exact List.append_nil _
          have HT := Lib.hid ht
          have HTS := Lib.hid hts
          clear hme ht hts
          rw [← HT.out]
          refine (decode_ok C f HF.out HOK.out HR.out t HTS.out _).mono ?_
          rintro e wi ⟨rfl, hbi⟩
          have HOi := Lib.hid (obj_call HOe.out hbi)
          have HXi := Lib.hid (HXe.out.trans (hbi.mono (Nat.le_of_lt HOe.out.lt)))
          clear hbi
          go_wp2_with (first
            | ((with_reducible refine wpList_store_new ?hgd_z15 49 ?x_z15 ?y_z15 ?ho_z15 wi.heap.size ?c_z15 C ?hg_z15 ?hx_z15 ?hy_z15 ?hi_z15 ?hs_z15 ?h1_z15 ?h_z15); (case ho_z15 => rfl); (case hgd_z15 => rfl); (case hg_z15 => rfl); (case hx_z15 => rfl); (case hy_z15 => rfl); (case hi_z15 => exact HCI.out.2); (case hs_z15 => rw [hCs]; rfl); (case h1_z15 => exact HCI.out.1); refine unhalt ?_))
          have HOj := Lib.hid (HOi.out.alloc (.cells C 49))
          have HPj := Lib.hid (ObjAt.new wi C 49)
          have HXj := Lib.hid (HXi.out.alloc (Nat.le_of_lt HOi.out.lt) (.cells C 49))
          generalize wi.alloc (.cells C 49) = wj at *
          generalize wi.heap.size = g4 at *
          refine halt ?_
          go_wp2_with (first
            | ((with_reducible refine wpList_frameD 63 (.tmp 11) ?hd_z16 ?ho_z16 ?hw_z16 g4 C ?hx_z16 hCs ?hg_z16 ?h_z16); (case hd_z16 => rfl); (case ho_z16 => rfl); (case hw_z16 => kernel_rfl); (case hx_z16 => rfl); (case hg_z16 => exact HPj.out))
            | ((with_reducible refine wpList_frame (.tmp 3) ?ho_z17 ?hw_z17 g C ?hx_z17 hCs ?hg_z17 ?h_z17); (case ho_z17 => rfl); (case hw_z17 => kernel_rfl); (case hx_z17 => rfl); (case hg_z17 => exact HOj.out))
            | ((with_reducible refine wpList_eqFr2 (.tmp 63) (.tmp 64) 49 ?ho_z18 ?hw_z18 f f true (fr_self f) ?hx_z18 ?hy_z18 ?h_z18); (case ho_z18 => rfl); (case hw_z18 => kernel_rfl); (case hx_z18 => rw [← HF.out]; rfl); (case hy_z18 => rw [← HF.out]; rfl)))
          go_ret
          exact ⟨rfl, by rw [HGG.out]; exact HXj.out⟩
        · have f1 : ¬ more.toList = [] := fun h => hm0 (by rw [(toList_none more).1 h]; rfl)
          have f2 : (more.toList == []) = false := by simpa using f1
          have f3 : more.toList.isEmpty = false := by simpa using f1
          have f4 : decide (more.toList = []) = false := decide_eq_false f1
          obtain ⟨t, ht⟩ : ∃ t, t = s ++ more := ⟨_, rfl⟩
          have hd : decF t = (Fr.zero, 10) := by rw [ht, HS.out]; exact dec_more HR.out hm0
          have htz : t.size ≤ 200 := by rw [ht, ByteArray.size_append]; omega
          have HT := Lib.hid ht
          have HD := Lib.hid hd
          clear ht hd
          rw [← HT.out]
          refine (decode_no CZ HCZ.out t (by omega) 10 HD.out _).mono ?_
          rintro e wi ⟨rfl, hbi⟩
          have HOi := Lib.hid (obj_call HOe.out hbi)
          have HXi := Lib.hid (HXe.out.trans (hbi.mono (Nat.le_of_lt HOe.out.lt)))
          clear hbi
          go_wp2_with (first
            | ((with_reducible refine wpList_store_new ?hgd_z19 49 ?x_z19 ?y_z19 ?ho_z19 wi.heap.size ?c_z19 CZ ?hg_z19 ?hx_z19 ?hy_z19 ?hi_z19 ?hs_z19 ?h1_z19 ?h_z19); (case ho_z19 => rfl); (case hgd_z19 => rfl); (case hg_z19 => rfl); (case hx_z19 => rfl); (case hy_z19 => rfl); (case hi_z19 => exact HZI.out.2); (case hs_z19 => rw [hZs]; rfl); (case h1_z19 => exact HZI.out.1); refine unhalt ?_))
          have HOj := Lib.hid (HOi.out.alloc (.cells CZ 49))
          have HPj := Lib.hid (ObjAt.new wi CZ 49)
          have HXj := Lib.hid (HXi.out.alloc (Nat.le_of_lt HOi.out.lt) (.cells CZ 49))
          generalize wi.alloc (.cells CZ 49) = wj at *
          generalize wi.heap.size = g4 at *
          refine halt ?_
          go_wp2_with (first
            | ((with_reducible refine wpList_frameD 75 (.tmp 11) ?hd_z20 ?ho_z20 ?hw_z20 g4 CZ ?hx_z20 hZs ?hg_z20 ?h_z20); (case hd_z20 => rfl); (case ho_z20 => rfl); (case hw_z20 => kernel_rfl); (case hx_z20 => rfl); (case hg_z20 => exact HPj.out))
            | ((with_reducible refine wpList_buildg ?hw_z21 49 ?parts_z21 ?ho_z21 Fr.zero.cells ?hc_z21 ?h_z21); (case ho_z21 => rfl); (case hw_z21 => kernel_rfl); (case hc_z21 => kernel_rfl))
            | ((with_reducible refine wpList_eqFr2 (.tmp 75) (.tmp 76) 49 ?ho_z22 ?hw_z22 Fr.zero Fr.zero true (fr_self Fr.zero) ?hx_z22 ?hy_z22 ?h_z22); (case ho_z22 => rfl); (case hw_z22 => kernel_rfl); (case hx_z22 => rw [← HCZ.out]; rfl); (case hy_z22 => rfl)))
          go_ret
          exact ⟨rfl, by rw [HGG.out]; exact HXj.out⟩
      · have hcn : cut < 0 ∨ (s.size : Int) ≤ cut := by omega
        clear hc
        rcases hcn with hc | hc
        · have r1 : ¬ (9223372036854775807 < s.size + more.size) := by omega
          go_wp2_with fail
          clear r1
          by_cases hm0 : more.size = 0
          · have hme : more = ⟨#[]⟩ := by
              apply Crc.ext_list
              exact List.eq_nil_of_length_eq_zero (by rw [Array.length_toList]; exact hm0)
            have f1 : more.toList = [] := (toList_none more).2 hme
            obtain ⟨t, ht⟩ : ∃ t, t = s ++ more := ⟨_, rfl⟩
            have hts : t = encF f := by rw [ht, hme, ← HS.out]; apply Crc.ext_list; rw [ByteArray.data_append, Array.toList_append]; exact List.append_nil _
            have HT := Lib.hid ht
            have HTS := Lib.hid hts
            clear hme ht hts
            rw [← HT.out]
            refine (decode_ok C f HF.out HOK.out HR.out t HTS.out _).mono ?_
            rintro e wi ⟨rfl, hbi⟩
            have HOi := Lib.hid (obj_call HOc.out hbi)
            have HXi := Lib.hid (HXc.out.trans (hbi.mono (Nat.le_of_lt HOc.out.lt)))
            clear hbi
            go_wp2_with (first
              | ((with_reducible refine wpList_store_new ?hgd_z23 49 ?x_z23 ?y_z23 ?ho_z23 wi.heap.size ?c_z23 C ?hg_z23 ?hx_z23 ?hy_z23 ?hi_z23 ?hs_z23 ?h1_z23 ?h_z23); (case ho_z23 => rfl); (case hgd_z23 => rfl); (case hg_z23 => rfl); (case hx_z23 => rfl); (case hy_z23 => rfl); (case hi_z23 => exact HCI.out.2); (case hs_z23 => rw [hCs]; rfl); (case h1_z23 => exact HCI.out.1); refine unhalt ?_))
            have HOj := Lib.hid (HOi.out.alloc (.cells C 49))
            have HPj := Lib.hid (ObjAt.new wi C 49)
            have HXj := Lib.hid (HXi.out.alloc (Nat.le_of_lt HOi.out.lt) (.cells C 49))
            generalize wi.alloc (.cells C 49) = wj at *
            generalize wi.heap.size = g4 at *
            refine halt ?_
            go_wp2_with (first
              | ((with_reducible refine wpList_frameD 63 (.tmp 11) ?hd_z24 ?ho_z24 ?hw_z24 g4 C ?hx_z24 hCs ?hg_z24 ?h_z24); (case hd_z24 => rfl); (case ho_z24 => rfl); (case hw_z24 => kernel_rfl); (case hx_z24 => rfl); (case hg_z24 => exact HPj.out))
              | ((with_reducible refine wpList_frame (.tmp 3) ?ho_z25 ?hw_z25 g C ?hx_z25 hCs ?hg_z25 ?h_z25); (case ho_z25 => rfl); (case hw_z25 => kernel_rfl); (case hx_z25 => rfl); (case hg_z25 => exact HOj.out))
              | ((with_reducible refine wpList_eqFr2 (.tmp 63) (.tmp 64) 49 ?ho_z26 ?hw_z26 f f true (fr_self f) ?hx_z26 ?hy_z26 ?h_z26); (case ho_z26 => rfl); (case hw_z26 => kernel_rfl); (case hx_z26 => rw [← HF.out]; rfl); (case hy_z26 => rw [← HF.out]; rfl)))
            go_ret
            exact ⟨rfl, by rw [HGG.out]; exact HXj.out⟩
          · have f1 : ¬ more.toList = [] := fun h => hm0 (by rw [(toList_none more).1 h]; rfl)
            have f2 : (more.toList == []) = false := by simpa using f1
            have f3 : more.toList.isEmpty = false := by simpa using f1
            have f4 : decide (more.toList = []) = false := decide_eq_false f1
            obtain ⟨t, ht⟩ : ∃ t, t = s ++ more := ⟨_, rfl⟩
            have hd : decF t = (Fr.zero, 10) := by rw [ht, HS.out]; exact dec_more HR.out hm0
            have htz : t.size ≤ 200 := by rw [ht, ByteArray.size_append]; omega
            have HT := Lib.hid ht
            have HD := Lib.hid hd
            clear ht hd
            rw [← HT.out]
            refine (decode_no CZ HCZ.out t (by omega) 10 HD.out _).mono ?_
            rintro e wi ⟨rfl, hbi⟩
            have HOi := Lib.hid (obj_call HOc.out hbi)
            have HXi := Lib.hid (HXc.out.trans (hbi.mono (Nat.le_of_lt HOc.out.lt)))
            clear hbi
            go_wp2_with (first
              | ((with_reducible refine wpList_store_new ?hgd_z27 49 ?x_z27 ?y_z27 ?ho_z27 wi.heap.size ?c_z27 CZ ?hg_z27 ?hx_z27 ?hy_z27 ?hi_z27 ?hs_z27 ?h1_z27 ?h_z27); (case ho_z27 => rfl); (case hgd_z27 => rfl); (case hg_z27 => rfl); (case hx_z27 => rfl); (case hy_z27 => rfl); (case hi_z27 => exact HZI.out.2); (case hs_z27 => rw [hZs]; rfl); (case h1_z27 => exact HZI.out.1); refine unhalt ?_))
            have HOj := Lib.hid (HOi.out.alloc (.cells CZ 49))
            have HPj := Lib.hid (ObjAt.new wi CZ 49)
            have HXj := Lib.hid (HXi.out.alloc (Nat.le_of_lt HOi.out.lt) (.cells CZ 49))
            generalize wi.alloc (.cells CZ 49) = wj at *
            generalize wi.heap.size = g4 at *
            refine halt ?_
            go_wp2_with (first
              | ((with_reducible refine wpList_frameD 75 (.tmp 11) ?hd_z28 ?ho_z28 ?hw_z28 g4 CZ ?hx_z28 hZs ?hg_z28 ?h_z28); (case hd_z28 => rfl); (case ho_z28 => rfl); (case hw_z28 => kernel_rfl); (case hx_z28 => rfl); (case hg_z28 => exact HPj.out))
              | ((with_reducible refine wpList_buildg ?hw_z29 49 ?parts_z29 ?ho_z29 Fr.zero.cells ?hc_z29 ?h_z29); (case ho_z29 => rfl); (case hw_z29 => kernel_rfl); (case hc_z29 => kernel_rfl))
              | ((with_reducible refine wpList_eqFr2 (.tmp 75) (.tmp 76) 49 ?ho_z30 ?hw_z30 Fr.zero Fr.zero true (fr_self Fr.zero) ?hx_z30 ?hy_z30 ?h_z30); (case ho_z30 => rfl); (case hw_z30 => kernel_rfl); (case hx_z30 => rw [← HCZ.out]; rfl); (case hy_z30 => rfl)))
            go_ret
            exact ⟨rfl, by rw [HGG.out]; exact HXj.out⟩
        · by_cases hc0 : 0 ≤ cut
          · have r1 : ¬ (9223372036854775807 < s.size + more.size) := by omega
            go_wp2_with fail
            clear r1
            by_cases hm0 : more.size = 0
            · have hme : more = ⟨#[]⟩ := by
                apply Crc.ext_list
                exact List.eq_nil_of_length_eq_zero (by rw [Array.length_toList]; exact hm0)
              have f1 : more.toList = [] := (toList_none more).2 hme
              obtain ⟨t, ht⟩ : ∃ t, t = s ++ more := ⟨_, rfl⟩
              have hts : t = encF f := by rw [ht, hme, ← HS.out]; apply Crc.ext_list; rw [ByteArray.data_append, Array.toList_append]; exact List.append_nil _
              have HT := Lib.hid ht
              have HTS := Lib.hid hts
              clear hme ht hts
              rw [← HT.out]
              refine (decode_ok C f HF.out HOK.out HR.out t HTS.out _).mono ?_
              rintro e wi ⟨rfl, hbi⟩
              have HOi := Lib.hid (obj_call HOc.out hbi)
              have HXi := Lib.hid (HXc.out.trans (hbi.mono (Nat.le_of_lt HOc.out.lt)))
              clear hbi
              go_wp2_with (first
                | ((with_reducible refine wpList_store_new ?hgd_z31 49 ?x_z31 ?y_z31 ?ho_z31 wi.heap.size ?c_z31 C ?hg_z31 ?hx_z31 ?hy_z31 ?hi_z31 ?hs_z31 ?h1_z31 ?h_z31); (case ho_z31 => rfl); (case hgd_z31 => rfl); (case hg_z31 => rfl); (case hx_z31 => rfl); (case hy_z31 => rfl); (case hi_z31 => exact HCI.out.2); (case hs_z31 => rw [hCs]; rfl); (case h1_z31 => exact HCI.out.1); refine unhalt ?_))
              have HOj := Lib.hid (HOi.out.alloc (.cells C 49))
              have HPj := Lib.hid (ObjAt.new wi C 49)
              have HXj := Lib.hid (HXi.out.alloc (Nat.le_of_lt HOi.out.lt) (.cells C 49))
              generalize wi.alloc (.cells C 49) = wj at *
              generalize wi.heap.size = g4 at *
              refine halt ?_
              go_wp2_with (first
                | ((with_reducible refine wpList_frameD 63 (.tmp 11) ?hd_z32 ?ho_z32 ?hw_z32 g4 C ?hx_z32 hCs ?hg_z32 ?h_z32); (case hd_z32 => rfl); (case ho_z32 => rfl); (case hw_z32 => kernel_rfl); (case hx_z32 => rfl); (case hg_z32 => exact HPj.out))
                | ((with_reducible refine wpList_frame (.tmp 3) ?ho_z33 ?hw_z33 g C ?hx_z33 hCs ?hg_z33 ?h_z33); (case ho_z33 => rfl); (case hw_z33 => kernel_rfl); (case hx_z33 => rfl); (case hg_z33 => exact HOj.out))
                | ((with_reducible refine wpList_eqFr2 (.tmp 63) (.tmp 64) 49 ?ho_z34 ?hw_z34 f f true (fr_self f) ?hx_z34 ?hy_z34 ?h_z34); (case ho_z34 => rfl); (case hw_z34 => kernel_rfl); (case hx_z34 => rw [← HF.out]; rfl); (case hy_z34 => rw [← HF.out]; rfl)))
              go_ret
              exact ⟨rfl, by rw [HGG.out]; exact HXj.out⟩
            · have f1 : ¬ more.toList = [] := fun h => hm0 (by rw [(toList_none more).1 h]; rfl)
              have f2 : (more.toList == []) = false := by simpa using f1
              have f3 : more.toList.isEmpty = false := by simpa using f1
              have f4 : decide (more.toList = []) = false := decide_eq_false f1
              obtain ⟨t, ht⟩ : ∃ t, t = s ++ more := ⟨_, rfl⟩
              have hd : decF t = (Fr.zero, 10) := by rw [ht, HS.out]; exact dec_more HR.out hm0
              have htz : t.size ≤ 200 := by rw [ht, ByteArray.size_append]; omega
              have HT := Lib.hid ht
              have HD := Lib.hid hd
              clear ht hd
              rw [← HT.out]
              refine (decode_no CZ HCZ.out t (by omega) 10 HD.out _).mono ?_
              rintro e wi ⟨rfl, hbi⟩
              have HOi := Lib.hid (obj_call HOc.out hbi)
              have HXi := Lib.hid (HXc.out.trans (hbi.mono (Nat.le_of_lt HOc.out.lt)))
              clear hbi
              go_wp2_with (first
                | ((with_reducible refine wpList_store_new ?hgd_z35 49 ?x_z35 ?y_z35 ?ho_z35 wi.heap.size ?c_z35 CZ ?hg_z35 ?hx_z35 ?hy_z35 ?hi_z35 ?hs_z35 ?h1_z35 ?h_z35); (case ho_z35 => rfl); (case hgd_z35 => rfl); (case hg_z35 => rfl); (case hx_z35 => rfl); (case hy_z35 => rfl); (case hi_z35 => exact HZI.out.2); (case hs_z35 => rw [hZs]; rfl); (case h1_z35 => exact HZI.out.1); refine unhalt ?_))
              have HOj := Lib.hid (HOi.out.alloc (.cells CZ 49))
              have HPj := Lib.hid (ObjAt.new wi CZ 49)
              have HXj := Lib.hid (HXi.out.alloc (Nat.le_of_lt HOi.out.lt) (.cells CZ 49))
              generalize wi.alloc (.cells CZ 49) = wj at *
              generalize wi.heap.size = g4 at *
              refine halt ?_
              go_wp2_with (first
                | ((with_reducible refine wpList_frameD 75 (.tmp 11) ?hd_z36 ?ho_z36 ?hw_z36 g4 CZ ?hx_z36 hZs ?hg_z36 ?h_z36); (case hd_z36 => rfl); (case ho_z36 => rfl); (case hw_z36 => kernel_rfl); (case hx_z36 => rfl); (case hg_z36 => exact HPj.out))
                | ((with_reducible refine wpList_buildg ?hw_z37 49 ?parts_z37 ?ho_z37 Fr.zero.cells ?hc_z37 ?h_z37); (case ho_z37 => rfl); (case hw_z37 => kernel_rfl); (case hc_z37 => kernel_rfl))
                | ((with_reducible refine wpList_eqFr2 (.tmp 75) (.tmp 76) 49 ?ho_z38 ?hw_z38 Fr.zero Fr.zero true (fr_self Fr.zero) ?hx_z38 ?hy_z38 ?h_z38); (case ho_z38 => rfl); (case hw_z38 => kernel_rfl); (case hx_z38 => rw [← HCZ.out]; rfl); (case hy_z38 => rfl)))
              go_ret
              exact ⟨rfl, by rw [HGG.out]; exact HXj.out⟩
          · exfalso; omega
  · refine (encode_no C f HF.out HOK.out hts2 hr _).mono ?_
    rintro e wc ⟨rfl, hbc⟩
    have HOc := Lib.hid (obj_call HOb.out hbc)
    have HXc := Lib.hid (HXb.out.trans (hbc.mono (Nat.le_of_lt HOb.out.lt)))
    clear hbc
    go_wp2
    go_ret
    exact ⟨rfl, by rw [HGG.out]; exact HXc.out⟩
end Go.Proofs.YtmehafolnpkmhaaDoor
