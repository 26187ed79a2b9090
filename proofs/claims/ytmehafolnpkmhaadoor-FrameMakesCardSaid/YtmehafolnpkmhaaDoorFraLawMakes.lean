/- The law of making frames. -/
import Derived.Test.YtmehafolnpkmhaaDoorFraLawCuts
import Derived.Test.YtmehafolnpkmhaaDoorFraRtx
import Derived.Test.YtmehafolnpkmhaaDoorFraRby
import Derived.Test.YtmehafolnpkmhaaDoorFraRref
namespace Go.Proofs.YtmehafolnpkmhaaDoor
open Go.RowKit Go.ChangeShapes Go.WideShapes
-- (else the walk opens the load of a frame cell by cell)
attribute [local go_sem ↓ high] sizeFr
theorem right_b (C : Array Value) (f : Fr) (h : C = f.cells) (b : Bool) (hb : b = decide (rightP f)) (w : World) : Calls Tryd.prog 43 #[.agg C] w fun e w' => e = .returned (.bool b) ∧ Below w.heap.size w w' := by
  rw [hb]
  exact right_any C f h w
theorem rright_b (C : Array Value) (f : Fr) (h : C = f.cells) (b : Bool) (hb : b = decide (rightP f)) (w : World) : Calls Tryd.prog 42 #[.agg C] w fun e w' => e = .returned (.bool b) ∧ Below w.heap.size w w' := by
  rw [hb]
  exact rright_any C f h w
theorem text_v (C : Array Value) (f : Fr) (h : C = f.cells) (hok : f.ok) (t : ByteArray) (ht : t = textF f) (w : World) (hL : LaidW w) : Calls Tryd.prog 44 #[.agg C] w fun e w' => e = .returned (.string t) ∧ Below w.heap.size w w' := by
  rw [ht]
  exact text_any C f h hok w hL
theorem rtext_v (C : Array Value) (f : Fr) (h : C = f.cells) (hok : f.ok) (t : ByteArray) (ht : t = textF f) (w : World) : Calls Tryd.prog 45 #[.agg C] w fun e w' => e = .returned (.string t) ∧ Below w.heap.size w w' := by
  rw [ht]
  exact rtext_any C f h hok w
theorem rbytes_v (C : Array Value) (f : Fr) (h : C = f.cells) (hok : f.ok) (hr : rightP f) (s : ByteArray) (hs : s = encF f) (w : World) : Calls Tryd.prog 48 #[.agg C] w fun e w' => e = .returned (.string s) ∧ Below w.heap.size w w' := by
  rw [hs]
  exact rbytesF_any C f h hok hr w
theorem size_v (C : Array Value) (f : Fr) (h : C = f.cells) (hts : f.t.size ≤ 140737488355328) (n : Int) (hn : n = sizeF f) (w : World) : Calls Tryd.prog 46 #[.agg C] w fun e w' => e = .returned (.int .i64 n) ∧ Below w.heap.size w w' := by
  rw [hn]
  exact size_any C f h hts w
set_option maxRecDepth 100000 in
set_option maxHeartbeats 8000000 in
theorem frameMakes_walk {H : Type} {enc : TypeId × Value → H} (v : Value) (d : DataW H) (p : List MemPlace) {w : World}
    (h : DataW.Trod enc Tryd.prog w 0 (fun _ => true) true 49 v d p) (o : Value.okWide Tryd.prog w .any 0 49 v) (hsz : ∀ x ∈ d.weights Tryd.prog 49, x ≤ 140737488351232)
    (_ : World) (hL : LaidW w) :
    Calls Tryd.prog 8 #[v] w fun e w' => e = .returned (.bool true) ∧ Below w.heap.size w w' := by
  obtain ⟨f, rfl, hok, hts⟩ := frame_arg _ h o hsz
  obtain ⟨C, hC⟩ : ∃ C, C = f.cells := ⟨_, rfl⟩
  rw [← hC]
  have hCs := Fr.size hC
  have HF := Lib.hid hC
  have hC1 : C.all (·.oneCell') = true := by rw [hC]; kernel_rfl
  have hCi : (Tryd.prog.info? 49).map (·.size) = some C.size := by rw [hCs]; kernel_rfl
  have HCI := Lib.hid (And.intro hC1 hCi)
  have HOK := Lib.hid hok
  have hts2 : f.t.size ≤ 140737488355328 := by omega
  have HOa := Lib.hid (ObjAt.new w C 49)
  have HXa := Lib.hid ((Below.refl w.heap.size w).alloc (Nat.le_refl _) (.cells C 49))
  have HLa := Lib.hid (laidW_below hL HXa.out (Nat.le_refl _))
  have HLL := Lib.hid hL
  clear hC hC1 hCi hok h o hsz hL hts
  go_enter Tryd.func8, Tryd.ntmps8
  go_wp2_with fail
  generalize w.alloc (.cells C 49) = wa at *
  generalize hgg : w.heap.size = g at *
  have HGG := Lib.hid hgg
  clear hgg
  refine (awake_any _ HLa.out).mono ?_
  rintro e wb ⟨rfl, hbb⟩
  have HOb := Lib.hid (obj_call HOa.out hbb)
  have HXb := Lib.hid (HXa.out.trans (hbb.mono (Nat.le_of_lt HOa.out.lt)))
  clear hbb
  have m18 := Fr.m18 HF.out HOb.out
  by_cases h100 : 100 < (f.t.size : Int)
  · go_wp2
    go_ret
    exact ⟨rfl, by rw [HGG.out]; exact HXb.out⟩
  go_wp2_with (first
    | ((with_reducible refine wpList_frameD 15 (.tmp 1) ?hd_z39 ?ho_z39 ?hw_z39 g C ?hx_z39 hCs ?hg_z39 ?h_z39); (case hd_z39 => rfl); (case ho_z39 => rfl); (case hw_z39 => kernel_rfl); (case hx_z39 => rfl); (case hg_z39 => exact HOb.out)))
  clear m18
  by_cases hr : rightP f
  · obtain ⟨s, hs⟩ : ∃ s, s = encF f := ⟨_, rfl⟩
    have h1 := enc_size hr
    have h2 := right_bd hr
    rw [← hs] at h1
    have hsz : s.size ≤ 42 := by omega
    have HS := Lib.hid hs
    have HR := Lib.hid hr
    have HZ := Lib.hid h1
    have HB := Lib.hid (show true = decide (rightP f) from (decide_eq_true hr).symm)
    clear h1 h2 hs hr
    refine (encode_ok C f HF.out HOK.out HR.out s HS.out _).mono ?_
    rintro e wc ⟨rfl, hbc⟩
    have HOc := Lib.hid (obj_call HOb.out hbc)
    have HXc := Lib.hid (HXb.out.trans (hbc.mono (Nat.le_of_lt HOb.out.lt)))
    clear hbc
    go_wp2_with (first
      | ((with_reducible refine wpList_frameD 19 (.tmp 1) ?hd_z40 ?ho_z40 ?hw_z40 g C ?hx_z40 hCs ?hg_z40 ?h_z40); (case hd_z40 => rfl); (case ho_z40 => rfl); (case hw_z40 => kernel_rfl); (case hx_z40 => rfl); (case hg_z40 => exact HOc.out)))
    refine (rright_b C f HF.out true HB.out _).mono ?_
    rintro e wd ⟨rfl, hbd⟩
    have HOd := Lib.hid (obj_call HOc.out hbd)
    have HXd := Lib.hid (HXc.out.trans (hbd.mono (Nat.le_of_lt HOc.out.lt)))
    clear hbd
    go_wp2_with fail
    have HOm := Lib.hid (show ObjAt wd.drew g C 49 from HOd.out)
    have HXm := Lib.hid (show Below g w wd.drew from ⟨HXd.out.os, HXd.out.tape, HXd.out.output, HXd.out.size, HXd.out.block⟩)
    obtain ⟨tx, htx⟩ : ∃ t, t = textF f := ⟨_, rfl⟩
    have HTX := Lib.hid htx
    clear htx
    go_region_held3 (fun w' => (loadCellsFrom ⟨g, 0, none⟩ 0 n19 #[]).run Tryd.prog w' = .ok C w')
      (first | exact Fr.loadc HF.out HOm.out | exact Fr.loadc HF.out HOm1.out | exact Fr.loadc HF.out HOm2.out | exact Fr.loadc HF.out HOm3.out)
      (first
        | (go_at_call 43; (with_reducible refine (right_b C f HF.out true HB.out _).mono ?_); rintro e wm1 ⟨rfl, hm1⟩; have HOm1 := Lib.hid (obj_call HOm.out hm1); have HXm1 := Lib.hid (HXm.out.trans (hm1.mono (Nat.le_of_lt HOm.out.lt))); have HLm1 := Lib.hid (laidW_below HLL.out HXm1.out (Nat.le_of_eq HGG.out)))
        | (go_at_call 44; (with_reducible refine (text_v C f HF.out HOK.out tx HTX.out _ HLm1.out).mono ?_); rintro e wm2 ⟨rfl, hm2⟩; have HOm2 := Lib.hid (obj_call HOm1.out hm2); have HXm2 := Lib.hid (HXm1.out.trans (hm2.mono (Nat.le_of_lt HOm1.out.lt))))
        | (go_at_call 45; (with_reducible refine (rtext_v C f HF.out HOK.out tx HTX.out _).mono ?_); rintro e wm3 ⟨rfl, hm3⟩; have HOm3 := Lib.hid (obj_call HOm2.out hm3); have HXm3 := Lib.hid (HXm2.out.trans (hm3.mono (Nat.le_of_lt HOm2.out.lt)))))
    clear hm1 hm2 hm3
    go_wp2_with fail
    refine (decode_ok C f HF.out HOK.out HR.out s HS.out _).mono ?_
    rintro e we ⟨rfl, hbe⟩
    have HOe := Lib.hid (obj_call HOm3.out hbe)
    have HXe := Lib.hid (HXm3.out.trans (hbe.mono (Nat.le_of_lt HOm3.out.lt)))
    clear hbe
    go_wp2_with (first
      | ((with_reducible refine wpList_store_new ?hgd_z41 49 ?x_z41 ?y_z41 ?ho_z41 we.heap.size ?c_z41 C ?hg_z41 ?hx_z41 ?hy_z41 ?hi_z41 ?hs_z41 ?h1_z41 ?h_z41); (case ho_z41 => rfl); (case hgd_z41 => rfl); (case hg_z41 => rfl); (case hx_z41 => rfl); (case hy_z41 => rfl); (case hi_z41 => exact HCI.out.2); (case hs_z41 => rw [hCs]; rfl); (case h1_z41 => exact HCI.out.1); refine unhalt ?_))
    have HOf := Lib.hid (HOe.out.alloc (.cells C 49))
    have HPf := Lib.hid (ObjAt.new we C 49)
    have HXf := Lib.hid (HXe.out.alloc (Nat.le_of_lt HOe.out.lt) (.cells C 49))
    generalize we.alloc (.cells C 49) = wf at *
    generalize we.heap.size = g3 at *
    refine halt ?_
    go_wp2_with (first
      | ((with_reducible refine wpList_frameD 54 (.tmp 1) ?hd_z42 ?ho_z42 ?hw_z42 g C ?hx_z42 hCs ?hg_z42 ?h_z42); (case hd_z42 => rfl); (case ho_z42 => rfl); (case hw_z42 => kernel_rfl); (case hx_z42 => rfl); (case hg_z42 => exact HOf.out)))
    refine (rbytes_v C f HF.out HOK.out HR.out s HS.out _).mono ?_
    rintro e wh ⟨rfl, hbh⟩
    have HOh := Lib.hid (obj_call HOf.out hbh)
    have HPh := Lib.hid (obj_call HPf.out hbh)
    have HXh := Lib.hid (HXf.out.trans (hbh.mono (Nat.le_of_lt HOf.out.lt)))
    clear hbh
    go_wp2_with (first
      | ((with_reducible refine wpList_frameD 59 (.tmp 1) ?hd_z43 ?ho_z43 ?hw_z43 g C ?hx_z43 hCs ?hg_z43 ?h_z43); (case hd_z43 => rfl); (case ho_z43 => rfl); (case hw_z43 => kernel_rfl); (case hx_z43 => rfl); (case hg_z43 => exact HOh.out)))
    refine (size_v C f HF.out hts2 (s.size : Int) HZ.out _).mono ?_
    rintro e wi ⟨rfl, hbi⟩
    have HOi := Lib.hid (obj_call HOh.out hbi)
    have HPi := Lib.hid (obj_call HPh.out hbi)
    have HXi := Lib.hid (HXh.out.trans (hbi.mono (Nat.le_of_lt HOh.out.lt)))
    clear hbi
    go_wp2_with (first
      | ((with_reducible refine wpList_frameD 70 (.tmp 1) ?hd_z44 ?ho_z44 ?hw_z44 g C ?hx_z44 hCs ?hg_z44 ?h_z44); (case hd_z44 => rfl); (case ho_z44 => rfl); (case hw_z44 => kernel_rfl); (case hx_z44 => rfl); (case hg_z44 => exact HOi.out))
      | ((with_reducible refine wpList_frameD 71 (.tmp 6) ?hd_z45 ?ho_z45 ?hw_z45 g3 C ?hx_z45 hCs ?hg_z45 ?h_z45); (case hd_z45 => rfl); (case ho_z45 => rfl); (case hw_z45 => kernel_rfl); (case hx_z45 => rfl); (case hg_z45 => exact HPi.out))
      | ((with_reducible refine wpList_eqFr2 (.tmp 70) (.tmp 71) 49 ?ho_z46 ?hw_z46 f f true (fr_self f) ?hx_z46 ?hy_z46 ?h_z46); (case ho_z46 => rfl); (case hw_z46 => kernel_rfl); (case hx_z46 => rw [← HF.out]; rfl); (case hy_z46 => rw [← HF.out]; rfl)))
    go_ret
    exact ⟨rfl, by rw [HGG.out]; exact HXi.out⟩
  · have HR := Lib.hid hr
    have HB := Lib.hid (show false = decide (rightP f) from (decide_eq_false hr).symm)
    have hz0 : (0 : Int) = sizeF f := by unfold sizeF; rw [if_neg hr]
    have HZ := Lib.hid hz0
    clear hr hz0
    refine (encode_no C f HF.out HOK.out hts2 HR.out _).mono ?_
    rintro e wc ⟨rfl, hbc⟩
    have HOc := Lib.hid (obj_call HOb.out hbc)
    have HXc := Lib.hid (HXb.out.trans (hbc.mono (Nat.le_of_lt HOb.out.lt)))
    clear hbc
    go_wp2_with (first
      | ((with_reducible refine wpList_frameD 19 (.tmp 1) ?hd_z47 ?ho_z47 ?hw_z47 g C ?hx_z47 hCs ?hg_z47 ?h_z47); (case hd_z47 => rfl); (case ho_z47 => rfl); (case hw_z47 => kernel_rfl); (case hx_z47 => rfl); (case hg_z47 => exact HOc.out)))
    refine (rright_b C f HF.out false HB.out _).mono ?_
    rintro e wd ⟨rfl, hbd⟩
    have HOd := Lib.hid (obj_call HOc.out hbd)
    have HXd := Lib.hid (HXc.out.trans (hbd.mono (Nat.le_of_lt HOc.out.lt)))
    clear hbd
    go_wp2_with fail
    have HOm := Lib.hid (show ObjAt wd.drew g C 49 from HOd.out)
    have HXm := Lib.hid (show Below g w wd.drew from ⟨HXd.out.os, HXd.out.tape, HXd.out.output, HXd.out.size, HXd.out.block⟩)
    obtain ⟨tx, htx⟩ : ∃ t, t = textF f := ⟨_, rfl⟩
    have HTX := Lib.hid htx
    clear htx
    go_region_held3 (fun w' => (loadCellsFrom ⟨g, 0, none⟩ 0 n19 #[]).run Tryd.prog w' = .ok C w')
      (first | exact Fr.loadc HF.out HOm.out | exact Fr.loadc HF.out HOm1.out | exact Fr.loadc HF.out HOm2.out | exact Fr.loadc HF.out HOm3.out)
      (first
        | (go_at_call 43; (with_reducible refine (right_b C f HF.out false HB.out _).mono ?_); rintro e wm1 ⟨rfl, hm1⟩; have HOm1 := Lib.hid (obj_call HOm.out hm1); have HXm1 := Lib.hid (HXm.out.trans (hm1.mono (Nat.le_of_lt HOm.out.lt))); have HLm1 := Lib.hid (laidW_below HLL.out HXm1.out (Nat.le_of_eq HGG.out)))
        | (go_at_call 44; (with_reducible refine (text_v C f HF.out HOK.out tx HTX.out _ HLm1.out).mono ?_); rintro e wm2 ⟨rfl, hm2⟩; have HOm2 := Lib.hid (obj_call HOm1.out hm2); have HXm2 := Lib.hid (HXm1.out.trans (hm2.mono (Nat.le_of_lt HOm1.out.lt))))
        | (go_at_call 45; (with_reducible refine (rtext_v C f HF.out HOK.out tx HTX.out _).mono ?_); rintro e wm3 ⟨rfl, hm3⟩; have HOm3 := Lib.hid (obj_call HOm2.out hm3); have HXm3 := Lib.hid (HXm2.out.trans (hm3.mono (Nat.le_of_lt HOm2.out.lt)))))
    clear hm1 hm2 hm3
    go_wp2_with (first
      | ((with_reducible refine wpList_frameD 41 (.tmp 1) ?hd_z48 ?ho_z48 ?hw_z48 g C ?hx_z48 hCs ?hg_z48 ?h_z48); (case hd_z48 => rfl); (case ho_z48 => rfl); (case hw_z48 => kernel_rfl); (case hx_z48 => rfl); (case hg_z48 => exact HOm3.out)))
    refine (size_v C f HF.out hts2 0 HZ.out _).mono ?_
    rintro e wh ⟨rfl, hbh⟩
    have HOh := Lib.hid (obj_call HOm3.out hbh)
    have HXh := Lib.hid (HXm3.out.trans (hbh.mono (Nat.le_of_lt HOm3.out.lt)))
    clear hbh
    go_wp2
    go_ret
    exact ⟨rfl, by rw [HGG.out]; exact HXh.out⟩
end Go.Proofs.YtmehafolnpkmhaaDoor
