/- The law of reading frames. -/
import Derived.Test.YtmehafolnpkmhaaDoorFraLawCuts
import Derived.Test.YtmehafolnpkmhaaDoorFraInv
import Derived.Test.YtmehafolnpkmhaaDoorFraRer
import Derived.Test.YtmehafolnpkmhaaDoorFraRfm
namespace Go.Proofs.YtmehafolnpkmhaaDoor
open Go.RowKit Go.ChangeShapes Go.WideShapes
attribute [local go_sem ↓ high] sizeFr
/-- The cells of some frame. -/
def IsFr (C : Array Value) : Prop := ∃ f : Fr, C = f.cells
theorem eql_self (C : Array Value) (h : IsFr C) (w : World) : (binOp .eql 49 (.agg C) (.agg C)).run Tryd.prog w = .ok (.bool true) w := by
  obtain ⟨f, rfl⟩ := h
  rw [fr_eql, fr_self]
theorem rerror_v (s : ByteArray) (hs : s.size ≤ 400) (n : Int) (hn : n = (decF s).2) (w : World) : Calls Tryd.prog 49 #[.string s] w fun e w' => e = .returned (.int .i64 n) ∧ Below w.heap.size w w' := by
  rw [hn]
  exact rerror_any s (by unfold maxLen; omega) w
theorem rFrame_v (s : ByteArray) {f : Fr} (h : DecOk s f) (C : Array Value) (hC : C = f.cells) (w : World) : Calls Tryd.prog 50 #[.string s] w fun e w' => e = .returned (.agg C) ∧ Below w.heap.size w w' := by
  rw [hC, h.fr]
  exact rFrame_any s (by have := h.size; unfold maxLen; omega) h.size.1 h.k3 h.k4 w
attribute [local go_sem ↓ high] eql_self
set_option maxRecDepth 100000 in
set_option maxHeartbeats 8000000 in
theorem reads_any (s : ByteArray) (hs : s.size ≤ 140737488351232) (w : World) (hL : LaidW w) :
    Calls Tryd.prog 9 #[.string s] w fun e w' => e = .returned (.bool true) ∧ Below w.heap.size w w' := by
  have hbr := Below.refl w.heap.size w
  have HLa := Lib.hid hL
  clear hL
  go_enter Tryd.func9, Tryd.ntmps9
  go_wp2_with fail
  refine (awake_any w HLa.out).mono ?_
  rintro e wb ⟨rfl, hbb⟩
  have HXb := Lib.hid hbb
  clear hbb hbr
  by_cases h400 : 400 < (s.size : Int)
  · go_wp2
    go_ret
    exact ⟨rfl, HXb.out⟩
  have h400' : s.size ≤ 400 := by omega
  by_cases he : (decF s).2 = 0
  · have hdo := dec_ok he
    obtain ⟨f, hf⟩ : ∃ f, f = frF (s.extract 0 (s.size - 2)) := ⟨_, rfl⟩
    rw [← hf] at hdo
    have HDO := Lib.hid hdo
    have HN := Lib.hid (show 0 = (decF s).2 from he.symm)
    clear hdo hf he
    obtain ⟨C, hC⟩ : ∃ C, C = f.cells := ⟨_, rfl⟩
    have hCs := Fr.size hC
    have HF := Lib.hid hC
    have hIs : IsFr C := ⟨f, hC⟩
    have hC1 : C.all (·.oneCell') = true := by rw [hC]; kernel_rfl
    have hCi : (Tryd.prog.info? 49).map (·.size) = some C.size := by rw [hCs]; kernel_rfl
    have HCI := Lib.hid (And.intro hC1 hCi)
    clear hC hC1 hCi
    go_wp2_with fail
    refine (decode_ok C f HF.out HDO.out.ok HDO.out.right s HDO.out.enc.symm _).mono ?_
    rintro e wc ⟨rfl, hbc⟩
    have HXc := Lib.hid (HXb.out.trans (hbc.mono HXb.out.size))
    clear hbc
    go_wp2_with (first
      | ((with_reducible refine wpList_store_new ?hgd_z43 49 ?x_z43 ?y_z43 ?ho_z43 wc.heap.size ?c_z43 C ?hg_z43 ?hx_z43 ?hy_z43 ?hi_z43 ?hs_z43 ?h1_z43 ?h_z43); (case ho_z43 => rfl); (case hgd_z43 => rfl); (case hg_z43 => rfl); (case hx_z43 => rfl); (case hy_z43 => rfl); (case hi_z43 => exact HCI.out.2); (case hs_z43 => rw [hCs]; rfl); (case h1_z43 => exact HCI.out.1); refine unhalt ?_))
    have HOd := Lib.hid (ObjAt.new wc C 49)
    have HXd := Lib.hid (HXc.out.alloc HXc.out.size (.cells C 49))
    have hgw := HXc.out.size
    generalize wc.alloc (.cells C 49) = wd at *
    generalize wc.heap.size = g3 at *
    refine halt ?_
    go_wp2_with fail
    refine (rerror_v s h400' 0 HN.out _).mono ?_
    rintro e we ⟨rfl, hbe⟩
    have HOe := Lib.hid (obj_call HOd.out hbe)
    have HXe := Lib.hid (HXd.out.trans (hbe.mono HXd.out.size))
    clear hbe
    go_wp2_with (first
      | ((with_reducible refine wpList_frameD 29 (.tmp 3) ?hd_z44 ?ho_z44 ?hw_z44 g3 C ?hx_z44 hCs ?hg_z44 ?h_z44); (case hd_z44 => rfl); (case ho_z44 => rfl); (case hw_z44 => kernel_rfl); (case hx_z44 => rfl); (case hg_z44 => exact HOe.out)))
    refine (encode_ok C f HF.out HDO.out.ok HDO.out.right s HDO.out.enc.symm _).mono ?_
    rintro e wf ⟨rfl, hbf⟩
    have HOf := Lib.hid (obj_call HOe.out hbf)
    have HXf := Lib.hid (HXe.out.trans (hbf.mono HXe.out.size))
    clear hbf
    go_wp2_with fail
    have HOm := Lib.hid (show ObjAt wf.drew g3 C 49 from HOf.out)
    have HXm := Lib.hid (show Below w.heap.size w wf.drew from ⟨HXf.out.os, HXf.out.tape, HXf.out.output, HXf.out.size, HXf.out.block⟩)
    go_region_held3 (fun w' => (loadCellsFrom ⟨g3, 0, none⟩ 0 n19 #[]).run Tryd.prog w' = .ok C w')
      (first | exact Fr.loadc HF.out HOm.out | exact Fr.loadc HF.out HOm1.out)
      (first
        | (go_at_call 50; (with_reducible refine (rFrame_v s HDO.out C HF.out _).mono ?_); rintro e wm1 ⟨rfl, hm1⟩; have HOm1 := Lib.hid (obj_call HOm.out hm1); have HXm1 := Lib.hid (HXm.out.trans (hm1.mono HXm.out.size))))
    go_wp2
    go_ret
    exact ⟨rfl, HXm1.out⟩
  · obtain ⟨CZ, hCZ⟩ : ∃ C, C = Fr.zero.cells := ⟨_, rfl⟩
    have HCZ := Lib.hid hCZ
    have hZs := Fr.size hCZ
    have hZ1 : CZ.all (·.oneCell') = true := by rw [hCZ]; kernel_rfl
    have hZi : (Tryd.prog.info? 49).map (·.size) = some CZ.size := by rw [hZs]; kernel_rfl
    have HZI := Lib.hid (And.intro hZ1 hZi)
    clear hCZ hZ1 hZi
    obtain ⟨n, hn⟩ : ∃ n, n = (decF s).2 := ⟨_, rfl⟩
    have hd : decF s = (Fr.zero, n) := by rw [hn, ← dec_err he]
    have hn0 : (n != 0) = true := by rw [hn]; simpa using he
    have HN := Lib.hid hn
    have HD := Lib.hid hd
    clear hd he hn
    go_wp2_with fail
    refine (decode_no CZ HCZ.out s (by omega) n HD.out _).mono ?_
    rintro e wc ⟨rfl, hbc⟩
    have HXc := Lib.hid (HXb.out.trans (hbc.mono HXb.out.size))
    clear hbc
    go_wp2_with (first
      | ((with_reducible refine wpList_store_new ?hgd_z39 49 ?x_z39 ?y_z39 ?ho_z39 wc.heap.size ?c_z39 CZ ?hg_z39 ?hx_z39 ?hy_z39 ?hi_z39 ?hs_z39 ?h1_z39 ?h_z39); (case ho_z39 => rfl); (case hgd_z39 => rfl); (case hg_z39 => rfl); (case hx_z39 => rfl); (case hy_z39 => rfl); (case hi_z39 => exact HZI.out.2); (case hs_z39 => rw [hZs]; rfl); (case h1_z39 => exact HZI.out.1); refine unhalt ?_))
    have HOd := Lib.hid (ObjAt.new wc CZ 49)
    have HXd := Lib.hid (HXc.out.alloc HXc.out.size (.cells CZ 49))
    have hgw := HXc.out.size
    generalize wc.alloc (.cells CZ 49) = wd at *
    generalize wc.heap.size = g3 at *
    refine halt ?_
    go_wp2_with fail
    refine (rerror_v s h400' n HN.out _).mono ?_
    rintro e we ⟨rfl, hbe⟩
    have HOe := Lib.hid (obj_call HOd.out hbe)
    have HXe := Lib.hid (HXd.out.trans (hbe.mono HXd.out.size))
    clear hbe
    go_wp2_with (first
      | ((with_reducible refine wpList_frameD 25 (.tmp 3) ?hd_z40 ?ho_z40 ?hw_z40 g3 CZ ?hx_z40 hZs ?hg_z40 ?h_z40); (case hd_z40 => rfl); (case ho_z40 => rfl); (case hw_z40 => kernel_rfl); (case hx_z40 => rfl); (case hg_z40 => exact HOe.out))
      | ((with_reducible refine wpList_build_to ?hgd_z41 49 ?parts_z41 ?ho_z41 Fr.zero.cells ?hc_z41 ?h_z41); (case ho_z41 => rfl); (case hgd_z41 => rfl); (case hc_z41 => kernel_rfl))
      | ((with_reducible refine wpList_eqFr2 (.tmp 25) (.tmp 26) 49 ?ho_z42 ?hw_z42 Fr.zero Fr.zero true (fr_self Fr.zero) ?hx_z42 ?hy_z42 ?h_z42); (case ho_z42 => rfl); (case hw_z42 => kernel_rfl); (case hx_z42 => rw [← HCZ.out]; rfl); (case hy_z42 => rfl)))
    go_ret
    exact ⟨rfl, HXe.out⟩
theorem frameReads_walk (s : ByteArray) (hs : s.size ≤ 140737488351232) (w : World) (hL : LaidW w) :
    Calls Tryd.prog 9 #[.string s] w fun e w' => e = .returned (.bool true) ∧ Below w.heap.size w w' := reads_any s hs w hL
end Go.Proofs.YtmehafolnpkmhaaDoor
