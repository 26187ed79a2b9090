/- The reference's Frame: its frame. -/
import Derived.Test.YtmehafolnpkmhaaDoorFraRfr
namespace Go.Proofs.YtmehafolnpkmhaaDoor
open Go.RowKit
set_option maxRecDepth 100000 in
set_option maxHeartbeats 8000000 in
theorem rFrame_any (s : ByteArray) (hs : s.size ≤ maxLen) (h15 : 17 ≤ s.size) (hk3 : nb s 0 1 = 3 → 23 ≤ s.size) (hk4 : nb s 0 1 = 4 → 26 ≤ s.size) (w : World) :
    Calls Tryd.prog 50 #[.string s] w fun e w' => e = .returned (.agg (frF (s.extract 0 (s.size - 2))).cells) ∧ Below w.heap.size w w' := by
  have HR0 := Lib.hid (show ObjAt (w.alloc (.cells Fr.zero.cells 49)) w.heap.size Fr.zero.cells 49 from ObjAt.new w _ _)
  have HB0 := Lib.hid ((Below.refl w.heap.size w).alloc (Nat.le_refl _) (.cells Fr.zero.cells 49))
  have HC := Lib.hid (rframe_any s hs h15 hk3 hk4)
  go_enter Tryd.func50, Tryd.ntmps50
  go_wp2_with fail
  have hZ : (#[.int .i64 0, .int .u8 0, .int .u8 0, .int .u16 0, .int .u16 0, .int .u16 0, .int .u8 0, .int .u16 0, .int .u16 0, .int .u16 0, .int .u8 0, .int .u16 0, .bool false, .int .u8 0, .int .u16 0, .int .u32 0, .int .u8 0, .int .u8 0, .string (⟨#[]⟩ : ByteArray)] : Array Value) = Fr.zero.cells := rfl
  rw [hZ]
  clear hZ
  generalize w.alloc (.cells Fr.zero.cells 49) = w1 at *
  refine (HC.out w1).mono ?_
  rintro e w2 ⟨rfl, hb⟩
  have hr := obj_call HR0.out hb
  have hbb := HB0.out.trans (hb.mono (Nat.le_of_lt HR0.out.lt))
  obtain ⟨CC, hCC⟩ : ∃ C, C = (frF (s.extract 0 (s.size - 2))).cells := ⟨_, rfl⟩
  rw [← hCC]
  have hg9 := setRow_heap w2 w.heap.size Fr.zero.cells CC 49 (0, 0) hr
  have hb9 := below_setRow hbb w.heap.size (Nat.le_refl _) CC
  have HZ := Lib.hid hr
  have HG9 := Lib.hid hg9
  have HB9 := Lib.hid hb9
  have hCs := Fr.size hCC
  have hC1 : CC.all (·.oneCell') = true := by rw [hCC]; kernel_rfl
  have hCi : (Tryd.prog.info? 49).map (·.size) = some CC.size := by rw [hCs]; kernel_rfl
  have HCI := Lib.hid (And.intro hC1 hCi)
  have HCC := Lib.hid hCC
  clear hr hbb hg9 hb9 hCC hC1 hCi hb HC
  go_wp2_with ((with_reducible refine wpList_store_row ?hgd_r 49 (.tmp 2) (.tmp 4) ?ho_r w.heap.size CC ?hx_r ?hy_r 49 Fr.zero.cells ?hg_r ?hi_r ?hold_r ?h1_r ?h_r); (case ho_r => rfl); (case hgd_r => rfl); (case hx_r => rfl); (case hy_r => rfl); (case hg_r => exact HZ.out); (case hi_r => exact HCI.out.2); (case hold_r => rw [hCs]; rfl); (case h1_r => exact HCI.out.1))
  refine bodyPost_ret (res_c rfl _ _ w.heap.size 49 CC (0, 0) _ rfl HG9.out Tryd.underlying49 rfl (by rw [hCs]; kernel_rfl)) rfl ?_
  exact ⟨by rw [HCC.out], HB9.out⟩
end Go.Proofs.YtmehafolnpkmhaaDoor
