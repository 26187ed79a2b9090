/- The law of sealed bytes. -/
import Derived.Test.YtmehafolnpkmhaaDoorFraLawReads
namespace Go.Proofs.YtmehafolnpkmhaaDoor
open Go.RowKit Go.ChangeShapes Go.WideShapes
set_option maxRecDepth 100000 in
set_option maxHeartbeats 4000000 in
theorem frameSealed_walk (s : ByteArray) (hs : s.size ≤ 140737488351232) (w : World) (hL : LaidW w) :
    Calls Tryd.prog 10 #[.string s] w fun e w' => e = .returned (.bool true) ∧ Below w.heap.size w w' := by
  have HLa := Lib.hid hL
  clear hL
  go_enter Tryd.func10, Tryd.ntmps10
  go_wp2_with fail
  refine (awake_any w HLa.out).mono ?_
  rintro e wb ⟨rfl, hbb⟩
  have HXb := Lib.hid hbb
  clear hbb
  by_cases h2 : (s.size : Int) < 2
  · go_wp2
    go_ret
    exact ⟨rfl, HXb.out⟩
  by_cases h60 : 60 < (s.size : Int)
  · go_wp2
    go_ret
    exact ⟨rfl, HXb.out⟩
  have hcv := @Lib.run_convert_string_bytes Tryd.prog wb 9 61 5 s .string (by kernel_rfl) (by kernel_rfl) (by kernel_rfl)
  have hB0 := bytesAt_conv wb 5 s
  have hl0 : s.data.toList.length = s.size := Array.length_toList
  have z1 := hB0.1 1 (by omega)
  have y1 := hB0.2 1 (by omega)
  have i1 : (1 : Int) < (s.size : Int) := by omega
  have q8 : IntKind.u8.wrap ((s.size : Int) + 2) = (s.size : Int) + 2 := by rw [IntKind.wrap_u8']; omega
  obtain ⟨c, hc⟩ : ∃ c : UInt8, c = UInt8.ofNat (s.size + 2) := ⟨_, rfl⟩
  have hcn : (c.toNat : Int) = (s.size : Int) + 2 := by rw [hc, of_b _ (by omega)]; omega
  have hB1 := bytesAt_set hB0 1 (by omega) c
  have hX1 : Below w.heap.size w ((Lib.bytesWorld wb 5 s).setCell ⟨wb.heap.size, 1, none⟩ (.int .u8 c.toNat)) :=
    (HXb.out.trans ((below_conv wb 5 s).mono HXb.out.size)).setCell HXb.out.size _
  rw [hcn] at hB1 hX1
  have hl1 : (s.data.toList.set 1 c).length = s.size := by rw [List.length_set]; exact hl0
  have hcv2 := run_convert_bytes_arg (P := Tryd.prog) ((Lib.bytesWorld wb 5 s).setCell ⟨wb.heap.size, 1, none⟩ (.int .u8 ((s.size : Int) + 2))) 61 5 (by kernel_rfl) (by kernel_rfl) wb.heap.size 0 s.size (grownCap wb s.size 0 5) ((s.data.toList.set 1 c).map fun c => (c.toNat : Int)) (by simp) (fun i hi => by
    have hi' : i < (s.data.toList.set 1 c).length := by rw [hl1]; simpa using hi
    have h1 := hB1.1 i hi'
    simp only [Nat.zero_add, h1, List.getD_eq_getElem?_getD, List.getElem?_map, List.getElem?_eq_getElem hi', Option.map_some, Option.getD_some]) 9 (by kernel_rfl)
  obtain ⟨t, ht⟩ : ∃ t, t = strOfNums ((s.data.toList.set 1 c).map fun c => (c.toNat : Int)) := ⟨_, rfl⟩
  rw [← ht] at hcv2
  have htz : t.size ≤ 60 := by
    rw [ht, strOfNums_bytes, str_size, hl1]
    omega
  have HX1 := Lib.hid hX1
  clear hB0 hB1 hX1 ht hc hl1
  go_wp2_with fail
  refine (rsealed_any t (by unfold maxLen; omega) _).mono ?_
  rintro e w3 ⟨rfl, hb3⟩
  have HX3 := Lib.hid (HX1.out.trans (hb3.mono HX1.out.size))
  obtain ⟨u, hu⟩ : ∃ u, u = Crc.rsealed t := ⟨_, rfl⟩
  rw [← hu]
  have huz : u.size ≤ 62 := by
    rw [hu, Crc.rsealed_eq, Crc.sealed_size]
    omega
  clear hb3 hu hcv hcv2 z1 y1
  go_wp2_with fail
  refine (reads_any u (by omega) w3 (laidW_below HLa.out HX3.out (Nat.le_refl _))).mono ?_
  rintro e w4 ⟨rfl, hb4⟩
  have HX4 := Lib.hid (HX3.out.trans (hb4.mono HX3.out.size))
  clear hb4
  go_wp2
  go_ret
  exact ⟨rfl, HX4.out⟩
end Go.Proofs.YtmehafolnpkmhaaDoor
