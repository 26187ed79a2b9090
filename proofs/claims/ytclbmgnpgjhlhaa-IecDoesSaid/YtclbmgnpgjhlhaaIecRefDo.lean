/- The document's Do (made by wip/mk_iecdo.py). -/
import Derived.Test.YtclbmgnpgjhlhaaIecDo
import Derived.Test.YtclbmgnpgjhlhaaIecRef4
namespace Go.Proofs.Ytclbmgnpgjhlhaa
open Go.RowKit
def yB (p : Bool) : Int := if p = true then 1 else 0
set_option maxRecDepth 100000 in
set_option maxHeartbeats 1000000 in
theorem ryes_any (p : Bool) (w : World) : Calls Try.prog 49 #[.bool p] w fun e w' => e = .returned (.int .i64 (yB p)) ∧ w = w' := by
  cases p
  all_goals
    go_enter Try.func49, Try.ntmps49
    go_wp2
    go_ret
    exact ⟨rfl, rfl⟩
set_option maxRecDepth 100000 in
set_option maxHeartbeats 1000000 in
theorem rdo_13 (k a b : Int) (w : World) : Calls Try.prog 15 #[.int .i64 13, .int .i64 k, .int .i64 a, .int .i64 b] w (RetDo 13 (kN k) a b w) := by
  have hf : doE 13 (kN k) a b = 6 := by simp [doE]
  have hv : doV 13 (kN k) a b = 0 := by simp [doV, hf]
  have H := Lib.hid (And.intro hf hv)
  clear hf hv
  cases hm : mayK 13 (kN k)
  all_goals
    have HM := Lib.hid hm
    clear hm
    go_enter Try.func15, Try.ntmps15
    go_wp2_with fail
    refine (rmay_any 13 k _).mono ?_
    rintro e w1 ⟨rfl, hb1⟩
    rw [HM.out]
    go_wp2
    go_ret2
    exact RetDo.mk H.out.1 H.out.2 hb1
set_option maxRecDepth 100000 in
set_option maxHeartbeats 1000000 in
theorem rdo_not (op k a b : Int) (hm : mayK op (kN k) = false) (w : World) : Calls Try.prog 15 #[.int .i64 op, .int .i64 k, .int .i64 a, .int .i64 b] w (RetDo op (kN k) a b w) := by
  have hf : doE op (kN k) a b = 6 := by simp [doE, hm]
  have hv : doV op (kN k) a b = 0 := by simp [doV, hf]
  have H := Lib.hid (And.intro hf hv)
  have HM := Lib.hid hm
  clear hf hv hm
  go_enter Try.func15, Try.ntmps15
  go_wp2_with fail
  refine (rmay_any op k _).mono ?_
  rintro e w1 ⟨rfl, hb1⟩
  rw [HM.out]
  go_wp2
  go_ret2
  exact RetDo.mk H.out.1 H.out.2 hb1
set_option maxRecDepth 100000 in
set_option maxHeartbeats 1000000 in
theorem rdo_arg (op k a b : Int) (h13 : op ≠ 13) (hm : mayK op (kN k) = true) (hi : isK (kN k) a = false ∨ isK (kN k) b = false) (w : World) : Calls Try.prog 15 #[.int .i64 op, .int .i64 k, .int .i64 a, .int .i64 b] w (RetDo op (kN k) a b w) := by
  have hf : doE op (kN k) a b = 1 := by rw [doE, if_neg (by rw [hm]; simp [h13]), if_pos hi]
  have hv : doV op (kN k) a b = 0 := by simp [doV, hf]
  have H := Lib.hid (And.intro hf hv)
  have h1 : (op == 13) = false := by rw [beq_eq_false_iff_ne]; exact h13
  have HM := Lib.hid hm
  clear hf hv hm h13
  cases ha : isK (kN k) a with
  | false =>
    have HA := Lib.hid ha
    clear ha hi
    go_enter Try.func15, Try.ntmps15
    go_wp2_with fail
    refine (rmay_any op k _).mono ?_
    rintro e w1 ⟨rfl, hb1⟩
    rw [HM.out]
    go_wp2_with fail
    refine (ris_any k a _).mono ?_
    rintro e w2 ⟨rfl, hb2⟩
    rw [HA.out]
    go_wp2
    go_ret2
    exact RetDo.mk H.out.1 H.out.2 (bt hb1 hb2)
  | true =>
    have hb : isK (kN k) b = false := by
      rcases hi with h | h
      · rw [ha] at h; cases h
      · exact h
    have HA := Lib.hid ha
    have HB := Lib.hid hb
    clear ha hi hb
    go_enter Try.func15, Try.ntmps15
    go_wp2_with fail
    refine (rmay_any op k _).mono ?_
    rintro e w1 ⟨rfl, hb1⟩
    rw [HM.out]
    go_wp2_with fail
    refine (ris_any k a _).mono ?_
    rintro e w2 ⟨rfl, hb2⟩
    rw [HA.out]
    go_wp2_with fail
    refine (ris_any k b _).mono ?_
    rintro e w3 ⟨rfl, hb3⟩
    rw [HB.out]
    go_wp2
    go_ret2
    exact RetDo.mk H.out.1 H.out.2 (bt (bt hb1 hb2) hb3)
set_option maxRecDepth 100000 in
set_option maxHeartbeats 1000000 in
theorem rdo_7 (k a b : Int) (hm : mayK 7 (kN k) = true) (ha : isK (kN k) a = true) (hb : isK (kN k) b = true) (w : World) : Calls Try.prog 15 #[.int .i64 7, .int .i64 k, .int .i64 a, .int .i64 b] w (RetDo 7 (kN k) a b w) := by
  have hf : doE 7 (kN k) a b = 0 := by simp [doE, hm, ha, hb]
  have hv : doV 7 (kN k) a b = doR 7 (kN k) a b := by simp [doV, hf]
  have hia := isK_in ha
  have hib := isK_in hb
  have HM := Lib.hid hm
  have HA := Lib.hid ha
  have HB := Lib.hid hb
  have hbk : bitsK (kN k) = true := by
    have h0 := hm
    unfold mayK at h0
    split at h0
    · cases h0
    · simpa using h0
  obtain ⟨x, hx, hx1, hx2⟩ := isK_bits hbk ha
  obtain ⟨y, hy, hy1, hy2⟩ := isK_bits hbk hb
  have HBK := Lib.hid hbk
  have H := Lib.hid (And.intro hf hv)
  clear hf hv hm
  clear ha hb hia hib hx2 hy2 hbk
  subst hx hy
  go_enter Try.func15, Try.ntmps15
  go_wp2_with fail
  refine (rmay_any _ k _).mono ?_
  rintro e w1 ⟨rfl, hb1⟩
  rw [HM.out]
  go_wp2_with fail
  refine (ris_any k _ _).mono ?_
  rintro e w2 ⟨rfl, hb2⟩
  rw [HA.out]
  go_wp2_with fail
  refine (ris_any k _ _).mono ?_
  rintro e w3 ⟨rfl, hb3⟩
  rw [HB.out]
  go_wp2_with fail
  refine (rbits_any _ x y (width_32 hx1) (width_32 hy1) _).mono ?_
  rintro e w4 ⟨rfl, rfl⟩
  go_wp2
  go_ret2
  exact RetDo.mk H.out.1 (H.out.2.trans (by simp [doR])) (bt (bt hb1 hb2) hb3)
set_option maxRecDepth 100000 in
set_option maxHeartbeats 1000000 in
theorem rdo_8 (k a b : Int) (hm : mayK 8 (kN k) = true) (ha : isK (kN k) a = true) (hb : isK (kN k) b = true) (w : World) : Calls Try.prog 15 #[.int .i64 8, .int .i64 k, .int .i64 a, .int .i64 b] w (RetDo 8 (kN k) a b w) := by
  have hf : doE 8 (kN k) a b = 0 := by simp [doE, hm, ha, hb]
  have hv : doV 8 (kN k) a b = doR 8 (kN k) a b := by simp [doV, hf]
  have hia := isK_in ha
  have hib := isK_in hb
  have HM := Lib.hid hm
  have HA := Lib.hid ha
  have HB := Lib.hid hb
  have hbk : bitsK (kN k) = true := by
    have h0 := hm
    unfold mayK at h0
    split at h0
    · cases h0
    · simpa using h0
  obtain ⟨x, hx, hx1, hx2⟩ := isK_bits hbk ha
  obtain ⟨y, hy, hy1, hy2⟩ := isK_bits hbk hb
  have HBK := Lib.hid hbk
  have H := Lib.hid (And.intro hf hv)
  clear hf hv hm
  clear ha hb hia hib hx2 hy2 hbk
  subst hx hy
  go_enter Try.func15, Try.ntmps15
  go_wp2_with fail
  refine (rmay_any _ k _).mono ?_
  rintro e w1 ⟨rfl, hb1⟩
  rw [HM.out]
  go_wp2_with fail
  refine (ris_any k _ _).mono ?_
  rintro e w2 ⟨rfl, hb2⟩
  rw [HA.out]
  go_wp2_with fail
  refine (ris_any k _ _).mono ?_
  rintro e w3 ⟨rfl, hb3⟩
  rw [HB.out]
  go_wp2_with fail
  refine (rbits_any _ x y (width_32 hx1) (width_32 hy1) _).mono ?_
  rintro e w4 ⟨rfl, rfl⟩
  go_wp2
  go_ret2
  exact RetDo.mk H.out.1 (H.out.2.trans (by simp [doR])) (bt (bt hb1 hb2) hb3)
set_option maxRecDepth 100000 in
set_option maxHeartbeats 1000000 in
theorem rdo_9 (k a b : Int) (hm : mayK 9 (kN k) = true) (ha : isK (kN k) a = true) (hb : isK (kN k) b = true) (w : World) : Calls Try.prog 15 #[.int .i64 9, .int .i64 k, .int .i64 a, .int .i64 b] w (RetDo 9 (kN k) a b w) := by
  have hf : doE 9 (kN k) a b = 0 := by simp [doE, hm, ha, hb]
  have hv : doV 9 (kN k) a b = doR 9 (kN k) a b := by simp [doV, hf]
  have hia := isK_in ha
  have hib := isK_in hb
  have HM := Lib.hid hm
  have HA := Lib.hid ha
  have HB := Lib.hid hb
  have hbk : bitsK (kN k) = true := by
    have h0 := hm
    unfold mayK at h0
    split at h0
    · cases h0
    · simpa using h0
  obtain ⟨x, hx, hx1, hx2⟩ := isK_bits hbk ha
  obtain ⟨y, hy, hy1, hy2⟩ := isK_bits hbk hb
  have HBK := Lib.hid hbk
  have H := Lib.hid (And.intro hf hv)
  clear hf hv hm
  clear ha hb hia hib hx2 hy2 hbk
  subst hx hy
  go_enter Try.func15, Try.ntmps15
  go_wp2_with fail
  refine (rmay_any _ k _).mono ?_
  rintro e w1 ⟨rfl, hb1⟩
  rw [HM.out]
  go_wp2_with fail
  refine (ris_any k _ _).mono ?_
  rintro e w2 ⟨rfl, hb2⟩
  rw [HA.out]
  go_wp2_with fail
  refine (ris_any k _ _).mono ?_
  rintro e w3 ⟨rfl, hb3⟩
  rw [HB.out]
  go_wp2_with fail
  refine (rbits_any _ x y (width_32 hx1) (width_32 hy1) _).mono ?_
  rintro e w4 ⟨rfl, rfl⟩
  go_wp2
  go_ret2
  exact RetDo.mk H.out.1 (H.out.2.trans (by simp [doR])) (bt (bt hb1 hb2) hb3)
set_option maxRecDepth 100000 in
set_option maxHeartbeats 1000000 in
theorem rdo_10 (k a b : Int) (hm : mayK 10 (kN k) = true) (ha : isK (kN k) a = true) (hb : isK (kN k) b = true) (w : World) : Calls Try.prog 15 #[.int .i64 10, .int .i64 k, .int .i64 a, .int .i64 b] w (RetDo 10 (kN k) a b w) := by
  have hf : doE 10 (kN k) a b = 0 := by simp [doE, hm, ha, hb]
  have hv : doV 10 (kN k) a b = doR 10 (kN k) a b := by simp [doV, hf]
  have hia := isK_in ha
  have hib := isK_in hb
  have HM := Lib.hid hm
  have HA := Lib.hid ha
  have HB := Lib.hid hb
  have hbk : bitsK (kN k) = true := by
    have h0 := hm
    unfold mayK at h0
    split at h0
    · cases h0
    · simpa using h0
  obtain ⟨x, hx, hx1, hx2⟩ := isK_bits hbk ha
  obtain ⟨y, hy, hy1, hy2⟩ := isK_bits hbk hb
  have HBK := Lib.hid hbk
  have H := Lib.hid (And.intro hf hv)
  clear hf hv hm
  obtain ⟨z, hz, hz1⟩ := notK_nat hbk hy1 (by rw [← hy]; exact hb)
  have HZ := Lib.hid hz
  clear ha hb hia hib hx2 hy2 hbk hz
  subst hx hy
  go_enter Try.func15, Try.ntmps15
  go_wp2_with fail
  refine (rmay_any _ k _).mono ?_
  rintro e w1 ⟨rfl, hb1⟩
  rw [HM.out]
  go_wp2_with fail
  refine (ris_any k _ _).mono ?_
  rintro e w2 ⟨rfl, hb2⟩
  rw [HA.out]
  go_wp2_with fail
  refine (ris_any k _ _).mono ?_
  rintro e w3 ⟨rfl, hb3⟩
  rw [HB.out]
  go_wp2_with fail
  refine (rnot_any k _ _).mono ?_
  rintro e w4 ⟨rfl, hb4⟩
  rw [HZ.out]
  go_wp2_with fail
  refine (rbits_any _ x z (width_32 hx1) (width_32 hz1) _).mono ?_
  rintro e w5 ⟨rfl, rfl⟩
  go_wp2
  go_ret2
  exact RetDo.mk H.out.1 (H.out.2.trans (by simp [doR, HZ.out])) (bt (bt (bt hb1 hb2) hb3) hb4)
set_option maxRecDepth 100000 in
set_option maxHeartbeats 1000000 in
theorem rdo_11 (k a b : Int) (hm : mayK 11 (kN k) = true) (ha : isK (kN k) a = true) (hb : isK (kN k) b = true) (w : World) : Calls Try.prog 15 #[.int .i64 11, .int .i64 k, .int .i64 a, .int .i64 b] w (RetDo 11 (kN k) a b w) := by
  have hf : doE 11 (kN k) a b = 0 := by simp [doE, hm, ha, hb]
  have hv : doV 11 (kN k) a b = doR 11 (kN k) a b := by simp [doV, hf]
  have hia := isK_in ha
  have hib := isK_in hb
  have HM := Lib.hid hm
  have HA := Lib.hid ha
  have HB := Lib.hid hb
  have hbk : bitsK (kN k) = true := by
    have h0 := hm
    unfold mayK at h0
    split at h0
    · cases h0
    · simpa using h0
  obtain ⟨x, hx, hx1, hx2⟩ := isK_bits hbk ha
  obtain ⟨y, hy, hy1, hy2⟩ := isK_bits hbk hb
  have HBK := Lib.hid hbk
  have H := Lib.hid (And.intro hf hv)
  clear hf hv hm
  obtain ⟨z, hz, hz1⟩ := notK_nat hbk hy1 (by rw [← hy]; exact hb)
  have HZ := Lib.hid hz
  clear ha hb hia hib hx2 hy2 hbk hz
  subst hx hy
  go_enter Try.func15, Try.ntmps15
  go_wp2_with fail
  refine (rmay_any _ k _).mono ?_
  rintro e w1 ⟨rfl, hb1⟩
  rw [HM.out]
  go_wp2_with fail
  refine (ris_any k _ _).mono ?_
  rintro e w2 ⟨rfl, hb2⟩
  rw [HA.out]
  go_wp2_with fail
  refine (ris_any k _ _).mono ?_
  rintro e w3 ⟨rfl, hb3⟩
  rw [HB.out]
  go_wp2_with fail
  refine (rnot_any k _ _).mono ?_
  rintro e w4 ⟨rfl, hb4⟩
  rw [HZ.out]
  go_wp2_with fail
  refine (rbits_any _ x z (width_32 hx1) (width_32 hz1) _).mono ?_
  rintro e w5 ⟨rfl, rfl⟩
  go_wp2
  go_ret2
  exact RetDo.mk H.out.1 (H.out.2.trans (by simp [doR, HZ.out])) (bt (bt (bt hb1 hb2) hb3) hb4)
set_option maxRecDepth 100000 in
set_option maxHeartbeats 1000000 in
theorem rdo_12 (k a b : Int) (hm : mayK 12 (kN k) = true) (ha : isK (kN k) a = true) (hb : isK (kN k) b = true) (w : World) : Calls Try.prog 15 #[.int .i64 12, .int .i64 k, .int .i64 a, .int .i64 b] w (RetDo 12 (kN k) a b w) := by
  have hf : doE 12 (kN k) a b = 0 := by simp [doE, hm, ha, hb]
  have hv : doV 12 (kN k) a b = doR 12 (kN k) a b := by simp [doV, hf]
  have hia := isK_in ha
  have hib := isK_in hb
  have HM := Lib.hid hm
  have HA := Lib.hid ha
  have HB := Lib.hid hb
  have hbk : bitsK (kN k) = true := by
    have h0 := hm
    unfold mayK at h0
    split at h0
    · cases h0
    · simpa using h0
  obtain ⟨x, hx, hx1, hx2⟩ := isK_bits hbk ha
  obtain ⟨y, hy, hy1, hy2⟩ := isK_bits hbk hb
  have HBK := Lib.hid hbk
  have H := Lib.hid (And.intro hf hv)
  clear hf hv hm
  obtain ⟨z, hz, hz1⟩ := notK_nat hbk hy1 (by rw [← hy]; exact hb)
  have HZ := Lib.hid hz
  clear ha hb hia hib hx2 hy2 hbk hz
  subst hx hy
  go_enter Try.func15, Try.ntmps15
  go_wp2_with fail
  refine (rmay_any _ k _).mono ?_
  rintro e w1 ⟨rfl, hb1⟩
  rw [HM.out]
  go_wp2_with fail
  refine (ris_any k _ _).mono ?_
  rintro e w2 ⟨rfl, hb2⟩
  rw [HA.out]
  go_wp2_with fail
  refine (ris_any k _ _).mono ?_
  rintro e w3 ⟨rfl, hb3⟩
  rw [HB.out]
  go_wp2_with fail
  refine (rnot_any k _ _).mono ?_
  rintro e w4 ⟨rfl, hb4⟩
  rw [HZ.out]
  go_wp2_with fail
  refine (rbits_any _ x z (width_32 hx1) (width_32 hz1) _).mono ?_
  rintro e w5 ⟨rfl, rfl⟩
  go_wp2
  go_ret2
  exact RetDo.mk H.out.1 (H.out.2.trans (by simp [doR, HZ.out])) (bt (bt (bt hb1 hb2) hb3) hb4)
set_option maxRecDepth 100000 in
set_option maxHeartbeats 1000000 in
theorem rdo_14 (k a b : Int) (hm : mayK 14 (kN k) = true) (ha : isK (kN k) a = true) (hb : isK (kN k) b = true) (w : World) : Calls Try.prog 15 #[.int .i64 14, .int .i64 k, .int .i64 a, .int .i64 b] w (RetDo 14 (kN k) a b w) := by
  have hf : doE 14 (kN k) a b = 0 := by simp [doE, hm, ha, hb]
  have hv : doV 14 (kN k) a b = doR 14 (kN k) a b := by simp [doV, hf]
  have hia := isK_in ha
  have hib := isK_in hb
  have HM := Lib.hid hm
  have HA := Lib.hid ha
  have HB := Lib.hid hb
  have q1 := hia
  have q2 := hib
  unfold In32 at q1 q2
  have H := Lib.hid (And.intro hf hv)
  clear hf hv hm
  clear ha hb hia hib
  go_enter Try.func15, Try.ntmps15
  go_wp2_with fail
  refine (rmay_any _ k _).mono ?_
  rintro e w1 ⟨rfl, hb1⟩
  rw [HM.out]
  go_wp2_with fail
  refine (ris_any k _ _).mono ?_
  rintro e w2 ⟨rfl, hb2⟩
  rw [HA.out]
  go_wp2_with fail
  refine (ris_any k _ _).mono ?_
  rintro e w3 ⟨rfl, hb3⟩
  rw [HB.out]
  go_wp2_with fail
  refine (rwrap_any k _ _).mono ?_
  rintro e w4 ⟨rfl, hb4⟩
  go_wp2
  go_ret2
  exact RetDo.mk H.out.1 (H.out.2.trans (by simp [doR])) (bt (bt (bt hb1 hb2) hb3) hb4)
set_option maxRecDepth 100000 in
set_option maxHeartbeats 1000000 in
theorem rdo_15 (k a b : Int) (hm : mayK 15 (kN k) = true) (ha : isK (kN k) a = true) (hb : isK (kN k) b = true) (w : World) : Calls Try.prog 15 #[.int .i64 15, .int .i64 k, .int .i64 a, .int .i64 b] w (RetDo 15 (kN k) a b w) := by
  have hf : doE 15 (kN k) a b = 0 := by simp [doE, hm, ha, hb]
  have hv : doV 15 (kN k) a b = doR 15 (kN k) a b := by simp [doV, hf]
  have hia := isK_in ha
  have hib := isK_in hb
  have HM := Lib.hid hm
  have HA := Lib.hid ha
  have HB := Lib.hid hb
  have q1 := hia
  have q2 := hib
  unfold In32 at q1 q2
  have H := Lib.hid (And.intro hf hv)
  clear hf hv hm
  clear ha hb hia hib
  go_enter Try.func15, Try.ntmps15
  go_wp2_with fail
  refine (rmay_any _ k _).mono ?_
  rintro e w1 ⟨rfl, hb1⟩
  rw [HM.out]
  go_wp2_with fail
  refine (ris_any k _ _).mono ?_
  rintro e w2 ⟨rfl, hb2⟩
  rw [HA.out]
  go_wp2_with fail
  refine (ris_any k _ _).mono ?_
  rintro e w3 ⟨rfl, hb3⟩
  rw [HB.out]
  go_wp2_with fail
  refine (rwrap_any k _ _).mono ?_
  rintro e w4 ⟨rfl, hb4⟩
  go_wp2
  go_ret2
  exact RetDo.mk H.out.1 (H.out.2.trans (by simp [doR])) (bt (bt (bt hb1 hb2) hb3) hb4)
set_option maxRecDepth 100000 in
set_option maxHeartbeats 1000000 in
theorem rdo_16 (k a b : Int) (hm : mayK 16 (kN k) = true) (ha : isK (kN k) a = true) (hb : isK (kN k) b = true) (w : World) : Calls Try.prog 15 #[.int .i64 16, .int .i64 k, .int .i64 a, .int .i64 b] w (RetDo 16 (kN k) a b w) := by
  have hf : doE 16 (kN k) a b = 0 := by simp [doE, hm, ha, hb]
  have hv : doV 16 (kN k) a b = doR 16 (kN k) a b := by simp [doV, hf]
  have hia := isK_in ha
  have hib := isK_in hb
  have HM := Lib.hid hm
  have HA := Lib.hid ha
  have HB := Lib.hid hb
  have hbk : bitsK (kN k) = false := by
    have h0 := hm
    unfold mayK at h0
    split at h0
    · cases h0
    · simpa using h0
  have q : IntKind.i64.wrap (a * b) = a * b := IntWalk.i64_in _ (prod_in hbk ha hb)
  have H := Lib.hid (And.intro hf hv)
  clear hf hv hm
  clear ha hb hia hib hbk
  go_enter Try.func15, Try.ntmps15
  go_wp2_with fail
  refine (rmay_any _ k _).mono ?_
  rintro e w1 ⟨rfl, hb1⟩
  rw [HM.out]
  go_wp2_with fail
  refine (ris_any k _ _).mono ?_
  rintro e w2 ⟨rfl, hb2⟩
  rw [HA.out]
  go_wp2_with fail
  refine (ris_any k _ _).mono ?_
  rintro e w3 ⟨rfl, hb3⟩
  rw [HB.out]
  go_wp2_with fail
  refine (rwrap_any k _ _).mono ?_
  rintro e w4 ⟨rfl, hb4⟩
  go_wp2
  go_ret2
  exact RetDo.mk H.out.1 (H.out.2.trans (by simp [doR])) (bt (bt (bt hb1 hb2) hb3) hb4)
set_option maxRecDepth 100000 in
set_option maxHeartbeats 1000000 in
theorem rdo_17 (k a b : Int) (hm : mayK 17 (kN k) = true) (ha : isK (kN k) a = true) (hb : isK (kN k) b = true) (w : World) : Calls Try.prog 15 #[.int .i64 17, .int .i64 k, .int .i64 a, .int .i64 b] w (RetDo 17 (kN k) a b w) := by
  have hf : doE 17 (kN k) a b = 0 := by simp [doE, hm, ha, hb]
  have hv : doV 17 (kN k) a b = doR 17 (kN k) a b := by simp [doV, hf]
  have hia := isK_in ha
  have hib := isK_in hb
  have HM := Lib.hid hm
  have HA := Lib.hid ha
  have HB := Lib.hid hb
  have H := Lib.hid (And.intro hf hv)
  clear hf hv hm
  have HIA := Lib.hid hia
  clear ha hb hia hib
  by_cases h0 : b = 0
  · subst h0
    have e0 : wrapK (kN k) (quoV a 0) = 0 := by
      rw [quoV, if_pos rfl]
      unfold wrapK
      split <;> simp
    have HE := Lib.hid e0
    clear e0
    go_enter Try.func15, Try.ntmps15
    go_wp2_with fail
    refine (rmay_any _ k _).mono ?_
    rintro e w1 ⟨rfl, hb1⟩
    rw [HM.out]
    go_wp2_with fail
    refine (ris_any k _ _).mono ?_
    rintro e w2 ⟨rfl, hb2⟩
    rw [HA.out]
    go_wp2_with fail
    refine (ris_any k _ _).mono ?_
    rintro e w3 ⟨rfl, hb3⟩
    rw [HB.out]
    go_wp2_with fail
    go_wp2
    go_ret2
    exact RetDo.mk H.out.1 (H.out.2.trans (by simp [doR, HE.out])) (bt (bt hb1 hb2) hb3)
  · have e0 : quoV a b = a.tdiv b := by rw [quoV, if_neg h0]
    have t1 := tdiv_in a b HIA.out
    unfold In32 at t1
    have q1 : IntKind.i64.wrap (a.tdiv b) = a.tdiv b := IntWalk.i64_in _ (by omega)
    have h1 : (b == 0) = false := by rw [beq_eq_false_iff_ne]; exact h0
    have HE := Lib.hid e0
    clear e0 t1
    go_enter Try.func15, Try.ntmps15
    go_wp2_with fail
    refine (rmay_any _ k _).mono ?_
    rintro e w1 ⟨rfl, hb1⟩
    rw [HM.out]
    go_wp2_with fail
    refine (ris_any k _ _).mono ?_
    rintro e w2 ⟨rfl, hb2⟩
    rw [HA.out]
    go_wp2_with fail
    refine (ris_any k _ _).mono ?_
    rintro e w3 ⟨rfl, hb3⟩
    rw [HB.out]
    go_wp2_with fail
    refine (rwrap_any k _ _).mono ?_
    rintro e w4 ⟨rfl, hb4⟩
    go_wp2
    go_ret2
    exact RetDo.mk H.out.1 (H.out.2.trans (by simp [doR, HE.out])) (bt (bt (bt hb1 hb2) hb3) hb4)
set_option maxRecDepth 100000 in
set_option maxHeartbeats 1000000 in
theorem rdo_18 (k a b : Int) (hm : mayK 18 (kN k) = true) (ha : isK (kN k) a = true) (hb : isK (kN k) b = true) (w : World) : Calls Try.prog 15 #[.int .i64 18, .int .i64 k, .int .i64 a, .int .i64 b] w (RetDo 18 (kN k) a b w) := by
  have hf : doE 18 (kN k) a b = 0 := by simp [doE, hm, ha, hb]
  have hv : doV 18 (kN k) a b = doR 18 (kN k) a b := by simp [doV, hf]
  have hia := isK_in ha
  have hib := isK_in hb
  have HM := Lib.hid hm
  have HA := Lib.hid ha
  have HB := Lib.hid hb
  have H := Lib.hid (And.intro hf hv)
  clear hf hv hm
  have HIA := Lib.hid hia
  clear ha hb hia hib
  by_cases h0 : b = 0
  · subst h0
    have e0 : wrapK (kN k) (remV a 0) = 0 := by
      rw [remV, if_pos rfl]
      unfold wrapK
      split <;> simp
    have HE := Lib.hid e0
    clear e0
    go_enter Try.func15, Try.ntmps15
    go_wp2_with fail
    refine (rmay_any _ k _).mono ?_
    rintro e w1 ⟨rfl, hb1⟩
    rw [HM.out]
    go_wp2_with fail
    refine (ris_any k _ _).mono ?_
    rintro e w2 ⟨rfl, hb2⟩
    rw [HA.out]
    go_wp2_with fail
    refine (ris_any k _ _).mono ?_
    rintro e w3 ⟨rfl, hb3⟩
    rw [HB.out]
    go_wp2_with fail
    go_wp2
    go_ret2
    exact RetDo.mk H.out.1 (H.out.2.trans (by simp [doR, HE.out])) (bt (bt hb1 hb2) hb3)
  · have e0 : remV a b = a.tmod b := by rw [remV, if_neg h0]
    have t1 := tmod_in a b HIA.out
    unfold In32 at t1
    have q1 : IntKind.i64.wrap (a.tmod b) = a.tmod b := IntWalk.i64_in _ (by omega)
    have h1 : (b == 0) = false := by rw [beq_eq_false_iff_ne]; exact h0
    have HE := Lib.hid e0
    clear e0 t1
    go_enter Try.func15, Try.ntmps15
    go_wp2_with fail
    refine (rmay_any _ k _).mono ?_
    rintro e w1 ⟨rfl, hb1⟩
    rw [HM.out]
    go_wp2_with fail
    refine (ris_any k _ _).mono ?_
    rintro e w2 ⟨rfl, hb2⟩
    rw [HA.out]
    go_wp2_with fail
    refine (ris_any k _ _).mono ?_
    rintro e w3 ⟨rfl, hb3⟩
    rw [HB.out]
    go_wp2_with fail
    refine (rwrap_any k _ _).mono ?_
    rintro e w4 ⟨rfl, hb4⟩
    go_wp2
    go_ret2
    exact RetDo.mk H.out.1 (H.out.2.trans (by simp [doR, HE.out])) (bt (bt (bt hb1 hb2) hb3) hb4)
set_option maxRecDepth 100000 in
set_option maxHeartbeats 1000000 in
theorem rdo_19 (k a b : Int) (hm : mayK 19 (kN k) = true) (ha : isK (kN k) a = true) (hb : isK (kN k) b = true) (w : World) : Calls Try.prog 15 #[.int .i64 19, .int .i64 k, .int .i64 a, .int .i64 b] w (RetDo 19 (kN k) a b w) := by
  have hf : doE 19 (kN k) a b = 0 := by simp [doE, hm, ha, hb]
  have hv : doV 19 (kN k) a b = doR 19 (kN k) a b := by simp [doV, hf]
  have hia := isK_in ha
  have hib := isK_in hb
  have HM := Lib.hid hm
  have HA := Lib.hid ha
  have HB := Lib.hid hb
  have H := Lib.hid (And.intro hf hv)
  clear hf hv hm
  clear ha hb hia hib
  go_enter Try.func15, Try.ntmps15
  go_wp2_with fail
  refine (rmay_any _ k _).mono ?_
  rintro e w1 ⟨rfl, hb1⟩
  rw [HM.out]
  go_wp2_with fail
  refine (ris_any k _ _).mono ?_
  rintro e w2 ⟨rfl, hb2⟩
  rw [HA.out]
  go_wp2_with fail
  refine (ris_any k _ _).mono ?_
  rintro e w3 ⟨rfl, hb3⟩
  rw [HB.out]
  go_wp2_with fail
  refine (ryes_any _ _).mono ?_
  rintro e w4 ⟨rfl, rfl⟩
  go_wp2
  go_ret2
  exact RetDo.mk H.out.1 (H.out.2.trans (by simp [doR, yesV, yB])) (bt (bt hb1 hb2) hb3)
set_option maxRecDepth 100000 in
set_option maxHeartbeats 1000000 in
theorem rdo_20 (k a b : Int) (hm : mayK 20 (kN k) = true) (ha : isK (kN k) a = true) (hb : isK (kN k) b = true) (w : World) : Calls Try.prog 15 #[.int .i64 20, .int .i64 k, .int .i64 a, .int .i64 b] w (RetDo 20 (kN k) a b w) := by
  have hf : doE 20 (kN k) a b = 0 := by simp [doE, hm, ha, hb]
  have hv : doV 20 (kN k) a b = doR 20 (kN k) a b := by simp [doV, hf]
  have hia := isK_in ha
  have hib := isK_in hb
  have HM := Lib.hid hm
  have HA := Lib.hid ha
  have HB := Lib.hid hb
  have H := Lib.hid (And.intro hf hv)
  clear hf hv hm
  clear ha hb hia hib
  go_enter Try.func15, Try.ntmps15
  go_wp2_with fail
  refine (rmay_any _ k _).mono ?_
  rintro e w1 ⟨rfl, hb1⟩
  rw [HM.out]
  go_wp2_with fail
  refine (ris_any k _ _).mono ?_
  rintro e w2 ⟨rfl, hb2⟩
  rw [HA.out]
  go_wp2_with fail
  refine (ris_any k _ _).mono ?_
  rintro e w3 ⟨rfl, hb3⟩
  rw [HB.out]
  go_wp2_with fail
  refine (ryes_any _ _).mono ?_
  rintro e w4 ⟨rfl, rfl⟩
  go_wp2
  go_ret2
  exact RetDo.mk H.out.1 (H.out.2.trans (by simp [doR, yesV, yB])) (bt (bt hb1 hb2) hb3)
set_option maxRecDepth 100000 in
set_option maxHeartbeats 1000000 in
theorem rdo_21 (k a b : Int) (hm : mayK 21 (kN k) = true) (ha : isK (kN k) a = true) (hb : isK (kN k) b = true) (w : World) : Calls Try.prog 15 #[.int .i64 21, .int .i64 k, .int .i64 a, .int .i64 b] w (RetDo 21 (kN k) a b w) := by
  have hf : doE 21 (kN k) a b = 0 := by simp [doE, hm, ha, hb]
  have hv : doV 21 (kN k) a b = doR 21 (kN k) a b := by simp [doV, hf]
  have hia := isK_in ha
  have hib := isK_in hb
  have HM := Lib.hid hm
  have HA := Lib.hid ha
  have HB := Lib.hid hb
  have H := Lib.hid (And.intro hf hv)
  clear hf hv hm
  clear ha hb hia hib
  go_enter Try.func15, Try.ntmps15
  go_wp2_with fail
  refine (rmay_any _ k _).mono ?_
  rintro e w1 ⟨rfl, hb1⟩
  rw [HM.out]
  go_wp2_with fail
  refine (ris_any k _ _).mono ?_
  rintro e w2 ⟨rfl, hb2⟩
  rw [HA.out]
  go_wp2_with fail
  refine (ris_any k _ _).mono ?_
  rintro e w3 ⟨rfl, hb3⟩
  rw [HB.out]
  go_wp2_with fail
  refine (ryes_any _ _).mono ?_
  rintro e w4 ⟨rfl, rfl⟩
  go_wp2
  go_ret2
  exact RetDo.mk H.out.1 (H.out.2.trans (by simp [doR, yesV, yB])) (bt (bt hb1 hb2) hb3)
set_option maxRecDepth 100000 in
set_option maxHeartbeats 1000000 in
theorem rdo_22 (k a b : Int) (hm : mayK 22 (kN k) = true) (ha : isK (kN k) a = true) (hb : isK (kN k) b = true) (w : World) : Calls Try.prog 15 #[.int .i64 22, .int .i64 k, .int .i64 a, .int .i64 b] w (RetDo 22 (kN k) a b w) := by
  have hf : doE 22 (kN k) a b = 0 := by simp [doE, hm, ha, hb]
  have hv : doV 22 (kN k) a b = doR 22 (kN k) a b := by simp [doV, hf]
  have hia := isK_in ha
  have hib := isK_in hb
  have HM := Lib.hid hm
  have HA := Lib.hid ha
  have HB := Lib.hid hb
  have H := Lib.hid (And.intro hf hv)
  clear hf hv hm
  clear ha hb hia hib
  go_enter Try.func15, Try.ntmps15
  go_wp2_with fail
  refine (rmay_any _ k _).mono ?_
  rintro e w1 ⟨rfl, hb1⟩
  rw [HM.out]
  go_wp2_with fail
  refine (ris_any k _ _).mono ?_
  rintro e w2 ⟨rfl, hb2⟩
  rw [HA.out]
  go_wp2_with fail
  refine (ris_any k _ _).mono ?_
  rintro e w3 ⟨rfl, hb3⟩
  rw [HB.out]
  go_wp2_with fail
  refine (ryes_any _ _).mono ?_
  rintro e w4 ⟨rfl, rfl⟩
  go_wp2
  go_ret2
  exact RetDo.mk H.out.1 (H.out.2.trans (by simp [doR, yesV, yB])) (bt (bt hb1 hb2) hb3)
set_option maxRecDepth 100000 in
set_option maxHeartbeats 1000000 in
theorem rdo_23 (k a b : Int) (hm : mayK 23 (kN k) = true) (ha : isK (kN k) a = true) (hb : isK (kN k) b = true) (w : World) : Calls Try.prog 15 #[.int .i64 23, .int .i64 k, .int .i64 a, .int .i64 b] w (RetDo 23 (kN k) a b w) := by
  have hf : doE 23 (kN k) a b = 0 := by simp [doE, hm, ha, hb]
  have hv : doV 23 (kN k) a b = doR 23 (kN k) a b := by simp [doV, hf]
  have hia := isK_in ha
  have hib := isK_in hb
  have HM := Lib.hid hm
  have HA := Lib.hid ha
  have HB := Lib.hid hb
  have H := Lib.hid (And.intro hf hv)
  clear hf hv hm
  clear ha hb hia hib
  go_enter Try.func15, Try.ntmps15
  go_wp2_with fail
  refine (rmay_any _ k _).mono ?_
  rintro e w1 ⟨rfl, hb1⟩
  rw [HM.out]
  go_wp2_with fail
  refine (ris_any k _ _).mono ?_
  rintro e w2 ⟨rfl, hb2⟩
  rw [HA.out]
  go_wp2_with fail
  refine (ris_any k _ _).mono ?_
  rintro e w3 ⟨rfl, hb3⟩
  rw [HB.out]
  go_wp2_with fail
  refine (ryes_any _ _).mono ?_
  rintro e w4 ⟨rfl, rfl⟩
  go_wp2
  go_ret2
  exact RetDo.mk H.out.1 (H.out.2.trans (by simp [doR, yesV, yB])) (bt (bt hb1 hb2) hb3)
set_option maxRecDepth 100000 in
set_option maxHeartbeats 1000000 in
theorem rdo_24 (k a b : Int) (hm : mayK 24 (kN k) = true) (ha : isK (kN k) a = true) (hb : isK (kN k) b = true) (w : World) : Calls Try.prog 15 #[.int .i64 24, .int .i64 k, .int .i64 a, .int .i64 b] w (RetDo 24 (kN k) a b w) := by
  have hf : doE 24 (kN k) a b = 0 := by simp [doE, hm, ha, hb]
  have hv : doV 24 (kN k) a b = doR 24 (kN k) a b := by simp [doV, hf]
  have hia := isK_in ha
  have hib := isK_in hb
  have HM := Lib.hid hm
  have HA := Lib.hid ha
  have HB := Lib.hid hb
  have H := Lib.hid (And.intro hf hv)
  clear hf hv hm
  clear ha hb hia hib
  go_enter Try.func15, Try.ntmps15
  go_wp2_with fail
  refine (rmay_any _ k _).mono ?_
  rintro e w1 ⟨rfl, hb1⟩
  rw [HM.out]
  go_wp2_with fail
  refine (ris_any k _ _).mono ?_
  rintro e w2 ⟨rfl, hb2⟩
  rw [HA.out]
  go_wp2_with fail
  refine (ris_any k _ _).mono ?_
  rintro e w3 ⟨rfl, hb3⟩
  rw [HB.out]
  go_wp2_with fail
  refine (ryes_any _ _).mono ?_
  rintro e w4 ⟨rfl, rfl⟩
  go_wp2
  go_ret2
  exact RetDo.mk H.out.1 (H.out.2.trans (by simp [doR, yesV, yB])) (bt (bt hb1 hb2) hb3)
theorem rdo_any (op k a b : Int) (w : World) : Calls Try.prog 15 #[.int .i64 op, .int .i64 k, .int .i64 a, .int .i64 b] w (RetDo op (kN k) a b w) := by
  by_cases h13 : op = 13
  · subst h13; exact rdo_13 k a b w
  cases hm : mayK op (kN k) with
  | false => exact rdo_not op k a b hm w
  | true =>
    by_cases hi : isK (kN k) a = false ∨ isK (kN k) b = false
    · exact rdo_arg op k a b h13 hm hi w
    · have ha : isK (kN k) a = true := by cases h : isK (kN k) a with | true => rfl | false => exact absurd (.inl h) hi
      have hb : isK (kN k) b = true := by cases h : isK (kN k) b with | true => rfl | false => exact absurd (.inr h) hi
      rcases may_op hm h13 with rfl | rfl | rfl | rfl | rfl | rfl | rfl | rfl | rfl | rfl | rfl | rfl | rfl | rfl | rfl | rfl | rfl
      · exact rdo_7 k a b hm ha hb w
      · exact rdo_8 k a b hm ha hb w
      · exact rdo_9 k a b hm ha hb w
      · exact rdo_10 k a b hm ha hb w
      · exact rdo_11 k a b hm ha hb w
      · exact rdo_12 k a b hm ha hb w
      · exact rdo_14 k a b hm ha hb w
      · exact rdo_15 k a b hm ha hb w
      · exact rdo_16 k a b hm ha hb w
      · exact rdo_17 k a b hm ha hb w
      · exact rdo_18 k a b hm ha hb w
      · exact rdo_19 k a b hm ha hb w
      · exact rdo_20 k a b hm ha hb w
      · exact rdo_21 k a b hm ha hb w
      · exact rdo_22 k a b hm ha hb w
      · exact rdo_23 k a b hm ha hb w
      · exact rdo_24 k a b hm ha hb w
end Go.Proofs.Ytclbmgnpgjhlhaa
