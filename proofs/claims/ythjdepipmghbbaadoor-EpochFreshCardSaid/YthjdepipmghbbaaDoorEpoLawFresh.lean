/- Epochs: the law of what is fresh, walked. -/
import Derived.Test.YthjdepipmghbbaaDoorEpoArgs
import Derived.Test.YthjdepipmghbbaaDoorShaped
import Derived.Test.YthjdepipmghbbaaDoorgBase
import Derived.BigQuiet
namespace Go.Proofs.YthjdepipmghbbaaDoor
open Go.RowKit
theorem below_outF {w w1 w2 : World} (h : Below w.heap.size w w1) (k : Below w1.heap.size w1 w2) : Below w.heap.size w w2 := h.trans (k.mono h.size)
theorem num_next (c a i b j : Int) (ha : In8 a) (hi : In16 i) (hb : In8 b) (hj : In16 j) : PEpq.numN c a i < PEpq.numN (c + 1) b j := by unfold PEpq.numN; omega
theorem sgn_lt {x y : Int} (h : x < y) : PEpq.sgn x y = -1 := if_pos h
theorem sgn_gt {x y : Int} (h : y < x) : PEpq.sgn x y = 1 := by unfold PEpq.sgn; rw [if_neg (by omega), if_pos h]
set_option maxRecDepth 100000 in
set_option maxHeartbeats 4000000 in
theorem epochFresh_walk {H : Type} {enc : TypeId × Value → H} (v : Value) (d : DataW H) (p : List MemPlace) {w : World}
    (h : DataW.Trod enc Tryd.prog w 0 (fun _ => true) true 24 v d p) (o : Value.okWide Tryd.prog w .any 0 24 v) (_ : ∀ x ∈ d.weights Tryd.prog 24, x ≤ 140737488351232)
    (v' : Value) (d' : DataW H) (p' : List MemPlace)
    (h' : DataW.Trod enc Tryd.prog w 0 (fun _ => true) true 24 v' d' p') (o' : Value.okWide Tryd.prog w .any 0 24 v') (_ : ∀ x ∈ d'.weights Tryd.prog 24, x ≤ 140737488351232)
    (u : Value) (e' : DataW H) (q : List MemPlace)
    (hu : DataW.Trod enc Tryd.prog w 0 (fun _ => true) true 25 u e' q) (ou : Value.okWide Tryd.prog w .any 0 25 u) (_ : ∀ x ∈ e'.weights Tryd.prog 25, x ≤ 140737488351232) (_ : World) (hL : LaidW w) :
    Calls Tryd.prog 3 #[v, v', u] w fun e w' => e = .returned (.bool true) ∧ Below w.heap.size w w' := by
  obtain ⟨c, a, i, rfl, hc, ha, hi⟩ := epoch_arg h o
  obtain ⟨lc, la, li, rfl, hlc, hla, hli⟩ := epoch_arg h' o'
  obtain ⟨xc, xa, xi, yc, ya, yi, rfl, ⟨hxc, hxa, hxi⟩, hyc, hya, hyi⟩ := two_arg hu ou
  clear h o h' o' hu ou
  have HC := Lib.hid (And.intro hc (And.intro ha hi))
  have HLC := Lib.hid (And.intro hlc (And.intro hla hli))
  have HX := Lib.hid (And.intro hxa hxi)
  have HY := Lib.hid (And.intro hya hyi)
  clear hc ha hi hlc hla hli hxc hxa hxi hyc hya hyi
  obtain ⟨W, hW⟩ : ∃ W, W = ((w.alloc (.cells #[.int .u16 c, .int .u8 a, .int .u16 i] 24)).alloc (.cells #[.int .u16 lc, .int .u8 la, .int .u16 li] 24)).alloc (.cells #[.int .u16 xc, .int .u8 xa, .int .u16 xi, .int .u16 yc, .int .u8 ya, .int .u16 yi] 25) := ⟨_, rfl⟩
  have ob1 : ObjAt W w.heap.size #[.int .u16 c, .int .u8 a, .int .u16 i] 24 := by rw [hW]; exact ((ObjAt.new w _ _).alloc _).alloc _
  have ob2 : ObjAt W (w.heap.size + 1) #[.int .u16 lc, .int .u8 la, .int .u16 li] 24 := by
    rw [hW]
    have := ObjAt.new (w.alloc (.cells #[.int .u16 c, .int .u8 a, .int .u16 i] 24)) #[.int .u16 lc, .int .u8 la, .int .u16 li] 24
    rw [World.size_alloc] at this
    exact this.alloc _
  have ob3 : ObjAt W (w.heap.size + 1 + 1) #[.int .u16 xc, .int .u8 xa, .int .u16 xi, .int .u16 yc, .int .u8 ya, .int .u16 yi] 25 := by
    rw [hW]
    have := ObjAt.new ((w.alloc (.cells #[.int .u16 c, .int .u8 a, .int .u16 i] 24)).alloc (.cells #[.int .u16 lc, .int .u8 la, .int .u16 li] 24)) #[.int .u16 xc, .int .u8 xa, .int .u16 xi, .int .u16 yc, .int .u8 ya, .int .u16 yi] 25
    rw [World.size_alloc, World.size_alloc] at this
    exact this
  have bl : Below w.heap.size w W := by rw [hW]; exact (((Below.refl _ w).alloc (Nat.le_refl _) _).alloc (by simp) _).alloc (by simp; omega) _
  have HO1 := Lib.hid ob1
  have HO2 := Lib.hid ob2
  have HO3 := Lib.hid ob3
  have HB := Lib.hid bl
  have HG := Lib.hid (laidW_below hL bl (Nat.le_refl _))
  have HW := Lib.hid hW
  clear ob1 ob2 ob3 bl hL hW
  go_enter Tryd.func3, Tryd.ntmps3
  go_wp2_with fail
  rw [← HW.out]
  refine (PEpq.fuglemanlaw03_awake.calls (0 + 10) true _ (PEpq.awake_eq 0) HG.out).mono ?_
  rintro e w1 ⟨rfl, hb1⟩
  have HP1 := Lib.hid (below_obj hb1 HO1.out)
  have HP2 := Lib.hid (below_obj hb1 HO2.out)
  have HP3 := Lib.hid (below_obj hb1 HO3.out)
  have HB1 := Lib.hid (below_outF HB.out hb1)
  clear hb1 HO1 HO2 HO3 HB HG HW
  have c0 : w1.cell? ⟨w.heap.size, 0, none⟩ = some (.int .u16 c) := HP1.out.cell 0
  have c1 : w1.cell? ⟨w.heap.size, 1, none⟩ = some (.int .u8 a) := HP1.out.cell 1
  have c2 : w1.cell? ⟨w.heap.size, 2, none⟩ = some (.int .u16 i) := HP1.out.cell 2
  have x0 : w1.cell? ⟨w.heap.size + 1 + 1, 0, none⟩ = some (.int .u16 xc) := HP3.out.cell 0
  have x1 : w1.cell? ⟨w.heap.size + 1 + 1, 1, none⟩ = some (.int .u8 xa) := HP3.out.cell 1
  have x2 : w1.cell? ⟨w.heap.size + 1 + 1, 2, none⟩ = some (.int .u16 xi) := HP3.out.cell 2
  have x3 : w1.cell? ⟨w.heap.size + 1 + 1, 3, none⟩ = some (.int .u16 yc) := HP3.out.cell 3
  have x4 : w1.cell? ⟨w.heap.size + 1 + 1, 4, none⟩ = some (.int .u8 ya) := HP3.out.cell 4
  have x5 : w1.cell? ⟨w.heap.size + 1 + 1, 5, none⟩ = some (.int .u16 yi) := HP3.out.cell 5
  have hmn : (if (65535 : Int) < 65535 then (65535 : Int) else 65535) = 65535 := by decide
  by_cases hc9 : c = 65535
  · subst hc9
    have hm : PEpq.epoch_Mint.f 65535 a i xa xi 65535 = some (0, 0, 0, false) := by
      unfold PEpq.epoch_Mint.f YthjdepipmghbbaaDoorW.PrintWords.mn
      rw [PEpq.w64n 65535 (by decide) (by decide), hmn, if_pos (by decide)]
    have HM := Lib.hid hm
    clear hm hmn
    go_wp2_with fail
    refine (PEpq.epoch_Mint.calls 65535 a i xa xi 65535 0 0 0 false _ HM.out).mono ?_
    rintro e w2 ⟨rfl, hb2⟩
    have HP4 := Lib.hid ((below_obj hb2 HP1.out).alloc (.cells #[.int .u16 0, .int .u8 0, .int .u16 0] 24))
    have HB4 := Lib.hid ((below_outF HB1.out hb2).alloc (below_outF HB1.out hb2).size (.cells #[.int .u16 0, .int .u8 0, .int .u16 0] 24))
    have c0 : (w2.alloc (.cells #[.int .u16 0, .int .u8 0, .int .u16 0] 24)).cell? ⟨w.heap.size, 0, none⟩ = some (.int .u16 65535) := HP4.out.cell 0
    go_wp2
    go_ret
    exact ⟨rfl, HB4.out⟩
  · have hc2 : c + 1 ≤ 65535 ∧ 0 ≤ c := by have := HC.out.1; omega
    have hw : IntKind.u16.wrap (c + 1) = c + 1 := by simp [IntKind.wrap, IntKind.bits, IntKind.signed]; omega
    have hm : ∀ x y, PEpq.epoch_Mint.f c a i x y 65535 = some (c + 1, x, y, true) := by
      intro x y
      unfold PEpq.epoch_Mint.f YthjdepipmghbbaaDoorW.PrintWords.mn
      rw [PEpq.w64n c (by omega) (by omega), hmn, if_neg (by omega), hw]
    have HM := Lib.hid hm
    have hcn : In16 (c + 1) := by constructor <;> omega
    have hgt : PEpq.epoch_Compare.f (0 + 4) (c + 1) xa xi c a i = some 1 := by
      rw [PEpq.compare_eq 0 (c + 1) xa xi c a i hcn HX.out.1 HX.out.2 HC.out.1 HC.out.2.1 HC.out.2.2, sgn_gt (num_next c a i xa xi HC.out.2.1 HC.out.2.2 HX.out.1 HX.out.2)]
    have hlt : PEpq.epoch_Compare.f (0 + 4) c a i (c + 1) xa xi = some (-1) := by
      rw [PEpq.compare_eq 0 c a i (c + 1) xa xi HC.out.1 HC.out.2.1 HC.out.2.2 hcn HX.out.1 HX.out.2, sgn_lt (num_next c a i xa xi HC.out.2.1 HC.out.2.2 HX.out.1 HX.out.2)]
    have HGT := Lib.hid hgt
    have HLT := Lib.hid hlt
    have hle := PEpq.compare_eq 0 lc la li c a i HLC.out.1 HLC.out.2.1 HLC.out.2.2 HC.out.1 HC.out.2.1 HC.out.2.2
    have HLE := Lib.hid hle
    have HCN := Lib.hid hcn
    clear hm hmn hw hgt hlt hle hcn hc9 hc2
    go_wp2_with fail
    refine (PEpq.epoch_Mint.calls c a i xa xi 65535 (c + 1) xa xi true _ (HM.out xa xi)).mono ?_
    rintro e w2 ⟨rfl, hb2⟩
    have HP4 := Lib.hid ((below_obj hb2 HP1.out).alloc (.cells #[.int .u16 (c + 1), .int .u8 xa, .int .u16 xi] 24))
    have HP5 := Lib.hid ((below_obj hb2 HP2.out).alloc (.cells #[.int .u16 (c + 1), .int .u8 xa, .int .u16 xi] 24))
    have HP6 := Lib.hid ((below_obj hb2 HP3.out).alloc (.cells #[.int .u16 (c + 1), .int .u8 xa, .int .u16 xi] 24))
    have HB4 := Lib.hid ((below_outF HB1.out hb2).alloc (below_outF HB1.out hb2).size (.cells #[.int .u16 (c + 1), .int .u8 xa, .int .u16 xi] 24))
    have HA4 := Lib.hid (ObjAt.new w2 #[.int .u16 (c + 1), .int .u8 xa, .int .u16 xi] 24)
    clear hb2 HP1 HP2 HP3 HB1 c0 c1 c2 x0 x1 x2 x3 x4 x5
    have c0 : (w2.alloc (.cells #[.int .u16 (c + 1), .int .u8 xa, .int .u16 xi] 24)).cell? ⟨w.heap.size, 0, none⟩ = some (.int .u16 c) := HP4.out.cell 0
    have c1 : (w2.alloc (.cells #[.int .u16 (c + 1), .int .u8 xa, .int .u16 xi] 24)).cell? ⟨w.heap.size, 1, none⟩ = some (.int .u8 a) := HP4.out.cell 1
    have c2 : (w2.alloc (.cells #[.int .u16 (c + 1), .int .u8 xa, .int .u16 xi] 24)).cell? ⟨w.heap.size, 2, none⟩ = some (.int .u16 i) := HP4.out.cell 2
    have x0 : (w2.alloc (.cells #[.int .u16 (c + 1), .int .u8 xa, .int .u16 xi] 24)).cell? ⟨w.heap.size + 1 + 1, 0, none⟩ = some (.int .u16 xc) := HP6.out.cell 0
    have x1 : (w2.alloc (.cells #[.int .u16 (c + 1), .int .u8 xa, .int .u16 xi] 24)).cell? ⟨w.heap.size + 1 + 1, 1, none⟩ = some (.int .u8 xa) := HP6.out.cell 1
    have x2 : (w2.alloc (.cells #[.int .u16 (c + 1), .int .u8 xa, .int .u16 xi] 24)).cell? ⟨w.heap.size + 1 + 1, 2, none⟩ = some (.int .u16 xi) := HP6.out.cell 2
    have x3 : (w2.alloc (.cells #[.int .u16 (c + 1), .int .u8 xa, .int .u16 xi] 24)).cell? ⟨w.heap.size + 1 + 1, 3, none⟩ = some (.int .u16 yc) := HP6.out.cell 3
    have x4 : (w2.alloc (.cells #[.int .u16 (c + 1), .int .u8 xa, .int .u16 xi] 24)).cell? ⟨w.heap.size + 1 + 1, 4, none⟩ = some (.int .u8 ya) := HP6.out.cell 4
    have x5 : (w2.alloc (.cells #[.int .u16 (c + 1), .int .u8 xa, .int .u16 xi] 24)).cell? ⟨w.heap.size + 1 + 1, 5, none⟩ = some (.int .u16 yi) := HP6.out.cell 5
    go_wp2_with fail
    refine (PEpq.epoch_Mint.calls c a i ya yi 65535 (c + 1) ya yi true _ (HM.out ya yi)).mono ?_
    rintro e w3 ⟨rfl, hb3⟩
    have HP7 := Lib.hid ((below_obj hb3 HP4.out).alloc (.cells #[.int .u16 (c + 1), .int .u8 ya, .int .u16 yi] 24))
    have HP8 := Lib.hid ((below_obj hb3 HP5.out).alloc (.cells #[.int .u16 (c + 1), .int .u8 ya, .int .u16 yi] 24))
    have HP9 := Lib.hid ((below_obj hb3 HP6.out).alloc (.cells #[.int .u16 (c + 1), .int .u8 ya, .int .u16 yi] 24))
    have HA7 := Lib.hid ((below_obj hb3 HA4.out).alloc (.cells #[.int .u16 (c + 1), .int .u8 ya, .int .u16 yi] 24))
    have HB7 := Lib.hid ((below_outF HB4.out hb3).alloc (below_outF HB4.out hb3).size (.cells #[.int .u16 (c + 1), .int .u8 ya, .int .u16 yi] 24))
    have HE7 := Lib.hid (ObjAt.new w3 #[.int .u16 (c + 1), .int .u8 ya, .int .u16 yi] 24)
    clear hb3 HP4 HP5 HP6 HA4 HB4 c0 c1 c2 x0 x1 x2 x3 x4 x5
    have c0 : (w3.alloc (.cells #[.int .u16 (c + 1), .int .u8 ya, .int .u16 yi] 24)).cell? ⟨w.heap.size, 0, none⟩ = some (.int .u16 c) := HP7.out.cell 0
    have c1 : (w3.alloc (.cells #[.int .u16 (c + 1), .int .u8 ya, .int .u16 yi] 24)).cell? ⟨w.heap.size, 1, none⟩ = some (.int .u8 a) := HP7.out.cell 1
    have c2 : (w3.alloc (.cells #[.int .u16 (c + 1), .int .u8 ya, .int .u16 yi] 24)).cell? ⟨w.heap.size, 2, none⟩ = some (.int .u16 i) := HP7.out.cell 2
    have l0 : (w3.alloc (.cells #[.int .u16 (c + 1), .int .u8 ya, .int .u16 yi] 24)).cell? ⟨w.heap.size + 1, 0, none⟩ = some (.int .u16 lc) := HP8.out.cell 0
    have l1 : (w3.alloc (.cells #[.int .u16 (c + 1), .int .u8 ya, .int .u16 yi] 24)).cell? ⟨w.heap.size + 1, 1, none⟩ = some (.int .u8 la) := HP8.out.cell 1
    have l2 : (w3.alloc (.cells #[.int .u16 (c + 1), .int .u8 ya, .int .u16 yi] 24)).cell? ⟨w.heap.size + 1, 2, none⟩ = some (.int .u16 li) := HP8.out.cell 2
    have x0 : (w3.alloc (.cells #[.int .u16 (c + 1), .int .u8 ya, .int .u16 yi] 24)).cell? ⟨w.heap.size + 1 + 1, 0, none⟩ = some (.int .u16 xc) := HP9.out.cell 0
    have x1 : (w3.alloc (.cells #[.int .u16 (c + 1), .int .u8 ya, .int .u16 yi] 24)).cell? ⟨w.heap.size + 1 + 1, 1, none⟩ = some (.int .u8 xa) := HP9.out.cell 1
    have x2 : (w3.alloc (.cells #[.int .u16 (c + 1), .int .u8 ya, .int .u16 yi] 24)).cell? ⟨w.heap.size + 1 + 1, 2, none⟩ = some (.int .u16 xi) := HP9.out.cell 2
    have x3 : (w3.alloc (.cells #[.int .u16 (c + 1), .int .u8 ya, .int .u16 yi] 24)).cell? ⟨w.heap.size + 1 + 1, 3, none⟩ = some (.int .u16 yc) := HP9.out.cell 3
    have x4 : (w3.alloc (.cells #[.int .u16 (c + 1), .int .u8 ya, .int .u16 yi] 24)).cell? ⟨w.heap.size + 1 + 1, 4, none⟩ = some (.int .u8 ya) := HP9.out.cell 4
    have x5 : (w3.alloc (.cells #[.int .u16 (c + 1), .int .u8 ya, .int .u16 yi] 24)).cell? ⟨w.heap.size + 1 + 1, 5, none⟩ = some (.int .u16 yi) := HP9.out.cell 5
    have m0 : (w3.alloc (.cells #[.int .u16 (c + 1), .int .u8 ya, .int .u16 yi] 24)).cell? ⟨w2.heap.size, 0, none⟩ = some (.int .u16 (c + 1)) := HA7.out.cell 0
    have m1 : (w3.alloc (.cells #[.int .u16 (c + 1), .int .u8 ya, .int .u16 yi] 24)).cell? ⟨w2.heap.size, 1, none⟩ = some (.int .u8 xa) := HA7.out.cell 1
    have m2 : (w3.alloc (.cells #[.int .u16 (c + 1), .int .u8 ya, .int .u16 yi] 24)).cell? ⟨w2.heap.size, 2, none⟩ = some (.int .u16 xi) := HA7.out.cell 2
    have n0 : (w3.alloc (.cells #[.int .u16 (c + 1), .int .u8 ya, .int .u16 yi] 24)).cell? ⟨w3.heap.size, 0, none⟩ = some (.int .u16 (c + 1)) := HE7.out.cell 0
    have n1 : (w3.alloc (.cells #[.int .u16 (c + 1), .int .u8 ya, .int .u16 yi] 24)).cell? ⟨w3.heap.size, 1, none⟩ = some (.int .u8 ya) := HE7.out.cell 1
    have n2 : (w3.alloc (.cells #[.int .u16 (c + 1), .int .u8 ya, .int .u16 yi] 24)).cell? ⟨w3.heap.size, 2, none⟩ = some (.int .u16 yi) := HE7.out.cell 2
    by_cases hxa : xa = ya
    · subst hxa
      by_cases hxi : xi = yi
      · subst hxi
        by_cases hl : PEpq.numN lc la li < PEpq.numN c a i
        · have hs := sgn_lt hl
          have hgl : PEpq.epoch_Compare.f (0 + 4) (c + 1) xa xi lc la li = some 1 := by
            rw [PEpq.compare_eq 0 (c + 1) xa xi lc la li HCN.out HX.out.1 HX.out.2 HLC.out.1 HLC.out.2.1 HLC.out.2.2, sgn_gt (Int.lt_trans hl (num_next c a i xa xi HC.out.2.1 HC.out.2.2 HX.out.1 HX.out.2))]
          have HGL := Lib.hid hgl
          have hle := HLE.out
          rw [hs] at hle
          have HLE2 := Lib.hid hle
          clear hs hgl hle hl
          go_wp2_with fail
          refine (PEpq.epoch_Compare.calls (0 + 4) lc la li c a i (-1) _ HLE2.out).mono ?_
          rintro e w4 ⟨rfl, hb4⟩
          have HP4 := Lib.hid (below_obj hb4 HP7.out)
          have HL4 := Lib.hid (below_obj hb4 HP8.out)
          have HA4 := Lib.hid (below_obj hb4 HA7.out)
          have HE4 := Lib.hid (below_obj hb4 HE7.out)
          have HB4 := Lib.hid (below_outF HB7.out hb4)
          clear hb4
          clear c0 c1 c2 l0 l1 l2 m0 m1 m2 n0 n1 n2
          have c0 : w4.cell? ⟨w.heap.size, 0, none⟩ = some (.int .u16 c) := HP4.out.cell 0
          have c1 : w4.cell? ⟨w.heap.size, 1, none⟩ = some (.int .u8 a) := HP4.out.cell 1
          have c2 : w4.cell? ⟨w.heap.size, 2, none⟩ = some (.int .u16 i) := HP4.out.cell 2
          have l0 : w4.cell? ⟨w.heap.size + 1, 0, none⟩ = some (.int .u16 lc) := HL4.out.cell 0
          have l1 : w4.cell? ⟨w.heap.size + 1, 1, none⟩ = some (.int .u8 la) := HL4.out.cell 1
          have l2 : w4.cell? ⟨w.heap.size + 1, 2, none⟩ = some (.int .u16 li) := HL4.out.cell 2
          have m0 : w4.cell? ⟨w2.heap.size, 0, none⟩ = some (.int .u16 (c + 1)) := HA4.out.cell 0
          have m1 : w4.cell? ⟨w2.heap.size, 1, none⟩ = some (.int .u8 xa) := HA4.out.cell 1
          have m2 : w4.cell? ⟨w2.heap.size, 2, none⟩ = some (.int .u16 xi) := HA4.out.cell 2
          have n0 : w4.cell? ⟨w3.heap.size, 0, none⟩ = some (.int .u16 (c + 1)) := HE4.out.cell 0
          have n1 : w4.cell? ⟨w3.heap.size, 1, none⟩ = some (.int .u8 xa) := HE4.out.cell 1
          have n2 : w4.cell? ⟨w3.heap.size, 2, none⟩ = some (.int .u16 xi) := HE4.out.cell 2
          go_wp2_with fail
          refine (PEpq.epoch_Compare.calls (0 + 4) (c + 1) xa xi lc la li 1 _ HGL.out).mono ?_
          rintro e w5 ⟨rfl, hb5⟩
          have HP5 := Lib.hid (below_obj hb5 HP4.out)
          have HL5 := Lib.hid (below_obj hb5 HL4.out)
          have HA5 := Lib.hid (below_obj hb5 HA4.out)
          have HE5 := Lib.hid (below_obj hb5 HE4.out)
          have HB5 := Lib.hid (below_outF HB4.out hb5)
          clear hb5
          clear c0 c1 c2 l0 l1 l2 m0 m1 m2 n0 n1 n2
          have c0 : w5.cell? ⟨w.heap.size, 0, none⟩ = some (.int .u16 c) := HP5.out.cell 0
          have c1 : w5.cell? ⟨w.heap.size, 1, none⟩ = some (.int .u8 a) := HP5.out.cell 1
          have c2 : w5.cell? ⟨w.heap.size, 2, none⟩ = some (.int .u16 i) := HP5.out.cell 2
          have l0 : w5.cell? ⟨w.heap.size + 1, 0, none⟩ = some (.int .u16 lc) := HL5.out.cell 0
          have l1 : w5.cell? ⟨w.heap.size + 1, 1, none⟩ = some (.int .u8 la) := HL5.out.cell 1
          have l2 : w5.cell? ⟨w.heap.size + 1, 2, none⟩ = some (.int .u16 li) := HL5.out.cell 2
          have m0 : w5.cell? ⟨w2.heap.size, 0, none⟩ = some (.int .u16 (c + 1)) := HA5.out.cell 0
          have m1 : w5.cell? ⟨w2.heap.size, 1, none⟩ = some (.int .u8 xa) := HA5.out.cell 1
          have m2 : w5.cell? ⟨w2.heap.size, 2, none⟩ = some (.int .u16 xi) := HA5.out.cell 2
          have n0 : w5.cell? ⟨w3.heap.size, 0, none⟩ = some (.int .u16 (c + 1)) := HE5.out.cell 0
          have n1 : w5.cell? ⟨w3.heap.size, 1, none⟩ = some (.int .u8 xa) := HE5.out.cell 1
          have n2 : w5.cell? ⟨w3.heap.size, 2, none⟩ = some (.int .u16 xi) := HE5.out.cell 2
          go_wp2_with fail
          refine (PEpq.epoch_Compare.calls (0 + 4) (c + 1) xa xi c a i 1 _ HGT.out).mono ?_
          rintro e w6 ⟨rfl, hb6⟩
          have HP6 := Lib.hid (below_obj hb6 HP5.out)
          have HL6 := Lib.hid (below_obj hb6 HL5.out)
          have HA6 := Lib.hid (below_obj hb6 HA5.out)
          have HE6 := Lib.hid (below_obj hb6 HE5.out)
          have HB6 := Lib.hid (below_outF HB5.out hb6)
          clear hb6
          clear c0 c1 c2 l0 l1 l2 m0 m1 m2 n0 n1 n2
          have c0 : w6.cell? ⟨w.heap.size, 0, none⟩ = some (.int .u16 c) := HP6.out.cell 0
          have c1 : w6.cell? ⟨w.heap.size, 1, none⟩ = some (.int .u8 a) := HP6.out.cell 1
          have c2 : w6.cell? ⟨w.heap.size, 2, none⟩ = some (.int .u16 i) := HP6.out.cell 2
          have l0 : w6.cell? ⟨w.heap.size + 1, 0, none⟩ = some (.int .u16 lc) := HL6.out.cell 0
          have l1 : w6.cell? ⟨w.heap.size + 1, 1, none⟩ = some (.int .u8 la) := HL6.out.cell 1
          have l2 : w6.cell? ⟨w.heap.size + 1, 2, none⟩ = some (.int .u16 li) := HL6.out.cell 2
          have m0 : w6.cell? ⟨w2.heap.size, 0, none⟩ = some (.int .u16 (c + 1)) := HA6.out.cell 0
          have m1 : w6.cell? ⟨w2.heap.size, 1, none⟩ = some (.int .u8 xa) := HA6.out.cell 1
          have m2 : w6.cell? ⟨w2.heap.size, 2, none⟩ = some (.int .u16 xi) := HA6.out.cell 2
          have n0 : w6.cell? ⟨w3.heap.size, 0, none⟩ = some (.int .u16 (c + 1)) := HE6.out.cell 0
          have n1 : w6.cell? ⟨w3.heap.size, 1, none⟩ = some (.int .u8 xa) := HE6.out.cell 1
          have n2 : w6.cell? ⟨w3.heap.size, 2, none⟩ = some (.int .u16 xi) := HE6.out.cell 2
          go_wp2_with fail
          refine (PEpq.epoch_Compare.calls (0 + 4) c a i (c + 1) xa xi (-1) _ HLT.out).mono ?_
          rintro e w7 ⟨rfl, hb7⟩
          have HP7 := Lib.hid (below_obj hb7 HP6.out)
          have HL7 := Lib.hid (below_obj hb7 HL6.out)
          have HA7 := Lib.hid (below_obj hb7 HA6.out)
          have HE7 := Lib.hid (below_obj hb7 HE6.out)
          have HB7 := Lib.hid (below_outF HB6.out hb7)
          clear hb7
          clear c0 c1 c2 l0 l1 l2 m0 m1 m2 n0 n1 n2
          have c0 : w7.cell? ⟨w.heap.size, 0, none⟩ = some (.int .u16 c) := HP7.out.cell 0
          have c1 : w7.cell? ⟨w.heap.size, 1, none⟩ = some (.int .u8 a) := HP7.out.cell 1
          have c2 : w7.cell? ⟨w.heap.size, 2, none⟩ = some (.int .u16 i) := HP7.out.cell 2
          have l0 : w7.cell? ⟨w.heap.size + 1, 0, none⟩ = some (.int .u16 lc) := HL7.out.cell 0
          have l1 : w7.cell? ⟨w.heap.size + 1, 1, none⟩ = some (.int .u8 la) := HL7.out.cell 1
          have l2 : w7.cell? ⟨w.heap.size + 1, 2, none⟩ = some (.int .u16 li) := HL7.out.cell 2
          have m0 : w7.cell? ⟨w2.heap.size, 0, none⟩ = some (.int .u16 (c + 1)) := HA7.out.cell 0
          have m1 : w7.cell? ⟨w2.heap.size, 1, none⟩ = some (.int .u8 xa) := HA7.out.cell 1
          have m2 : w7.cell? ⟨w2.heap.size, 2, none⟩ = some (.int .u16 xi) := HA7.out.cell 2
          have n0 : w7.cell? ⟨w3.heap.size, 0, none⟩ = some (.int .u16 (c + 1)) := HE7.out.cell 0
          have n1 : w7.cell? ⟨w3.heap.size, 1, none⟩ = some (.int .u8 xa) := HE7.out.cell 1
          have n2 : w7.cell? ⟨w3.heap.size, 2, none⟩ = some (.int .u16 xi) := HE7.out.cell 2
          go_wp2
          go_ret
          exact ⟨by simp, HB7.out⟩
        · obtain ⟨z, hz, hz2⟩ : ∃ z, PEpq.epoch_Compare.f (0 + 4) lc la li c a i = some z ∧ decide (z < 0) = false := by
            refine ⟨_, HLE.out, ?_⟩
            unfold PEpq.sgn
            rw [if_neg hl]
            split <;> decide
          have HZ := Lib.hid hz
          clear hz hl
          go_wp2_with fail
          refine (PEpq.epoch_Compare.calls (0 + 4) lc la li c a i z _ HZ.out).mono ?_
          rintro e w4 ⟨rfl, hb4⟩
          have HP4 := Lib.hid (below_obj hb4 HP7.out)
          have HL4 := Lib.hid (below_obj hb4 HP8.out)
          have HA4 := Lib.hid (below_obj hb4 HA7.out)
          have HE4 := Lib.hid (below_obj hb4 HE7.out)
          have HB4 := Lib.hid (below_outF HB7.out hb4)
          clear hb4
          clear c0 c1 c2 l0 l1 l2 m0 m1 m2 n0 n1 n2
          have c0 : w4.cell? ⟨w.heap.size, 0, none⟩ = some (.int .u16 c) := HP4.out.cell 0
          have c1 : w4.cell? ⟨w.heap.size, 1, none⟩ = some (.int .u8 a) := HP4.out.cell 1
          have c2 : w4.cell? ⟨w.heap.size, 2, none⟩ = some (.int .u16 i) := HP4.out.cell 2
          have l0 : w4.cell? ⟨w.heap.size + 1, 0, none⟩ = some (.int .u16 lc) := HL4.out.cell 0
          have l1 : w4.cell? ⟨w.heap.size + 1, 1, none⟩ = some (.int .u8 la) := HL4.out.cell 1
          have l2 : w4.cell? ⟨w.heap.size + 1, 2, none⟩ = some (.int .u16 li) := HL4.out.cell 2
          have m0 : w4.cell? ⟨w2.heap.size, 0, none⟩ = some (.int .u16 (c + 1)) := HA4.out.cell 0
          have m1 : w4.cell? ⟨w2.heap.size, 1, none⟩ = some (.int .u8 xa) := HA4.out.cell 1
          have m2 : w4.cell? ⟨w2.heap.size, 2, none⟩ = some (.int .u16 xi) := HA4.out.cell 2
          have n0 : w4.cell? ⟨w3.heap.size, 0, none⟩ = some (.int .u16 (c + 1)) := HE4.out.cell 0
          have n1 : w4.cell? ⟨w3.heap.size, 1, none⟩ = some (.int .u8 xa) := HE4.out.cell 1
          have n2 : w4.cell? ⟨w3.heap.size, 2, none⟩ = some (.int .u16 xi) := HE4.out.cell 2
          go_wp2_with fail
          refine (PEpq.epoch_Compare.calls (0 + 4) (c + 1) xa xi c a i 1 _ HGT.out).mono ?_
          rintro e w6 ⟨rfl, hb6⟩
          have HP6 := Lib.hid (below_obj hb6 HP4.out)
          have HL6 := Lib.hid (below_obj hb6 HL4.out)
          have HA6 := Lib.hid (below_obj hb6 HA4.out)
          have HE6 := Lib.hid (below_obj hb6 HE4.out)
          have HB6 := Lib.hid (below_outF HB4.out hb6)
          clear hb6
          clear c0 c1 c2 l0 l1 l2 m0 m1 m2 n0 n1 n2
          have c0 : w6.cell? ⟨w.heap.size, 0, none⟩ = some (.int .u16 c) := HP6.out.cell 0
          have c1 : w6.cell? ⟨w.heap.size, 1, none⟩ = some (.int .u8 a) := HP6.out.cell 1
          have c2 : w6.cell? ⟨w.heap.size, 2, none⟩ = some (.int .u16 i) := HP6.out.cell 2
          have l0 : w6.cell? ⟨w.heap.size + 1, 0, none⟩ = some (.int .u16 lc) := HL6.out.cell 0
          have l1 : w6.cell? ⟨w.heap.size + 1, 1, none⟩ = some (.int .u8 la) := HL6.out.cell 1
          have l2 : w6.cell? ⟨w.heap.size + 1, 2, none⟩ = some (.int .u16 li) := HL6.out.cell 2
          have m0 : w6.cell? ⟨w2.heap.size, 0, none⟩ = some (.int .u16 (c + 1)) := HA6.out.cell 0
          have m1 : w6.cell? ⟨w2.heap.size, 1, none⟩ = some (.int .u8 xa) := HA6.out.cell 1
          have m2 : w6.cell? ⟨w2.heap.size, 2, none⟩ = some (.int .u16 xi) := HA6.out.cell 2
          have n0 : w6.cell? ⟨w3.heap.size, 0, none⟩ = some (.int .u16 (c + 1)) := HE6.out.cell 0
          have n1 : w6.cell? ⟨w3.heap.size, 1, none⟩ = some (.int .u8 xa) := HE6.out.cell 1
          have n2 : w6.cell? ⟨w3.heap.size, 2, none⟩ = some (.int .u16 xi) := HE6.out.cell 2
          go_wp2_with fail
          refine (PEpq.epoch_Compare.calls (0 + 4) c a i (c + 1) xa xi (-1) _ HLT.out).mono ?_
          rintro e w7 ⟨rfl, hb7⟩
          have HP7 := Lib.hid (below_obj hb7 HP6.out)
          have HL7 := Lib.hid (below_obj hb7 HL6.out)
          have HA7 := Lib.hid (below_obj hb7 HA6.out)
          have HE7 := Lib.hid (below_obj hb7 HE6.out)
          have HB7 := Lib.hid (below_outF HB6.out hb7)
          clear hb7
          clear c0 c1 c2 l0 l1 l2 m0 m1 m2 n0 n1 n2
          have c0 : w7.cell? ⟨w.heap.size, 0, none⟩ = some (.int .u16 c) := HP7.out.cell 0
          have c1 : w7.cell? ⟨w.heap.size, 1, none⟩ = some (.int .u8 a) := HP7.out.cell 1
          have c2 : w7.cell? ⟨w.heap.size, 2, none⟩ = some (.int .u16 i) := HP7.out.cell 2
          have l0 : w7.cell? ⟨w.heap.size + 1, 0, none⟩ = some (.int .u16 lc) := HL7.out.cell 0
          have l1 : w7.cell? ⟨w.heap.size + 1, 1, none⟩ = some (.int .u8 la) := HL7.out.cell 1
          have l2 : w7.cell? ⟨w.heap.size + 1, 2, none⟩ = some (.int .u16 li) := HL7.out.cell 2
          have m0 : w7.cell? ⟨w2.heap.size, 0, none⟩ = some (.int .u16 (c + 1)) := HA7.out.cell 0
          have m1 : w7.cell? ⟨w2.heap.size, 1, none⟩ = some (.int .u8 xa) := HA7.out.cell 1
          have m2 : w7.cell? ⟨w2.heap.size, 2, none⟩ = some (.int .u16 xi) := HA7.out.cell 2
          have n0 : w7.cell? ⟨w3.heap.size, 0, none⟩ = some (.int .u16 (c + 1)) := HE7.out.cell 0
          have n1 : w7.cell? ⟨w3.heap.size, 1, none⟩ = some (.int .u8 xa) := HE7.out.cell 1
          have n2 : w7.cell? ⟨w3.heap.size, 2, none⟩ = some (.int .u16 xi) := HE7.out.cell 2
          go_wp2
          go_ret
          exact ⟨by simp, HB7.out⟩
      · have hne : (xi == yi) = false := by simpa using hxi
        by_cases hl : PEpq.numN lc la li < PEpq.numN c a i
        · have hs := sgn_lt hl
          have hgl : PEpq.epoch_Compare.f (0 + 4) (c + 1) xa xi lc la li = some 1 := by
            rw [PEpq.compare_eq 0 (c + 1) xa xi lc la li HCN.out HX.out.1 HX.out.2 HLC.out.1 HLC.out.2.1 HLC.out.2.2, sgn_gt (Int.lt_trans hl (num_next c a i xa xi HC.out.2.1 HC.out.2.2 HX.out.1 HX.out.2))]
          have HGL := Lib.hid hgl
          have hle := HLE.out
          rw [hs] at hle
          have HLE2 := Lib.hid hle
          clear hs hgl hle hl
          go_wp2_with fail
          refine (PEpq.epoch_Compare.calls (0 + 4) lc la li c a i (-1) _ HLE2.out).mono ?_
          rintro e w4 ⟨rfl, hb4⟩
          have HP4 := Lib.hid (below_obj hb4 HP7.out)
          have HL4 := Lib.hid (below_obj hb4 HP8.out)
          have HA4 := Lib.hid (below_obj hb4 HA7.out)
          have HE4 := Lib.hid (below_obj hb4 HE7.out)
          have HB4 := Lib.hid (below_outF HB7.out hb4)
          clear hb4
          clear c0 c1 c2 l0 l1 l2 m0 m1 m2 n0 n1 n2
          have c0 : w4.cell? ⟨w.heap.size, 0, none⟩ = some (.int .u16 c) := HP4.out.cell 0
          have c1 : w4.cell? ⟨w.heap.size, 1, none⟩ = some (.int .u8 a) := HP4.out.cell 1
          have c2 : w4.cell? ⟨w.heap.size, 2, none⟩ = some (.int .u16 i) := HP4.out.cell 2
          have l0 : w4.cell? ⟨w.heap.size + 1, 0, none⟩ = some (.int .u16 lc) := HL4.out.cell 0
          have l1 : w4.cell? ⟨w.heap.size + 1, 1, none⟩ = some (.int .u8 la) := HL4.out.cell 1
          have l2 : w4.cell? ⟨w.heap.size + 1, 2, none⟩ = some (.int .u16 li) := HL4.out.cell 2
          have m0 : w4.cell? ⟨w2.heap.size, 0, none⟩ = some (.int .u16 (c + 1)) := HA4.out.cell 0
          have m1 : w4.cell? ⟨w2.heap.size, 1, none⟩ = some (.int .u8 xa) := HA4.out.cell 1
          have m2 : w4.cell? ⟨w2.heap.size, 2, none⟩ = some (.int .u16 xi) := HA4.out.cell 2
          have n0 : w4.cell? ⟨w3.heap.size, 0, none⟩ = some (.int .u16 (c + 1)) := HE4.out.cell 0
          have n1 : w4.cell? ⟨w3.heap.size, 1, none⟩ = some (.int .u8 xa) := HE4.out.cell 1
          have n2 : w4.cell? ⟨w3.heap.size, 2, none⟩ = some (.int .u16 yi) := HE4.out.cell 2
          go_wp2_with fail
          refine (PEpq.epoch_Compare.calls (0 + 4) (c + 1) xa xi lc la li 1 _ HGL.out).mono ?_
          rintro e w5 ⟨rfl, hb5⟩
          have HP5 := Lib.hid (below_obj hb5 HP4.out)
          have HL5 := Lib.hid (below_obj hb5 HL4.out)
          have HA5 := Lib.hid (below_obj hb5 HA4.out)
          have HE5 := Lib.hid (below_obj hb5 HE4.out)
          have HB5 := Lib.hid (below_outF HB4.out hb5)
          clear hb5
          clear c0 c1 c2 l0 l1 l2 m0 m1 m2 n0 n1 n2
          have c0 : w5.cell? ⟨w.heap.size, 0, none⟩ = some (.int .u16 c) := HP5.out.cell 0
          have c1 : w5.cell? ⟨w.heap.size, 1, none⟩ = some (.int .u8 a) := HP5.out.cell 1
          have c2 : w5.cell? ⟨w.heap.size, 2, none⟩ = some (.int .u16 i) := HP5.out.cell 2
          have l0 : w5.cell? ⟨w.heap.size + 1, 0, none⟩ = some (.int .u16 lc) := HL5.out.cell 0
          have l1 : w5.cell? ⟨w.heap.size + 1, 1, none⟩ = some (.int .u8 la) := HL5.out.cell 1
          have l2 : w5.cell? ⟨w.heap.size + 1, 2, none⟩ = some (.int .u16 li) := HL5.out.cell 2
          have m0 : w5.cell? ⟨w2.heap.size, 0, none⟩ = some (.int .u16 (c + 1)) := HA5.out.cell 0
          have m1 : w5.cell? ⟨w2.heap.size, 1, none⟩ = some (.int .u8 xa) := HA5.out.cell 1
          have m2 : w5.cell? ⟨w2.heap.size, 2, none⟩ = some (.int .u16 xi) := HA5.out.cell 2
          have n0 : w5.cell? ⟨w3.heap.size, 0, none⟩ = some (.int .u16 (c + 1)) := HE5.out.cell 0
          have n1 : w5.cell? ⟨w3.heap.size, 1, none⟩ = some (.int .u8 xa) := HE5.out.cell 1
          have n2 : w5.cell? ⟨w3.heap.size, 2, none⟩ = some (.int .u16 yi) := HE5.out.cell 2
          go_wp2_with fail
          refine (PEpq.epoch_Compare.calls (0 + 4) (c + 1) xa xi c a i 1 _ HGT.out).mono ?_
          rintro e w6 ⟨rfl, hb6⟩
          have HP6 := Lib.hid (below_obj hb6 HP5.out)
          have HL6 := Lib.hid (below_obj hb6 HL5.out)
          have HA6 := Lib.hid (below_obj hb6 HA5.out)
          have HE6 := Lib.hid (below_obj hb6 HE5.out)
          have HB6 := Lib.hid (below_outF HB5.out hb6)
          clear hb6
          clear c0 c1 c2 l0 l1 l2 m0 m1 m2 n0 n1 n2
          have c0 : w6.cell? ⟨w.heap.size, 0, none⟩ = some (.int .u16 c) := HP6.out.cell 0
          have c1 : w6.cell? ⟨w.heap.size, 1, none⟩ = some (.int .u8 a) := HP6.out.cell 1
          have c2 : w6.cell? ⟨w.heap.size, 2, none⟩ = some (.int .u16 i) := HP6.out.cell 2
          have l0 : w6.cell? ⟨w.heap.size + 1, 0, none⟩ = some (.int .u16 lc) := HL6.out.cell 0
          have l1 : w6.cell? ⟨w.heap.size + 1, 1, none⟩ = some (.int .u8 la) := HL6.out.cell 1
          have l2 : w6.cell? ⟨w.heap.size + 1, 2, none⟩ = some (.int .u16 li) := HL6.out.cell 2
          have m0 : w6.cell? ⟨w2.heap.size, 0, none⟩ = some (.int .u16 (c + 1)) := HA6.out.cell 0
          have m1 : w6.cell? ⟨w2.heap.size, 1, none⟩ = some (.int .u8 xa) := HA6.out.cell 1
          have m2 : w6.cell? ⟨w2.heap.size, 2, none⟩ = some (.int .u16 xi) := HA6.out.cell 2
          have n0 : w6.cell? ⟨w3.heap.size, 0, none⟩ = some (.int .u16 (c + 1)) := HE6.out.cell 0
          have n1 : w6.cell? ⟨w3.heap.size, 1, none⟩ = some (.int .u8 xa) := HE6.out.cell 1
          have n2 : w6.cell? ⟨w3.heap.size, 2, none⟩ = some (.int .u16 yi) := HE6.out.cell 2
          go_wp2_with fail
          refine (PEpq.epoch_Compare.calls (0 + 4) c a i (c + 1) xa xi (-1) _ HLT.out).mono ?_
          rintro e w7 ⟨rfl, hb7⟩
          have HP7 := Lib.hid (below_obj hb7 HP6.out)
          have HL7 := Lib.hid (below_obj hb7 HL6.out)
          have HA7 := Lib.hid (below_obj hb7 HA6.out)
          have HE7 := Lib.hid (below_obj hb7 HE6.out)
          have HB7 := Lib.hid (below_outF HB6.out hb7)
          clear hb7
          clear c0 c1 c2 l0 l1 l2 m0 m1 m2 n0 n1 n2
          have c0 : w7.cell? ⟨w.heap.size, 0, none⟩ = some (.int .u16 c) := HP7.out.cell 0
          have c1 : w7.cell? ⟨w.heap.size, 1, none⟩ = some (.int .u8 a) := HP7.out.cell 1
          have c2 : w7.cell? ⟨w.heap.size, 2, none⟩ = some (.int .u16 i) := HP7.out.cell 2
          have l0 : w7.cell? ⟨w.heap.size + 1, 0, none⟩ = some (.int .u16 lc) := HL7.out.cell 0
          have l1 : w7.cell? ⟨w.heap.size + 1, 1, none⟩ = some (.int .u8 la) := HL7.out.cell 1
          have l2 : w7.cell? ⟨w.heap.size + 1, 2, none⟩ = some (.int .u16 li) := HL7.out.cell 2
          have m0 : w7.cell? ⟨w2.heap.size, 0, none⟩ = some (.int .u16 (c + 1)) := HA7.out.cell 0
          have m1 : w7.cell? ⟨w2.heap.size, 1, none⟩ = some (.int .u8 xa) := HA7.out.cell 1
          have m2 : w7.cell? ⟨w2.heap.size, 2, none⟩ = some (.int .u16 xi) := HA7.out.cell 2
          have n0 : w7.cell? ⟨w3.heap.size, 0, none⟩ = some (.int .u16 (c + 1)) := HE7.out.cell 0
          have n1 : w7.cell? ⟨w3.heap.size, 1, none⟩ = some (.int .u8 xa) := HE7.out.cell 1
          have n2 : w7.cell? ⟨w3.heap.size, 2, none⟩ = some (.int .u16 yi) := HE7.out.cell 2
          go_wp2
          go_ret
          exact ⟨by simp [hxi], HB7.out⟩
        · obtain ⟨z, hz, hz2⟩ : ∃ z, PEpq.epoch_Compare.f (0 + 4) lc la li c a i = some z ∧ decide (z < 0) = false := by
            refine ⟨_, HLE.out, ?_⟩
            unfold PEpq.sgn
            rw [if_neg hl]
            split <;> decide
          have HZ := Lib.hid hz
          clear hz hl
          go_wp2_with fail
          refine (PEpq.epoch_Compare.calls (0 + 4) lc la li c a i z _ HZ.out).mono ?_
          rintro e w4 ⟨rfl, hb4⟩
          have HP4 := Lib.hid (below_obj hb4 HP7.out)
          have HL4 := Lib.hid (below_obj hb4 HP8.out)
          have HA4 := Lib.hid (below_obj hb4 HA7.out)
          have HE4 := Lib.hid (below_obj hb4 HE7.out)
          have HB4 := Lib.hid (below_outF HB7.out hb4)
          clear hb4
          clear c0 c1 c2 l0 l1 l2 m0 m1 m2 n0 n1 n2
          have c0 : w4.cell? ⟨w.heap.size, 0, none⟩ = some (.int .u16 c) := HP4.out.cell 0
          have c1 : w4.cell? ⟨w.heap.size, 1, none⟩ = some (.int .u8 a) := HP4.out.cell 1
          have c2 : w4.cell? ⟨w.heap.size, 2, none⟩ = some (.int .u16 i) := HP4.out.cell 2
          have l0 : w4.cell? ⟨w.heap.size + 1, 0, none⟩ = some (.int .u16 lc) := HL4.out.cell 0
          have l1 : w4.cell? ⟨w.heap.size + 1, 1, none⟩ = some (.int .u8 la) := HL4.out.cell 1
          have l2 : w4.cell? ⟨w.heap.size + 1, 2, none⟩ = some (.int .u16 li) := HL4.out.cell 2
          have m0 : w4.cell? ⟨w2.heap.size, 0, none⟩ = some (.int .u16 (c + 1)) := HA4.out.cell 0
          have m1 : w4.cell? ⟨w2.heap.size, 1, none⟩ = some (.int .u8 xa) := HA4.out.cell 1
          have m2 : w4.cell? ⟨w2.heap.size, 2, none⟩ = some (.int .u16 xi) := HA4.out.cell 2
          have n0 : w4.cell? ⟨w3.heap.size, 0, none⟩ = some (.int .u16 (c + 1)) := HE4.out.cell 0
          have n1 : w4.cell? ⟨w3.heap.size, 1, none⟩ = some (.int .u8 xa) := HE4.out.cell 1
          have n2 : w4.cell? ⟨w3.heap.size, 2, none⟩ = some (.int .u16 yi) := HE4.out.cell 2
          go_wp2_with fail
          refine (PEpq.epoch_Compare.calls (0 + 4) (c + 1) xa xi c a i 1 _ HGT.out).mono ?_
          rintro e w6 ⟨rfl, hb6⟩
          have HP6 := Lib.hid (below_obj hb6 HP4.out)
          have HL6 := Lib.hid (below_obj hb6 HL4.out)
          have HA6 := Lib.hid (below_obj hb6 HA4.out)
          have HE6 := Lib.hid (below_obj hb6 HE4.out)
          have HB6 := Lib.hid (below_outF HB4.out hb6)
          clear hb6
          clear c0 c1 c2 l0 l1 l2 m0 m1 m2 n0 n1 n2
          have c0 : w6.cell? ⟨w.heap.size, 0, none⟩ = some (.int .u16 c) := HP6.out.cell 0
          have c1 : w6.cell? ⟨w.heap.size, 1, none⟩ = some (.int .u8 a) := HP6.out.cell 1
          have c2 : w6.cell? ⟨w.heap.size, 2, none⟩ = some (.int .u16 i) := HP6.out.cell 2
          have l0 : w6.cell? ⟨w.heap.size + 1, 0, none⟩ = some (.int .u16 lc) := HL6.out.cell 0
          have l1 : w6.cell? ⟨w.heap.size + 1, 1, none⟩ = some (.int .u8 la) := HL6.out.cell 1
          have l2 : w6.cell? ⟨w.heap.size + 1, 2, none⟩ = some (.int .u16 li) := HL6.out.cell 2
          have m0 : w6.cell? ⟨w2.heap.size, 0, none⟩ = some (.int .u16 (c + 1)) := HA6.out.cell 0
          have m1 : w6.cell? ⟨w2.heap.size, 1, none⟩ = some (.int .u8 xa) := HA6.out.cell 1
          have m2 : w6.cell? ⟨w2.heap.size, 2, none⟩ = some (.int .u16 xi) := HA6.out.cell 2
          have n0 : w6.cell? ⟨w3.heap.size, 0, none⟩ = some (.int .u16 (c + 1)) := HE6.out.cell 0
          have n1 : w6.cell? ⟨w3.heap.size, 1, none⟩ = some (.int .u8 xa) := HE6.out.cell 1
          have n2 : w6.cell? ⟨w3.heap.size, 2, none⟩ = some (.int .u16 yi) := HE6.out.cell 2
          go_wp2_with fail
          refine (PEpq.epoch_Compare.calls (0 + 4) c a i (c + 1) xa xi (-1) _ HLT.out).mono ?_
          rintro e w7 ⟨rfl, hb7⟩
          have HP7 := Lib.hid (below_obj hb7 HP6.out)
          have HL7 := Lib.hid (below_obj hb7 HL6.out)
          have HA7 := Lib.hid (below_obj hb7 HA6.out)
          have HE7 := Lib.hid (below_obj hb7 HE6.out)
          have HB7 := Lib.hid (below_outF HB6.out hb7)
          clear hb7
          clear c0 c1 c2 l0 l1 l2 m0 m1 m2 n0 n1 n2
          have c0 : w7.cell? ⟨w.heap.size, 0, none⟩ = some (.int .u16 c) := HP7.out.cell 0
          have c1 : w7.cell? ⟨w.heap.size, 1, none⟩ = some (.int .u8 a) := HP7.out.cell 1
          have c2 : w7.cell? ⟨w.heap.size, 2, none⟩ = some (.int .u16 i) := HP7.out.cell 2
          have l0 : w7.cell? ⟨w.heap.size + 1, 0, none⟩ = some (.int .u16 lc) := HL7.out.cell 0
          have l1 : w7.cell? ⟨w.heap.size + 1, 1, none⟩ = some (.int .u8 la) := HL7.out.cell 1
          have l2 : w7.cell? ⟨w.heap.size + 1, 2, none⟩ = some (.int .u16 li) := HL7.out.cell 2
          have m0 : w7.cell? ⟨w2.heap.size, 0, none⟩ = some (.int .u16 (c + 1)) := HA7.out.cell 0
          have m1 : w7.cell? ⟨w2.heap.size, 1, none⟩ = some (.int .u8 xa) := HA7.out.cell 1
          have m2 : w7.cell? ⟨w2.heap.size, 2, none⟩ = some (.int .u16 xi) := HA7.out.cell 2
          have n0 : w7.cell? ⟨w3.heap.size, 0, none⟩ = some (.int .u16 (c + 1)) := HE7.out.cell 0
          have n1 : w7.cell? ⟨w3.heap.size, 1, none⟩ = some (.int .u8 xa) := HE7.out.cell 1
          have n2 : w7.cell? ⟨w3.heap.size, 2, none⟩ = some (.int .u16 yi) := HE7.out.cell 2
          go_wp2
          go_ret
          exact ⟨by simp [hxi], HB7.out⟩
    · have hne : (xa == ya) = false := by simpa using hxa
      by_cases hl : PEpq.numN lc la li < PEpq.numN c a i
      · have hs := sgn_lt hl
        have hgl : PEpq.epoch_Compare.f (0 + 4) (c + 1) xa xi lc la li = some 1 := by
          rw [PEpq.compare_eq 0 (c + 1) xa xi lc la li HCN.out HX.out.1 HX.out.2 HLC.out.1 HLC.out.2.1 HLC.out.2.2, sgn_gt (Int.lt_trans hl (num_next c a i xa xi HC.out.2.1 HC.out.2.2 HX.out.1 HX.out.2))]
        have HGL := Lib.hid hgl
        have hle := HLE.out
        rw [hs] at hle
        have HLE2 := Lib.hid hle
        clear hs hgl hle hl
        go_wp2_with fail
        refine (PEpq.epoch_Compare.calls (0 + 4) lc la li c a i (-1) _ HLE2.out).mono ?_
        rintro e w4 ⟨rfl, hb4⟩
        have HP4 := Lib.hid (below_obj hb4 HP7.out)
        have HL4 := Lib.hid (below_obj hb4 HP8.out)
        have HA4 := Lib.hid (below_obj hb4 HA7.out)
        have HE4 := Lib.hid (below_obj hb4 HE7.out)
        have HB4 := Lib.hid (below_outF HB7.out hb4)
        clear hb4
        clear c0 c1 c2 l0 l1 l2 m0 m1 m2 n0 n1 n2
        have c0 : w4.cell? ⟨w.heap.size, 0, none⟩ = some (.int .u16 c) := HP4.out.cell 0
        have c1 : w4.cell? ⟨w.heap.size, 1, none⟩ = some (.int .u8 a) := HP4.out.cell 1
        have c2 : w4.cell? ⟨w.heap.size, 2, none⟩ = some (.int .u16 i) := HP4.out.cell 2
        have l0 : w4.cell? ⟨w.heap.size + 1, 0, none⟩ = some (.int .u16 lc) := HL4.out.cell 0
        have l1 : w4.cell? ⟨w.heap.size + 1, 1, none⟩ = some (.int .u8 la) := HL4.out.cell 1
        have l2 : w4.cell? ⟨w.heap.size + 1, 2, none⟩ = some (.int .u16 li) := HL4.out.cell 2
        have m0 : w4.cell? ⟨w2.heap.size, 0, none⟩ = some (.int .u16 (c + 1)) := HA4.out.cell 0
        have m1 : w4.cell? ⟨w2.heap.size, 1, none⟩ = some (.int .u8 xa) := HA4.out.cell 1
        have m2 : w4.cell? ⟨w2.heap.size, 2, none⟩ = some (.int .u16 xi) := HA4.out.cell 2
        have n0 : w4.cell? ⟨w3.heap.size, 0, none⟩ = some (.int .u16 (c + 1)) := HE4.out.cell 0
        have n1 : w4.cell? ⟨w3.heap.size, 1, none⟩ = some (.int .u8 ya) := HE4.out.cell 1
        have n2 : w4.cell? ⟨w3.heap.size, 2, none⟩ = some (.int .u16 yi) := HE4.out.cell 2
        go_wp2_with fail
        refine (PEpq.epoch_Compare.calls (0 + 4) (c + 1) xa xi lc la li 1 _ HGL.out).mono ?_
        rintro e w5 ⟨rfl, hb5⟩
        have HP5 := Lib.hid (below_obj hb5 HP4.out)
        have HL5 := Lib.hid (below_obj hb5 HL4.out)
        have HA5 := Lib.hid (below_obj hb5 HA4.out)
        have HE5 := Lib.hid (below_obj hb5 HE4.out)
        have HB5 := Lib.hid (below_outF HB4.out hb5)
        clear hb5
        clear c0 c1 c2 l0 l1 l2 m0 m1 m2 n0 n1 n2
        have c0 : w5.cell? ⟨w.heap.size, 0, none⟩ = some (.int .u16 c) := HP5.out.cell 0
        have c1 : w5.cell? ⟨w.heap.size, 1, none⟩ = some (.int .u8 a) := HP5.out.cell 1
        have c2 : w5.cell? ⟨w.heap.size, 2, none⟩ = some (.int .u16 i) := HP5.out.cell 2
        have l0 : w5.cell? ⟨w.heap.size + 1, 0, none⟩ = some (.int .u16 lc) := HL5.out.cell 0
        have l1 : w5.cell? ⟨w.heap.size + 1, 1, none⟩ = some (.int .u8 la) := HL5.out.cell 1
        have l2 : w5.cell? ⟨w.heap.size + 1, 2, none⟩ = some (.int .u16 li) := HL5.out.cell 2
        have m0 : w5.cell? ⟨w2.heap.size, 0, none⟩ = some (.int .u16 (c + 1)) := HA5.out.cell 0
        have m1 : w5.cell? ⟨w2.heap.size, 1, none⟩ = some (.int .u8 xa) := HA5.out.cell 1
        have m2 : w5.cell? ⟨w2.heap.size, 2, none⟩ = some (.int .u16 xi) := HA5.out.cell 2
        have n0 : w5.cell? ⟨w3.heap.size, 0, none⟩ = some (.int .u16 (c + 1)) := HE5.out.cell 0
        have n1 : w5.cell? ⟨w3.heap.size, 1, none⟩ = some (.int .u8 ya) := HE5.out.cell 1
        have n2 : w5.cell? ⟨w3.heap.size, 2, none⟩ = some (.int .u16 yi) := HE5.out.cell 2
        go_wp2_with fail
        refine (PEpq.epoch_Compare.calls (0 + 4) (c + 1) xa xi c a i 1 _ HGT.out).mono ?_
        rintro e w6 ⟨rfl, hb6⟩
        have HP6 := Lib.hid (below_obj hb6 HP5.out)
        have HL6 := Lib.hid (below_obj hb6 HL5.out)
        have HA6 := Lib.hid (below_obj hb6 HA5.out)
        have HE6 := Lib.hid (below_obj hb6 HE5.out)
        have HB6 := Lib.hid (below_outF HB5.out hb6)
        clear hb6
        clear c0 c1 c2 l0 l1 l2 m0 m1 m2 n0 n1 n2
        have c0 : w6.cell? ⟨w.heap.size, 0, none⟩ = some (.int .u16 c) := HP6.out.cell 0
        have c1 : w6.cell? ⟨w.heap.size, 1, none⟩ = some (.int .u8 a) := HP6.out.cell 1
        have c2 : w6.cell? ⟨w.heap.size, 2, none⟩ = some (.int .u16 i) := HP6.out.cell 2
        have l0 : w6.cell? ⟨w.heap.size + 1, 0, none⟩ = some (.int .u16 lc) := HL6.out.cell 0
        have l1 : w6.cell? ⟨w.heap.size + 1, 1, none⟩ = some (.int .u8 la) := HL6.out.cell 1
        have l2 : w6.cell? ⟨w.heap.size + 1, 2, none⟩ = some (.int .u16 li) := HL6.out.cell 2
        have m0 : w6.cell? ⟨w2.heap.size, 0, none⟩ = some (.int .u16 (c + 1)) := HA6.out.cell 0
        have m1 : w6.cell? ⟨w2.heap.size, 1, none⟩ = some (.int .u8 xa) := HA6.out.cell 1
        have m2 : w6.cell? ⟨w2.heap.size, 2, none⟩ = some (.int .u16 xi) := HA6.out.cell 2
        have n0 : w6.cell? ⟨w3.heap.size, 0, none⟩ = some (.int .u16 (c + 1)) := HE6.out.cell 0
        have n1 : w6.cell? ⟨w3.heap.size, 1, none⟩ = some (.int .u8 ya) := HE6.out.cell 1
        have n2 : w6.cell? ⟨w3.heap.size, 2, none⟩ = some (.int .u16 yi) := HE6.out.cell 2
        go_wp2_with fail
        refine (PEpq.epoch_Compare.calls (0 + 4) c a i (c + 1) xa xi (-1) _ HLT.out).mono ?_
        rintro e w7 ⟨rfl, hb7⟩
        have HP7 := Lib.hid (below_obj hb7 HP6.out)
        have HL7 := Lib.hid (below_obj hb7 HL6.out)
        have HA7 := Lib.hid (below_obj hb7 HA6.out)
        have HE7 := Lib.hid (below_obj hb7 HE6.out)
        have HB7 := Lib.hid (below_outF HB6.out hb7)
        clear hb7
        clear c0 c1 c2 l0 l1 l2 m0 m1 m2 n0 n1 n2
        have c0 : w7.cell? ⟨w.heap.size, 0, none⟩ = some (.int .u16 c) := HP7.out.cell 0
        have c1 : w7.cell? ⟨w.heap.size, 1, none⟩ = some (.int .u8 a) := HP7.out.cell 1
        have c2 : w7.cell? ⟨w.heap.size, 2, none⟩ = some (.int .u16 i) := HP7.out.cell 2
        have l0 : w7.cell? ⟨w.heap.size + 1, 0, none⟩ = some (.int .u16 lc) := HL7.out.cell 0
        have l1 : w7.cell? ⟨w.heap.size + 1, 1, none⟩ = some (.int .u8 la) := HL7.out.cell 1
        have l2 : w7.cell? ⟨w.heap.size + 1, 2, none⟩ = some (.int .u16 li) := HL7.out.cell 2
        have m0 : w7.cell? ⟨w2.heap.size, 0, none⟩ = some (.int .u16 (c + 1)) := HA7.out.cell 0
        have m1 : w7.cell? ⟨w2.heap.size, 1, none⟩ = some (.int .u8 xa) := HA7.out.cell 1
        have m2 : w7.cell? ⟨w2.heap.size, 2, none⟩ = some (.int .u16 xi) := HA7.out.cell 2
        have n0 : w7.cell? ⟨w3.heap.size, 0, none⟩ = some (.int .u16 (c + 1)) := HE7.out.cell 0
        have n1 : w7.cell? ⟨w3.heap.size, 1, none⟩ = some (.int .u8 ya) := HE7.out.cell 1
        have n2 : w7.cell? ⟨w3.heap.size, 2, none⟩ = some (.int .u16 yi) := HE7.out.cell 2
        go_wp2
        go_ret
        exact ⟨by simp [hxa], HB7.out⟩
      · obtain ⟨z, hz, hz2⟩ : ∃ z, PEpq.epoch_Compare.f (0 + 4) lc la li c a i = some z ∧ decide (z < 0) = false := by
          refine ⟨_, HLE.out, ?_⟩
          unfold PEpq.sgn
          rw [if_neg hl]
          split <;> decide
        have HZ := Lib.hid hz
        clear hz hl
        go_wp2_with fail
        refine (PEpq.epoch_Compare.calls (0 + 4) lc la li c a i z _ HZ.out).mono ?_
        rintro e w4 ⟨rfl, hb4⟩
        have HP4 := Lib.hid (below_obj hb4 HP7.out)
        have HL4 := Lib.hid (below_obj hb4 HP8.out)
        have HA4 := Lib.hid (below_obj hb4 HA7.out)
        have HE4 := Lib.hid (below_obj hb4 HE7.out)
        have HB4 := Lib.hid (below_outF HB7.out hb4)
        clear hb4
        clear c0 c1 c2 l0 l1 l2 m0 m1 m2 n0 n1 n2
        have c0 : w4.cell? ⟨w.heap.size, 0, none⟩ = some (.int .u16 c) := HP4.out.cell 0
        have c1 : w4.cell? ⟨w.heap.size, 1, none⟩ = some (.int .u8 a) := HP4.out.cell 1
        have c2 : w4.cell? ⟨w.heap.size, 2, none⟩ = some (.int .u16 i) := HP4.out.cell 2
        have l0 : w4.cell? ⟨w.heap.size + 1, 0, none⟩ = some (.int .u16 lc) := HL4.out.cell 0
        have l1 : w4.cell? ⟨w.heap.size + 1, 1, none⟩ = some (.int .u8 la) := HL4.out.cell 1
        have l2 : w4.cell? ⟨w.heap.size + 1, 2, none⟩ = some (.int .u16 li) := HL4.out.cell 2
        have m0 : w4.cell? ⟨w2.heap.size, 0, none⟩ = some (.int .u16 (c + 1)) := HA4.out.cell 0
        have m1 : w4.cell? ⟨w2.heap.size, 1, none⟩ = some (.int .u8 xa) := HA4.out.cell 1
        have m2 : w4.cell? ⟨w2.heap.size, 2, none⟩ = some (.int .u16 xi) := HA4.out.cell 2
        have n0 : w4.cell? ⟨w3.heap.size, 0, none⟩ = some (.int .u16 (c + 1)) := HE4.out.cell 0
        have n1 : w4.cell? ⟨w3.heap.size, 1, none⟩ = some (.int .u8 ya) := HE4.out.cell 1
        have n2 : w4.cell? ⟨w3.heap.size, 2, none⟩ = some (.int .u16 yi) := HE4.out.cell 2
        go_wp2_with fail
        refine (PEpq.epoch_Compare.calls (0 + 4) (c + 1) xa xi c a i 1 _ HGT.out).mono ?_
        rintro e w6 ⟨rfl, hb6⟩
        have HP6 := Lib.hid (below_obj hb6 HP4.out)
        have HL6 := Lib.hid (below_obj hb6 HL4.out)
        have HA6 := Lib.hid (below_obj hb6 HA4.out)
        have HE6 := Lib.hid (below_obj hb6 HE4.out)
        have HB6 := Lib.hid (below_outF HB4.out hb6)
        clear hb6
        clear c0 c1 c2 l0 l1 l2 m0 m1 m2 n0 n1 n2
        have c0 : w6.cell? ⟨w.heap.size, 0, none⟩ = some (.int .u16 c) := HP6.out.cell 0
        have c1 : w6.cell? ⟨w.heap.size, 1, none⟩ = some (.int .u8 a) := HP6.out.cell 1
        have c2 : w6.cell? ⟨w.heap.size, 2, none⟩ = some (.int .u16 i) := HP6.out.cell 2
        have l0 : w6.cell? ⟨w.heap.size + 1, 0, none⟩ = some (.int .u16 lc) := HL6.out.cell 0
        have l1 : w6.cell? ⟨w.heap.size + 1, 1, none⟩ = some (.int .u8 la) := HL6.out.cell 1
        have l2 : w6.cell? ⟨w.heap.size + 1, 2, none⟩ = some (.int .u16 li) := HL6.out.cell 2
        have m0 : w6.cell? ⟨w2.heap.size, 0, none⟩ = some (.int .u16 (c + 1)) := HA6.out.cell 0
        have m1 : w6.cell? ⟨w2.heap.size, 1, none⟩ = some (.int .u8 xa) := HA6.out.cell 1
        have m2 : w6.cell? ⟨w2.heap.size, 2, none⟩ = some (.int .u16 xi) := HA6.out.cell 2
        have n0 : w6.cell? ⟨w3.heap.size, 0, none⟩ = some (.int .u16 (c + 1)) := HE6.out.cell 0
        have n1 : w6.cell? ⟨w3.heap.size, 1, none⟩ = some (.int .u8 ya) := HE6.out.cell 1
        have n2 : w6.cell? ⟨w3.heap.size, 2, none⟩ = some (.int .u16 yi) := HE6.out.cell 2
        go_wp2_with fail
        refine (PEpq.epoch_Compare.calls (0 + 4) c a i (c + 1) xa xi (-1) _ HLT.out).mono ?_
        rintro e w7 ⟨rfl, hb7⟩
        have HP7 := Lib.hid (below_obj hb7 HP6.out)
        have HL7 := Lib.hid (below_obj hb7 HL6.out)
        have HA7 := Lib.hid (below_obj hb7 HA6.out)
        have HE7 := Lib.hid (below_obj hb7 HE6.out)
        have HB7 := Lib.hid (below_outF HB6.out hb7)
        clear hb7
        clear c0 c1 c2 l0 l1 l2 m0 m1 m2 n0 n1 n2
        have c0 : w7.cell? ⟨w.heap.size, 0, none⟩ = some (.int .u16 c) := HP7.out.cell 0
        have c1 : w7.cell? ⟨w.heap.size, 1, none⟩ = some (.int .u8 a) := HP7.out.cell 1
        have c2 : w7.cell? ⟨w.heap.size, 2, none⟩ = some (.int .u16 i) := HP7.out.cell 2
        have l0 : w7.cell? ⟨w.heap.size + 1, 0, none⟩ = some (.int .u16 lc) := HL7.out.cell 0
        have l1 : w7.cell? ⟨w.heap.size + 1, 1, none⟩ = some (.int .u8 la) := HL7.out.cell 1
        have l2 : w7.cell? ⟨w.heap.size + 1, 2, none⟩ = some (.int .u16 li) := HL7.out.cell 2
        have m0 : w7.cell? ⟨w2.heap.size, 0, none⟩ = some (.int .u16 (c + 1)) := HA7.out.cell 0
        have m1 : w7.cell? ⟨w2.heap.size, 1, none⟩ = some (.int .u8 xa) := HA7.out.cell 1
        have m2 : w7.cell? ⟨w2.heap.size, 2, none⟩ = some (.int .u16 xi) := HA7.out.cell 2
        have n0 : w7.cell? ⟨w3.heap.size, 0, none⟩ = some (.int .u16 (c + 1)) := HE7.out.cell 0
        have n1 : w7.cell? ⟨w3.heap.size, 1, none⟩ = some (.int .u8 ya) := HE7.out.cell 1
        have n2 : w7.cell? ⟨w3.heap.size, 2, none⟩ = some (.int .u16 yi) := HE7.out.cell 2
        go_wp2
        go_ret
        exact ⟨by simp [hxa], HB7.out⟩
end Go.Proofs.YthjdepipmghbbaaDoor
