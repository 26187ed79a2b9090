/- Epochs: the law of what is minted, walked. -/
import Derived.Test.YthjdepipmghbbaaDoorEpoArgs
import Derived.Test.YthjdepipmghbbaaDoorShaped
import Derived.Test.YthjdepipmghbbaaDoorgBase
import Derived.BigQuiet
namespace Go.Proofs.YthjdepipmghbbaaDoor
open Go.RowKit
theorem mint_same (c a i ad inc lim : Int) (hc : In16 c) : ∃ r1 r2 r3 r4, PEpq.epoch_Mint.f c a i ad inc lim = some (r1, r2, r3, r4) ∧ PEpq.fuglemanref03_Mint.f c a i ad inc lim = some (r1, r2, r3, r4) := by
  unfold PEpq.epoch_Mint.f PEpq.fuglemanref03_Mint.f
  rw [PEpq.w64n c hc.1 hc.2]
  unfold YthjdepipmghbbaaDoorW.PrintWords.mn
  by_cases h1 : c ≥ lim
  · refine ⟨0, 0, 0, false, ?_, by rw [if_pos h1]⟩
    rw [if_pos]; split <;> omega
  · by_cases h2 : c = 65535
    · refine ⟨0, 0, 0, false, ?_, by rw [if_neg h1, if_pos h2]⟩
      rw [if_pos]; split <;> omega
    · refine ⟨_, _, _, _, ?_, by rw [if_neg h1, if_neg h2]⟩
      rw [if_neg]; split <;> omega
theorem below_out {w w1 w2 : World} (h : Below w.heap.size w w1) (k : Below w1.heap.size w1 w2) : Below w.heap.size w w2 := h.trans (k.mono h.size)
set_option maxRecDepth 100000 in
set_option maxHeartbeats 4000000 in
theorem epochMints_walk {H : Type} {enc : TypeId × Value → H} (v : Value) (d : DataW H) (p : List MemPlace) {w : World}
    (h : DataW.Trod enc Tryd.prog w 0 (fun _ => true) true 35 v d p) (o : Value.okWide Tryd.prog w .any 0 35 v) (_ : ∀ x ∈ d.weights Tryd.prog 35, x ≤ 140737488351232)
    (ad : Int) (_ : (Lit.int .u8 ad).wf = true)
    (v' : Value) (d' : DataW H) (p' : List MemPlace)
    (h' : DataW.Trod enc Tryd.prog w 0 (fun _ => true) true 36 v' d' p') (o' : Value.okWide Tryd.prog w .any 0 36 v') (_ : ∀ x ∈ d'.weights Tryd.prog 36, x ≤ 140737488351232) (_ : World) (hL : LaidW w) :
    Calls Tryd.prog 5 #[v, .int .u8 ad, v'] w fun e w' => e = .returned (.bool true) ∧ Below w.heap.size w w' := by
  obtain ⟨c, a, i, g, rfl, hc, ha, hi, hg⟩ := mark_arg h o
  obtain ⟨l, hl, rfl, -⟩ := arr_of (k := .i64) Tryd.underlying36 Tryd.underlying3 (by kernel_rfl) (by kernel_rfl) h' o'
  clear h o h' o'
  match l, hl with
  | [x, y], _ =>
  obtain ⟨inc, hinc⟩ : ∃ n, IntKind.u16.wrap x = n := ⟨_, rfl⟩
  obtain ⟨r1, r2, r3, r4, hm, hr⟩ := mint_same c a i ad inc y hc
  have HM := Lib.hid hm
  have HR := Lib.hid hr
  have HC := Lib.hid (And.intro hc (And.intro ha (And.intro hi hg)))
  clear hm hr hc ha hi
  have ob1 : ObjAt ((w.alloc (.cells #[.int .u16 c, .int .u8 a, .int .u16 i, .int .u16 g] 35)).alloc (.cells #[.int .i64 x, .int .i64 y] 36)) w.heap.size #[.int .u16 c, .int .u8 a, .int .u16 i, .int .u16 g] 35 := (ObjAt.new w _ _).alloc _
  have ob2 : ObjAt ((w.alloc (.cells #[.int .u16 c, .int .u8 a, .int .u16 i, .int .u16 g] 35)).alloc (.cells #[.int .i64 x, .int .i64 y] 36)) (w.heap.size + 1) #[.int .i64 x, .int .i64 y] 36 := by
    have := ObjAt.new (w.alloc (.cells #[.int .u16 c, .int .u8 a, .int .u16 i, .int .u16 g] 35)) #[.int .i64 x, .int .i64 y] 36
    rw [World.size_alloc] at this
    exact this
  have bl : Below w.heap.size w ((w.alloc (.cells #[.int .u16 c, .int .u8 a, .int .u16 i, .int .u16 g] 35)).alloc (.cells #[.int .i64 x, .int .i64 y] 36)) := ((Below.refl _ w).alloc (Nat.le_refl _) _).alloc (by simp) _
  have HO1 := Lib.hid ob1
  have HO2 := Lib.hid ob2
  have HB := Lib.hid bl
  have HG := Lib.hid (laidW_below hL bl (Nat.le_refl _))
  clear ob1 ob2 bl hL
  go_enter Tryd.func5, Tryd.ntmps5
  go_wp2_with fail
  refine (PEpq.fuglemanlaw03_awake.calls (0 + 10) true _ (PEpq.awake_eq 0) HG.out).mono ?_
  rintro e w1 ⟨rfl, hb1⟩
  have hO1 := below_obj hb1 HO1.out
  have hO2 := below_obj hb1 HO2.out
  have HB1 := Lib.hid (below_out HB.out hb1)
  have c0 : w1.cell? ⟨w.heap.size + 1, 0, none⟩ = some (.int .i64 x) := hO2.cell 0
  have c1 : w1.cell? ⟨w.heap.size + 1, 1, none⟩ = some (.int .i64 y) := hO2.cell 1
  have HO11 := Lib.hid hO1
  clear hb1 HB HG HO1 HO2 hO1 hO2
  go_wp2_with fail
  go_quiet (fail)
  have HO3 := Lib.hid (HO11.out.drewN nq)
  have HB3 := Lib.hid (YthjdepipmghbbaaDoorW.PrintWords.pw_below_drewN HB1.out nq)
  clear c0 c1 HO11 HB1
  generalize w1.drewN nq = w3 at *
  have d0 : w3.cell? ⟨w.heap.size, 0, none⟩ = some (.int .u16 c) := HO3.out.cell 0
  have d1 : w3.cell? ⟨w.heap.size, 1, none⟩ = some (.int .u8 a) := HO3.out.cell 1
  have d2 : w3.cell? ⟨w.heap.size, 2, none⟩ = some (.int .u16 i) := HO3.out.cell 2
  go_wp2_with fail
  refine (PEpq.epoch_Mint.calls c a i ad inc y r1 r2 r3 r4 _ HM.out).mono ?_
  rintro e w4 ⟨rfl, hb4⟩
  have HO4 := Lib.hid ((below_obj hb4 HO3.out).alloc (.cells #[.int .u16 r1, .int .u8 r2, .int .u16 r3] 24))
  have HB4 := Lib.hid ((below_out HB3.out hb4).alloc (below_out HB3.out hb4).size (.cells #[.int .u16 r1, .int .u8 r2, .int .u16 r3] 24))
  have HE4 := Lib.hid (ObjAt.new w4 #[.int .u16 r1, .int .u8 r2, .int .u16 r3] 24)
  clear hb4 d0 d1 d2 HO3 HB3
  have d0 : (w4.alloc (.cells #[.int .u16 r1, .int .u8 r2, .int .u16 r3] 24)).cell? ⟨w.heap.size, 0, none⟩ = some (.int .u16 c) := HO4.out.cell 0
  have d1 : (w4.alloc (.cells #[.int .u16 r1, .int .u8 r2, .int .u16 r3] 24)).cell? ⟨w.heap.size, 1, none⟩ = some (.int .u8 a) := HO4.out.cell 1
  have d2 : (w4.alloc (.cells #[.int .u16 r1, .int .u8 r2, .int .u16 r3] 24)).cell? ⟨w.heap.size, 2, none⟩ = some (.int .u16 i) := HO4.out.cell 2
  go_wp2_with fail
  refine (PEpq.fuglemanref03_Mint.calls c a i ad inc y r1 r2 r3 r4 _ HR.out).mono ?_
  rintro e w5 ⟨rfl, hb5⟩
  have HO5 := Lib.hid ((below_obj hb5 HO4.out).alloc (.cells #[.int .u16 r1, .int .u8 r2, .int .u16 r3] 24))
  have HE5 := Lib.hid ((below_obj hb5 HE4.out).alloc (.cells #[.int .u16 r1, .int .u8 r2, .int .u16 r3] 24))
  have HB5 := Lib.hid ((below_out HB4.out hb5).alloc (below_out HB4.out hb5).size (.cells #[.int .u16 r1, .int .u8 r2, .int .u16 r3] 24))
  have HF5 := Lib.hid (ObjAt.new w5 #[.int .u16 r1, .int .u8 r2, .int .u16 r3] 24)
  clear hb5 d0 d1 d2 HO4 HB4 HE4
  have d0 : (w5.alloc (.cells #[.int .u16 r1, .int .u8 r2, .int .u16 r3] 24)).cell? ⟨w.heap.size, 0, none⟩ = some (.int .u16 c) := HO5.out.cell 0
  have d1 : (w5.alloc (.cells #[.int .u16 r1, .int .u8 r2, .int .u16 r3] 24)).cell? ⟨w.heap.size, 1, none⟩ = some (.int .u8 a) := HO5.out.cell 1
  have d2 : (w5.alloc (.cells #[.int .u16 r1, .int .u8 r2, .int .u16 r3] 24)).cell? ⟨w.heap.size, 2, none⟩ = some (.int .u16 i) := HO5.out.cell 2
  have d3 : (w5.alloc (.cells #[.int .u16 r1, .int .u8 r2, .int .u16 r3] 24)).cell? ⟨w.heap.size, 3, none⟩ = some (.int .u16 g) := HO5.out.cell 3
  by_cases hg9 : g = 65535
  · subst hg9
    have HH := Lib.hid (show PEpq.epoch_Hop.f c a i 65535 = some (0, 0, 0, 0, false) from rfl)
    go_wp2_with fail
    refine (PEpq.epoch_Hop.calls c a i 65535 0 0 0 0 false _ HH.out).mono ?_
    rintro e w6 ⟨rfl, hb6⟩
    have HO6 := Lib.hid ((below_obj hb6 HO5.out).alloc (.cells #[.int .u16 0, .int .u8 0, .int .u16 0, .int .u16 0] 35))
    have HE6 := Lib.hid ((below_obj hb6 HE5.out).alloc (.cells #[.int .u16 0, .int .u8 0, .int .u16 0, .int .u16 0] 35))
    have HF6 := Lib.hid ((below_obj hb6 HF5.out).alloc (.cells #[.int .u16 0, .int .u8 0, .int .u16 0, .int .u16 0] 35))
    have HB6 := Lib.hid ((below_out HB5.out hb6).alloc (below_out HB5.out hb6).size (.cells #[.int .u16 0, .int .u8 0, .int .u16 0, .int .u16 0] 35))
    clear hb6 d0 d1 d2 d3 HO5 HE5 HB5 HF5
    have d0 : (w6.alloc (.cells #[.int .u16 0, .int .u8 0, .int .u16 0, .int .u16 0] 35)).cell? ⟨w.heap.size, 0, none⟩ = some (.int .u16 (c)) := HO6.out.cell 0
    have d1 : (w6.alloc (.cells #[.int .u16 0, .int .u8 0, .int .u16 0, .int .u16 0] 35)).cell? ⟨w.heap.size, 1, none⟩ = some (.int .u8 (a)) := HO6.out.cell 1
    have d2 : (w6.alloc (.cells #[.int .u16 0, .int .u8 0, .int .u16 0, .int .u16 0] 35)).cell? ⟨w.heap.size, 2, none⟩ = some (.int .u16 (i)) := HO6.out.cell 2
    have d3 : (w6.alloc (.cells #[.int .u16 0, .int .u8 0, .int .u16 0, .int .u16 0] 35)).cell? ⟨w.heap.size, 3, none⟩ = some (.int .u16 (65535)) := HO6.out.cell 3
    have x0 : (w6.alloc (.cells #[.int .u16 0, .int .u8 0, .int .u16 0, .int .u16 0] 35)).cell? ⟨w4.heap.size, 0, none⟩ = some (.int .u16 (r1)) := HE6.out.cell 0
    have x1 : (w6.alloc (.cells #[.int .u16 0, .int .u8 0, .int .u16 0, .int .u16 0] 35)).cell? ⟨w4.heap.size, 1, none⟩ = some (.int .u8 (r2)) := HE6.out.cell 1
    have x2 : (w6.alloc (.cells #[.int .u16 0, .int .u8 0, .int .u16 0, .int .u16 0] 35)).cell? ⟨w4.heap.size, 2, none⟩ = some (.int .u16 (r3)) := HE6.out.cell 2
    have f0 : (w6.alloc (.cells #[.int .u16 0, .int .u8 0, .int .u16 0, .int .u16 0] 35)).cell? ⟨w5.heap.size, 0, none⟩ = some (.int .u16 (r1)) := HF6.out.cell 0
    have f1 : (w6.alloc (.cells #[.int .u16 0, .int .u8 0, .int .u16 0, .int .u16 0] 35)).cell? ⟨w5.heap.size, 1, none⟩ = some (.int .u8 (r2)) := HF6.out.cell 1
    have f2 : (w6.alloc (.cells #[.int .u16 0, .int .u8 0, .int .u16 0, .int .u16 0] 35)).cell? ⟨w5.heap.size, 2, none⟩ = some (.int .u16 (r3)) := HF6.out.cell 2
    go_wp2
    go_ret
    exact ⟨rfl, HB6.out⟩
  · have hg2 : g + 1 ≤ 65535 := by have := HC.out.2.2.2; omega
    have hw : IntKind.u16.wrap (g + 1) = g + 1 := by have := HC.out.2.2.2; simp [IntKind.wrap, IntKind.bits, IntKind.signed]; omega
    have hh : PEpq.epoch_Hop.f c a i g = some (c, a, i, g + 1, true) := by unfold PEpq.epoch_Hop.f; rw [if_neg hg9, hw]
    have hn : PEpq.epoch_Newer.f (0 + 4) c a i (g + 1) c a i g = some true := by
      have hC := HC.out
      rw [PEpq.newer_eq 0 c a i (g + 1) c a i g hC.1 hC.2.1 hC.2.2.1 ⟨by have := hC.2.2.2; omega, hg2⟩ hC.1 hC.2.1 hC.2.2.1 hC.2.2.2]
      congr 1
      apply decide_eq_true
      unfold PEpq.markN
      omega
    have HH := Lib.hid hh
    have HN := Lib.hid hn
    have hg3 : (g == 65535) = false := by simpa using hg9
    have hg4 : (g + 1) % 65536 = g + 1 := by have := HC.out.2.2.2; omega
    clear hh hn hg9 hg2
    go_wp2_with fail
    refine (PEpq.epoch_Hop.calls c a i g c a i (g + 1) true _ HH.out).mono ?_
    rintro e w6 ⟨rfl, hb6⟩
    have HO6 := Lib.hid ((below_obj hb6 HO5.out).alloc (.cells #[.int .u16 c, .int .u8 a, .int .u16 i, .int .u16 (g + 1)] 35))
    have HE6 := Lib.hid ((below_obj hb6 HE5.out).alloc (.cells #[.int .u16 c, .int .u8 a, .int .u16 i, .int .u16 (g + 1)] 35))
    have HF6 := Lib.hid ((below_obj hb6 HF5.out).alloc (.cells #[.int .u16 c, .int .u8 a, .int .u16 i, .int .u16 (g + 1)] 35))
    have HB6 := Lib.hid ((below_out HB5.out hb6).alloc (below_out HB5.out hb6).size (.cells #[.int .u16 c, .int .u8 a, .int .u16 i, .int .u16 (g + 1)] 35))
    clear hb6 d0 d1 d2 d3 HO5 HE5 HB5 HF5
    have d0 : (w6.alloc (.cells #[.int .u16 c, .int .u8 a, .int .u16 i, .int .u16 (g + 1)] 35)).cell? ⟨w.heap.size, 0, none⟩ = some (.int .u16 (c)) := HO6.out.cell 0
    have d1 : (w6.alloc (.cells #[.int .u16 c, .int .u8 a, .int .u16 i, .int .u16 (g + 1)] 35)).cell? ⟨w.heap.size, 1, none⟩ = some (.int .u8 (a)) := HO6.out.cell 1
    have d2 : (w6.alloc (.cells #[.int .u16 c, .int .u8 a, .int .u16 i, .int .u16 (g + 1)] 35)).cell? ⟨w.heap.size, 2, none⟩ = some (.int .u16 (i)) := HO6.out.cell 2
    have d3 : (w6.alloc (.cells #[.int .u16 c, .int .u8 a, .int .u16 i, .int .u16 (g + 1)] 35)).cell? ⟨w.heap.size, 3, none⟩ = some (.int .u16 (g)) := HO6.out.cell 3
    have x0 : (w6.alloc (.cells #[.int .u16 c, .int .u8 a, .int .u16 i, .int .u16 (g + 1)] 35)).cell? ⟨w4.heap.size, 0, none⟩ = some (.int .u16 (r1)) := HE6.out.cell 0
    have x1 : (w6.alloc (.cells #[.int .u16 c, .int .u8 a, .int .u16 i, .int .u16 (g + 1)] 35)).cell? ⟨w4.heap.size, 1, none⟩ = some (.int .u8 (r2)) := HE6.out.cell 1
    have x2 : (w6.alloc (.cells #[.int .u16 c, .int .u8 a, .int .u16 i, .int .u16 (g + 1)] 35)).cell? ⟨w4.heap.size, 2, none⟩ = some (.int .u16 (r3)) := HE6.out.cell 2
    have f0 : (w6.alloc (.cells #[.int .u16 c, .int .u8 a, .int .u16 i, .int .u16 (g + 1)] 35)).cell? ⟨w5.heap.size, 0, none⟩ = some (.int .u16 (r1)) := HF6.out.cell 0
    have f1 : (w6.alloc (.cells #[.int .u16 c, .int .u8 a, .int .u16 i, .int .u16 (g + 1)] 35)).cell? ⟨w5.heap.size, 1, none⟩ = some (.int .u8 (r2)) := HF6.out.cell 1
    have f2 : (w6.alloc (.cells #[.int .u16 c, .int .u8 a, .int .u16 i, .int .u16 (g + 1)] 35)).cell? ⟨w5.heap.size, 2, none⟩ = some (.int .u16 (r3)) := HF6.out.cell 2
    go_wp2_with fail
    refine (PEpq.epoch_Newer.calls (0 + 4) c a i (g + 1) c a i g true _ HN.out).mono ?_
    rintro e w7 ⟨rfl, hb7⟩
    have HB7 := Lib.hid (below_out HB6.out hb7)
    go_wp2
    go_ret
    exact ⟨rfl, HB7.out⟩
end Go.Proofs.YthjdepipmghbbaaDoor
