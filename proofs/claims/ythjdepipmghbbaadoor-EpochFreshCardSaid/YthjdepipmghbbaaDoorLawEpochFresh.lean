/- The law EpochFresh: whatever the input, the call returns true, and the input reads as it did. (The frame of its row; the walk is in YthjdepipmghbbaaDoorEpoLawFresh.) -/
import Derived.Test.YthjdepipmghbbaaDoorRows
import Derived.Test.YthjdepipmghbbaaDoorEpoLawFresh
import Derived.WalkKit
import Derived.ProofKit
import Derived.OpenShut
import Derived.ShutString
import Derived.ChangeOld
import Derived.Below
import Derived.SizedLaws
import Derived.Carry
import Derived.LaidMore
import Derived.Stop.Joined
import Derived.SevenTiedAt
import Derived.Lay
import Derived.Test.YthjdepipmghbbaaDoorTie
import Derived.Test.YthjdepipmghbbaaDoorShaped
import Derived.Test.YthjdepipmghbbaaDoorCards
namespace Go.Proofs.YthjdepipmghbbaaDoor.epochFresh
open Go.ChangeShapes Go.WideShapes Go.ChangeAt Go.RowKit
open Go.ChangeMaps (open_string shut_string)
theorem own : ownKnob Tryd.prog.godebug = none := by kernel_rfl
theorem laidOut : laidOutB Tryd.prog = true := by kernel_rfl
theorem door_met (os : Os) (args : Array Value) : laidMetH Tryd.prog Rows.epochFreshRow.laid ((World.laidAll Tryd.prog os Rows.epochFreshRow.laid).forCall (fun _ _ => 0) ⟨#[], args, []⟩).memory := by
  rw [MakeChecks.laidMetH_plain _ _ _ (by kernel_rfl)]
  exact laidMet_laidAll _ (by kernel_rfl) (by kernel_rfl)
set_option maxRecDepth 100000 in
theorem lifted (os : Os) (started : os.Started) (H : Type) (enc : TypeId × Value → H) :
    ReturnsInHanded {} Tryd.checked os 3 .any (fun w args => (Rows.epochFreshSpec.pre enc Tryd.prog Tryd.f3 Rows.epochFreshRow.domain false w args ∧ laidMetH Tryd.prog Rows.epochFreshRow.laid w) ∧ sizedMet enc Tryd.prog Tryd.f3 (OpenSpec.ofChange Rows.epochFreshSpec) false w args) (Rows.epochFreshSpec.post enc Tryd.prog Tryd.f3 false true false false) := by
  refine returns_laid_shaped (C := Tryd.checked) (X := fun w _ => laidMetH Tryd.prog Rows.epochFreshRow.laid w) (fun _ _ _ hh h => h.of_heap hh) own started (by kernel_rfl) Tryd.func3
    (ChangeSpec.witness_shaped (enc := enc) (C := Tryd.checked) (os := os) (X := fun w _ => laidMetH Tryd.prog Rows.epochFreshRow.laid w) false (World.laidAll Tryd.prog os Rows.epochFreshRow.laid) #[.agg #[.int .u16 0, .int .u8 0, .int .u16 0], .agg #[.int .u16 0, .int .u8 0, .int .u16 0], .agg #[.int .u16 0, .int .u8 0, .int .u16 0, .int .u16 0, .int .u8 0, .int .u16 0]] 8 (World.laidAll_os _ _ _) (World.shaped_of_ZipB (by kernel_rfl) (by kernel_rfl)) (by kernel_rfl) (by kernel_rfl) (by kernel_rfl) (door_met os _)) ?_
  intro W base args ds gs before hval0 hW hcnd hsz0 hL0 hsh _
  have hL := laidW_of hL0 hsh
  have hsz : (DataW.weightsEach Tryd.prog (Tryd.f3.params.toList ++ Rows.epochFreshSpec.plain.varTypes Tryd.prog) (ds ++ gs)).all (· ≤ reachBytes) = true := hsz0
  have hval : ∀ (j : Nat) t v, Tryd.f3.params[j]? = some t → args[j]? = some v → Value.okWide Tryd.prog W .any base t v := hval0
  have hW' := hW
  obtain ⟨p, q, hA0, hV, rfl, hfz, hnd⟩ := hW
  have hA : DataW.TrodAll enc Tryd.prog W 0 (fun _ => true) true Tryd.f3.params.toList args.toList ds p := hA0
  rw [Tryd.params3] at hA hval hsz
  obtain ⟨v0, vs0, d0, ds0, p0, q0, hargs, rfl, rfl, h0, r0⟩ := trodAll_cons hA
  obtain ⟨v1, vs1, d1, ds1, p1, q1, rfl, rfl, rfl, h1, r1⟩ := trodAll_cons r0
  obtain ⟨v2, vs2, d2, ds2, p2, q2, rfl, rfl, rfl, h2, r2⟩ := trodAll_cons r1
  obtain ⟨rfl, rfl, rfl⟩ := trodAll_nil r2
  obtain rfl : args = #[v0, v1, v2] := by cases args; simp_all
  obtain ⟨rfl, rfl⟩ := trodVars_none hV
  have k0 := h0
  have lt0 : ∀ x ∈ p0, x.block < W.heap.size := by obtain ⟨m, hm⟩ := k0; exact DataW.trod_lt m _ _ _ hm
  have o0 := hval 0 24 v0 rfl rfl
  have s0 : ∀ x ∈ d0.weights Tryd.prog 24, x ≤ 140737488351232 := fun x hx => by
    have := List.all_eq_true.1 hsz x (DataW.weights_mem_each (j := 0) (t := 24) (d := d0) rfl rfl x hx)
    exact (of_decide_eq_true this : x ≤ reachBytes)
  have k1 := h1
  have lt1 : ∀ x ∈ p1, x.block < W.heap.size := by obtain ⟨m, hm⟩ := k1; exact DataW.trod_lt m _ _ _ hm
  have o1 := hval 1 24 v1 rfl rfl
  have s1 : ∀ x ∈ d1.weights Tryd.prog 24, x ≤ 140737488351232 := fun x hx => by
    have := List.all_eq_true.1 hsz x (DataW.weights_mem_each (j := 1) (t := 24) (d := d1) rfl rfl x hx)
    exact (of_decide_eq_true this : x ≤ reachBytes)
  have k2 := h2
  have lt2 : ∀ x ∈ p2, x.block < W.heap.size := by obtain ⟨m, hm⟩ := k2; exact DataW.trod_lt m _ _ _ hm
  have o2 := hval 2 25 v2 rfl rfl
  have s2 : ∀ x ∈ d2.weights Tryd.prog 25, x ≤ 140737488351232 := fun x hx => by
    have := List.all_eq_true.1 hsz x (DataW.weights_mem_each (j := 2) (t := 25) (d := d2) rfl rfl x hx)
    exact (of_decide_eq_true this : x ≤ reachBytes)
  clear hA0 hval0 hsz0 hsz
  refine (epochFresh_walk v0 d0 p0 h0 o0 s0 v1 d1 p1 h1 o1 s1 v2 d2 p2 h2 o2 s2 W hL).mono fun e W' ⟨he, bel⟩ => ?_
  subst he
  exact ⟨_, rfl, _, _, _, [], _, [], hW', trodAll_mk1 (shut_bool Tryd.underlying4 _), (trodAll_cons_mk (Below.trod laidOut (by kernel_rfl) (of_decide_eq_true (by kernel_rfl)) k0 bel lt0) (trodAll_cons_mk (Below.trod laidOut (by kernel_rfl) (of_decide_eq_true (by kernel_rfl)) k1 bel lt1) (trodAll_cons_mk (Below.trod laidOut (by kernel_rfl) (of_decide_eq_true (by kernel_rfl)) k2 bel lt2) trodAll_mk0))), rfl, bel.frame _, fun h => by cases h⟩
theorem over : Rows.EpochFreshSaid :=
  OpenClaim.holds_of_wide 3 Tryd.f3 rfl rfl rfl rfl rfl rfl rfl ⟨rfl, rfl, rfl, rfl, rfl⟩ rfl rfl rfl rfl rfl (by kernel_rfl) Tryd.func3 (by kernel_rfl)
    (of_decide_eq_true (by kernel_rfl)) (by unfold Func.isWrapper; rw [if_neg (of_decide_eq_false (by kernel_rfl))]; exact ⟨rfl, rfl⟩)
    (fun os started H enc _ => lifted os started H enc)
end Go.Proofs.YthjdepipmghbbaaDoor.epochFresh
namespace Go.Proofs.YthjdepipmghbbaaDoor
theorem epochFresh_holds : Rows.EpochFreshCardSaid :=
  Claim7.holds_tied_plain_at .later [] Rows.epochFreshCard.laidKinds true Rows.epochFreshCard.stood.harness true
    epochFresh.over (fun _ h => by cases h) (by kernel_rfl) (fun _ h => by cases h) epochFresh_row_tie rfl ⟨rfl, rfl⟩ (by kernel_rfl) rfl
    (fun f fn hf hfn => by
      obtain rfl : f = 3 := Option.some.inj ((show Tryd.prog.funcNamed "fugleman/fuglemanlaw03.EpochFresh" = some 3 by kernel_rfl).symm.trans hf) |>.symm
      obtain rfl : fn = Tryd.f3 := (Option.some.inj (Tryd.func3.symm.trans hfn)).symm
      exact ⟨by kernel_rfl, fun j t ht => by
        rw [Tryd.params3] at ht
        have hm : t ∈ [24, 24, 25] := by simpa using Array.mem_of_getElem? ht
        have hall : ([24, 24, 25].all fun u => !Tryd.prog.wantsStandIn u) = true := by kernel_rfl
        exact (show Tryd.prog.wantsStandIn t = false by simpa using List.all_eq_true.1 hall t hm)⟩)
    (by kernel_rfl)
end Go.Proofs.YthjdepipmghbbaaDoor
