/- The law of what is written. -/
import Derived.Test.YtpkgpffodkfncaaOctAwake
namespace Go.Proofs.Ytpkgpffodkfncaa
open Go.RowKit
theorem small_facts {xs : List Item} (h : smallB xs = true) : xs.length ≤ 60 ∧ ∀ x ∈ xs, x.s.size ≤ 300 := by
  simpa [smallB] using h
set_option maxRecDepth 100000 in
theorem octetsWrites_walk {H : Type} {enc : TypeId × Value → H} (v : Value) (d : DataW H) (p : List MemPlace) {w : World}
    (h : DataW.Trod enc Try.prog w 0 (fun _ => true) true 37 v d p) (o : Value.okWide Try.prog w .any 0 37 v) (_ : ∀ x ∈ d.weights Try.prog 37, x ≤ 140737488351232) (_ : World) :
    Calls Try.prog 10 #[v] w fun e w' => e = .returned (.bool true) ∧ Below w.heap.size w w' := by
  obtain ⟨xs, hI, hok⟩ := items_of h o
  clear h o
  go_enter Try.func10, Try.ntmps10
  go_wp2_with fail
  refine (oawake_any w).mono ?_
  rintro e w1 ⟨rfl, hb1⟩
  go_wp2_with fail
  refine (small_any v xs w1 (hI.below (Nat.le_refl _) hb1)).mono ?_
  rintro e w2 ⟨rfl, hb2⟩
  have hb02 := hb1.trans (hb2.mono hb1.size)
  cases hsm : smallB xs with
  | false =>
    go_wp2
    go_ret
    exact ⟨rfl, hb02⟩
  | true =>
    obtain ⟨hl60, hs300⟩ := small_facts hsm
    have HS := Lib.hid hsm
    have hle := encs_le xs hs300
    clear hsm
    go_wp2_with fail
    refine (newPen_any w2).mono ?_
    rintro e w3 ⟨rfl, hP3, hb3⟩
    have hb03 := hb02.trans (hb3.mono hb02.size)
    go_wp2_with fail
    refine (write_any v xs w2.heap.size w3 hl60 hs300 hok (fun wr hr => hI.below (Nat.le_refl _) (hb03.trans (hr.mono hb02.size))) hP3).mono ?_
    rintro e w4 ⟨rfl, hP4, hb4⟩
    go_wp2_with fail
    refine (penString_any w2.heap.size _ w4 hP4).mono ?_
    rintro e w' ⟨rfl, rfl⟩
    go_wp2_with fail
    refine (penLen_any w2.heap.size _ w4 hP4).mono ?_
    rintro e w' ⟨rfl, rfl⟩
    go_wp2
    go_ret
    exact ⟨rfl, hb03.trans (hb4.mono hb02.size)⟩
end Go.Proofs.Ytpkgpffodkfncaa
