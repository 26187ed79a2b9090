/- Wheel: Set. -/
import Derived.Test.YtkeeledkdoiglaaDoorWhSet
namespace Go.Proofs.YtkeeledkdoiglaaDoor.Wh
open Go.RowKit Go.Proofs.YtkeeledkdoiglaaDoor
theorem shl_or16 (m i : Nat) (hm : m < 65536) (hi : i < 16) : bits BinOp.or .u16 (m : Int) (IntKind.u16.wrap (2 ^ i)) = ((m ||| 2 ^ i : Nat) : Int) := by
  have h2 : 2 ^ i < 65536 := Nat.pow_lt_pow_right (by decide) hi
  rw [show ((2 : Int) ^ i) = ((2 ^ i : Nat) : Int) by simp, wrap16 _ h2]
  exact or16 m _ hm h2
set_option maxRecDepth 100000 in
theorem set_of (wb : Nat) (s : WS) (i nn t j : Nat) (hj : (nn + t) % 32 = j) (hi : i < 16) (hN : s.now = (nn : Int)) (hnn : nn ≤ 500000) (ht : 1 ≤ t ∧ t ≤ 10000) (hM : s.M < 65536) (hS : s.S j < 65536) (w : World)
    (hc : Calls Tryd.prog 10 #[.pointer (some ⟨wb, 0, none⟩), .int .i64 (i : Int)] w fun e w' => (∃ b, e = .returned (.bool b)) ∧ Keep (fun k => k = wb) w w' ∧ WAt w' wb s) :
    Calls Tryd.prog 9 #[.pointer (some ⟨wb, 0, none⟩), .int .i64 (i : Int), .int .i64 (t : Int)] w fun e w' => e = .returned (.bool true) ∧ Keep (fun k => k = wb) w w' ∧ WAt w' wb { s with D := upd s.D i ((nn : Int) + (t : Int)), M := s.M ||| 2 ^ i, S := upd s.S j (s.S j ||| 2 ^ i) } := by
  have hii : (i : Int) < 16 := by omega
  have h1 : decide ((i : Int) < 0) = false := by simp
  have h2 : decide ((16 : Int) ≤ (i : Int)) = false := by simp; omega
  have h3 : decide ((t : Int) < 1) = false := by simp; omega
  have h4 : decide ((10000 : Int) < (t : Int)) = false := by simp; omega
  have HC := Lib.hid hc
  have HA := Lib.hid (shl_or16 s.M i hM hi)
  have HB := Lib.hid (shl_or16 (s.S j) i hS hi)
  clear hc
  go_enter Tryd.func9, Tryd.ntmps9
  go_wp2_with fail
  refine HC.out.mono ?_
  clear HC
  rintro e w0 ⟨⟨b, rfl⟩, hk, h⟩
  have H := Lib.hid h
  have HK0 := Lib.hid hk
  clear h hk h1 h2 h3 h4
  have c0 : w0.cell? ⟨wb, 0, none⟩ = some (.int .i64 (nn : Int)) := by rw [← hN]; exact H.out.now
  have cd : w0.cell? ⟨wb, 1 + i, none⟩ = some (.int .i64 (s.D i)) := H.out.due i hi
  have fd : w0.frozen? ⟨wb, 1 + i, none⟩ = false := H.out.free _
  have hw : IntKind.i64.wrap ((nn : Int) + (t : Int)) = (nn : Int) + (t : Int) := IntWalk.i64_in _ (by omega)
  have HNN := Lib.hid hN
  clear hN
  go_wp2_with fail
  go_still_tail 11, (by kernel_rfl)
  change wpList _ _ _ _ _ w0.drew
  have H1 := Lib.hid H.out.drew
  have HK1 := Lib.hid HK0.out.drew
  clear c0 cd fd H HK0
  generalize w0.drew = w1 at *
  have cd : w1.cell? ⟨wb, 1 + i, none⟩ = some (.int .i64 (s.D i)) := H1.out.due i hi
  have fd : w1.frozen? ⟨wb, 1 + i, none⟩ = false := H1.out.free _
  go_wp2_with fail
  have H2 := Lib.hid (H1.out.st_due hi ((nn : Int) + (t : Int)))
  have HK2 := Lib.hid (HK1.out.setCell (p := ⟨wb, 1 + i, none⟩) (.inr rfl) (.int .i64 ((nn : Int) + (t : Int))))
  clear cd fd H1 HK1 hw
  generalize w1.setCell ⟨wb, 1 + i, none⟩ (.int .i64 ((nn : Int) + (t : Int))) = w2 at *
  have c2 : w2.cell? ⟨wb, 17, none⟩ = some (.int .u16 (s.M : Int)) := H2.out.set
  have f2 : w2.frozen? ⟨wb, 17, none⟩ = false := H2.out.free 17
  go_still_tail 9, (by kernel_rfl)
  change wpList _ _ _ _ _ w2.drew
  have H3 := Lib.hid H2.out.drew
  have HK3 := Lib.hid HK2.out.drew
  clear c2 f2 H2 HK2
  generalize w2.drew = w3 at *
  have c2 : w3.cell? ⟨wb, 17, none⟩ = some (.int .u16 (s.M : Int)) := H3.out.set
  have f2 : w3.frozen? ⟨wb, 17, none⟩ = false := H3.out.free 17
  go_wp2_with fail
  rw [HA.out]
  have H4 := Lib.hid (H3.out.st_set (s.M ||| 2 ^ i))
  have HK4 := Lib.hid (HK3.out.setCell (p := ⟨wb, 17, none⟩) (.inr rfl) (.int .u16 ((s.M ||| 2 ^ i : Nat) : Int)))
  clear c2 f2 H3 HK3
  generalize w3.setCell ⟨wb, 17, none⟩ (.int .u16 ((s.M ||| 2 ^ i : Nat) : Int)) = w4 at *
  have hlt : j < 32 := by omega
  have hltj : (j : Int) < 32 := by omega
  obtain ⟨dn, hdn⟩ : ∃ dn : Int, (nn : Int) + (t : Int) = dn := ⟨_, rfl⟩
  have hq : dn.tmod 32 = (j : Int) := by rw [← hdn, Int.tmod_eq_emod_of_nonneg (by omega)]; omega
  have cd : w4.cell? ⟨wb, 1 + i, none⟩ = some (.int .i64 dn) := by
    rw [← hdn]
    have := H4.out.due i hi
    simpa [upd] using this
  have cs : w4.cell? ⟨wb, 18 + j, none⟩ = some (.int .u16 (s.S j : Int)) := H4.out.spoke j hlt
  have fs : w4.frozen? ⟨wb, 18 + j, none⟩ = false := H4.out.free _
  have HDN := Lib.hid hdn
  rw [hdn]
  clear hdn
  go_still_tail 18, (by kernel_rfl)
  change wpList _ _ _ _ _ w4.drew
  have H5 := Lib.hid H4.out.drew
  have HK5 := Lib.hid HK4.out.drew
  clear cd cs fs H4 HK4
  generalize w4.drew = w5 at *
  have cs : w5.cell? ⟨wb, 18 + j, none⟩ = some (.int .u16 (s.S j : Int)) := H5.out.spoke j hlt
  have fs : w5.frozen? ⟨wb, 18 + j, none⟩ = false := H5.out.free _
  go_wp2_with fail
  rw [HB.out]
  go_wp2
  go_ret
  exact ⟨rfl, HK5.out.setCell (p := ⟨wb, 18 + j, none⟩) (.inr rfl) _, H5.out.st_spoke hlt _⟩
end Go.Proofs.YtkeeledkdoiglaaDoor.Wh
