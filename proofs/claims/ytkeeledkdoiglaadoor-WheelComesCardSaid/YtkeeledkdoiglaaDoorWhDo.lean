/- Wheel: Cancel and Set, by what is left. -/
import Derived.Test.YtkeeledkdoiglaaDoorWhGood2
namespace Go.Proofs.YtkeeledkdoiglaaDoor.Wh
open Go.RowKit Go.Proofs.YtkeeledkdoiglaaDoor
theorem cancelG (wb : Nat) (s : WS) (hG : Good s) (hn : s.now ≤ 500000) (i : Nat) (hi : i < 16) (w : World) (h : WAt w wb s) :
    Calls Tryd.prog 10 #[.pointer (some ⟨wb, 0, none⟩), .int .i64 (i : Int)] w fun e w' =>
      e = .returned (.bool (s.M.testBit i)) ∧ Keep (fun k => k = wb) w w' ∧ ∃ s', WAt w' wb s' ∧ Good s' ∧ s'.now = s.now ∧ s'.M.testBit i = false ∧ ∀ k, k < 16 → s'.left k = upd s.left i 0 k := by
  have hc := is_in wb s i hi hG.m w h
  cases hb : s.M.testBit i
  · rw [hb] at hc
    refine (cancel_not wb i w hc).mono ?_
    rintro e w' ⟨rfl, rfl⟩
    refine ⟨rfl, Keep.refl _ _, s, h, hG, rfl, hb, fun k hk => ?_⟩
    by_cases hki : k = i
    · subst hki
      simp [upd, WS.left, hb]
    · simp [upd, hki]
  · have hd := hG.due i hi hb
    have hn0 := hG.n
    obtain ⟨dn, hdn⟩ : ∃ dn : Nat, s.D i = (dn : Int) := ⟨(s.D i).toNat, by omega⟩
    have hj : (s.D i % 32).toNat = dn % 32 := by omega
    refine (cancel_in wb s i dn (dn % 32) rfl hi hdn (by omega) hG.m (hG.s16 _ (by omega)) hb w h).mono ?_
    rintro e w' ⟨rfl, hk, hw⟩
    obtain ⟨g1, g2⟩ := good_off hG i hi hb
    refine ⟨rfl, hk, s.off i, ?_, g1, rfl, ?_, g2⟩
    · unfold WS.off
      rw [hj]
      exact hw
    · show (s.M &&& (65535 ^^^ 2 ^ i)).testBit i = false
      rw [bit_off _ _ _ hG.m hi]
      simp
theorem setG (wb : Nat) (s : WS) (hG : Good s) (hn : s.now ≤ 400000) (i t : Nat) (hi : i < 16) (ht : 1 ≤ t ∧ t ≤ 10000) (w : World) (h : WAt w wb s) :
    Calls Tryd.prog 9 #[.pointer (some ⟨wb, 0, none⟩), .int .i64 (i : Int), .int .i64 (t : Int)] w fun e w' =>
      e = .returned (.bool true) ∧ Keep (fun k => k = wb) w w' ∧ ∃ s', WAt w' wb s' ∧ Good s' ∧ s'.now = s.now ∧ ∀ k, k < 16 → s'.left k = upd s.left i (t : Int) k := by
  have hn0 := hG.n
  obtain ⟨nn, hnn⟩ : ∃ nn : Nat, s.now = (nn : Int) := ⟨s.now.toNat, by omega⟩
  have key : ∀ s1 : WS, Good s1 → s1.now = s.now → s1.M.testBit i = false → (∀ k, k < 16 → s1.left k = upd s.left i 0 k) →
      (Calls Tryd.prog 10 #[.pointer (some ⟨wb, 0, none⟩), .int .i64 (i : Int)] w fun e w' => (∃ b, e = .returned (.bool b)) ∧ Keep (fun k => k = wb) w w' ∧ WAt w' wb s1) →
      Calls Tryd.prog 9 #[.pointer (some ⟨wb, 0, none⟩), .int .i64 (i : Int), .int .i64 (t : Int)] w fun e w' =>
      e = .returned (.bool true) ∧ Keep (fun k => k = wb) w w' ∧ ∃ s', WAt w' wb s' ∧ Good s' ∧ s'.now = s.now ∧ ∀ k, k < 16 → s'.left k = upd s.left i (t : Int) k := by
    intro s1 g1 h1 h2 h3 hc
    refine (set_of wb s1 i nn t ((nn + t) % 32) rfl hi (h1.trans hnn) (by omega) ht g1.m (g1.s16 _ (by omega)) w hc).mono ?_
    rintro e w' ⟨rfl, hk, hw⟩
    obtain ⟨g2, g3⟩ := good_on g1 i t hi ht h2
    have hj : ((s1.now + t) % 32).toNat = (nn + t) % 32 := by rw [h1, hnn]; omega
    refine ⟨rfl, hk, s1.on i t, ?_, g2, h1, fun k hk => ?_⟩
    · unfold WS.on
      rw [hj, h1.trans hnn]
      rw [h1.trans hnn] at hw
      exact hw
    · rw [g3 k hk]
      by_cases hki : k = i
      · simp [upd, hki]
      · have := h3 k hk
        simp only [upd, if_neg hki] at this ⊢
        exact this
  have hc := is_in wb s i hi hG.m w h
  cases hb : s.M.testBit i
  · rw [hb] at hc
    refine key s hG rfl hb (fun k hk => ?_) ((cancel_not wb i w hc).mono ?_)
    · by_cases hki : k = i
      · subst hki
        simp [upd, WS.left, hb]
      · simp [upd, hki]
    · rintro e w' ⟨rfl, rfl⟩
      exact ⟨⟨_, rfl⟩, Keep.refl _ _, h⟩
  · have hd := hG.due i hi hb
    obtain ⟨dn, hdn⟩ : ∃ dn : Nat, s.D i = (dn : Int) := ⟨(s.D i).toNat, by omega⟩
    have hj : (s.D i % 32).toNat = dn % 32 := by omega
    obtain ⟨g1, g2⟩ := good_off hG i hi hb
    refine key (s.off i) g1 rfl ?_ g2 ((cancel_in wb s i dn (dn % 32) rfl hi hdn (by omega) hG.m (hG.s16 _ (by omega)) hb w h).mono ?_)
    · show (s.M &&& (65535 ^^^ 2 ^ i)).testBit i = false
      rw [bit_off _ _ _ hG.m hi]
      simp
    · rintro e w' ⟨rfl, hk, hw⟩
      refine ⟨⟨_, rfl⟩, hk, ?_⟩
      unfold WS.off
      rw [hj]
      exact hw
end Go.Proofs.YtkeeledkdoiglaaDoor.Wh
