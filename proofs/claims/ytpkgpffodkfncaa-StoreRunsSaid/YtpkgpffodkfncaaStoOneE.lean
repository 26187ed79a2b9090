/- One act with both stores: Read at the end (made by wip/mk_one3.py). -/
import Derived.Test.YtpkgpffodkfncaaStoOne
import Derived.Deep.RegionHeld3
namespace Go.Proofs.Ytpkgpffodkfncaa
open Go.RowKit
theorem stoRead_none (b g cap : Nat) (d : Sto) (a : Nat) (hfit : a + 0 ≤ d.l.length) (w : World) (h : StoAt w b g cap d) :
    Calls Try.prog 47 #[.pointer (some ⟨b, 0, none⟩), .int .i64 (a : Int), .int .i64 0] w fun e w' => e = .returned (.tuple #[.string ⟨#[]⟩, .bool true]) ∧ w = w' :=
  stoRead_in b g cap d a 0 hfit w h
set_option maxRecDepth 100000 in
set_option maxHeartbeats 4000000 in
theorem one_readend (b1 g1 cap1 b2 g2 cap2 : Nat) (d : Sto) (x : ActV) (hq : x.what % 5 = 1) (hw : x.what < 256) (hn : -9223372036854775808 ≤ x.n ∧ x.n ≤ 9223372036854775807) (a : Nat) (hxa : x.at_ = (a : Int)) (hxn : x.n = 0) (hfit : a + 0 ≤ d.l.length) (hac : a = cap2) (hd1 : b1 ≠ b2) (hd2 : b1 ≠ g2) (hd3 : g1 ≠ b2) (hd4 : g1 ≠ g2) (w : World) (h1 : StoAt w b1 g1 cap1 d) (h2 : RAs w b2 g2 cap2 d) :
    Calls Try.prog 56 #[.pointer (some ⟨b1, 0, none⟩), .pointer (some ⟨b2, 0, none⟩), .agg #[.int .u8 (x.what : Int), .int .i64 x.at_, .int .i64 x.n, .string x.s]] w fun e w' =>
      e = .returned (.bool true) ∧ StoAt w' b1 g1 cap1 (stepS d x) ∧ RAs w' b2 g2 cap2 (stepS d x) ∧ FourKeep b1 g1 b2 g2 w w' := by
  have hqi : (x.what : Int) % 5 = 1 := by omega
  have hst : stepS d x = d := by simp only [stepS, hq]
  obtain ⟨d5, hd5⟩ : ∃ d5 : Sto, d5 = stepS d x := ⟨_, rfl⟩
  rw [← hd5]
  rw [hst] at hd5
  have HD5 := Lib.hid hd5
  clear hst hq hd5
  have hA : Keep (fun k => k = b1 ∨ k = g1 ∨ k = b2 ∨ k = g2) w (w.alloc (.cells #[.int .u8 (x.what : Int), .int .i64 x.at_, .int .i64 x.n, .string x.s] 72)) := (Keep.refl _ w).alloc _
  have h1a := h1.keep (Keep.of_below (S := fun _ => False) ((Below.refl w.heap.size w).alloc (Nat.le_refl _) (.cells #[.int .u8 (x.what : Int), .int .i64 x.at_, .int .i64 x.n, .string x.s] 72))) (by simp) (by simp)
  have h2a := RstAt.keep h2 (Keep.of_below (S := fun _ => False) ((Below.refl w.heap.size w).alloc (Nat.le_refl _) (.cells #[.int .u8 (x.what : Int), .int .i64 x.at_, .int .i64 x.n, .string x.s] 72))) (by simp) (by simp)
  have hX : ObjAt (w.alloc (.cells #[.int .u8 (x.what : Int), .int .i64 x.at_, .int .i64 x.n, .string x.s] 72)) w.heap.size #[.int .u8 (x.what : Int), .int .i64 x.at_, .int .i64 x.n, .string x.s] 72 := ObjAt.new _ _ _
  have hb1 := h1.obj.lt
  have hb2 := h2.obj.lt
  have hg1 := h1.row.1
  have hg2 := h2.row.1
  subst hac
  have hm := RstAt.most h2
  have hle2 := RstAt.le h2
  have hmax2 := RstAt.max h2
  have hth : stoThere d.l.length (a : Int) 0 = true := by simp [stoThere]; omega
  rw [hxa, hxn] at hX hA h1a h2a ⊢
  have x1 : (w.alloc (.cells #[.int .u8 (x.what : Int), .int .i64 (a : Int), .int .i64 0, .string x.s] 72)).cell? ⟨w.heap.size, 1, none⟩ = some (.int .i64 (a : Int)) := hX.cell 1
  have x2 : (w.alloc (.cells #[.int .u8 (x.what : Int), .int .i64 (a : Int), .int .i64 0, .string x.s] 72)).cell? ⟨w.heap.size, 2, none⟩ = some (.int .i64 0) := hX.cell 2
  clear hxa hxn
  go_enter Try.func56, Try.ntmps56
  go_wp2_with fail
  refine (stoRead_none b1 g1 cap1 d a hfit _ h1a).mono ?_
  rintro e w3 ⟨rfl, rfl⟩
  generalize (w.alloc (.cells #[.int .u8 (x.what : Int), .int .i64 (a : Int), .int .i64 0, .string x.s] 72)) = w3 at h1a h2a hA hX x1 x2 ⊢
  have hTh : ∀ k, Calls Try.prog 71 #[.pointer (some ⟨b2, 0, none⟩), .int .i64 (a : Int), .int .i64 0] (w3.drewN k) fun e w' => e = .returned (.bool true) ∧ w' = w3.drewN k := fun k => by
    have := rstThere_any b2 g2 a d.l _ _ _ (a : Int) 0 (by omega) (by omega) _ (RstAt.drewN h2a k)
    rw [hth] at this
    exact this
  have HTh := Lib.hid hTh
  have c0 : w3.cell? ⟨b2, 0, none⟩ = some (.slice (some ⟨g2, 0, none⟩) d.l.length a) := (RstAt.obj h2a).cell 0
  have hcv : ∀ k, (convert 33 9 (.slice (some ⟨g2, 0, none⟩) 0 0)).run Try.prog (w3.drewN k) = .ok (.string ⟨#[]⟩) (w3.drewN k) := fun k => by
    have h0 := row_string (RstAt.row (RstAt.drewN h2a k)) 0 0 0 (by omega)
    rw [h0]
    simp
  clear hth hTh
  go_wp2_with fail
  go_quiet ((go_at_call 71; exact Calls.quiet_of_same (HTh.out _)))
  clear x1 x2 c0 hcv
  have hS := h1a.drewN nq
  have hR : RAs (w3.drewN nq) b2 g2 a d := RstAt.drewN h2a nq
  have hK := hA.drewN nq
  clear h1 h2 h1a h2a hA hX
  generalize w3.drewN nq = w5 at hS hR hK ⊢
  go_wp2_with fail
  -- behind the act: hS, hR at w5 of d5; hK
  rw [← HD5.out] at hS hR
  have hR' : RstAt w5 b2 g2 a d5.l (!d5.dark) (leftK d5.armed d5.left 0) d5.wrote := hR
  have k1 : w5.cell? ⟨b2, 1, none⟩ = some (.bool (!d5.dark)) := hR'.obj.cell 1
  have k3 : w5.cell? ⟨b2, 3, none⟩ = some (.int .i64 (d5.wrote : Int)) := hR'.obj.cell 3
  cases ha : d5.armed with
  | true =>
    have hlK : leftK d5.armed d5.left 0 = (d5.left : Int) := by rw [leftK, if_pos ha, Nat.sub_zero]
    have k2 : w5.cell? ⟨b2, 2, none⟩ = some (.int .i64 (d5.left : Int)) := by rw [← hlK]; exact hR'.obj.cell 2
    have hmx : max (d5.left : Int) 0 = (d5.left : Int) := by omega
    have hge : (0 : Int) ≤ (d5.left : Int) := by omega
    have hAr := stoArmed_any b1 g1 cap1 d5 w5 hS
    rw [ha] at hAr
    have HAr := Lib.hid hAr
    clear hlK ha hAr
    refine HAr.out.mono ?_
    rintro e w6 ⟨rfl, rfl⟩
    go_wp2
    go_quiet (first | (go_at_call 51; refine Calls.quiet_of_same (stoPower_any b1 g1 cap1 d5 _ ?_); exact hS.drewN _) | (go_at_call 48; refine Calls.quiet_of_same (stoWrote_any b1 g1 cap1 d5 _ ?_); exact hS.drewN _))
    go_wp2
    go_ret
    exact ⟨rfl, hS.drewN _, RstAt.drewN hR _, hK.drewN _⟩
  | false =>
    have hlK : leftK d5.armed d5.left 0 = -1 := by rw [leftK, if_neg (by simp [ha])]
    have k2 : w5.cell? ⟨b2, 2, none⟩ = some (.int .i64 (-1)) := by rw [← hlK]; exact hR'.obj.cell 2
    have hAr := stoArmed_any b1 g1 cap1 d5 w5 hS
    rw [ha] at hAr
    have HAr := Lib.hid hAr
    clear hlK ha hAr
    refine HAr.out.mono ?_
    rintro e w6 ⟨rfl, rfl⟩
    go_wp2
    go_quiet (first | (go_at_call 51; refine Calls.quiet_of_same (stoPower_any b1 g1 cap1 d5 _ ?_); exact hS.drewN _) | (go_at_call 48; refine Calls.quiet_of_same (stoWrote_any b1 g1 cap1 d5 _ ?_); exact hS.drewN _))
    go_wp2
    go_ret
    exact ⟨rfl, hS.drewN _, RstAt.drewN hR _, hK.drewN _⟩
end Go.Proofs.Ytpkgpffodkfncaa
