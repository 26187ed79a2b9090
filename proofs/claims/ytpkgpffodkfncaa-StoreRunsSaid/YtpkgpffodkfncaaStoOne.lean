/- One act with both stores (made by wip/mk_one.py). -/
import Derived.Test.YtpkgpffodkfncaaStoRef4
import Derived.Test.YtpkgpffodkfncaaStoRead
import Derived.Test.YtpkgpffodkfncaaStoLawTears
import Derived.Deep.RegionWith
import Derived.Deep.QuietTactic
import Derived.BigQuiet
namespace Go.Proofs.Ytpkgpffodkfncaa
open Go.RowKit
structure ActV where
  what : Nat
  at_ : Int
  n : Int
  s : ByteArray
def stepS (d : Sto) (x : ActV) : Sto :=
  match x.what % 5 with
  | 0 => d.writeS x.at_ x.s
  | 1 => d
  | 2 => { d with armed := true, left := x.n.toNat }
  | 3 => d.off
  | _ => { d with dark := false }
abbrev FourKeep (b1 g1 b2 g2 : Nat) (w w' : World) : Prop := Keep (fun k => k = b1 ∨ k = g1 ∨ k = b2 ∨ k = g2) w w'
theorem RstAt.again {w : World} {b g cap : Nat} {l : List UInt8} {p p' : Bool} {f f' : Int} {n : Nat} (h : RstAt w b g cap l p f n) (hp : p = p') (hf : f = f') : RstAt w b g cap l p' f' n := by
  subst hp
  subst hf
  exact h
set_option maxRecDepth 100000 in
set_option maxHeartbeats 4000000 in
theorem one_off (b1 g1 cap1 b2 g2 cap2 : Nat) (d : Sto) (x : ActV) (hq : x.what % 5 = 3) (hw : x.what < 256) (hn : -9223372036854775808 ≤ x.n ∧ x.n ≤ 9223372036854775807) (hd1 : b1 ≠ b2) (hd2 : b1 ≠ g2) (hd3 : g1 ≠ b2) (hd4 : g1 ≠ g2) (w : World) (h1 : StoAt w b1 g1 cap1 d) (h2 : RAs w b2 g2 cap2 d) :
    Calls Try.prog 56 #[.pointer (some ⟨b1, 0, none⟩), .pointer (some ⟨b2, 0, none⟩), .agg #[.int .u8 (x.what : Int), .int .i64 x.at_, .int .i64 x.n, .string x.s]] w fun e w' =>
      e = .returned (.bool true) ∧ StoAt w' b1 g1 cap1 (stepS d x) ∧ RAs w' b2 g2 cap2 (stepS d x) ∧ FourKeep b1 g1 b2 g2 w w' := by
  have hqi : (x.what : Int) % 5 = 3 := by omega
  have hst : stepS d x = d.off := by simp only [stepS, hq]
  obtain ⟨d5, hd5⟩ : ∃ d5 : Sto, d5 = stepS d x := ⟨_, rfl⟩
  rw [← hd5]
  rw [hst] at hd5
  have HD5 := Lib.hid hd5
  clear hst hq hd5
  have hA : Keep (fun k => k = b1 ∨ k = g1 ∨ k = b2 ∨ k = g2) w (w.alloc (.cells #[.int .u8 (x.what : Int), .int .i64 x.at_, .int .i64 x.n, .string x.s] 72)) := (Keep.refl _ w).alloc _
  have h1a := h1.keep (Keep.of_below (S := fun _ => False) ((Below.refl w.heap.size w).alloc (Nat.le_refl _) (.cells #[.int .u8 (x.what : Int), .int .i64 x.at_, .int .i64 x.n, .string x.s] 72))) (by simp) (by simp)
  have h2a := RstAt.keep h2 (Keep.of_below (S := fun _ => False) ((Below.refl w.heap.size w).alloc (Nat.le_refl _) (.cells #[.int .u8 (x.what : Int), .int .i64 x.at_, .int .i64 x.n, .string x.s] 72))) (by simp) (by simp)
  have hX : ObjAt (w.alloc (.cells #[.int .u8 (x.what : Int), .int .i64 x.at_, .int .i64 x.n, .string x.s] 72)) w.heap.size #[.int .u8 (x.what : Int), .int .i64 x.at_, .int .i64 x.n, .string x.s] 72 := ObjAt.new _ _ _
  have hb1 := h1.obj.lt
  have hb2 := h2.obj.lt
  have hg1 := h1.row.1
  have hg2 := h2.row.1
  go_enter Try.func56, Try.ntmps56
  go_wp2_with fail
  refine (stoOff_any b1 g1 cap1 d _ h1a).mono ?_
  rintro e w3 ⟨rfl, hS3, hk3⟩
  have hR3 := RstAt.keep h2a hk3 (by omega) (by omega)
  go_wp2_with fail
  refine (rstOff_any b2 g2 cap2 _ _ _ _ w3 hR3).mono ?_
  rintro e w5 ⟨rfl, hR5, hk5⟩
  have hS := hS3.keep hk5 (by omega) (by omega)
  have hR : RAs w5 b2 g2 cap2 d.off := hR5
  have hK : FourKeep b1 g1 b2 g2 w w5 := hA.trans ((hk3.mono (fun k _ hk => by omega)).trans (hk5.mono (fun k _ hk => by omega)))
  clear hS3 hR3 hk3 hk5 hR5 h1 h2 h1a h2a hA
  go_wp2_with fail
  -- behind the act: hS, hR at w5 of d5; hK
  rw [← HD5.out] at hS hR
  have hR' : RstAt w5 b2 g2 cap2 d5.l (!d5.dark) (leftK d5.armed d5.left 0) d5.wrote := hR
  have k1 : w5.cell? ⟨b2, 1, none⟩ = some (.bool (!d5.dark)) := hR'.obj.cell 1
  have k3 : w5.cell? ⟨b2, 3, none⟩ = some (.int .i64 (d5.wrote : Int)) := hR'.obj.cell 3
  cases ha : d5.armed with
  | true =>
    have hlK : leftK d5.armed d5.left 0 = (d5.left : Int) := by rw [leftK, if_pos ha, Nat.sub_zero]
    have k2 : w5.cell? ⟨b2, 2, none⟩ = some (.int .i64 (d5.left : Int)) := by rw [← hlK]; exact hR'.obj.cell 2
    have hmx : max (d5.left : Int) 0 = (d5.left : Int) := by omega
    have hge : (0 : Int) ≤ (d5.left : Int) := by omega
    have hAr := stoArmed_any b1 g1 cap1 d5 w5 hS
    rw [ha] at hAr
    have HAr := Lib.hid hAr
    clear hlK ha hAr
    refine HAr.out.mono ?_
    rintro e w6 ⟨rfl, rfl⟩
    go_wp2
    go_quiet (first | (go_at_call 51; refine Calls.quiet_of_same (stoPower_any b1 g1 cap1 d5 _ ?_); exact hS.drewN _) | (go_at_call 48; refine Calls.quiet_of_same (stoWrote_any b1 g1 cap1 d5 _ ?_); exact hS.drewN _))
    go_wp2
    go_ret
    exact ⟨rfl, hS.drewN _, RstAt.drewN hR _, hK.drewN _⟩
  | false =>
    have hlK : leftK d5.armed d5.left 0 = -1 := by rw [leftK, if_neg (by simp [ha])]
    have k2 : w5.cell? ⟨b2, 2, none⟩ = some (.int .i64 (-1)) := by rw [← hlK]; exact hR'.obj.cell 2
    have hAr := stoArmed_any b1 g1 cap1 d5 w5 hS
    rw [ha] at hAr
    have HAr := Lib.hid hAr
    clear hlK ha hAr
    refine HAr.out.mono ?_
    rintro e w6 ⟨rfl, rfl⟩
    go_wp2
    go_quiet (first | (go_at_call 51; refine Calls.quiet_of_same (stoPower_any b1 g1 cap1 d5 _ ?_); exact hS.drewN _) | (go_at_call 48; refine Calls.quiet_of_same (stoWrote_any b1 g1 cap1 d5 _ ?_); exact hS.drewN _))
    go_wp2
    go_ret
    exact ⟨rfl, hS.drewN _, RstAt.drewN hR _, hK.drewN _⟩
set_option maxRecDepth 100000 in
set_option maxHeartbeats 4000000 in
theorem one_on (b1 g1 cap1 b2 g2 cap2 : Nat) (d : Sto) (x : ActV) (hq : x.what % 5 = 4) (hw : x.what < 256) (hn : -9223372036854775808 ≤ x.n ∧ x.n ≤ 9223372036854775807) (hd1 : b1 ≠ b2) (hd2 : b1 ≠ g2) (hd3 : g1 ≠ b2) (hd4 : g1 ≠ g2) (w : World) (h1 : StoAt w b1 g1 cap1 d) (h2 : RAs w b2 g2 cap2 d) :
    Calls Try.prog 56 #[.pointer (some ⟨b1, 0, none⟩), .pointer (some ⟨b2, 0, none⟩), .agg #[.int .u8 (x.what : Int), .int .i64 x.at_, .int .i64 x.n, .string x.s]] w fun e w' =>
      e = .returned (.bool true) ∧ StoAt w' b1 g1 cap1 (stepS d x) ∧ RAs w' b2 g2 cap2 (stepS d x) ∧ FourKeep b1 g1 b2 g2 w w' := by
  have hqi : (x.what : Int) % 5 = 4 := by omega
  have hst : stepS d x = { d with dark := false } := by simp only [stepS, hq]
  obtain ⟨d5, hd5⟩ : ∃ d5 : Sto, d5 = stepS d x := ⟨_, rfl⟩
  rw [← hd5]
  rw [hst] at hd5
  have HD5 := Lib.hid hd5
  clear hst hq hd5
  have hA : Keep (fun k => k = b1 ∨ k = g1 ∨ k = b2 ∨ k = g2) w (w.alloc (.cells #[.int .u8 (x.what : Int), .int .i64 x.at_, .int .i64 x.n, .string x.s] 72)) := (Keep.refl _ w).alloc _
  have h1a := h1.keep (Keep.of_below (S := fun _ => False) ((Below.refl w.heap.size w).alloc (Nat.le_refl _) (.cells #[.int .u8 (x.what : Int), .int .i64 x.at_, .int .i64 x.n, .string x.s] 72))) (by simp) (by simp)
  have h2a := RstAt.keep h2 (Keep.of_below (S := fun _ => False) ((Below.refl w.heap.size w).alloc (Nat.le_refl _) (.cells #[.int .u8 (x.what : Int), .int .i64 x.at_, .int .i64 x.n, .string x.s] 72))) (by simp) (by simp)
  have hX : ObjAt (w.alloc (.cells #[.int .u8 (x.what : Int), .int .i64 x.at_, .int .i64 x.n, .string x.s] 72)) w.heap.size #[.int .u8 (x.what : Int), .int .i64 x.at_, .int .i64 x.n, .string x.s] 72 := ObjAt.new _ _ _
  have hb1 := h1.obj.lt
  have hb2 := h2.obj.lt
  have hg1 := h1.row.1
  have hg2 := h2.row.1
  go_enter Try.func56, Try.ntmps56
  go_wp2_with fail
  refine (stoOn_any b1 g1 cap1 d _ h1a).mono ?_
  rintro e w3 ⟨rfl, hS3, hk3⟩
  have hR3 := RstAt.keep h2a hk3 (by omega) (by omega)
  have c1 : w3.cell? ⟨b2, 1, none⟩ = some (.bool (!d.dark)) := hR3.obj.cell 1
  have f1 : w3.frozen? ⟨b2, 1, none⟩ = false := hR3.obj.free 1
  have hk5 : Keep (fun k => k = b2 ∨ k = g2) w3 (w3.setCell ⟨b2, 1, none⟩ (.bool true)) := (Keep.refl _ w3).setCell (p := ⟨b2, 1, none⟩) (.inr (.inl rfl)) _
  have hS := hS3.keep hk5 (by omega) (by omega)
  have hne2 := RstAt.ne h2
  have hR : RAs (w3.setCell ⟨b2, 1, none⟩ (.bool true)) b2 g2 cap2 { d with dark := false } := ⟨hR3.obj.set 1 (.bool true), hR3.row.block (heap_setCell_other _ _ _ _ (by exact hne2)), hne2, RstAt.le h2, RstAt.max h2, RstAt.most h2⟩
  have hK : FourKeep b1 g1 b2 g2 w (w3.setCell ⟨b2, 1, none⟩ (.bool true)) := hA.trans ((hk3.mono (fun k _ hk => by omega)).trans (hk5.mono (fun k _ hk => by omega)))
  clear hS3 hR3 hk3 hk5 h1 h2 h1a h2a hA
  go_wp2_with fail
  generalize w3.setCell ⟨b2, 1, none⟩ (.bool true) = w5 at hS hR hK ⊢
  -- behind the act: hS, hR at w5 of d5; hK
  rw [← HD5.out] at hS hR
  have hR' : RstAt w5 b2 g2 cap2 d5.l (!d5.dark) (leftK d5.armed d5.left 0) d5.wrote := hR
  have k1 : w5.cell? ⟨b2, 1, none⟩ = some (.bool (!d5.dark)) := hR'.obj.cell 1
  have k3 : w5.cell? ⟨b2, 3, none⟩ = some (.int .i64 (d5.wrote : Int)) := hR'.obj.cell 3
  cases ha : d5.armed with
  | true =>
    have hlK : leftK d5.armed d5.left 0 = (d5.left : Int) := by rw [leftK, if_pos ha, Nat.sub_zero]
    have k2 : w5.cell? ⟨b2, 2, none⟩ = some (.int .i64 (d5.left : Int)) := by rw [← hlK]; exact hR'.obj.cell 2
    have hmx : max (d5.left : Int) 0 = (d5.left : Int) := by omega
    have hge : (0 : Int) ≤ (d5.left : Int) := by omega
    have hAr := stoArmed_any b1 g1 cap1 d5 w5 hS
    rw [ha] at hAr
    have HAr := Lib.hid hAr
    clear hlK ha hAr
    refine HAr.out.mono ?_
    rintro e w6 ⟨rfl, rfl⟩
    go_wp2
    go_quiet (first | (go_at_call 51; refine Calls.quiet_of_same (stoPower_any b1 g1 cap1 d5 _ ?_); exact hS.drewN _) | (go_at_call 48; refine Calls.quiet_of_same (stoWrote_any b1 g1 cap1 d5 _ ?_); exact hS.drewN _))
    go_wp2
    go_ret
    exact ⟨rfl, hS.drewN _, RstAt.drewN hR _, hK.drewN _⟩
  | false =>
    have hlK : leftK d5.armed d5.left 0 = -1 := by rw [leftK, if_neg (by simp [ha])]
    have k2 : w5.cell? ⟨b2, 2, none⟩ = some (.int .i64 (-1)) := by rw [← hlK]; exact hR'.obj.cell 2
    have hAr := stoArmed_any b1 g1 cap1 d5 w5 hS
    rw [ha] at hAr
    have HAr := Lib.hid hAr
    clear hlK ha hAr
    refine HAr.out.mono ?_
    rintro e w6 ⟨rfl, rfl⟩
    go_wp2
    go_quiet (first | (go_at_call 51; refine Calls.quiet_of_same (stoPower_any b1 g1 cap1 d5 _ ?_); exact hS.drewN _) | (go_at_call 48; refine Calls.quiet_of_same (stoWrote_any b1 g1 cap1 d5 _ ?_); exact hS.drewN _))
    go_wp2
    go_ret
    exact ⟨rfl, hS.drewN _, RstAt.drewN hR _, hK.drewN _⟩
set_option maxRecDepth 100000 in
set_option maxHeartbeats 4000000 in
theorem one_arm (b1 g1 cap1 b2 g2 cap2 : Nat) (d : Sto) (x : ActV) (hq : x.what % 5 = 2) (hw : x.what < 256) (hn : -9223372036854775808 ≤ x.n ∧ x.n ≤ 9223372036854775807) (hd1 : b1 ≠ b2) (hd2 : b1 ≠ g2) (hd3 : g1 ≠ b2) (hd4 : g1 ≠ g2) (w : World) (h1 : StoAt w b1 g1 cap1 d) (h2 : RAs w b2 g2 cap2 d) :
    Calls Try.prog 56 #[.pointer (some ⟨b1, 0, none⟩), .pointer (some ⟨b2, 0, none⟩), .agg #[.int .u8 (x.what : Int), .int .i64 x.at_, .int .i64 x.n, .string x.s]] w fun e w' =>
      e = .returned (.bool true) ∧ StoAt w' b1 g1 cap1 (stepS d x) ∧ RAs w' b2 g2 cap2 (stepS d x) ∧ FourKeep b1 g1 b2 g2 w w' := by
  have hqi : (x.what : Int) % 5 = 2 := by omega
  have hst : stepS d x = { d with armed := true, left := x.n.toNat } := by simp only [stepS, hq]
  obtain ⟨d5, hd5⟩ : ∃ d5 : Sto, d5 = stepS d x := ⟨_, rfl⟩
  rw [← hd5]
  rw [hst] at hd5
  have HD5 := Lib.hid hd5
  clear hst hq hd5
  have hA : Keep (fun k => k = b1 ∨ k = g1 ∨ k = b2 ∨ k = g2) w (w.alloc (.cells #[.int .u8 (x.what : Int), .int .i64 x.at_, .int .i64 x.n, .string x.s] 72)) := (Keep.refl _ w).alloc _
  have h1a := h1.keep (Keep.of_below (S := fun _ => False) ((Below.refl w.heap.size w).alloc (Nat.le_refl _) (.cells #[.int .u8 (x.what : Int), .int .i64 x.at_, .int .i64 x.n, .string x.s] 72))) (by simp) (by simp)
  have h2a := RstAt.keep h2 (Keep.of_below (S := fun _ => False) ((Below.refl w.heap.size w).alloc (Nat.le_refl _) (.cells #[.int .u8 (x.what : Int), .int .i64 x.at_, .int .i64 x.n, .string x.s] 72))) (by simp) (by simp)
  have hX : ObjAt (w.alloc (.cells #[.int .u8 (x.what : Int), .int .i64 x.at_, .int .i64 x.n, .string x.s] 72)) w.heap.size #[.int .u8 (x.what : Int), .int .i64 x.at_, .int .i64 x.n, .string x.s] 72 := ObjAt.new _ _ _
  have hb1 := h1.obj.lt
  have hb2 := h2.obj.lt
  have hg1 := h1.row.1
  have hg2 := h2.row.1
  go_enter Try.func56, Try.ntmps56
  have x2 : (w.alloc (.cells #[.int .u8 (x.what : Int), .int .i64 x.at_, .int .i64 x.n, .string x.s] 72)).cell? ⟨w.heap.size, 2, none⟩ = some (.int .i64 x.n) := hX.cell 2
  go_wp2_with fail
  refine (stoArm_any b1 g1 cap1 d x.n hn _ h1a).mono ?_
  rintro e w3 ⟨rfl, hS3, hk3⟩
  have hX3 := hk3.obj hX (by omega)
  have y2 : w3.cell? ⟨w.heap.size, 2, none⟩ = some (.int .i64 x.n) := hX3.cell 2
  have hR3 := RstAt.keep h2a hk3 (by omega) (by omega)
  have c1 : w3.cell? ⟨b2, 2, none⟩ = some (.int .i64 (leftK d.armed d.left 0)) := hR3.obj.cell 2
  have f1 : w3.frozen? ⟨b2, 2, none⟩ = false := hR3.obj.free 2
  have hk5 : Keep (fun k => k = b2 ∨ k = g2) w3 (w3.setCell ⟨b2, 2, none⟩ (.int .i64 (max x.n 0))) := (Keep.refl _ w3).setCell (p := ⟨b2, 2, none⟩) (.inr (.inl rfl)) _
  have hS := hS3.keep hk5 (by omega) (by omega)
  have hne2 := RstAt.ne h2
  have hmx0 : (max x.n 0) = leftK true x.n.toNat 0 := by unfold leftK; simp
  have hR : RAs (w3.setCell ⟨b2, 2, none⟩ (.int .i64 (max x.n 0))) b2 g2 cap2 { d with armed := true, left := x.n.toNat } := ⟨by have := hR3.obj.set 2 (.int .i64 (max x.n 0)); rw [hmx0] at this ⊢; exact this, hR3.row.block (heap_setCell_other _ _ _ _ (by exact hne2)), hne2, RstAt.le h2, RstAt.max h2, RstAt.most h2⟩
  have hK : FourKeep b1 g1 b2 g2 w (w3.setCell ⟨b2, 2, none⟩ (.int .i64 (max x.n 0))) := hA.trans ((hk3.mono (fun k _ hk => by omega)).trans (hk5.mono (fun k _ hk => by omega)))
  clear hS3 hR3 hk3 hk5 h1 h2 h1a h2a hA hmx0 hX hX3 x2
  go_wp2_with fail
  generalize w3.setCell ⟨b2, 2, none⟩ (.int .i64 (max x.n 0)) = w5 at hS hR hK ⊢
  clear y2 c1 f1
  -- behind the act: hS, hR at w5 of d5; hK
  rw [← HD5.out] at hS hR
  have hR' : RstAt w5 b2 g2 cap2 d5.l (!d5.dark) (leftK d5.armed d5.left 0) d5.wrote := hR
  have k1 : w5.cell? ⟨b2, 1, none⟩ = some (.bool (!d5.dark)) := hR'.obj.cell 1
  have k3 : w5.cell? ⟨b2, 3, none⟩ = some (.int .i64 (d5.wrote : Int)) := hR'.obj.cell 3
  cases ha : d5.armed with
  | true =>
    have hlK : leftK d5.armed d5.left 0 = (d5.left : Int) := by rw [leftK, if_pos ha, Nat.sub_zero]
    have k2 : w5.cell? ⟨b2, 2, none⟩ = some (.int .i64 (d5.left : Int)) := by rw [← hlK]; exact hR'.obj.cell 2
    have hmx : max (d5.left : Int) 0 = (d5.left : Int) := by omega
    have hge : (0 : Int) ≤ (d5.left : Int) := by omega
    have hAr := stoArmed_any b1 g1 cap1 d5 w5 hS
    rw [ha] at hAr
    have HAr := Lib.hid hAr
    clear hlK ha hAr
    refine HAr.out.mono ?_
    rintro e w6 ⟨rfl, rfl⟩
    go_wp2
    go_quiet (first | (go_at_call 51; refine Calls.quiet_of_same (stoPower_any b1 g1 cap1 d5 _ ?_); exact hS.drewN _) | (go_at_call 48; refine Calls.quiet_of_same (stoWrote_any b1 g1 cap1 d5 _ ?_); exact hS.drewN _))
    go_wp2
    go_ret
    exact ⟨rfl, hS.drewN _, RstAt.drewN hR _, hK.drewN _⟩
  | false =>
    have hlK : leftK d5.armed d5.left 0 = -1 := by rw [leftK, if_neg (by simp [ha])]
    have k2 : w5.cell? ⟨b2, 2, none⟩ = some (.int .i64 (-1)) := by rw [← hlK]; exact hR'.obj.cell 2
    have hAr := stoArmed_any b1 g1 cap1 d5 w5 hS
    rw [ha] at hAr
    have HAr := Lib.hid hAr
    clear hlK ha hAr
    refine HAr.out.mono ?_
    rintro e w6 ⟨rfl, rfl⟩
    go_wp2
    go_quiet (first | (go_at_call 51; refine Calls.quiet_of_same (stoPower_any b1 g1 cap1 d5 _ ?_); exact hS.drewN _) | (go_at_call 48; refine Calls.quiet_of_same (stoWrote_any b1 g1 cap1 d5 _ ?_); exact hS.drewN _))
    go_wp2
    go_ret
    exact ⟨rfl, hS.drewN _, RstAt.drewN hR _, hK.drewN _⟩
end Go.Proofs.Ytpkgpffodkfncaa
