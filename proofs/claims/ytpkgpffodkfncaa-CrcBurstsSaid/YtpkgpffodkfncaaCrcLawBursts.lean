/- The laws of bursts: their walks. -/
import Derived.Test.YtpkgpffodkfncaaCrcAwake
import Derived.Test.YtpkgpffodkfncaaCrcPlain3
import Derived.OpenShut
namespace Go.Proofs.Ytpkgpffodkfncaa
open Go.RowKit
theorem opened_zero (t : ByteArray) (h : Crc.more 65535 t.data.toList ≠ 0) : Crc.opened t = (⟨#[]⟩, false) := Crc.opened_no t h
set_option maxRecDepth 100000 in
set_option maxHeartbeats 1000000 in
theorem crcBursts_walk (s : ByteArray) (hs : s.size ≤ 140737488351232) (a : Int) (ha : (Lit.int .i64 a).wf = true) (p : Int) (hp : (Lit.int .u16 p).wf = true) (w : World) :
    Calls Try.prog 4 #[.string s, .int .i64 a, .int .u16 p] w fun e w' => e = .returned (.bool true) ∧ Below w.heap.size w w' := by
  have hb := bounds_u16 hp
  obtain ⟨m, rfl⟩ := Int.eq_ofNat_of_zero_le hb.1
  have hm : m < 65536 := by omega
  by_cases hl : (s.size : Int) ≤ 2000
  · have hmax : s.size + 2 ≤ maxLen := by unfold maxLen; omega
    have hss := Crc.sealed_size s
    have H1 := Lib.hid (Crc.open_sealed s)
    have H2 := Lib.hid (Crc.rsealed_eq s)
    have hbs := Crc.burst_size (Crc.sealed s) a m
    have h8 : (Crc.sealed s).size * 8 ≤ maxLen := by unfold maxLen; omega
    have hmS : (Crc.sealed s).size ≤ maxLen := by unfold maxLen; omega
    have hmB : (Crc.burst (Crc.sealed s) a m).size ≤ maxLen := by unfold maxLen; omega
    have HF : Hid (Crc.burst (Crc.sealed s) a m ≠ Crc.sealed s → Crc.opened (Crc.burst (Crc.sealed s) a m) = (⟨#[]⟩, false)) :=
      Lib.hid fun h => Crc.opened_no _ (Crc.burst_found _ a m hm (Crc.sealed_zero s) h)
    clear hss hbs
    go_enter Try.func4, Try.ntmps4
    go_wp2_with fail
    refine (awake_any w).mono ?_
    rintro e w1 ⟨rfl, hb1⟩
    go_wp2_with fail
    refine (sealed_any s hmax w1).mono ?_
    rintro e w2 ⟨rfl, hb2⟩
    go_wp2_with fail
    refine (open_any _ hmS w2).mono ?_
    rintro e w' ⟨rfl, rfl⟩
    rw [H1.out]
    go_wp2_with fail
    refine (rsealed_any s hmax w2).mono ?_
    rintro e w3 ⟨rfl, hb3⟩
    rw [H2.out]
    go_wp2_with fail
    refine (burst_any _ h8 a m hm w3).mono ?_
    rintro e w4 ⟨rfl, hb4⟩
    go_wp2_with fail
    refine (open_any _ hmB w4).mono ?_
    rintro e w' ⟨rfl, rfl⟩
    have hbel : Below w.heap.size w w4 := hb1.trans ((hb2.mono hb1.size).trans ((hb3.mono (Nat.le_trans hb1.size hb2.size)).trans (hb4.mono (Nat.le_trans hb1.size (Nat.le_trans hb2.size hb3.size)))))
    by_cases he : Crc.burst (Crc.sealed s) a m = Crc.sealed s
    · rw [he, H1.out]
      go_wp2
      go_ret
      exact ⟨rfl, hbel⟩
    · rw [HF.out he]
      have hne := bytes_ne he
      go_wp2
      go_ret
      exact ⟨rfl, hbel⟩
  · go_enter Try.func4, Try.ntmps4
    go_wp2_with fail
    refine (awake_any w).mono ?_
    rintro e w1 ⟨rfl, hb1⟩
    go_wp2
    go_ret
    exact ⟨rfl, hb1⟩
set_option maxRecDepth 100000 in
set_option maxHeartbeats 1000000 in
theorem crcFlips_walk (s : ByteArray) (hs : s.size ≤ 140737488351232) (a : Int) (ha : (Lit.int .i64 a).wf = true) (p : Int) (hp : (Lit.int .u16 p).wf = true) (w : World) :
    Calls Try.prog 5 #[.string s, .int .i64 a, .int .u16 p] w fun e w' => e = .returned (.bool true) ∧ Below w.heap.size w w' := by
  have hb := bounds_u16 hp
  obtain ⟨m, rfl⟩ := Int.eq_ofNat_of_zero_le hb.1
  have hm : m < 65536 := by omega
  by_cases hl : (s.size : Int) ≤ 2000
  · have h8 : s.size * 8 ≤ maxLen := by unfold maxLen; omega
    have hmS : s.size ≤ maxLen := by unfold maxLen; omega
    have hbs := Crc.burst_size s a m
    have h8B : (Crc.burst s a m).size * 8 ≤ maxLen := by unfold maxLen; omega
    have H1 := Lib.hid (Crc.rburst_eq s a m hm)
    have H2 := Lib.hid (Crc.burst_twice s a m)
    clear hbs
    go_enter Try.func5, Try.ntmps5
    go_wp2_with fail
    refine (awake_any w).mono ?_
    rintro e w1 ⟨rfl, hb1⟩
    go_wp2_with fail
    refine (burst_any s h8 a m hm w1).mono ?_
    rintro e w2 ⟨rfl, hb2⟩
    go_wp2_with fail
    refine (rburst_any s h8 a m hm w2).mono ?_
    rintro e w3 ⟨rfl, hb3⟩
    rw [H1.out]
    go_wp2_with fail
    refine (burst_any _ h8B a m hm w3).mono ?_
    rintro e w4 ⟨rfl, hb4⟩
    rw [H2.out]
    go_wp2_with fail
    refine (open_any _ hmS w4).mono ?_
    rintro e w' ⟨rfl, rfl⟩
    have hbel : Below w.heap.size w w4 := hb1.trans ((hb2.mono hb1.size).trans ((hb3.mono (Nat.le_trans hb1.size hb2.size)).trans (hb4.mono (Nat.le_trans hb1.size (Nat.le_trans hb2.size hb3.size)))))
    by_cases h2 : s.size < 2
    · rw [Crc.opened_short s h2]
      go_wp2
      go_ret
      exact ⟨rfl, hbel⟩
    · have hx : (s.extract 0 (s.size - 2)).size = s.size - 2 := by simp
      have hxm : (s.extract 0 (s.size - 2)).size + 2 ≤ maxLen := by unfold maxLen; omega
      have H3 := Lib.hid (Crc.rsealed_eq (s.extract 0 (s.size - 2)))
      have hw4 : w.heap.size ≤ w4.heap.size := hbel.size
      clear hx
      by_cases hz : Crc.more 65535 s.data.toList = 0
      · have he := (Crc.open_just s (by omega)).1 hz
        have HE := Lib.hid he
        rw [Crc.opened_yes s h2 hz]
        clear he hz
        go_wp2_with fail
        refine (rsealed_any _ hxm w4).mono ?_
        rintro e w5 ⟨rfl, hb5⟩
        rw [H3.out, HE.out]
        go_wp2
        go_ret
        exact ⟨rfl, hbel.trans (hb5.mono hw4)⟩
      · have he : Crc.sealed (s.extract 0 (s.size - 2)) ≠ s := fun h => hz ((Crc.open_just s (by omega)).2 h)
        have HE := Lib.hid (bytes_ne he)
        rw [Crc.opened_no s hz]
        clear he hz
        go_wp2_with fail
        refine (rsealed_any _ hxm w4).mono ?_
        rintro e w5 ⟨rfl, hb5⟩
        rw [H3.out]
        have hne := HE.out
        go_wp2
        all_goals
          go_ret
          exact ⟨rfl, hbel.trans (hb5.mono hw4)⟩
  · go_enter Try.func5, Try.ntmps5
    go_wp2_with fail
    refine (awake_any w).mono ?_
    rintro e w1 ⟨rfl, hb1⟩
    go_wp2
    go_ret
    exact ⟨rfl, hb1⟩
end Go.Proofs.Ytpkgpffodkfncaa
