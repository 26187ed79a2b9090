/- The law QueueOrder: of each class things go in the order in which they came; what was dropped is as many as found no place. -/
import Derived.Test.YtkeeledkdoiglaaQoMore
namespace Go.Proofs.Ytkeeledkdoiglaa.Qo
open Go.RowKit Go.Proofs.Ytkeeledkdoiglaa
/-- Between two that come. -/
structure QR (w0 : World) (b8 b9 b10 qb cb n base len : Nat) (d c : Value) (wr : World) (i dr : Nat) (l0 l1 i0 i1 : List Int) : Prop where
  le : i ≤ len
  ctr : c = .int .i64 (i : Int)
  drp : d = .int .i64 (dr : Int)
  st : SQ w0 wr b8 b9 b10 qb cb n base (decide (0 < dr)) l0 l1 i0 i1
  cnt : i0.length + i1.length + dr = i
/-- No cell has changed. -/
def Same (w1 w2 : World) : Prop := ∀ p, w2.cell? p = w1.cell? p
theorem Same.drewN {w1 w2 : World} (h : Same w1 w2) (k : Nat) : Same w1 (w2.drewN k) := h
set_option maxRecDepth 100000 in
set_option maxHeartbeats 40000000 in
theorem queueOrder_law (p : Nat) (hp : p < 256) (a a' : Option Addr) (len cap len' cap' : Nat) (z z' : List Bool) (w : World) (hz : IsB w a len z) (hz' : IsB w a' len' z') (hcap : len ≤ maxLen) (hcap' : len' ≤ maxLen) :
    Calls Try.prog 8 #[.int .u8 (p : Int), .slice a len cap, .slice a' len' cap'] w fun e w' => e = .returned (.bool true) ∧ Below w.heap.size w w' := by
  have HZ := Lib.hid hz
  have HZ' := Lib.hid hz'
  have HP := Lib.hid (And.intro hcap hcap')
  clear hz hz' hcap hcap'
  by_cases hl : (len : Int) ≤ 200
  · by_cases hl2 : (len' : Int) ≤ (len : Int)
    · obtain ⟨n, hn⟩ : ∃ n : Nat, n = p % 65 := ⟨_, rfl⟩
      have hn1 : (p : Int) % 65 = (n : Int) := by omega
      have hn2 : n ≤ 64 := by omega
      have HN := Lib.hid hn2
      clear hn
      go_enter Try.func8, Try.ntmps8
      go_wp2_with fail
      refine (awake10_any w).mono ?_
      rintro e w1 ⟨rfl, hb1⟩
      have HB1 := Lib.hid hb1
      clear hb1
      go_wp2_with fail
      refine (Qi.newQ (n : Int) w1).mono ?_
      rintro e w2 ⟨qb, cb, hqb, hcb, rfl, hb2, hq2⟩
      have hm : (min (max (n : Int) 0) 64).toNat = n := by omega
      rw [hm] at hq2
      have hs0 := SQ.start w w2 qb cb n hq2 (Nat.le_trans HB1.out.size hqb) (Nat.le_trans HB1.out.size hcb) (HB1.out.trans (hb2.mono HB1.out.size))
      have HS0 := Lib.hid hs0
      clear hm hq2 hqb hcb hb2 hs0
      go_wp2_with fail
      go_loopw [11, 40] (fun d c wr => ∃ (i dr : Nat) (l0 l1 i0 i1 : List Int), QR w w2.heap.size (w2.heap.size + 1) (w2.heap.size + 1 + 1) qb cb n (w2.heap.size + 1 + 1 + 1) len d c wr i dr l0 l1 i0 i1) (fun _ c _ => len - (intOf c).toNat)
      case atStart => exact ⟨0, 0, [], [], [], [], Nat.zero_le _, rfl, rfl, HS0.out, rfl⟩
      case round =>
        obtain ⟨i, dr, l0, l1, i0, i1, R⟩ := hrel
        have hle := R.le
        obtain rfl := R.ctr
        obtain rfl := R.drp
        have HR := Lib.hid R
        clear R
        by_cases hlt : i < len
        · obtain ⟨zlen, hz1⟩ := HZ.out
          obtain ⟨zb, zo, rfl, hzb, hzc⟩ := hz1 (by omega)
          have hci : wr.cell? ⟨zb, zo + i, none⟩ = some (.bool (z.getD i false)) := (HR.out.st.below.cell (p := ⟨zb, zo + i, none⟩) hzb).trans (hzc i hlt)
          have HZC := Lib.hid hzc
          have HZB := Lib.hid hzb
          obtain ⟨hi, hhi⟩ : ∃ b, b = z.getD i false := ⟨_, rfl⟩
          rw [← hhi] at hci
          have hc8 := HR.out.st.c8
          have hlti : (i : Int) < (len : Int) := by omega
          clear hz1 hzc hzb hhi zlen
          by_cases ht : i < len'
          · obtain ⟨zlen', hz1'⟩ := HZ'.out
            obtain ⟨yb, yo, rfl, hyb, hyc⟩ := hz1' (by omega)
            have hti : wr.cell? ⟨yb, yo + i, none⟩ = some (.bool (z'.getD i false)) := (HR.out.st.below.cell (p := ⟨yb, yo + i, none⟩) hyb).trans (hyc i ht)
            obtain ⟨tk, htk⟩ : ∃ b, b = z'.getD i false := ⟨_, rfl⟩
            rw [← htk] at hti
            have hlti' : decide ((i : Int) < (len' : Int)) = true := by simp; omega
            clear hz1' hyc hyb htk zlen'
            cases tk
            · obtain ⟨m0, hm0⟩ : ∃ m, m = l0 := ⟨_, rfl⟩
              obtain ⟨m1, hm1⟩ : ∃ m, m = l1 := ⟨_, rfl⟩
              have HS := Lib.hid HR.out.st
              rw [← hm0, ← hm1] at HS
              clear hm0 hm1
              have hlen := HS.out.q.lens
              have hcnt := HR.out.cnt
              have HLEN := Lib.hid hlen
              by_cases hfull : m0.length + m1.length = n
              · have hr0 : (n : Int) - (m1.length : Int) - (m0.length : Int) = 0 := by omega
                go_wp2_with fail
                refine (Qi.roomQ qb cb n _ m0 m1 wr HS.out.q).mono ?_
                rintro e w4 ⟨rfl, k4, rfl⟩
                have HS4 := Lib.hid (HS.out.drewN k4)
                clear hc8
                generalize wr.drewN k4 = w4 at *
                have hc8 := HS4.out.c8
                go_wp2_with fail
                refine (Qi.putQ qb cb n _ hi (i : Int) m0 m1 w4 HS4.out.q).mono ?_
                rintro e w5 ⟨he, hk, hq⟩
                rw [if_pos hfull] at he hq
                subst he
                have HS5 := Lib.hid (HS4.out.queue hk hq)
                clear hk hq hc8
                have hdr : dr ≤ 200 := by have := HR.out.le; omega
                go_wp2
                go_roundw
                case rel =>
                  refine ⟨i + 1, dr + 1, m0, m1, i0, i1, by omega, by go_num, by go_num, ?_, by have := HR.out.cnt; omega⟩
                  rw [decide_eq_true (by omega)]
                  exact HS5.out
                case measure => simp [intOf]; omega
              · have hr1 : ((n : Int) - (m1.length : Int) - (m0.length : Int) == 0) = false := by simp; omega
                go_wp2_with fail
                refine (Qi.roomQ qb cb n _ m0 m1 wr HS.out.q).mono ?_
                rintro e w4 ⟨rfl, k4, rfl⟩
                have HS4 := Lib.hid (HS.out.drewN k4)
                clear hc8
                generalize wr.drewN k4 = w4 at *
                have hc8 := HS4.out.c8
                go_wp2_with fail
                refine (Qi.putQ qb cb n _ hi (i : Int) m0 m1 w4 HS4.out.q).mono ?_
                rintro e w5 ⟨he, hk, hq⟩
                rw [if_neg hfull] at he hq
                subst he
                obtain ⟨o0, o1, vi0, vi1, vo0, vo1, hQ, e0, e1⟩ := HS4.out
                have HE := Lib.hid (And.intro e0 e1)
                clear e0 e1 hc8
                obtain ⟨ii, hi1, hi2, hi3', hi4⟩ := int_info
                have HI := Lib.hid (And.intro hi1 (And.intro hi2 (And.intro hi3' hi4)))
                clear hi1 hi2 hi3' hi4
                have hli : i0.length ≤ 200 ∧ i1.length ≤ 200 := by have := HR.out.le; omega
                have HLI := Lib.hid hli
                clear hli hlen hcnt
                cases hi
                · have HQ5 := Lib.hid (show QO w w5 w2.heap.size (w2.heap.size + 1) (w2.heap.size + 1 + 1) qb cb n (w2.heap.size + 1 + 1 + 1) (decide (0 < dr)) (m0 ++ [(i : Int)]) m1 i0 i1 o0 o1 vi0 vi1 vo0 vo1 from hQ.queue hk hq)
                  clear hQ hk hq
                  have d0 : w5.cell? ⟨w2.heap.size + 1, 0, none⟩ = some vi0 := HQ5.out.a9.cell 0
                  go_wp2_with (at_builtin; refine wpList_append_one rfl (.tmp 77) (.tmp 79) 34 rfl (w2.heap.size + 1 + 1 + 1) 3 ii (.int .i64 0) 8 (by kernel_rfl) HI.out.1 HI.out.2.1 HI.out.2.2.1 HI.out.2.2.2 rfl vi0 i0.length (ints i0) (.int .i64 (i : Int)) rfl HQ5.out.ri0 rfl rfl (by have := HLI.out; unfold maxLen; omega) (by have := HLI.out; omega) HQ5.out.heap ?_)
                  intro v' w6 ho hg hv
                  obtain ⟨gn, capn, rfl, -, -⟩ := ho.form (by omega)
                  have HQ6 := Lib.hid (HQ5.out.put_vi0 ho hg hv)
                  have hb9 : w6.heap[w2.heap.size + 1]? = w5.heap[w2.heap.size + 1]? := by
                    have hl := HQ5.out.lt
                    exact hg.block (w2.heap.size + 1) (by omega) (fun e => by have := (HQ5.out.ri0.lt _ e.symm).1; omega)
                  have d1 : w6.cell? ⟨w2.heap.size + 1, 0, none⟩ = some vi0 := (World.cell?_of_block (a := ⟨w2.heap.size + 1, 0, none⟩) hb9).trans d0
                  have f1 : w6.frozen? ⟨w2.heap.size + 1, 0, none⟩ = false := (World.frozen?_of_block (a := ⟨w2.heap.size + 1, 0, none⟩) hb9).trans (HQ5.out.a9.free 0)
                  clear ho hg hv d0 hb9
                  go_wp2
                  go_roundw
                  case rel => exact ⟨i + 1, dr, _, _, _, _, by omega, by go_num, rfl, ⟨o0, o1, _, _, _, _, HQ6.out, by rw [HE.out.1]; simp, HE.out.2⟩, by have := HR.out.cnt; simp; omega⟩
                  case measure => simp [intOf]; omega
                · have HQ5 := Lib.hid (show QO w w5 w2.heap.size (w2.heap.size + 1) (w2.heap.size + 1 + 1) qb cb n (w2.heap.size + 1 + 1 + 1) (decide (0 < dr)) m0 (m1 ++ [(i : Int)]) i0 i1 o0 o1 vi0 vi1 vo0 vo1 from hQ.queue hk hq)
                  clear hQ hk hq
                  have d0 : w5.cell? ⟨w2.heap.size + 1, 1, none⟩ = some vi1 := HQ5.out.a9.cell 1
                  go_wp2_with (at_builtin; refine wpList_append_one rfl (.tmp 77) (.tmp 79) 34 rfl (w2.heap.size + 1 + 1 + 1) 3 ii (.int .i64 0) 8 (by kernel_rfl) HI.out.1 HI.out.2.1 HI.out.2.2.1 HI.out.2.2.2 rfl vi1 i1.length (ints i1) (.int .i64 (i : Int)) rfl HQ5.out.ri1 rfl rfl (by have := HLI.out; unfold maxLen; omega) (by have := HLI.out; omega) HQ5.out.heap ?_)
                  intro v' w6 ho hg hv
                  obtain ⟨gn, capn, rfl, -, -⟩ := ho.form (by omega)
                  have HQ6 := Lib.hid (HQ5.out.put_vi1 ho hg hv)
                  have hb9 : w6.heap[w2.heap.size + 1]? = w5.heap[w2.heap.size + 1]? := by
                    have hl := HQ5.out.lt
                    exact hg.block (w2.heap.size + 1) (by omega) (fun e => by have := (HQ5.out.ri1.lt _ e.symm).1; omega)
                  have d1 : w6.cell? ⟨w2.heap.size + 1, 1, none⟩ = some vi1 := (World.cell?_of_block (a := ⟨w2.heap.size + 1, 1, none⟩) hb9).trans d0
                  have f1 : w6.frozen? ⟨w2.heap.size + 1, 1, none⟩ = false := (World.frozen?_of_block (a := ⟨w2.heap.size + 1, 1, none⟩) hb9).trans (HQ5.out.a9.free 1)
                  clear ho hg hv d0 hb9
                  go_wp2
                  go_roundw
                  case rel => exact ⟨i + 1, dr, _, _, _, _, by omega, by go_num, rfl, ⟨o0, o1, _, _, _, _, HQ6.out, HE.out.1, by rw [HE.out.2]; simp⟩, by have := HR.out.cnt; simp; omega⟩
                  case measure => simp [intOf]; omega
            · have hcnt := HR.out.cnt
              have hl1000 : i0.length ≤ 1000 ∧ i1.length ≤ 1000 := by omega
              have HLI0 := Lib.hid hl1000
              clear hl1000 hcnt
              go_wp2_with fail
              refine (pull_any HR.out.st HLI0.out.1 HLI0.out.2 _).mono ?_
              rintro e w3 ⟨rfl, hs3⟩
              obtain ⟨m0, m1, hs3'⟩ : ∃ m0 m1, SQ w w3 w2.heap.size (w2.heap.size + 1) (w2.heap.size + 1 + 1) qb cb n (w2.heap.size + 1 + 1 + 1) (decide (0 < dr)) m0 m1 i0 i1 := ⟨_, _, hs3⟩
              have HS3 := Lib.hid hs3'
              clear hs3 hs3' hc8 hti
              have hc8 := HS3.out.c8
              have hlen := HS3.out.q.lens
              have hcnt := HR.out.cnt
              have HLEN := Lib.hid hlen
              by_cases hfull : m0.length + m1.length = n
              · have hr0 : (n : Int) - (m1.length : Int) - (m0.length : Int) = 0 := by omega
                go_wp2_with fail
                refine (Qi.roomQ qb cb n _ m0 m1 w3 HS3.out.q).mono ?_
                rintro e w4 ⟨rfl, k4, rfl⟩
                have HS4 := Lib.hid (HS3.out.drewN k4)
                clear hc8
                generalize w3.drewN k4 = w4 at *
                have hc8 := HS4.out.c8
                go_wp2_with fail
                refine (Qi.putQ qb cb n _ hi (i : Int) m0 m1 w4 HS4.out.q).mono ?_
                rintro e w5 ⟨he, hk, hq⟩
                rw [if_pos hfull] at he hq
                subst he
                have HS5 := Lib.hid (HS4.out.queue hk hq)
                clear hk hq hc8
                have hdr : dr ≤ 200 := by have := HR.out.le; omega
                go_wp2
                go_roundw
                case rel =>
                  refine ⟨i + 1, dr + 1, m0, m1, i0, i1, by omega, by go_num, by go_num, ?_, by have := HR.out.cnt; omega⟩
                  rw [decide_eq_true (by omega)]
                  exact HS5.out
                case measure => simp [intOf]; omega
              · have hr1 : ((n : Int) - (m1.length : Int) - (m0.length : Int) == 0) = false := by simp; omega
                go_wp2_with fail
                refine (Qi.roomQ qb cb n _ m0 m1 w3 HS3.out.q).mono ?_
                rintro e w4 ⟨rfl, k4, rfl⟩
                have HS4 := Lib.hid (HS3.out.drewN k4)
                clear hc8
                generalize w3.drewN k4 = w4 at *
                have hc8 := HS4.out.c8
                go_wp2_with fail
                refine (Qi.putQ qb cb n _ hi (i : Int) m0 m1 w4 HS4.out.q).mono ?_
                rintro e w5 ⟨he, hk, hq⟩
                rw [if_neg hfull] at he hq
                subst he
                obtain ⟨o0, o1, vi0, vi1, vo0, vo1, hQ, e0, e1⟩ := HS4.out
                have HE := Lib.hid (And.intro e0 e1)
                clear e0 e1 hc8
                obtain ⟨ii, hi1, hi2, hi3', hi4⟩ := int_info
                have HI := Lib.hid (And.intro hi1 (And.intro hi2 (And.intro hi3' hi4)))
                clear hi1 hi2 hi3' hi4
                have hli : i0.length ≤ 200 ∧ i1.length ≤ 200 := by have := HR.out.le; omega
                have HLI := Lib.hid hli
                clear hli hlen hcnt
                cases hi
                · have HQ5 := Lib.hid (show QO w w5 w2.heap.size (w2.heap.size + 1) (w2.heap.size + 1 + 1) qb cb n (w2.heap.size + 1 + 1 + 1) (decide (0 < dr)) (m0 ++ [(i : Int)]) m1 i0 i1 o0 o1 vi0 vi1 vo0 vo1 from hQ.queue hk hq)
                  clear hQ hk hq
                  have d0 : w5.cell? ⟨w2.heap.size + 1, 0, none⟩ = some vi0 := HQ5.out.a9.cell 0
                  go_wp2_with (at_builtin; refine wpList_append_one rfl (.tmp 77) (.tmp 79) 34 rfl (w2.heap.size + 1 + 1 + 1) 3 ii (.int .i64 0) 8 (by kernel_rfl) HI.out.1 HI.out.2.1 HI.out.2.2.1 HI.out.2.2.2 rfl vi0 i0.length (ints i0) (.int .i64 (i : Int)) rfl HQ5.out.ri0 rfl rfl (by have := HLI.out; unfold maxLen; omega) (by have := HLI.out; omega) HQ5.out.heap ?_)
                  intro v' w6 ho hg hv
                  obtain ⟨gn, capn, rfl, -, -⟩ := ho.form (by omega)
                  have HQ6 := Lib.hid (HQ5.out.put_vi0 ho hg hv)
                  have hb9 : w6.heap[w2.heap.size + 1]? = w5.heap[w2.heap.size + 1]? := by
                    have hl := HQ5.out.lt
                    exact hg.block (w2.heap.size + 1) (by omega) (fun e => by have := (HQ5.out.ri0.lt _ e.symm).1; omega)
                  have d1 : w6.cell? ⟨w2.heap.size + 1, 0, none⟩ = some vi0 := (World.cell?_of_block (a := ⟨w2.heap.size + 1, 0, none⟩) hb9).trans d0
                  have f1 : w6.frozen? ⟨w2.heap.size + 1, 0, none⟩ = false := (World.frozen?_of_block (a := ⟨w2.heap.size + 1, 0, none⟩) hb9).trans (HQ5.out.a9.free 0)
                  clear ho hg hv d0 hb9
                  go_wp2
                  go_roundw
                  case rel => exact ⟨i + 1, dr, _, _, _, _, by omega, by go_num, rfl, ⟨o0, o1, _, _, _, _, HQ6.out, by rw [HE.out.1]; simp, HE.out.2⟩, by have := HR.out.cnt; simp; omega⟩
                  case measure => simp [intOf]; omega
                · have HQ5 := Lib.hid (show QO w w5 w2.heap.size (w2.heap.size + 1) (w2.heap.size + 1 + 1) qb cb n (w2.heap.size + 1 + 1 + 1) (decide (0 < dr)) m0 (m1 ++ [(i : Int)]) i0 i1 o0 o1 vi0 vi1 vo0 vo1 from hQ.queue hk hq)
                  clear hQ hk hq
                  have d0 : w5.cell? ⟨w2.heap.size + 1, 1, none⟩ = some vi1 := HQ5.out.a9.cell 1
                  go_wp2_with (at_builtin; refine wpList_append_one rfl (.tmp 77) (.tmp 79) 34 rfl (w2.heap.size + 1 + 1 + 1) 3 ii (.int .i64 0) 8 (by kernel_rfl) HI.out.1 HI.out.2.1 HI.out.2.2.1 HI.out.2.2.2 rfl vi1 i1.length (ints i1) (.int .i64 (i : Int)) rfl HQ5.out.ri1 rfl rfl (by have := HLI.out; unfold maxLen; omega) (by have := HLI.out; omega) HQ5.out.heap ?_)
                  intro v' w6 ho hg hv
                  obtain ⟨gn, capn, rfl, -, -⟩ := ho.form (by omega)
                  have HQ6 := Lib.hid (HQ5.out.put_vi1 ho hg hv)
                  have hb9 : w6.heap[w2.heap.size + 1]? = w5.heap[w2.heap.size + 1]? := by
                    have hl := HQ5.out.lt
                    exact hg.block (w2.heap.size + 1) (by omega) (fun e => by have := (HQ5.out.ri1.lt _ e.symm).1; omega)
                  have d1 : w6.cell? ⟨w2.heap.size + 1, 1, none⟩ = some vi1 := (World.cell?_of_block (a := ⟨w2.heap.size + 1, 1, none⟩) hb9).trans d0
                  have f1 : w6.frozen? ⟨w2.heap.size + 1, 1, none⟩ = false := (World.frozen?_of_block (a := ⟨w2.heap.size + 1, 1, none⟩) hb9).trans (HQ5.out.a9.free 1)
                  clear ho hg hv d0 hb9
                  go_wp2
                  go_roundw
                  case rel => exact ⟨i + 1, dr, _, _, _, _, by omega, by go_num, rfl, ⟨o0, o1, _, _, _, _, HQ6.out, HE.out.1, by rw [HE.out.2]; simp⟩, by have := HR.out.cnt; simp; omega⟩
                  case measure => simp [intOf]; omega
          · have hlti' : decide ((i : Int) < (len' : Int)) = false := by simp; omega
            obtain ⟨m0, hm0⟩ : ∃ m, m = l0 := ⟨_, rfl⟩
            obtain ⟨m1, hm1⟩ : ∃ m, m = l1 := ⟨_, rfl⟩
            have HS := Lib.hid HR.out.st
            rw [← hm0, ← hm1] at HS
            clear hm0 hm1
            have hlen := HS.out.q.lens
            have hcnt := HR.out.cnt
            have HLEN := Lib.hid hlen
            by_cases hfull : m0.length + m1.length = n
            · have hr0 : (n : Int) - (m1.length : Int) - (m0.length : Int) = 0 := by omega
              go_wp2_with fail
              refine (Qi.roomQ qb cb n _ m0 m1 wr HS.out.q).mono ?_
              rintro e w4 ⟨rfl, k4, rfl⟩
              have HS4 := Lib.hid (HS.out.drewN k4)
              clear hc8
              generalize wr.drewN k4 = w4 at *
              have hc8 := HS4.out.c8
              go_wp2_with fail
              refine (Qi.putQ qb cb n _ hi (i : Int) m0 m1 w4 HS4.out.q).mono ?_
              rintro e w5 ⟨he, hk, hq⟩
              rw [if_pos hfull] at he hq
              subst he
              have HS5 := Lib.hid (HS4.out.queue hk hq)
              clear hk hq hc8
              have hdr : dr ≤ 200 := by have := HR.out.le; omega
              go_wp2
              go_roundw
              case rel =>
                refine ⟨i + 1, dr + 1, m0, m1, i0, i1, by omega, by go_num, by go_num, ?_, by have := HR.out.cnt; omega⟩
                rw [decide_eq_true (by omega)]
                exact HS5.out
              case measure => simp [intOf]; omega
            · have hr1 : ((n : Int) - (m1.length : Int) - (m0.length : Int) == 0) = false := by simp; omega
              go_wp2_with fail
              refine (Qi.roomQ qb cb n _ m0 m1 wr HS.out.q).mono ?_
              rintro e w4 ⟨rfl, k4, rfl⟩
              have HS4 := Lib.hid (HS.out.drewN k4)
              clear hc8
              generalize wr.drewN k4 = w4 at *
              have hc8 := HS4.out.c8
              go_wp2_with fail
              refine (Qi.putQ qb cb n _ hi (i : Int) m0 m1 w4 HS4.out.q).mono ?_
              rintro e w5 ⟨he, hk, hq⟩
              rw [if_neg hfull] at he hq
              subst he
              obtain ⟨o0, o1, vi0, vi1, vo0, vo1, hQ, e0, e1⟩ := HS4.out
              have HE := Lib.hid (And.intro e0 e1)
              clear e0 e1 hc8
              obtain ⟨ii, hi1, hi2, hi3', hi4⟩ := int_info
              have HI := Lib.hid (And.intro hi1 (And.intro hi2 (And.intro hi3' hi4)))
              clear hi1 hi2 hi3' hi4
              have hli : i0.length ≤ 200 ∧ i1.length ≤ 200 := by have := HR.out.le; omega
              have HLI := Lib.hid hli
              clear hli hlen hcnt
              cases hi
              · have HQ5 := Lib.hid (show QO w w5 w2.heap.size (w2.heap.size + 1) (w2.heap.size + 1 + 1) qb cb n (w2.heap.size + 1 + 1 + 1) (decide (0 < dr)) (m0 ++ [(i : Int)]) m1 i0 i1 o0 o1 vi0 vi1 vo0 vo1 from hQ.queue hk hq)
                clear hQ hk hq
                have d0 : w5.cell? ⟨w2.heap.size + 1, 0, none⟩ = some vi0 := HQ5.out.a9.cell 0
                go_wp2_with (at_builtin; refine wpList_append_one rfl (.tmp 77) (.tmp 79) 34 rfl (w2.heap.size + 1 + 1 + 1) 3 ii (.int .i64 0) 8 (by kernel_rfl) HI.out.1 HI.out.2.1 HI.out.2.2.1 HI.out.2.2.2 rfl vi0 i0.length (ints i0) (.int .i64 (i : Int)) rfl HQ5.out.ri0 rfl rfl (by have := HLI.out; unfold maxLen; omega) (by have := HLI.out; omega) HQ5.out.heap ?_)
                intro v' w6 ho hg hv
                obtain ⟨gn, capn, rfl, -, -⟩ := ho.form (by omega)
                have HQ6 := Lib.hid (HQ5.out.put_vi0 ho hg hv)
                have hb9 : w6.heap[w2.heap.size + 1]? = w5.heap[w2.heap.size + 1]? := by
                  have hl := HQ5.out.lt
                  exact hg.block (w2.heap.size + 1) (by omega) (fun e => by have := (HQ5.out.ri0.lt _ e.symm).1; omega)
                have d1 : w6.cell? ⟨w2.heap.size + 1, 0, none⟩ = some vi0 := (World.cell?_of_block (a := ⟨w2.heap.size + 1, 0, none⟩) hb9).trans d0
                have f1 : w6.frozen? ⟨w2.heap.size + 1, 0, none⟩ = false := (World.frozen?_of_block (a := ⟨w2.heap.size + 1, 0, none⟩) hb9).trans (HQ5.out.a9.free 0)
                clear ho hg hv d0 hb9
                go_wp2
                go_roundw
                case rel => exact ⟨i + 1, dr, _, _, _, _, by omega, by go_num, rfl, ⟨o0, o1, _, _, _, _, HQ6.out, by rw [HE.out.1]; simp, HE.out.2⟩, by have := HR.out.cnt; simp; omega⟩
                case measure => simp [intOf]; omega
              · have HQ5 := Lib.hid (show QO w w5 w2.heap.size (w2.heap.size + 1) (w2.heap.size + 1 + 1) qb cb n (w2.heap.size + 1 + 1 + 1) (decide (0 < dr)) m0 (m1 ++ [(i : Int)]) i0 i1 o0 o1 vi0 vi1 vo0 vo1 from hQ.queue hk hq)
                clear hQ hk hq
                have d0 : w5.cell? ⟨w2.heap.size + 1, 1, none⟩ = some vi1 := HQ5.out.a9.cell 1
                go_wp2_with (at_builtin; refine wpList_append_one rfl (.tmp 77) (.tmp 79) 34 rfl (w2.heap.size + 1 + 1 + 1) 3 ii (.int .i64 0) 8 (by kernel_rfl) HI.out.1 HI.out.2.1 HI.out.2.2.1 HI.out.2.2.2 rfl vi1 i1.length (ints i1) (.int .i64 (i : Int)) rfl HQ5.out.ri1 rfl rfl (by have := HLI.out; unfold maxLen; omega) (by have := HLI.out; omega) HQ5.out.heap ?_)
                intro v' w6 ho hg hv
                obtain ⟨gn, capn, rfl, -, -⟩ := ho.form (by omega)
                have HQ6 := Lib.hid (HQ5.out.put_vi1 ho hg hv)
                have hb9 : w6.heap[w2.heap.size + 1]? = w5.heap[w2.heap.size + 1]? := by
                  have hl := HQ5.out.lt
                  exact hg.block (w2.heap.size + 1) (by omega) (fun e => by have := (HQ5.out.ri1.lt _ e.symm).1; omega)
                have d1 : w6.cell? ⟨w2.heap.size + 1, 1, none⟩ = some vi1 := (World.cell?_of_block (a := ⟨w2.heap.size + 1, 1, none⟩) hb9).trans d0
                have f1 : w6.frozen? ⟨w2.heap.size + 1, 1, none⟩ = false := (World.frozen?_of_block (a := ⟨w2.heap.size + 1, 1, none⟩) hb9).trans (HQ5.out.a9.free 1)
                clear ho hg hv d0 hb9
                go_wp2
                go_roundw
                case rel => exact ⟨i + 1, dr, _, _, _, _, by omega, by go_num, rfl, ⟨o0, o1, _, _, _, _, HQ6.out, HE.out.1, by rw [HE.out.2]; simp⟩, by have := HR.out.cnt; simp; omega⟩
                case measure => simp [intOf]; omega
        · skip
          obtain rfl : i = len := by have := HR.out.le; omega
          clear hlt hle
          have hlen := HR.out.st.q.lens
          have hcnt := HR.out.cnt
          have HD := Lib.hid HR.out.st.drew
          have hdd : decide (0 < (dr : Int)) = decide (0 < dr) := by simp
          have hc8 : wr.cell? ⟨w2.heap.size, 0, none⟩ = some (.pointer (some ⟨qb, 0, none⟩)) := HR.out.st.c8
          have hls : ((l1.length : Int) + (l0.length : Int)) ≤ (n : Int) := by omega
          have hls0 : 0 ≤ ((l1.length : Int) + (l0.length : Int)) := by omega
          have hls1 : ((l1.length : Int) + (l0.length : Int)) ≤ 64 := by omega
          have hlq : decide ((n : Int) < (l1.length : Int) + (l0.length : Int)) = false := by simp; omega
          generalize hfb : decide (0 < dr) = fb at *
          cases fb
          all_goals
            go_wp2_with fail
            go_region_held3 (fun w' => w'.cell? ⟨w2.heap.size, 0, none⟩ = some (.pointer (some ⟨qb, 0, none⟩)))
              (first | exact HD.out.c8 | exact hc5)
              (first
                | (go_at_call 41; (with_reducible refine (Qi.faultQ qb cb n _ l0 l1 _ HD.out.q).mono ?_); rintro e w5 ⟨rfl, hk5, hq5⟩; have hs5 := HD.out.queue hk5 hq5; have hc5 := hs5.c8)
                | (go_at_call 42; (with_reducible refine (len1 qb cb n _ l0 l1 _ hs5.q).mono ?_); rintro e w6 ⟨rfl, rfl⟩)
                | (go_at_call 42; (with_reducible refine (len0 qb cb n _ l0 l1 _ hs5.q).mono ?_); rintro e w7 ⟨rfl, rfl⟩))
            have HS5 := Lib.hid hs5
            have HCNT := Lib.hid hcnt
            clear hs5 hk5 hq5 hc5 hc8 hcnt hfb hdd HD hlen
            have hlw : IntKind.i64.wrap ((l1.length : Int) + (l0.length : Int)) = (l1.length : Int) + (l0.length : Int) := IntWalk.i64_in _ (by omega)
            go_wp2_with fail
            clear hls hls0 hls1 hlq hlw
            go_loopw [17] (fun _ wb => ∃ (m0 m1 : List Int), SQ w wb w2.heap.size (w2.heap.size + 1) (w2.heap.size + 1 + 1) qb cb n (w2.heap.size + 1 + 1 + 1) false m0 m1 i0 i1) (fun _ wb => cntW wb qb)
            case atStart => exact ⟨l0, l1, HS5.out⟩
            case round =>
              obtain ⟨m0, m1, R⟩ := hrel
              have HB := Lib.hid R
              clear R
              have hq := HB.out.q
              have hc8 := HB.out.c8
              have hlen := hq.lens
              have HLEN := Lib.hid hlen
              by_cases hp : 0 < m0.length + m1.length
              · have hp1 : decide ((0:Int) < (m1.length : Int) + (m0.length:Int)) = true := by simp; omega
                have hp2 : decide ((m1.length : Int) + (m0.length:Int) ≤ (m1.tail.length : Int) + (m0.tail.length:Int)) = false := by simp; omega
                have hp3 : m1.tail.length ≤ m1.length ∧ m0.tail.length ≤ m0.length := by simp
                have HP3 := Lib.hid hp3
                clear hp3
                have hw1 : IntKind.i64.wrap ((m1.length : Int) + (m0.length : Int)) = (m1.length : Int) + (m0.length : Int) := IntWalk.i64_in _ (by omega)
                go_wp2_with fail
                go_quiet (first | (go_at_call 42; with_reducible refine Calls.quiet_of_same (len1 qb cb n false m0 m1 _ ?_); exact hq.drewN _) | (go_at_call 42; with_reducible refine Calls.quiet_of_same (len0 qb cb n false m0 m1 _ ?_); exact hq.drewN _))
                have HB1 := Lib.hid (HB.out.drewN nq)
                clear hc8 hq
                generalize wr.drewN nq = wb1 at *
                have hc8 := HB1.out.c8
                have hq := HB1.out.q
                go_wp2_with fail
                go_quiet (first | (go_at_call 42; with_reducible refine Calls.quiet_of_same (len1 qb cb n false m0 m1 _ ?_); exact hq.drewN _) | (go_at_call 42; with_reducible refine Calls.quiet_of_same (len0 qb cb n false m0 m1 _ ?_); exact hq.drewN _))
                have HB2 := Lib.hid (HB1.out.drewN nq)
                clear hc8 hq
                generalize wb1.drewN nq = wb2 at *
                have hli : i0.length ≤ 1000 ∧ i1.length ≤ 1000 := by have := HCNT.out; omega
                have HLI := Lib.hid hli
                clear hli
                go_wp2_with fail
                refine (pull_any HB2.out HLI.out.1 HLI.out.2 true).mono ?_
                rintro e wb3 ⟨rfl, hs3⟩
                have HB3 := Lib.hid (show SQ w wb3 w2.heap.size (w2.heap.size + 1) (w2.heap.size + 1 + 1) qb cb n (w2.heap.size + 1 + 1 + 1) false m0 m1.tail i0 i1 from hs3)
                clear hs3
                go_wp2_with fail
                refine (pull_any HB3.out HLI.out.1 HLI.out.2 false).mono ?_
                rintro e wb4 ⟨rfl, hs4⟩
                have HB4 := Lib.hid (show SQ w wb4 w2.heap.size (w2.heap.size + 1) (w2.heap.size + 1 + 1) qb cb n (w2.heap.size + 1 + 1 + 1) false m0.tail m1.tail i0 i1 from hs4)
                clear hs4
                have hc8 := HB4.out.c8
                have hq := HB4.out.q
                have hw2 : IntKind.i64.wrap ((m1.tail.length : Int) + (m0.tail.length : Int)) = (m1.tail.length : Int) + (m0.tail.length : Int) := IntWalk.i64_in _ (by have := HP3.out; omega)
                go_wp2_with fail
                go_quiet (first | (go_at_call 42; with_reducible refine Calls.quiet_of_same (len1 qb cb n false m0.tail m1.tail _ ?_); exact hq.drewN _) | (go_at_call 42; with_reducible refine Calls.quiet_of_same (len0 qb cb n false m0.tail m1.tail _ ?_); exact hq.drewN _))
                have HB5 := Lib.hid (HB4.out.drewN nq)
                clear hc8 hq
                generalize wb4.drewN nq = wb5 at *
                go_wp2
                go_roundw
                case rel => exact ⟨_, _, HB5.out⟩
                case measure => rw [cnt_eq HB5.out.q, cnt_eq HB.out.q]; simp; omega
              · have hp1 : decide ((0:Int) < (m1.length : Int) + (m0.length:Int)) = false := by simp; omega
                have hw1 : IntKind.i64.wrap ((m1.length : Int) + (m0.length : Int)) = (m1.length : Int) + (m0.length : Int) := IntWalk.i64_in _ (by omega)
                go_wp2_with fail
                go_quiet (first | (go_at_call 42; with_reducible refine Calls.quiet_of_same (len1 qb cb n false m0 m1 _ ?_); exact hq.drewN _) | (go_at_call 42; with_reducible refine Calls.quiet_of_same (len0 qb cb n false m0 m1 _ ?_); exact hq.drewN _))
                have HB1 := Lib.hid (HB.out.drewN nq)
                clear hc8 hq
                generalize wr.drewN nq = wb1 at *
                go_wp2_with fail
                clear hp1 hw1 HLEN
                obtain ⟨o0, o1, vi0, vi1, vo0, vo1, hQ, e0, e1⟩ := HB1.out
                obtain rfl : m0 = [] := List.eq_nil_of_length_eq_zero (by omega)
                obtain rfl : m1 = [] := List.eq_nil_of_length_eq_zero (by omega)
                obtain rfl : i0 = o0 := by simpa using e0
                obtain rfl : i1 = o1 := by simpa using e1
                obtain ⟨A0, c0, rfl, hA0⟩ := own_form hQ.ri0
                obtain ⟨A1, c1, rfl, hA1⟩ := own_form hQ.ri1
                obtain ⟨B0, d0, rfl, hB0⟩ := own_form hQ.ro0
                obtain ⟨B1, d1, rfl, hB1⟩ := own_form hQ.ro1
                have HA0 := Lib.hid hA0
                have HA1 := Lib.hid hA1
                have HO0 := Lib.hid hB0
                have HO1 := Lib.hid hB1
                have HQ0 := Lib.hid (And.intro hQ (show Same wb1 wb1 from fun _ => rfl))
                clear e0 e1 hA0 hA1 hB0 hB1 hQ hlen hp
                refine wp_loop_rounds 3 ?_
                rw [rounds_succ]
                have p0 : wb1.cell? ⟨w2.heap.size + 1, 0, none⟩ = some (.slice A0 i0.length c0) := HQ0.out.1.a9.cell 0
                have p1 : wb1.cell? ⟨w2.heap.size + 1 + 1, 0, none⟩ = some (.slice B0 i0.length d0) := HQ0.out.1.a10.cell 0
                go_wp2_with fail
                go_quiet (fail)
                have HQ1 := Lib.hid (And.intro (HQ0.out.1.drewN nq) (HQ0.out.2.drewN nq))
                clear p0 p1
                generalize wb1.drewN nq = wc0 at *
                have p0 : wc0.cell? ⟨w2.heap.size + 1, 0, none⟩ = some (.slice A0 i0.length c0) := HQ1.out.1.a9.cell 0
                go_wp2_with fail
                go_loopw [135] (fun c wx => ∃ j : Nat, c = .int .i64 (j : Int) ∧ j ≤ i0.length ∧ QO w wx w2.heap.size (w2.heap.size + 1) (w2.heap.size + 1 + 1) qb cb n (w2.heap.size + 1 + 1 + 1) false [] [] i0 i1 i0 i1 (.slice A0 i0.length c0) (.slice A1 i1.length c1) (.slice B0 i0.length d0) (.slice B1 i1.length d1) ∧ Same wb1 wx) (fun c _ => i0.length - (intOf c).toNat)
                case atStart => exact ⟨0, rfl, Nat.zero_le _, HQ1.out.1, HQ1.out.2⟩
                case round =>
                  obtain ⟨j, hj0, hj1, hq, hs⟩ := hrel
                  obtain rfl := hj0
                  have HQ2 := Lib.hid (And.intro hq hs)
                  clear hq hs p0
                  by_cases hj : j < i0.length
                  · obtain ⟨g, rfl, hgc⟩ := HA0.out (by omega)
                    obtain ⟨g', rfl, hgc'⟩ := HO0.out (by omega)
                    have p0 : wr.cell? ⟨w2.heap.size + 1, 0, none⟩ = some (.slice (some ⟨g, 0, none⟩) i0.length c0) := HQ2.out.1.a9.cell 0
                    have p1 : wr.cell? ⟨w2.heap.size + 1 + 1, 0, none⟩ = some (.slice (some ⟨g', 0, none⟩) i0.length d0) := HQ2.out.1.a10.cell 0
                    have q0 : wr.cell? ⟨g, j, none⟩ = some (.int .i64 (i0.getD j 0)) := (HQ2.out.2 _).trans (hgc j hj)
                    have q1 : wr.cell? ⟨g', j, none⟩ = some (.int .i64 (i0.getD j 0)) := (HQ2.out.2 _).trans (hgc' j hj)
                    clear hgc hgc'
                    have hli : i0.length ≤ 200 := by have := HCNT.out; omega
                    have hlt : decide ((j : Int) < (i0.length : Int)) = true := by simp; omega
                    have hlt' : (j : Int) < (i0.length : Int) := by omega
                    generalize i0.getD j 0 = x at *
                    go_wp2_with fail
                    go_quiet (fail)
                    have HQ3 := Lib.hid (And.intro (HQ2.out.1.drewN nq) (HQ2.out.2.drewN nq))
                    clear p0 p1 q0 q1
                    generalize wr.drewN nq = wd at *
                    go_wp2
                    go_roundw
                    case rel => exact ⟨j + 1, by go_num, by omega, HQ3.out.1, HQ3.out.2⟩
                    case measure => simp [intOf]; omega
                  · have hlt : decide ((j : Int) < (i0.length : Int)) = false := by simp; omega
                    go_wp2_with fail
                    clear hlt hj hj1
                    have HQ4 := Lib.hid (And.intro HQ2.out.1 HQ2.out.2)
                    rw [rounds_succ]
                    have p0 : wr.cell? ⟨w2.heap.size + 1, 1, none⟩ = some (.slice A1 i1.length c1) := HQ4.out.1.a9.cell 1
                    have p1 : wr.cell? ⟨w2.heap.size + 1 + 1, 1, none⟩ = some (.slice B1 i1.length d1) := HQ4.out.1.a10.cell 1
                    go_wp2_with fail
                    go_quiet (fail)
                    have HQ5 := Lib.hid (And.intro (HQ4.out.1.drewN nq) (HQ4.out.2.drewN nq))
                    clear p0 p1
                    generalize wr.drewN nq = wc1 at *
                    have p0 : wc1.cell? ⟨w2.heap.size + 1, 1, none⟩ = some (.slice A1 i1.length c1) := HQ5.out.1.a9.cell 1
                    go_wp2_with fail
                    go_loopw [135] (fun c wx => ∃ j : Nat, c = .int .i64 (j : Int) ∧ j ≤ i1.length ∧ QO w wx w2.heap.size (w2.heap.size + 1) (w2.heap.size + 1 + 1) qb cb n (w2.heap.size + 1 + 1 + 1) false [] [] i0 i1 i0 i1 (.slice A0 i0.length c0) (.slice A1 i1.length c1) (.slice B0 i0.length d0) (.slice B1 i1.length d1) ∧ Same wb1 wx) (fun c _ => i1.length - (intOf c).toNat)
                    case atStart => exact ⟨0, rfl, Nat.zero_le _, HQ5.out.1, HQ5.out.2⟩
                    case round =>
                      obtain ⟨j, hj0, hj1, hq, hs⟩ := hrel
                      obtain rfl := hj0
                      have HQ6 := Lib.hid (And.intro hq hs)
                      clear hq hs p0
                      by_cases hj : j < i1.length
                      · obtain ⟨g, rfl, hgc⟩ := HA1.out (by omega)
                        obtain ⟨g', rfl, hgc'⟩ := HO1.out (by omega)
                        have p0 : wr.cell? ⟨w2.heap.size + 1, 1, none⟩ = some (.slice (some ⟨g, 0, none⟩) i1.length c1) := HQ6.out.1.a9.cell 1
                        have p1 : wr.cell? ⟨w2.heap.size + 1 + 1, 1, none⟩ = some (.slice (some ⟨g', 0, none⟩) i1.length d1) := HQ6.out.1.a10.cell 1
                        have q0 : wr.cell? ⟨g, j, none⟩ = some (.int .i64 (i1.getD j 0)) := (HQ6.out.2 _).trans (hgc j hj)
                        have q1 : wr.cell? ⟨g', j, none⟩ = some (.int .i64 (i1.getD j 0)) := (HQ6.out.2 _).trans (hgc' j hj)
                        clear hgc hgc'
                        have hli : i1.length ≤ 200 := by have := HCNT.out; omega
                        have hlt : decide ((j : Int) < (i1.length : Int)) = true := by simp; omega
                        have hlt' : (j : Int) < (i1.length : Int) := by omega
                        generalize i1.getD j 0 = x at *
                        go_wp2_with fail
                        go_quiet (fail)
                        have HQ7 := Lib.hid (And.intro (HQ6.out.1.drewN nq) (HQ6.out.2.drewN nq))
                        clear p0 p1 q0 q1
                        generalize wr.drewN nq = wd at *
                        go_wp2
                        go_roundw
                        case rel => exact ⟨j + 1, by go_num, by omega, HQ7.out.1, HQ7.out.2⟩
                        case measure => simp [intOf]; omega
                      · have hlt : decide ((j : Int) < (i1.length : Int)) = false := by simp; omega
                        go_wp2_with fail
                        clear hlt hj hj1
                        have HQ8 := Lib.hid (And.intro HQ6.out.1 HQ6.out.2)
                        rw [rounds_succ]
                        have p0 : wr.cell? ⟨w2.heap.size + 1, 0, none⟩ = some (.slice A0 i0.length c0) := HQ8.out.1.a9.cell 0
                        have p1 : wr.cell? ⟨w2.heap.size + 1, 1, none⟩ = some (.slice A1 i1.length c1) := HQ8.out.1.a9.cell 1
                        have hc8 : wr.cell? ⟨w2.heap.size, 0, none⟩ = some (.pointer (some ⟨qb, 0, none⟩)) := HQ8.out.1.c8.cell 0
                        have hcnt := HCNT.out
                        have hx1 : IntKind.i64.wrap ((i0.length : Int) + (i1.length : Int)) = (i0.length : Int) + (i1.length : Int) := IntWalk.i64_in _ (by omega)
                        have hx2 : IntKind.i64.wrap ((i0.length : Int) + (i1.length : Int) + (dr : Int)) = (i : Int) := by rw [IntWalk.i64_in _ (by omega)]; omega
                        have hx3 : ((i0.length : Int) + (i1.length : Int) + (dr : Int) == (i : Int)) = true := by simp; omega
                        go_wp2_with fail
                        refine (Qi.roomQ qb cb n false [] [] wr HQ8.out.1.q).mono ?_
                        rintro e w9 ⟨he, k9, rfl⟩
                        obtain rfl : e = .returned (.int .i64 (n : Int)) := by rw [he]; simp
                        have HF := Lib.hid (HQ8.out.1.drewN k9).below
                        go_wp2
                        go_ret
                        exact ⟨rfl, HF.out⟩
    · have h1 : decide ((len : Int) < (len' : Int)) = true := by simp; omega
      go_enter Try.func8, Try.ntmps8
      go_wp2_with fail
      refine (awake10_any w).mono ?_
      rintro e w1 ⟨rfl, hb1⟩
      go_wp2
      go_ret
      exact ⟨rfl, hb1⟩
  · have h1 : decide ((200 : Int) < (len : Int)) = true := by simp; omega
    go_enter Try.func8, Try.ntmps8
    go_wp2_with fail
    refine (awake10_any w).mono ?_
    rintro e w1 ⟨rfl, hb1⟩
    go_wp2
    go_ret
    exact ⟨rfl, hb1⟩
end Go.Proofs.Ytkeeledkdoiglaa.Qo
