/- The law QueueRuns: whatever is done, the queue answers as the document says. -/
import Derived.Test.YtkeeledkdoiglaaQrBoth
import Derived.Deep.RegionHeld3
namespace Go.Proofs.Ytkeeledkdoiglaa.Qr
open Go.RowKit Go.Proofs.Ytkeeledkdoiglaa
theorem putS (qb cb n : Nat) (fl hi : Bool) (x : ByteArray) (l0 l1 : List ByteArray) (w : World) (h : Qs.QIs w qb cb n fl l0 l1) :
    Calls Try.prog 26 #[.pointer (some ⟨qb, 0, none⟩), .string x, .bool hi] w fun e w' =>
      e = .returned (.int .i64 (if l0.length + l1.length = n then 8 else 0)) ∧ Keep (fun k => k = qb ∨ k = cb) w w' ∧ Qs.QIs w' qb cb n (if l0.length + l1.length = n then true else fl) (if l0.length + l1.length = n then l0 else if hi then l0 else l0 ++ [x]) (if l0.length + l1.length = n then l1 else if hi then l1 ++ [x] else l1) := by
  refine (Qs.putQ qb cb n fl hi x l0 l1 w h).mono ?_
  rintro e w' ⟨he, hk, hq⟩
  refine ⟨he, hk, ?_⟩
  by_cases hf : l0.length + l1.length = n
  · simpa only [if_pos hf] using hq
  · simpa only [if_neg hf] using hq
theorem rtakeT (E : Nat → Prop) (rb n : Nat) (fl hi : Bool) (l0 l1 : List ByteArray) (w : World) (h : RQ w E rb n fl l0 l1) (h0 : l0.length ≤ 1000) (h1 : l1.length ≤ 1000) :
    Calls Try.prog 30 #[.pointer (some ⟨rb, 0, none⟩), .bool hi, .bool true] w fun e w' =>
      e = .returned (.tuple #[Value.string ((Qs.pickL hi l0 l1).headD (⟨#[]⟩ : ByteArray)), .bool (!(Qs.pickL hi l0 l1).isEmpty)]) ∧ Keep (fun k => ¬ E k) w w' ∧ RQ w' E rb n fl (if hi then l0 else l0.tail) (if hi then l1.tail else l1) := by
  refine (rtakeQ E rb n fl hi true l0 l1 w h h0 h1).mono ?_
  rintro e w' ⟨he, hk, hq⟩
  exact ⟨he, hk, by cases hi <;> exact hq⟩
theorem rtakeP (E : Nat → Prop) (rb n : Nat) (fl hi : Bool) (l0 l1 : List ByteArray) (w : World) (h : RQ w E rb n fl l0 l1) (h0 : l0.length ≤ 1000) (h1 : l1.length ≤ 1000) :
    Calls Try.prog 30 #[.pointer (some ⟨rb, 0, none⟩), .bool hi, .bool false] w fun e w' =>
      e = .returned (.tuple #[Value.string ((Qs.pickL hi l0 l1).headD (⟨#[]⟩ : ByteArray)), .bool (!(Qs.pickL hi l0 l1).isEmpty)]) ∧ Keep (fun k => ¬ E k) w w' ∧ RQ w' E rb n fl l0 l1 := by
  refine (rtakeQ E rb n fl hi false l0 l1 w h h0 h1).mono ?_
  rintro e w' ⟨he, hk, hq⟩
  exact ⟨he, hk, by cases hi <;> exact hq⟩
set_option maxRecDepth 100000 in
set_option maxHeartbeats 40000000 in
theorem queueRuns_law (p : Int) (v : Value) (xs : List ActV) (hok : ∀ x ∈ xs, x.what < 256) {w : World} (hA : ActsAt w v xs) :
    Calls Try.prog 7 #[.int .i64 p, v] w fun e w' => e = .returned (.bool true) ∧ Below w.heap.size w w' := by
  obtain ⟨a, cap, b, o, rfl, hcap, hcm, hne, hcell⟩ := hA
  have HC := Lib.hid (And.intro hne hcell)
  have HOK := Lib.hid hok
  have HCM := Lib.hid hcm
  clear hne hcell hok hcm hcap
  by_cases hl : (xs.length : Int) ≤ 200
  · obtain ⟨n, hn⟩ : ∃ n : Nat, n = (min (max p 0) 64).toNat := ⟨_, rfl⟩
    have HN := Lib.hid hn
    clear hn
    go_enter Try.func7, Try.ntmps7
    go_wp2_with fail
    refine (Qo.awake10_any w).mono ?_
    rintro e w1 ⟨rfl, hb1⟩
    go_wp2_with fail
    refine (Qs.newQ p w1).mono ?_
    rintro e w2 ⟨qb, cb, hqb, hcb, rfl, hb2, hq2⟩
    rw [← HN.out] at hq2
    have hl2 := hq2.lt
    go_wp2_with fail
    refine (rnew_any (fun k => k < w2.heap.size) p w2 (fun k h => h)).mono ?_
    rintro e w3 ⟨rb, hrb, rfl, hb3, hr3⟩
    rw [← HN.out] at hr3
    have HS := Lib.hid (show Bo w w3 (fun k => k < w2.heap.size) qb cb rb n false [] [] false [] [] from
      ⟨fun k hk => Nat.lt_of_lt_of_le hk (Nat.le_trans hb1.size hb2.size), hl2.1, hl2.2, hq2.keep (S := fun _ => False) (Keep.of_below hb3) (fun h => h) (fun h => h), hr3, ⟨Nat.le_trans hb1.size hqb, Nat.le_trans hb1.size hcb⟩, (hb1.trans (hb2.mono hb1.size)).trans (hb3.mono (Nat.le_trans hb1.size hb2.size))⟩)
    clear hb1 hqb hcb hb2 hq2 hl2 hrb hb3 hr3
    go_wp2_with fail
    go_loopw [6, 25] (fun r c wr => QRel w qb cb n xs.length r c wr) (fun _ c _ => xs.length - (intOf c).toNat)
    case atStart => exact ⟨0, _, rb, false, [], [], Nat.zero_le _, rfl, rfl, HS.out⟩
    case round =>
      obtain ⟨k, E, rb, fl, l0, l1, hk, rfl, rfl, R⟩ := hrel
      have HR := Lib.hid R
      clear R
      by_cases hlt : k < xs.length
      · obtain ⟨rfl, hbw⟩ := HC.out.1 (by intro h; rw [h] at hlt; simp at hlt)
        obtain ⟨k0, k1, k2⟩ := HC.out.2 k hlt
        have c0 : wr.cell? ⟨b, o + k * 3 + 0, none⟩ = some (.int .u8 (xs[k].what : Int)) := (HR.out.below.cell (p := ⟨b, o + k * 3 + 0, none⟩) hbw).trans k0
        have c1 : wr.cell? ⟨b, o + k * 3 + 1, none⟩ = some (.bool xs[k].high) := (HR.out.below.cell (p := ⟨b, o + k * 3 + 1, none⟩) hbw).trans k1
        have c2 : wr.cell? ⟨b, o + k * 3 + 2, none⟩ = some (.string xs[k].s) := (HR.out.below.cell (p := ⟨b, o + k * 3 + 2, none⟩) hbw).trans k2
        rw [Nat.add_zero] at c0
        have hwh := HOK.out _ (List.getElem_mem hlt)
        obtain ⟨wh, hx0⟩ : ∃ x, x = xs[k].what := ⟨_, rfl⟩
        obtain ⟨hi, hx1⟩ : ∃ x, x = xs[k].high := ⟨_, rfl⟩
        obtain ⟨s, hx2⟩ : ∃ x, x = xs[k].s := ⟨_, rfl⟩
        rw [← hx0] at c0 hwh
        rw [← hx1] at c1
        rw [← hx2] at c2
        have hlti : (k : Int) < (xs.length : Int) := by omega
        clear k0 k1 k2 hx0 hx1 hx2
        have hal := HR.out.alloc (.cells #[.int .u8 (wh : Int), .bool hi, .string s] 51)
        have hob := ObjAt.new wr #[.int .u8 (wh : Int), .bool hi, .string s] 51
        have hql := HR.out.q.lt
        obtain ⟨E1, hE1⟩ : ∃ E1 : Nat → Prop, E1 = fun k => E k ∨ k = wr.heap.size := ⟨_, rfl⟩
        rw [← hE1] at hal
        have H1a := Lib.hid hal
        have HOa := Lib.hid hob
        have HNE := Lib.hid (show ¬ (wr.heap.size = qb ∨ wr.heap.size = cb) by omega)
        have HE1 := Lib.hid (show E1 wr.heap.size by rw [hE1]; exact .inr rfl)
        clear hal hob hql hE1
        rcases (by omega : wh % 5 = 0 ∨ wh % 5 = 1 ∨ wh % 5 = 2 ∨ wh % 5 = 3 ∨ wh % 5 = 4) with hm | hm | hm | hm | hm
        · have hmi : (wh : Int) % 5 = 0 := by omega
          go_wp2_with fail
          generalize wr.alloc (.cells #[.int .u8 (wh : Int), .bool hi, .string s] 51) = wa at *
          have a0 : wa.cell? ⟨wr.heap.size, 0, none⟩ = some (.int .u8 (wh : Int)) := HOa.out.cell 0
          have a1 : wa.cell? ⟨wr.heap.size, 1, none⟩ = some (.bool hi) := HOa.out.cell 1
          have a2 : wa.cell? ⟨wr.heap.size, 2, none⟩ = some (.string s) := HOa.out.cell 2
          clear c0 c1 c2
          obtain ⟨f', m0, m1, hst⟩ : ∃ f' m0 m1, (if l0.length + l1.length = n then true else fl) = f' ∧ (if l0.length + l1.length = n then l0 else if hi then l0 else l0 ++ [s]) = m0 ∧ (if l0.length + l1.length = n then l1 else if hi then l1 ++ [s] else l1) = m1 := ⟨_, _, _, rfl, rfl, rfl⟩
          have HST := Lib.hid hst
          obtain ⟨c, hc⟩ : ∃ c : Int, (if l0.length + l1.length = n then 8 else 0 : Int) = c := ⟨_, rfl⟩
          have HCC := Lib.hid hc
          have HQ0 := Lib.hid (show Qs.QIs wa.drew qb cb n fl l0 l1 from H1a.out.q.drewN 1)
          have HLN := Lib.hid H1a.out.q.lens
          clear hst hc a0
          go_region_held3 (fun w' => w'.cell? ⟨wr.heap.size, 1, none⟩ = some (.bool hi) ∧ w'.cell? ⟨wr.heap.size, 2, none⟩ = some (.string s))
            (first | exact ⟨HOa.out.cell 1, HOa.out.cell 2⟩ | exact ⟨HO5.out.cell 1, HO5.out.cell 2⟩ | exact ⟨HO6.out.cell 1, HO6.out.cell 2⟩)
            (first
              | (go_at_call 26; (with_reducible refine (putS qb cb n fl hi s l0 l1 _ HQ0.out).mono ?_); rw [HST.out.1, HST.out.2.1, HST.out.2.2, HCC.out]; rintro e w5 ⟨rfl, hk5, hq5⟩; have HB5 := Lib.hid ((H1a.out.drewN 1).qstep hk5 hq5); have HO5 := Lib.hid (hk5.obj (HOa.out.drewN 1) HNE.out))
              | (go_at_call 27; (with_reducible refine (rputQ E1 rb n fl hi s l0 l1 _ HB5.out.r HLN.out.2 HLN.out.1).mono ?_); rw [HST.out.1, HST.out.2.1, HST.out.2.2, HCC.out]; rintro e w6 ⟨rfl, hk6, hr6⟩; have HB := Lib.hid (HB5.out.rstep hk6 hr6); have HO6 := Lib.hid (hk6.obj HO5.out (fun h => h HE1.out))))
          clear a1 a2 hk5 hq5 hk6 hr6
          have hq := HB.out.q
          have hr := HB.out.r
          have hlen := hq.lens
          have c0 : w6.cell? ⟨rb, 0, none⟩ = some (.int .i64 (n : Int)) := hr.cell0
          have hw1 : IntKind.i64.wrap ((n : Int) - ((m1).length : Int)) = (n : Int) - ((m1).length : Int) := IntWalk.i64_in _ (by omega)
          have hw2 : IntKind.i64.wrap ((n : Int) - ((m1).length : Int) - ((m0).length : Int)) = (n : Int) - ((m1).length : Int) - ((m0).length : Int) := IntWalk.i64_in _ (by omega)
          clear hlen
          go_wp2_with fail
          go_quiet (first
            | (go_at_call 33; with_reducible refine Calls.quiet_of_same (slen1 qb cb n f' m0 m1 _ ?_); exact hq.drewN _)
            | (go_at_call 33; with_reducible refine Calls.quiet_of_same (slen0 qb cb n f' m0 m1 _ ?_); exact hq.drewN _)
            | (go_at_call 34; with_reducible refine Calls.quiet_of (rlen1 E1 rb n f' m0 m1 _ ?_); exact hr.drewN _)
            | (go_at_call 34; with_reducible refine Calls.quiet_of (rlen0 E1 rb n f' m0 m1 _ ?_); exact hr.drewN _)
            | (go_at_call 35; with_reducible refine Calls.quiet_of (Qs.roomQ qb cb n f' m0 m1 _ ?_); exact hq.drewN _))
          have HB9 := Lib.hid (HB.out.drewN nq)
          clear c0 hq hr hw1 hw2
          generalize w6.drewN nq = w9 at *
          go_wp2
          go_roundw
          case rel => exact ⟨k + 1, E1, rb, _, _, _, by omega, by go_num, rfl, HB9.out⟩
          case measure => simp [intOf]; omega
        · have hmi : (wh : Int) % 5 = 1 := by omega
          go_wp2_with fail
          generalize wr.alloc (.cells #[.int .u8 (wh : Int), .bool hi, .string s] 51) = wa at *
          have a0 : wa.cell? ⟨wr.heap.size, 0, none⟩ = some (.int .u8 (wh : Int)) := HOa.out.cell 0
          have a1 : wa.cell? ⟨wr.heap.size, 1, none⟩ = some (.bool hi) := HOa.out.cell 1
          have a2 : wa.cell? ⟨wr.heap.size, 2, none⟩ = some (.string s) := HOa.out.cell 2
          clear c0 c1 c2
          obtain ⟨x, bb, hxb⟩ : ∃ x bb, (Qs.pickL hi l0 l1).headD (⟨#[]⟩ : ByteArray) = x ∧ (!(Qs.pickL hi l0 l1).isEmpty) = bb := ⟨_, _, rfl, rfl⟩
          have HXB := Lib.hid hxb
          have HLN := Lib.hid H1a.out.q.lens
          obtain ⟨m0, m1, hst⟩ : ∃ m0 m1, (if hi then l0 else l0.tail) = m0 ∧ (if hi then l1.tail else l1) = m1 := ⟨_, _, rfl, rfl⟩
          have HST := Lib.hid hst
          clear hst hxb
          refine (Qs.takeQ qb cb n fl hi l0 l1 wa H1a.out.q).mono ?_
          rintro e w5 ⟨he, hk5, hq5⟩
          rw [HXB.out.1, HXB.out.2] at he
          subst he
          rw [HST.out.1, HST.out.2] at hq5
          have HB5 := Lib.hid (H1a.out.qstep hk5 hq5)
          have HO5 := Lib.hid (hk5.obj HOa.out HNE.out)
          clear a0 a1 a2 hk5 hq5
          have a0 : w5.cell? ⟨wr.heap.size, 0, none⟩ = some (.int .u8 (wh : Int)) := HO5.out.cell 0
          have a1 : w5.cell? ⟨wr.heap.size, 1, none⟩ = some (.bool hi) := HO5.out.cell 1
          go_wp2_with fail
          refine (rtakeT E1 rb n fl hi l0 l1 w5 HB5.out.r (by have := HLN.out; omega) (by have := HLN.out; omega)).mono ?_
          rintro e w6 ⟨he, hk6, hr6⟩
          rw [HXB.out.1, HXB.out.2] at he
          subst he
          rw [HST.out.1, HST.out.2] at hr6
          have HB := Lib.hid (HB5.out.rstep hk6 hr6)
          clear a0 a1 hk6 hr6
          have hq := HB.out.q
          have hr := HB.out.r
          have hlen := hq.lens
          have c0 : w6.cell? ⟨rb, 0, none⟩ = some (.int .i64 (n : Int)) := hr.cell0
          have hw1 : IntKind.i64.wrap ((n : Int) - ((m1).length : Int)) = (n : Int) - ((m1).length : Int) := IntWalk.i64_in _ (by omega)
          have hw2 : IntKind.i64.wrap ((n : Int) - ((m1).length : Int) - ((m0).length : Int)) = (n : Int) - ((m1).length : Int) - ((m0).length : Int) := IntWalk.i64_in _ (by omega)
          clear hlen
          go_wp2_with fail
          go_quiet (first
            | (go_at_call 33; with_reducible refine Calls.quiet_of_same (slen1 qb cb n fl m0 m1 _ ?_); exact hq.drewN _)
            | (go_at_call 33; with_reducible refine Calls.quiet_of_same (slen0 qb cb n fl m0 m1 _ ?_); exact hq.drewN _)
            | (go_at_call 34; with_reducible refine Calls.quiet_of (rlen1 E1 rb n fl m0 m1 _ ?_); exact hr.drewN _)
            | (go_at_call 34; with_reducible refine Calls.quiet_of (rlen0 E1 rb n fl m0 m1 _ ?_); exact hr.drewN _)
            | (go_at_call 35; with_reducible refine Calls.quiet_of (Qs.roomQ qb cb n fl m0 m1 _ ?_); exact hq.drewN _))
          have HB9 := Lib.hid (HB.out.drewN nq)
          clear c0 hq hr hw1 hw2
          generalize w6.drewN nq = w9 at *
          go_wp2
          go_roundw
          case rel => exact ⟨k + 1, E1, rb, _, _, _, by omega, by go_num, rfl, HB9.out⟩
          case measure => simp [intOf]; omega
        · have hmi : (wh : Int) % 5 = 2 := by omega
          go_wp2_with fail
          generalize wr.alloc (.cells #[.int .u8 (wh : Int), .bool hi, .string s] 51) = wa at *
          have a0 : wa.cell? ⟨wr.heap.size, 0, none⟩ = some (.int .u8 (wh : Int)) := HOa.out.cell 0
          have a1 : wa.cell? ⟨wr.heap.size, 1, none⟩ = some (.bool hi) := HOa.out.cell 1
          have a2 : wa.cell? ⟨wr.heap.size, 2, none⟩ = some (.string s) := HOa.out.cell 2
          clear c0 c1 c2
          obtain ⟨x, bb, hxb⟩ : ∃ x bb, (Qs.pickL hi l0 l1).headD (⟨#[]⟩ : ByteArray) = x ∧ (!(Qs.pickL hi l0 l1).isEmpty) = bb := ⟨_, _, rfl, rfl⟩
          have HXB := Lib.hid hxb
          have HLN := Lib.hid H1a.out.q.lens
          clear hxb
          refine (Qs.peekQ qb cb n fl hi l0 l1 wa H1a.out.q).mono ?_
          rintro e w5 ⟨he, k5, rfl⟩
          rw [HXB.out.1, HXB.out.2] at he
          subst he
          have HB5 := Lib.hid (H1a.out.drewN k5)
          have HO5 := Lib.hid (HOa.out.drewN k5)
          clear a0 a1 a2
          generalize wa.drewN k5 = w5 at *
          have a0 : w5.cell? ⟨wr.heap.size, 0, none⟩ = some (.int .u8 (wh : Int)) := HO5.out.cell 0
          have a1 : w5.cell? ⟨wr.heap.size, 1, none⟩ = some (.bool hi) := HO5.out.cell 1
          go_wp2_with fail
          refine (rtakeP E1 rb n fl hi l0 l1 w5 HB5.out.r (by have := HLN.out; omega) (by have := HLN.out; omega)).mono ?_
          rintro e w6 ⟨he, hk6, hr6⟩
          rw [HXB.out.1, HXB.out.2] at he
          subst he
          have HB := Lib.hid (HB5.out.rstep hk6 hr6)
          clear a0 a1 hk6 hr6
          have hq := HB.out.q
          have hr := HB.out.r
          have hlen := hq.lens
          have c0 : w6.cell? ⟨rb, 0, none⟩ = some (.int .i64 (n : Int)) := hr.cell0
          have hw1 : IntKind.i64.wrap ((n : Int) - ((l1).length : Int)) = (n : Int) - ((l1).length : Int) := IntWalk.i64_in _ (by omega)
          have hw2 : IntKind.i64.wrap ((n : Int) - ((l1).length : Int) - ((l0).length : Int)) = (n : Int) - ((l1).length : Int) - ((l0).length : Int) := IntWalk.i64_in _ (by omega)
          clear hlen
          go_wp2_with fail
          go_quiet (first
            | (go_at_call 33; with_reducible refine Calls.quiet_of_same (slen1 qb cb n fl l0 l1 _ ?_); exact hq.drewN _)
            | (go_at_call 33; with_reducible refine Calls.quiet_of_same (slen0 qb cb n fl l0 l1 _ ?_); exact hq.drewN _)
            | (go_at_call 34; with_reducible refine Calls.quiet_of (rlen1 E1 rb n fl l0 l1 _ ?_); exact hr.drewN _)
            | (go_at_call 34; with_reducible refine Calls.quiet_of (rlen0 E1 rb n fl l0 l1 _ ?_); exact hr.drewN _)
            | (go_at_call 35; with_reducible refine Calls.quiet_of (Qs.roomQ qb cb n fl l0 l1 _ ?_); exact hq.drewN _))
          have HB9 := Lib.hid (HB.out.drewN nq)
          clear c0 hq hr hw1 hw2
          generalize w6.drewN nq = w9 at *
          go_wp2
          go_roundw
          case rel => exact ⟨k + 1, E1, rb, _, _, _, by omega, by go_num, rfl, HB9.out⟩
          case measure => simp [intOf]; omega
        · have hmi : (wh : Int) % 5 = 3 := by omega
          go_wp2_with fail
          generalize wr.alloc (.cells #[.int .u8 (wh : Int), .bool hi, .string s] 51) = wa at *
          have a0 : wa.cell? ⟨wr.heap.size, 0, none⟩ = some (.int .u8 (wh : Int)) := HOa.out.cell 0
          have a1 : wa.cell? ⟨wr.heap.size, 1, none⟩ = some (.bool hi) := HOa.out.cell 1
          have a2 : wa.cell? ⟨wr.heap.size, 2, none⟩ = some (.string s) := HOa.out.cell 2
          clear c0 c1 c2
          have HQ0 := Lib.hid (show Qs.QIs wa.drew qb cb n fl l0 l1 from H1a.out.q.drewN 1)
          have HR0 := Lib.hid (show RQ wa.drew E1 rb n fl l0 l1 from H1a.out.r.drewN 1)
          clear a0 a1 a2
          go_region_held3 (fun w' => w'.cell? ⟨rb, 3, none⟩ = some (.bool fl))
            (first | exact HR0.out.cell3.1 | exact hc5)
            ((go_at_call 31; (with_reducible refine (Qs.faultQ qb cb n fl l0 l1 _ HQ0.out).mono ?_); rintro e w5 ⟨rfl, hk5, hq5⟩; have HB5 := Lib.hid ((H1a.out.drewN 1).qstep hk5 hq5); have hc5 := HB5.out.r.cell3.1))
          have hf5 := HB5.out.r.cell3.2
          have HF := HB5.out.r.fault false
          have HB := Lib.hid (HB5.out.rstep HF.2 HF.1)
          clear hk5 hq5 HF
          go_wp2_with fail
          clear hc5 hf5
          generalize w5.setCell ⟨rb, 3, none⟩ (.bool false) = w6 at *
          have hq := HB.out.q
          have hr := HB.out.r
          have hlen := hq.lens
          have c0 : w6.cell? ⟨rb, 0, none⟩ = some (.int .i64 (n : Int)) := hr.cell0
          have hw1 : IntKind.i64.wrap ((n : Int) - ((l1).length : Int)) = (n : Int) - ((l1).length : Int) := IntWalk.i64_in _ (by omega)
          have hw2 : IntKind.i64.wrap ((n : Int) - ((l1).length : Int) - ((l0).length : Int)) = (n : Int) - ((l1).length : Int) - ((l0).length : Int) := IntWalk.i64_in _ (by omega)
          clear hlen
          go_wp2_with fail
          go_quiet (first
            | (go_at_call 33; with_reducible refine Calls.quiet_of_same (slen1 qb cb n false l0 l1 _ ?_); exact hq.drewN _)
            | (go_at_call 33; with_reducible refine Calls.quiet_of_same (slen0 qb cb n false l0 l1 _ ?_); exact hq.drewN _)
            | (go_at_call 34; with_reducible refine Calls.quiet_of (rlen1 E1 rb n false l0 l1 _ ?_); exact hr.drewN _)
            | (go_at_call 34; with_reducible refine Calls.quiet_of (rlen0 E1 rb n false l0 l1 _ ?_); exact hr.drewN _)
            | (go_at_call 35; with_reducible refine Calls.quiet_of (Qs.roomQ qb cb n false l0 l1 _ ?_); exact hq.drewN _))
          have HB9 := Lib.hid (HB.out.drewN nq)
          clear c0 hq hr hw1 hw2
          generalize w6.drewN nq = w9 at *
          go_wp2
          go_roundw
          case rel => exact ⟨k + 1, E1, rb, _, _, _, by omega, by go_num, rfl, HB9.out⟩
          case measure => simp [intOf]; omega
        · have hmi : (wh : Int) % 5 = 4 := by omega
          go_wp2_with fail
          generalize wr.alloc (.cells #[.int .u8 (wh : Int), .bool hi, .string s] 51) = wa at *
          have a0 : wa.cell? ⟨wr.heap.size, 0, none⟩ = some (.int .u8 (wh : Int)) := HOa.out.cell 0
          have a1 : wa.cell? ⟨wr.heap.size, 1, none⟩ = some (.bool hi) := HOa.out.cell 1
          have a2 : wa.cell? ⟨wr.heap.size, 2, none⟩ = some (.string s) := HOa.out.cell 2
          clear c0 c1 c2
          clear a0 a1 a2
          refine (Qs.clearQ qb cb n fl l0 l1 wa H1a.out.q).mono ?_
          rintro e w5 ⟨rfl, hk5, hq5⟩
          have HB5 := Lib.hid (H1a.out.qstep hk5 hq5)
          clear hk5 hq5
          go_wp2_with fail
          refine (rnew_any E1 p w5 HB5.out.r.lt.2.2).mono ?_
          rintro e w6 ⟨rb', hrb', rfl, hb6, hr6⟩
          rw [← HN.out] at hr6
          have hbo := HB5.out.rstep (Keep.of_below hb6) hr6
          obtain ⟨m0, hm0⟩ : ∃ m : List ByteArray, m = [] := ⟨_, rfl⟩
          rw [← hm0] at hbo
          have HB := Lib.hid hbo
          clear hrb' hb6 hr6 hbo hm0
          have hq := HB.out.q
          have hr := HB.out.r
          have hlen := hq.lens
          have c0 : w6.cell? ⟨rb', 0, none⟩ = some (.int .i64 (n : Int)) := hr.cell0
          have hw1 : IntKind.i64.wrap ((n : Int) - ((m0).length : Int)) = (n : Int) - ((m0).length : Int) := IntWalk.i64_in _ (by omega)
          have hw2 : IntKind.i64.wrap ((n : Int) - ((m0).length : Int) - ((m0).length : Int)) = (n : Int) - ((m0).length : Int) - ((m0).length : Int) := IntWalk.i64_in _ (by omega)
          clear hlen
          go_wp2_with fail
          go_quiet (first
            | (go_at_call 33; with_reducible refine Calls.quiet_of_same (slen1 qb cb n false m0 m0 _ ?_); exact hq.drewN _)
            | (go_at_call 33; with_reducible refine Calls.quiet_of_same (slen0 qb cb n false m0 m0 _ ?_); exact hq.drewN _)
            | (go_at_call 34; with_reducible refine Calls.quiet_of (rlen1 E1 rb' n false m0 m0 _ ?_); exact hr.drewN _)
            | (go_at_call 34; with_reducible refine Calls.quiet_of (rlen0 E1 rb' n false m0 m0 _ ?_); exact hr.drewN _)
            | (go_at_call 35; with_reducible refine Calls.quiet_of (Qs.roomQ qb cb n false m0 m0 _ ?_); exact hq.drewN _))
          have HB9 := Lib.hid (HB.out.drewN nq)
          clear c0 hq hr hw1 hw2
          generalize w6.drewN nq = w9 at *
          go_wp2
          go_roundw
          case rel => exact ⟨k + 1, E1, rb', _, _, _, by omega, by go_num, rfl, HB9.out⟩
          case measure => simp [intOf]; omega
      · obtain rfl : k = xs.length := by omega
        go_wp2
        go_ret
        exact ⟨rfl, HR.out.below⟩
  · have h1 : decide ((200 : Int) < (xs.length : Int)) = true := by simp; omega
    have h2 : (200 : Int) < (xs.length : Int) := by omega
    go_enter Try.func7, Try.ntmps7
    go_wp2_with fail
    refine (Qo.awake10_any w).mono ?_
    rintro e w1 ⟨rfl, hb1⟩
    go_wp2
    go_ret
    exact ⟨rfl, hb1⟩
end Go.Proofs.Ytkeeledkdoiglaa.Qr
