/- Functions of the program as plain Lean functions, and that the machine's calls do what these say (written by a program of mine, wip/myprint.py, over the kit's print). -/
import Derived.Test.YtclbmgnpgjhlhaaPCodex0
import Derived.Test.YtclbmgnpgjhlhaaPCodex4
namespace Go.Proofs.Ytclbmgnpgjhlhaa.PCode
open Go.RowKit Go.Proofs.YtclbmgnpgjhlhaaW.PrintWords Go.Proofs.YtclbmgnpgjhlhaaW.PrintLast Go.Proofs.YtclbmgnpgjhlhaaW.PrintMore
attribute [local go_sem] max2_int min2_int max_two min_two max_three min_three max_four min_four   -- for this text's walks alone
set_option linter.unusedVariables false
set_option linter.unusedSimpArgs false

/-! ### code_plain: function 65 -/

def u8of (a : Int) : UInt8 := UInt8.ofNat (a % 256).toNat
/-- The bytes of an instruction. -/
def insB (x : S89) : List UInt8 := [u8of x.f0, u8of x.f1, u8of x.f2, u8of x.f3] ++ Oct.bts (x.f4 % 4294967296).toNat 4
theorem insB_length (x : S89) : (insB x).length = 8 := by simp [insB, Oct.bts_length]
theorem insBs_length (l : List S89) : (l.flatMap insB).length = 8 * l.length := by
  induction l with
  | nil => rfl
  | cons x l ih => simp [List.flatMap_cons, insB_length, ih]; omega
/-- A program's bytes without their sum. -/
def plainB (l : List S89) : List UInt8 := UInt8.ofNat (l.length % 256) :: l.flatMap insB
def code_plain.f (l0 : List S89) : Option ByteArray := if l0.length ≤ 200 then some ⟨(plainB l0).toArray⟩ else none
theorem penS {b gx : Nat} {x0 x1 x2 x3 x4 : Int} {w w' : World} (h : ObjAt w gx #[.int .i64 x0, .int .i64 x1, .int .i64 x2, .int .i64 x3, .int .i64 x4] 89 ∧ w.cell? ⟨gx, 0, none⟩ = some (.int .i64 x0) ∧ w.cell? ⟨gx, 1, none⟩ = some (.int .i64 x1) ∧ w.cell? ⟨gx, 2, none⟩ = some (.int .i64 x2) ∧ w.cell? ⟨gx, 3, none⟩ = some (.int .i64 x3) ∧ w.cell? ⟨gx, 4, none⟩ = some (.int .i64 x4))
    (k : PenKeep b w w') (hne : gx ≠ b) : ObjAt w' gx #[.int .i64 x0, .int .i64 x1, .int .i64 x2, .int .i64 x3, .int .i64 x4] 89 ∧ w'.cell? ⟨gx, 0, none⟩ = some (.int .i64 x0) ∧ w'.cell? ⟨gx, 1, none⟩ = some (.int .i64 x1) ∧ w'.cell? ⟨gx, 2, none⟩ = some (.int .i64 x2) ∧ w'.cell? ⟨gx, 3, none⟩ = some (.int .i64 x3) ∧ w'.cell? ⟨gx, 4, none⟩ = some (.int .i64 x4) :=
  have ho : ObjAt w' gx #[.int .i64 x0, .int .i64 x1, .int .i64 x2, .int .i64 x3, .int .i64 x4] 89 := k.objs gx _ _ _ hne (by decide) h.1
  ⟨ho, ho.cell 0, ho.cell 1, ho.cell 2, ho.cell 3, ho.cell 4⟩
theorem penS0 {gx : Nat} {x0 x1 x2 x3 x4 : Int} {w : World} (ho : ObjAt w gx #[.int .i64 x0, .int .i64 x1, .int .i64 x2, .int .i64 x3, .int .i64 x4] 89) : ObjAt w gx #[.int .i64 x0, .int .i64 x1, .int .i64 x2, .int .i64 x3, .int .i64 x4] 89 ∧ w.cell? ⟨gx, 0, none⟩ = some (.int .i64 x0) ∧ w.cell? ⟨gx, 1, none⟩ = some (.int .i64 x1) ∧ w.cell? ⟨gx, 2, none⟩ = some (.int .i64 x2) ∧ w.cell? ⟨gx, 3, none⟩ = some (.int .i64 x3) ∧ w.cell? ⟨gx, 4, none⟩ = some (.int .i64 x4) :=
  ⟨ho, ho.cell 0, ho.cell 1, ho.cell 2, ho.cell 3, ho.cell 4⟩
theorem pen_alloc {w : World} {b : Nat} {l : List UInt8} (h : PenAt w b l) (o : Obj) : PenAt (w.alloc o) b l := by
  obtain ⟨v, hv, ho⟩ := h
  exact ⟨v, hv.alloc o, own_of_block ho fun k _ hk => Below.heap_alloc w o k hk⟩
set_option maxRecDepth 100000 in
set_option maxHeartbeats 2000000 in
theorem code_plain.calls (A0 : Option Addr) (c0 : Nat) (l0 : List S89) (r : ByteArray) (w : World) (hr0 : Kd.C k89 w A0 l0.length l0) (hc0 : l0.length ≤ c0) (h : code_plain.f l0 = some r) :
    Calls Try.prog 65 #[.slice A0 l0.length c0] w fun e w' => e = .returned (.string r) ∧ Below w.heap.size w w' := by
  unfold code_plain.f at h
  split at h
  · next hl =>
    obtain rfl := Option.some.inj h
    have HR := Lib.hid hr0
    have hlm : (0 : Int) ≤ (l0.length : Int) % 256 ∧ (l0.length : Int) % 256 ≤ 255 := by omega
    clear hr0 hc0 h
    go_enter Try.func65, Try.ntmps65
    go_wp2_with fail
    refine (newPen_any _).mono ?_
    rintro e w1 ⟨rfl, hp, hb⟩
    have HP := Lib.hid (And.intro hp hb)
    clear hp hb
    have HSZ := Lib.hid (Nat.le_refl w.heap.size)
    generalize hgw : w.heap.size = g at HP HSZ ⊢
    have HGW := Lib.hid hgw
    clear hgw
    go_wp2_with fail
    refine (penByte_any g [] _ (by omega) (by simp) _ HP.out.1).mono ?_
    rintro e w2 ⟨rfl, hp, hk⟩
    have he : ([] : List UInt8) ++ [UInt8.ofNat (l0.length : Int).toNat] = UInt8.ofNat (l0.length % 256) :: (l0.take 0).flatMap insB := by
      rw [Int.toNat_natCast, Nat.mod_eq_of_lt (by omega)]; rfl
    rw [he] at hp
    have HQ := Lib.hid (And.intro hp (HP.out.2.trans hk.below))
    clear hp hk he
    go_wp2_with fail
    go_loopw [13] (fun i wr => ∃ q : Nat, q ≤ l0.length ∧ i = .int .i64 (q : Int) ∧ Hid (PenAt wr g (UInt8.ofNat (l0.length % 256) :: (l0.take q).flatMap insB) ∧ Below g w wr)) (fun i _ => l0.length - (intOf i).toNat)
    case atStart => exact ⟨0, Nat.zero_le _, rfl, HQ⟩
    case round =>
      obtain ⟨q, hq, rfl, HL⟩ := hrel
      clear HQ
      by_cases hlt : q < l0.length
      · have hlt2 : (q : Int) < (l0.length : Int) := by omega
        obtain ⟨ad, hA, c0, c1, c2, c3, c4⟩ := at_T89 HR.out (q : Int) (by omega) (by omega)
        have hx : rd_T89 l0 (q : Int) = l0[q] := by simp [rd_T89, List.getD_eq_getElem?_getD, List.getElem?_eq_getElem hlt]
        rw [hx] at c0 c1 c2 c3 c4
        rw [Int.toNat_natCast] at c0 c1 c2 c3 c4
        have hbl0 : (ad.add (q * 5)).block < w.heap.size := World.block_lt_of_cell? _ _ c0
        have hbl : (ad.add (q * 5)).block < g := by have := HGW.out; omega
        have hk := HL.out.2
        have c0 := (hk.cell hbl).trans c0
        have c1 := (hk.cell (p := ⟨(ad.add (q * 5)).block, (ad.add (q * 5)).off + 1, none⟩) hbl).trans c1
        have c2 := (hk.cell (p := ⟨(ad.add (q * 5)).block, (ad.add (q * 5)).off + 2, none⟩) hbl).trans c2
        have c3 := (hk.cell (p := ⟨(ad.add (q * 5)).block, (ad.add (q * 5)).off + 3, none⟩) hbl).trans c3
        have c4 := (hk.cell (p := ⟨(ad.add (q * 5)).block, (ad.add (q * 5)).off + 4, none⟩) hbl).trans c4
        subst hA
        have hst : (l0.take (q + 1)).flatMap insB = (l0.take q).flatMap insB ++ insB l0[q] := by
          rw [List.take_succ_eq_append_getElem hlt, List.flatMap_append]; simp
        have hlen : (UInt8.ofNat (l0.length % 256) :: (l0.take q).flatMap insB).length ≤ 1601 := by
          rw [List.length_cons, insBs_length, List.length_take]; omega
        generalize l0[q] = x at *
        obtain ⟨n4, hn4⟩ : ∃ n4 : Nat, x.f4 % 4294967296 = (n4 : Int) := ⟨(x.f4 % 4294967296).toNat, by omega⟩
        have hn5 : n4 < 4294967296 := by omega
        have hB : insB x = [u8of x.f0, u8of x.f1, u8of x.f2, u8of x.f3] ++ Oct.bts n4 4 := by unfold insB; rw [hn4]; rfl
        have HST := Lib.hid (And.intro hst hB)
        have H4 := Lib.hid hn4
        clear hst hB hx hbl hbl0 hk hn4
        generalize hLL : UInt8.ofNat (l0.length % 256) :: (l0.take q).flatMap insB = L at *
        have hp := pen_alloc HL.out.1 (.cells #[.int .i64 x.f0, .int .i64 x.f1, .int .i64 x.f2, .int .i64 x.f3, .int .i64 x.f4] 89)
        have hgx : wr.heap.size ≠ g := by have := HL.out.1.lt; omega
        have ho := penS0 (ObjAt.new wr #[.int .i64 x.f0, .int .i64 x.f1, .int .i64 x.f2, .int .i64 x.f3, .int .i64 x.f4] 89)
        have HO := Lib.hid ho
        have HG := Lib.hid (And.intro hgx hLL)
        have hbw := HL.out.2.alloc (by have := HL.out.1.lt; omega) (.cells #[.int .i64 x.f0, .int .i64 x.f1, .int .i64 x.f2, .int .i64 x.f3, .int .i64 x.f4] 89)
        have HBW := Lib.hid hbw
        have HPP := Lib.hid hp
        clear ho hgx hLL hbw hp
        go_wp2_with fail
        have hp0 := HPP.out
        have h4 := H4.out
        generalize wr.alloc (.cells #[.int .i64 x.f0, .int .i64 x.f1, .int .i64 x.f2, .int .i64 x.f3, .int .i64 x.f4] 89) = W at *
        generalize wr.heap.size = gx at *
        clear c0 c1 c2 c3 c4
        have hpd : PenAt W.drew g L := hp0
        have e0 : IntKind.u8.wrap x.f0 = x.f0 % 256 := IntKind.wrap_u8' _
        have e1 : IntKind.u8.wrap x.f1 = x.f1 % 256 := IntKind.wrap_u8' _
        have e2 : IntKind.u8.wrap x.f2 = x.f2 % 256 := IntKind.wrap_u8' _
        have e3 : IntKind.u8.wrap x.f3 = x.f3 % 256 := IntKind.wrap_u8' _
        have e4 : IntKind.u32.wrap x.f4 = (n4 : Int) := (IntKind.wrap_u32' _).trans h4
        clear h4
        go_region_held3 (fun w' => ObjAt w' gx #[.int .i64 x.f0, .int .i64 x.f1, .int .i64 x.f2, .int .i64 x.f3, .int .i64 x.f4] 89 ∧ w'.cell? ⟨gx, 0, none⟩ = some (.int .i64 x.f0) ∧ w'.cell? ⟨gx, 1, none⟩ = some (.int .i64 x.f1) ∧ w'.cell? ⟨gx, 2, none⟩ = some (.int .i64 x.f2) ∧ w'.cell? ⟨gx, 3, none⟩ = some (.int .i64 x.f3) ∧ w'.cell? ⟨gx, 4, none⟩ = some (.int .i64 x.f4))
          (first | exact HO.out | assumption | exact penS (by assumption) hk1 HG.out.1)
          (first
            | (go_at_call 79; (with_reducible refine (penByte_any g L (x.f0 % 256) (by omega) (by omega) _ (by assumption)).mono ?_); rintro e w1 ⟨rfl, hp1, hk1⟩; have hb1 := hk1.below)
            | (go_at_call 79; (with_reducible refine (penByte_any g (L ++ [UInt8.ofNat (x.f0 % 256).toNat]) (x.f1 % 256) (by omega) (by simp; omega) _ (by assumption)).mono ?_); rintro e w2 ⟨rfl, hp2, hk1⟩; have hb2 := hk1.below)
            | (go_at_call 79; (with_reducible refine (penByte_any g (L ++ [UInt8.ofNat (x.f0 % 256).toNat] ++ [UInt8.ofNat (x.f1 % 256).toNat]) (x.f2 % 256) (by omega) (by simp; omega) _ (by assumption)).mono ?_); rintro e w3 ⟨rfl, hp3, hk1⟩; have hb3 := hk1.below)
            | (go_at_call 79; (with_reducible refine (penByte_any g (L ++ [UInt8.ofNat (x.f0 % 256).toNat] ++ [UInt8.ofNat (x.f1 % 256).toNat] ++ [UInt8.ofNat (x.f2 % 256).toNat]) (x.f3 % 256) (by omega) (by simp; omega) _ (by assumption)).mono ?_); rintro e w4 ⟨rfl, hp4, hk1⟩; have hb4 := hk1.below)
            | (go_at_call 80; (with_reducible refine (penFour_any g (L ++ [UInt8.ofNat (x.f0 % 256).toNat] ++ [UInt8.ofNat (x.f1 % 256).toNat] ++ [UInt8.ofNat (x.f2 % 256).toNat] ++ [UInt8.ofNat (x.f3 % 256).toNat]) n4 hn5 (by simp; omega) _ (by assumption)).mono ?_); rintro e w5 ⟨rfl, hp5, hk1⟩; have hb5 := hk1.below))
        have hS := HBW.out
        have hnew : PenAt w5 g (UInt8.ofNat (l0.length % 256) :: (l0.take (q + 1)).flatMap insB) := by
          have h5 := hp5
          rw [show L ++ [UInt8.ofNat (x.f0 % 256).toNat] ++ [UInt8.ofNat (x.f1 % 256).toNat] ++ [UInt8.ofNat (x.f2 % 256).toNat] ++ [UInt8.ofNat (x.f3 % 256).toNat] ++ Oct.bts n4 4 = L ++ insB x from by rw [HST.out.2]; simp [u8of], ← HG.out.2] at h5
          rw [HST.out.1]
          exact h5
        have HN := Lib.hid hnew
        go_wp2
        go_roundw
        case rel => exact ⟨q + 1, by omega, by go_num, ⟨HN.out, ((((hS.drew.trans hb1).trans hb2).trans hb3).trans hb4).trans hb5⟩⟩
        case measure => simp [intOf]; omega
      · have hq2 : q = l0.length := by omega
        have hp := HL.out.1
        rw [hq2, List.take_length] at hp
        have HF := Lib.hid hp
        have hge : (l0.length : Int) ≤ (q : Int) := by omega
        clear hq2 hp
        go_wp2_with fail
        refine (penString_any g _ _ HF.out).mono ?_
        rintro e w3 ⟨rfl, rfl⟩
        go_wp2
        go_ret
        exact ⟨rfl, by rw [HGW.out]; exact HL.out.2⟩
  · cases h



/-! ### code_Encode: function 40 -/
def code_Encode.f (l0 : List (S89)) : Option (ByteArray × Int) := (code_right.f l0).bind fun t176 => (if t176 = 0 then ((code_plain.f l0).bind fun t177 => ((crc_Sealed.f t177).bind fun t178 => (some (t178, 0)))) else (some ((⟨#[]⟩ : ByteArray), t176)))
set_option maxHeartbeats 8000000 in
set_option maxRecDepth 100000 in
theorem code_Encode.calls (A0 : Option Addr) (c0 : Nat) (l0 : List (S89)) (r1 : ByteArray) (r2 : Int) (w : World) (hr0 : Kd.C k89 w A0 l0.length l0) (hc0 : l0.length ≤ c0) (h : code_Encode.f l0 = some (r1, r2)) :
    Calls Try.prog 40 #[.slice A0 l0.length c0] w fun e w' => e = .returned (.tuple #[.string r1, .int .i64 r2]) ∧ Below w.heap.size w w' := by
  have HR0 := Aside0.mk hr0
  have HC0 := Aside0.mk hc0
  clear hr0 hc0
  have HB := Aside0.mk (Below.refl w.heap.size w)
  have H : ((code_right.f l0).bind fun t176 => (if t176 = 0 then ((code_plain.f l0).bind fun t177 => ((crc_Sealed.f t177).bind fun t178 => (some (t178, 0)))) else (some ((⟨#[]⟩ : ByteArray), t176)))) = some (r1, r2) := h
  clear h
  replace H := Option.bind_eq_some_iff.mp H
  obtain ⟨t176, A20, H⟩ := H
  replace H : (if t176 = 0 then ((code_plain.f l0).bind fun t177 => ((crc_Sealed.f t177).bind fun t178 => (some (t178, 0)))) else (some ((⟨#[]⟩ : ByteArray), t176))) = some (r1, r2) := H
  have A2 := Aside0.mk A20
  clear A20
  by_cases c3 : t176 = 0
  · rw [if_pos c3] at H
    have c3b0 : (t176 == 0) = true := beq_iff_eq.mpr c3
    have c3b1 : (t176 != 0) = false := bne_eq_false_iff_eq.mpr c3
    clear c3
    replace H := Option.bind_eq_some_iff.mp H
    obtain ⟨t177, A40, H⟩ := H
    replace H : ((crc_Sealed.f t177).bind fun t178 => (some (t178, 0))) = some (r1, r2) := H
    have A4 := Aside0.mk A40
    clear A40
    replace H := Option.bind_eq_some_iff.mp H
    obtain ⟨t178, A50, H⟩ := H
    replace H : (some (t178, 0)) = some (r1, r2) := H
    have A5 := Aside0.mk A50
    clear A50
    simp only [Option.some.injEq, Prod.mk.injEq] at H
    obtain ⟨rfl, rfl⟩ := H
    go_enter Try.func40, Try.ntmps40
    go_wp2_with (first | ((with_reducible refine gate_callee (f := 62) rfl ?_); refine goesL_ (some 6) rfl rfl Try.func62 (by kernel_rfl) rfl #[.slice A0 l0.length c0] rfl (by (try simp only [List.map_toArray, List.map_cons, List.map_nil]); first | done | rfl | (simp only [List.length_drop, List.length_take]; rfl)) ?_; (with_reducible refine (code_right.calls _ _ l0 t176 _ ?side1 ?side2 A2.out).mono ?_); (case side1 => repeat (first | exact HR0.out | (with_reducible refine Kd.C_alloc ?_ _) | (with_reducible refine Kd.C_drewN ?_ _) | (with_reducible refine Kd.C_drew ?_))); (case side2 => exact HC0.out); rintro e w6 ⟨rfl, hb⟩; refine ⟨_, rfl, ?_⟩; have n0_ := Aside0.mk (below_step (by repeat (first | (with_reducible first | exact HB.out | apply below_alloc | apply pw_below_drewN | apply below_drew1) | exact HB.out)) hb); clear HB; have HB := n0_; clear n0_; (try clear hb); (try clear hb2); (try clear hk); (try clear hi)) | ((with_reducible refine gate_callee (f := 65) rfl ?_); refine goesL_ (some 11) rfl rfl Try.func65 (by kernel_rfl) rfl #[.slice A0 l0.length c0] rfl (by (try simp only [List.map_toArray, List.map_cons, List.map_nil]); first | done | rfl | (simp only [List.length_drop, List.length_take]; rfl)) ?_; (with_reducible refine (code_plain.calls _ _ l0 t177 _ ?side1 ?side2 A4.out).mono ?_); (case side1 => repeat (first | exact (Kd.C_below HR0.out HB.out) | (with_reducible refine Kd.C_alloc ?_ _) | (with_reducible refine Kd.C_drewN ?_ _) | (with_reducible refine Kd.C_drew ?_))); (case side2 => exact HC0.out); rintro e w7 ⟨rfl, hb⟩; refine ⟨_, rfl, ?_⟩; have n0_ := Aside0.mk (below_step (by repeat (first | (with_reducible first | exact HB.out | apply below_alloc | apply pw_below_drewN | apply below_drew1) | exact HB.out)) hb); clear HB; have HB := n0_; clear n0_; (try clear hb); (try clear hb2); (try clear hk); (try clear hi)) | ((with_reducible refine gate_callee (f := 64) rfl ?_); refine goesL_ (some 12) rfl rfl Try.func64 (by kernel_rfl) rfl #[.string t177] rfl (by (try simp only [List.map_toArray, List.map_cons, List.map_nil]); first | done | rfl | (simp only [List.length_drop, List.length_take]; rfl)) ?_; (with_reducible refine (crc_Sealed.calls t177 t178 _ A5.out).mono ?_); rintro e w8 ⟨rfl, hb⟩; refine ⟨_, rfl, ?_⟩; have n0_ := Aside0.mk (below_step (by repeat (first | (with_reducible first | exact HB.out | apply below_alloc | apply pw_below_drewN | apply below_drew1) | exact HB.out)) hb); clear HB; have HB := n0_; clear n0_; (try clear hb); (try clear hb2); (try clear hk); (try clear hi)))
    go_ret2
    exact ⟨by first | rfl | (simp [errW_none, errW_some] <;> rfl) | (simp [*, errW_none, errW_some] <;> rfl), by repeat (first | (with_reducible first | exact HB.out | apply below_alloc | apply pw_below_drewN | apply below_drew1) | exact HB.out)⟩
  · rw [if_neg c3] at H
    have c3b0 : (t176 == 0) = false := beq_eq_false_iff_ne.mpr c3
    have c3b1 : (t176 != 0) = true := bne_iff_ne.mpr c3
    simp only [Option.some.injEq, Prod.mk.injEq] at H
    obtain ⟨rfl, rfl⟩ := H
    go_enter Try.func40, Try.ntmps40
    go_wp2_with (first | ((with_reducible refine gate_callee (f := 62) rfl ?_); refine goesL_ (some 6) rfl rfl Try.func62 (by kernel_rfl) rfl #[.slice A0 l0.length c0] rfl (by (try simp only [List.map_toArray, List.map_cons, List.map_nil]); first | done | rfl | (simp only [List.length_drop, List.length_take]; rfl)) ?_; (with_reducible refine (code_right.calls _ _ l0 t176 _ ?side1 ?side2 A2.out).mono ?_); (case side1 => repeat (first | exact HR0.out | (with_reducible refine Kd.C_alloc ?_ _) | (with_reducible refine Kd.C_drewN ?_ _) | (with_reducible refine Kd.C_drew ?_))); (case side2 => exact HC0.out); rintro e w9 ⟨rfl, hb⟩; refine ⟨_, rfl, ?_⟩; have n0_ := Aside0.mk (below_step (by repeat (first | (with_reducible first | exact HB.out | apply below_alloc | apply pw_below_drewN | apply below_drew1) | exact HB.out)) hb); clear HB; have HB := n0_; clear n0_; (try clear hb); (try clear hb2); (try clear hk); (try clear hi)))
    go_ret2
    exact ⟨by first | rfl | (simp [errW_none, errW_some] <;> rfl) | (simp [*, errW_none, errW_some] <;> rfl), by repeat (first | (with_reducible first | exact HB.out | apply below_alloc | apply pw_below_drewN | apply below_drew1) | exact HB.out)⟩

/-! ### fuglemanlaw13_awake: function 35 -/
def fuglemanlaw13_awake.f (k : Nat)  : Option (Bool) := (some (([(⟨1, 2, 0, 0, (-1)⟩ : S89)] : List (S89)) : List (S89))).bind fun y179 => ((code_Encode.f y179).bind fun bt182 => ((code_Decode.f k bt182.1).bind fun bt184 => (if bt182.2 = 0 then (if bt184.2 = 0 then (if (bt182.1.size : Int) = 11 then ((fuglemanref12_Same.f k y179 bt184.1).bind fun t188 => (some t188)) else (some false)) else (some false)) else (some false))))
theorem fuglemanlaw13_awake.mono : ∀ k, LeO (fuglemanlaw13_awake.f k ) (fuglemanlaw13_awake.f (k + 1) ) := by
  intro  k
  unfold fuglemanlaw13_awake.f
  repeat' first
      | (with_reducible exact code_Decode.mono _ _)
      | (with_reducible exact fuglemanref12_Same.mono _ _ _)
      | (with_reducible exact LeO.refl _)
      | (with_reducible exact LeO.none _)
      | (with_reducible refine LeO.ite ?_ ?_)
      | (with_reducible refine LeO.bind ?_ (fun _ => ?_))
      | exact code_Decode.mono _ _
      | exact fuglemanref12_Same.mono _ _ _
      | exact LeO.none _
      | refine LeO.ite ?_ ?_
      | refine LeO.bind ?_ (fun _ => ?_)
set_option maxHeartbeats 8000000 in
set_option maxRecDepth 100000 in
theorem fuglemanlaw13_awake.calls (k : Nat)  (r : Bool) (w : World) (h : fuglemanlaw13_awake.f k  = some r) :
    Calls Try.prog 35 #[] w fun e w' => e = .returned (.bool r) ∧ Below w.heap.size w w' := by
  have hu89 := Try.underlying89
  have HB := Aside0.mk (Below.refl w.heap.size w)
  have H : ((some (([(⟨1, 2, 0, 0, (-1)⟩ : S89)] : List (S89)) : List (S89))).bind fun y179 => ((code_Encode.f y179).bind fun bt182 => ((code_Decode.f k bt182.1).bind fun bt184 => (if bt182.2 = 0 then (if bt184.2 = 0 then (if (bt182.1.size : Int) = 11 then ((fuglemanref12_Same.f k y179 bt184.1).bind fun t188 => (some t188)) else (some false)) else (some false)) else (some false))))) = some r := h
  clear h
  obtain ⟨y179, hy179⟩ : ∃ y_ : List (S89), y_ = (([(⟨1, 2, 0, 0, (-1)⟩ : S89)] : List (S89))) := ⟨_, rfl⟩
  replace H : ((code_Encode.f y179).bind fun bt182 => ((code_Decode.f k bt182.1).bind fun bt184 => (if bt182.2 = 0 then (if bt184.2 = 0 then (if (bt182.1.size : Int) = 11 then ((fuglemanref12_Same.f k y179 bt184.1).bind fun t188 => (some t188)) else (some false)) else (some false)) else (some false)))) = some r := by first | (rw [hy179]; with_reducible exact H) | (have H2_ := (Option.bind_some _ _).symm.trans H; rw [hy179]; with_reducible exact H2_) | (have H2_ := (Option.bind_some _ _).symm.trans H; with_reducible exact H2_) | with_reducible exact H | (rw [hy179]; exact H) | exact H
  have Ny179 := Aside0.mk hy179
  clear hy179
  replace H := Option.bind_eq_some_iff.mp H
  obtain ⟨⟨t182, t183⟩, A10, H⟩ := H
  replace H : ((code_Decode.f k t182).bind fun bt184 => (if t183 = 0 then (if bt184.2 = 0 then (if (t182.size : Int) = 11 then ((fuglemanref12_Same.f k y179 bt184.1).bind fun t188 => (some t188)) else (some false)) else (some false)) else (some false))) = some r := H
  have A1 := Aside0.mk A10
  clear A10
  replace H := Option.bind_eq_some_iff.mp H
  obtain ⟨⟨t184, t185⟩, A20, H⟩ := H
  replace H : (if t183 = 0 then (if t185 = 0 then (if (t182.size : Int) = 11 then ((fuglemanref12_Same.f k y179 t184).bind fun t188 => (some t188)) else (some false)) else (some false)) else (some false)) = some r := H
  have A2 := Aside0.mk A20
  clear A20
  by_cases c3 : t183 = 0
  · rw [if_pos c3] at H
    have c3b0 : (t183 == 0) = true := beq_iff_eq.mpr c3
    have c3b1 : (t183 != 0) = false := bne_eq_false_iff_eq.mpr c3
    clear c3
    by_cases c4 : t185 = 0
    · rw [if_pos c4] at H
      have c4b0 : (t185 == 0) = true := beq_iff_eq.mpr c4
      have c4b1 : (t185 != 0) = false := bne_eq_false_iff_eq.mpr c4
      clear c4
      by_cases c5 : (t182.size : Int) = 11
      · rw [if_pos c5] at H
        have c5b0 : ((t182.size : Int) == 11) = true := beq_iff_eq.mpr c5
        have c5b1 : ((t182.size : Int) != 11) = false := bne_eq_false_iff_eq.mpr c5
        clear c5
        replace H := Option.bind_eq_some_iff.mp H
        obtain ⟨t188, A60, H⟩ := H
        replace H : (some t188) = some r := H
        have A6 := Aside0.mk A60
        clear A60
        obtain rfl := Option.some.inj H
        go_enter Try.func35, Try.ntmps35
        go_wp2_with (first | ((with_reducible refine gate_dst (N := 7) rfl ?_); (try (refine gate_guard (by rfl) ?_; dsimp only)); refine Kd.R_lit k89 _ 89 ?hg (N := 7) ?hd (xs := ([(⟨1, 2, 0, 0, (-1)⟩ : S89)] : List (S89))) (inner := [.int .i64 1, .int .i64 2, .int .i64 0, .int .i64 0, .int .i64 (-1)]) (ok := fun _ => True) (okp := fun _ => True) ?hr ?hp (fun _ hk => hk) trivial (Below.refl _ _) (Nat.le_refl _) (by simp) ?_; (case hd => rfl); (case hg => rfl); (case hr => first | (go_simp; done) | (go_simp; rfl)); (case hp => exact (Reps.c5 (show Kd.M k89 _ _ _ (⟨1, 2, 0, 0, (-1)⟩ : S89) [.int .i64 1, .int .i64 2, .int .i64 0, .int .i64 0, .int .i64 (-1)] from (k89_mkM _ _ _ (⟨1, 2, 0, 0, (-1)⟩ : S89) )) (Reps.none _ _))); intro v180 w7 ho8 hb hg_ hnew_; clear hg_ hnew_; (first | rw [← Ny179.out] at ho8 | (simp only [Int.reduceToNat] at ho8; rw [← Ny179.out] at ho8)); have n0_ := Aside0.mk (Kd.R_lower ho8 (below_size (by repeat (first | (with_reducible first | exact HB.out | apply below_alloc | apply pw_below_drewN | apply below_drew1) | exact HB.out)))); have n1_ := Aside0.mk (below_step (by repeat (first | (with_reducible first | exact HB.out | apply below_alloc | apply pw_below_drewN | apply below_drew1) | exact HB.out)) hb); clear HB; have HO181 := n0_; have HB := n1_; clear n0_ n1_; clear hb ho8; obtain ⟨Ao9, co9, eo9⟩ := Kd.R_slice HO181.out; subst eo9) | ((with_reducible refine gate_callee (f := 40) rfl ?_); refine goesL_ (some 10) rfl rfl Try.func40 (by kernel_rfl) rfl #[.slice Ao9 y179.length co9] rfl (by (try simp only [List.map_toArray, List.map_cons, List.map_nil]); first | done | rfl | (simp only [List.length_drop, List.length_take]; rfl)) ?_; (with_reducible refine (code_Encode.calls _ _ y179 t182 t183 _ ?side1 ?side2 A1.out).mono ?_); (case side1 => repeat (first | exact (Kd.R_reads' HO181.out).2.2 | (with_reducible refine Kd.C_alloc ?_ _) | (with_reducible refine Kd.C_drewN ?_ _) | (with_reducible refine Kd.C_drew ?_))); (case side2 => exact (Kd.R_reads' HO181.out).2.1); rintro e w10 ⟨rfl, hb⟩; refine ⟨_, rfl, ?_⟩; have n0_ := Aside0.mk (Kd.R_below (by (with_reducible repeat (first | apply Kd.R_alloc | apply Kd.R_drewN | apply Kd.R_drew)); exact HO181.out) hb); have n1_ := Aside0.mk (below_step (by repeat (first | (with_reducible first | exact HB.out | apply below_alloc | apply pw_below_drewN | apply below_drew1) | exact HB.out)) hb); clear HO181; clear HB; have HO181 := n0_; have HB := n1_; clear n0_ n1_; (try clear hb); (try clear hb2); (try clear hk); (try clear hi)) | ((with_reducible refine gate_callee (f := 37) rfl ?_); refine goesL_ (some 15) rfl rfl Try.func37 (by kernel_rfl) rfl #[.string t182] rfl (by (try simp only [List.map_toArray, List.map_cons, List.map_nil]); first | done | rfl | (simp only [List.length_drop, List.length_take]; rfl)) ?_; (with_reducible refine (code_Decode.calls k t182 t184 t185 _ A2.out).mono ?_); rintro e w11 ⟨v186, rfl, ho0, hb⟩; refine ⟨_, rfl, ?_⟩; have n0_ := Aside0.mk (Kd.R_elder' (by (with_reducible repeat (first | apply Kd.R_alloc | apply Kd.R_drewN | apply Kd.R_drew)); exact HO181.out) (Kd.R_base ho0) hb); have n1_ := Aside0.mk (Kd.R_lower (Kd.R_new' ho0 (Kd.R_lt (by (with_reducible repeat (first | apply Kd.R_alloc | apply Kd.R_drewN | apply Kd.R_drew)); exact HO181.out))) (below_size (by repeat (first | (with_reducible first | exact HB.out | apply below_alloc | apply pw_below_drewN | apply below_drew1) | exact HB.out)))); have n2_ := Aside0.mk (below_step (by repeat (first | (with_reducible first | exact HB.out | apply below_alloc | apply pw_below_drewN | apply below_drew1) | exact HB.out)) hb); clear HO181; clear HB; have HO181 := n0_; have HO187 := n1_; have HB := n2_; clear n0_ n1_ n2_; (try clear hb); (try clear hb2); (try clear hk); (try clear hi); (try clear ho0); obtain ⟨Ao12, co12, eo12⟩ := Kd.R_slice HO187.out; subst eo12) | (go_at_call 39; (with_reducible refine (fuglemanref12_Same.calls k _ _ y179 _ _ t184 t188 _ ?side1 ?side2 ?side3 ?side4 A6.out).mono ?_); (case side1 => repeat (first | exact (Kd.R_reads' HO181.out).2.2 | (with_reducible refine Kd.C_alloc ?_ _) | (with_reducible refine Kd.C_drewN ?_ _) | (with_reducible refine Kd.C_drew ?_))); (case side2 => exact (Kd.R_reads' HO181.out).2.1); (case side3 => repeat (first | exact (Kd.R_reads' HO187.out).2.2 | (with_reducible refine Kd.C_alloc ?_ _) | (with_reducible refine Kd.C_drewN ?_ _) | (with_reducible refine Kd.C_drew ?_))); (case side4 => exact (Kd.R_reads' HO187.out).2.1); rintro e w' ⟨rfl, ⟨nd, rfl⟩⟩))
        go_ret
        exact ⟨by first | rfl | (simp [errW_none, errW_some] <;> rfl) | (simp [*, errW_none, errW_some] <;> rfl), by repeat (first | (with_reducible first | exact HB.out | apply below_alloc | apply pw_below_drewN | apply below_drew1) | exact HB.out)⟩
      · rw [if_neg c5] at H
        have c5b0 : ((t182.size : Int) == 11) = false := beq_eq_false_iff_ne.mpr c5
        have c5b1 : ((t182.size : Int) != 11) = true := bne_iff_ne.mpr c5
        obtain rfl := Option.some.inj H
        go_enter Try.func35, Try.ntmps35
        go_wp2_with (first | ((with_reducible refine gate_dst (N := 7) rfl ?_); (try (refine gate_guard (by rfl) ?_; dsimp only)); refine Kd.R_lit k89 _ 89 ?hg (N := 7) ?hd (xs := ([(⟨1, 2, 0, 0, (-1)⟩ : S89)] : List (S89))) (inner := [.int .i64 1, .int .i64 2, .int .i64 0, .int .i64 0, .int .i64 (-1)]) (ok := fun _ => True) (okp := fun _ => True) ?hr ?hp (fun _ hk => hk) trivial (Below.refl _ _) (Nat.le_refl _) (by simp) ?_; (case hd => rfl); (case hg => rfl); (case hr => first | (go_simp; done) | (go_simp; rfl)); (case hp => exact (Reps.c5 (show Kd.M k89 _ _ _ (⟨1, 2, 0, 0, (-1)⟩ : S89) [.int .i64 1, .int .i64 2, .int .i64 0, .int .i64 0, .int .i64 (-1)] from (k89_mkM _ _ _ (⟨1, 2, 0, 0, (-1)⟩ : S89) )) (Reps.none _ _))); intro v180 w13 ho14 hb hg_ hnew_; clear hg_ hnew_; (first | rw [← Ny179.out] at ho14 | (simp only [Int.reduceToNat] at ho14; rw [← Ny179.out] at ho14)); have n0_ := Aside0.mk (Kd.R_lower ho14 (below_size (by repeat (first | (with_reducible first | exact HB.out | apply below_alloc | apply pw_below_drewN | apply below_drew1) | exact HB.out)))); have n1_ := Aside0.mk (below_step (by repeat (first | (with_reducible first | exact HB.out | apply below_alloc | apply pw_below_drewN | apply below_drew1) | exact HB.out)) hb); clear HB; have HO181 := n0_; have HB := n1_; clear n0_ n1_; clear hb ho14; obtain ⟨Ao15, co15, eo15⟩ := Kd.R_slice HO181.out; subst eo15) | ((with_reducible refine gate_callee (f := 40) rfl ?_); refine goesL_ (some 10) rfl rfl Try.func40 (by kernel_rfl) rfl #[.slice Ao15 y179.length co15] rfl (by (try simp only [List.map_toArray, List.map_cons, List.map_nil]); first | done | rfl | (simp only [List.length_drop, List.length_take]; rfl)) ?_; (with_reducible refine (code_Encode.calls _ _ y179 t182 t183 _ ?side1 ?side2 A1.out).mono ?_); (case side1 => repeat (first | exact (Kd.R_reads' HO181.out).2.2 | (with_reducible refine Kd.C_alloc ?_ _) | (with_reducible refine Kd.C_drewN ?_ _) | (with_reducible refine Kd.C_drew ?_))); (case side2 => exact (Kd.R_reads' HO181.out).2.1); rintro e w16 ⟨rfl, hb⟩; refine ⟨_, rfl, ?_⟩; have n0_ := Aside0.mk (Kd.R_below (by (with_reducible repeat (first | apply Kd.R_alloc | apply Kd.R_drewN | apply Kd.R_drew)); exact HO181.out) hb); have n1_ := Aside0.mk (below_step (by repeat (first | (with_reducible first | exact HB.out | apply below_alloc | apply pw_below_drewN | apply below_drew1) | exact HB.out)) hb); clear HO181; clear HB; have HO181 := n0_; have HB := n1_; clear n0_ n1_; (try clear hb); (try clear hb2); (try clear hk); (try clear hi)) | ((with_reducible refine gate_callee (f := 37) rfl ?_); refine goesL_ (some 15) rfl rfl Try.func37 (by kernel_rfl) rfl #[.string t182] rfl (by (try simp only [List.map_toArray, List.map_cons, List.map_nil]); first | done | rfl | (simp only [List.length_drop, List.length_take]; rfl)) ?_; (with_reducible refine (code_Decode.calls k t182 t184 t185 _ A2.out).mono ?_); rintro e w17 ⟨v186, rfl, ho0, hb⟩; refine ⟨_, rfl, ?_⟩; have n0_ := Aside0.mk (Kd.R_elder' (by (with_reducible repeat (first | apply Kd.R_alloc | apply Kd.R_drewN | apply Kd.R_drew)); exact HO181.out) (Kd.R_base ho0) hb); have n1_ := Aside0.mk (Kd.R_lower (Kd.R_new' ho0 (Kd.R_lt (by (with_reducible repeat (first | apply Kd.R_alloc | apply Kd.R_drewN | apply Kd.R_drew)); exact HO181.out))) (below_size (by repeat (first | (with_reducible first | exact HB.out | apply below_alloc | apply pw_below_drewN | apply below_drew1) | exact HB.out)))); have n2_ := Aside0.mk (below_step (by repeat (first | (with_reducible first | exact HB.out | apply below_alloc | apply pw_below_drewN | apply below_drew1) | exact HB.out)) hb); clear HO181; clear HB; have HO181 := n0_; have HO187 := n1_; have HB := n2_; clear n0_ n1_ n2_; (try clear hb); (try clear hb2); (try clear hk); (try clear hi); (try clear ho0)))
        go_ret
        exact ⟨by first | rfl | (simp [errW_none, errW_some] <;> rfl) | (simp [*, errW_none, errW_some] <;> rfl), by repeat (first | (with_reducible first | exact HB.out | apply below_alloc | apply pw_below_drewN | apply below_drew1) | exact HB.out)⟩
    · rw [if_neg c4] at H
      have c4b0 : (t185 == 0) = false := beq_eq_false_iff_ne.mpr c4
      have c4b1 : (t185 != 0) = true := bne_iff_ne.mpr c4
      obtain rfl := Option.some.inj H
      go_enter Try.func35, Try.ntmps35
      go_wp2_with (first | ((with_reducible refine gate_dst (N := 7) rfl ?_); (try (refine gate_guard (by rfl) ?_; dsimp only)); refine Kd.R_lit k89 _ 89 ?hg (N := 7) ?hd (xs := ([(⟨1, 2, 0, 0, (-1)⟩ : S89)] : List (S89))) (inner := [.int .i64 1, .int .i64 2, .int .i64 0, .int .i64 0, .int .i64 (-1)]) (ok := fun _ => True) (okp := fun _ => True) ?hr ?hp (fun _ hk => hk) trivial (Below.refl _ _) (Nat.le_refl _) (by simp) ?_; (case hd => rfl); (case hg => rfl); (case hr => first | (go_simp; done) | (go_simp; rfl)); (case hp => exact (Reps.c5 (show Kd.M k89 _ _ _ (⟨1, 2, 0, 0, (-1)⟩ : S89) [.int .i64 1, .int .i64 2, .int .i64 0, .int .i64 0, .int .i64 (-1)] from (k89_mkM _ _ _ (⟨1, 2, 0, 0, (-1)⟩ : S89) )) (Reps.none _ _))); intro v180 w18 ho19 hb hg_ hnew_; clear hg_ hnew_; (first | rw [← Ny179.out] at ho19 | (simp only [Int.reduceToNat] at ho19; rw [← Ny179.out] at ho19)); have n0_ := Aside0.mk (Kd.R_lower ho19 (below_size (by repeat (first | (with_reducible first | exact HB.out | apply below_alloc | apply pw_below_drewN | apply below_drew1) | exact HB.out)))); have n1_ := Aside0.mk (below_step (by repeat (first | (with_reducible first | exact HB.out | apply below_alloc | apply pw_below_drewN | apply below_drew1) | exact HB.out)) hb); clear HB; have HO181 := n0_; have HB := n1_; clear n0_ n1_; clear hb ho19; obtain ⟨Ao20, co20, eo20⟩ := Kd.R_slice HO181.out; subst eo20) | ((with_reducible refine gate_callee (f := 40) rfl ?_); refine goesL_ (some 10) rfl rfl Try.func40 (by kernel_rfl) rfl #[.slice Ao20 y179.length co20] rfl (by (try simp only [List.map_toArray, List.map_cons, List.map_nil]); first | done | rfl | (simp only [List.length_drop, List.length_take]; rfl)) ?_; (with_reducible refine (code_Encode.calls _ _ y179 t182 t183 _ ?side1 ?side2 A1.out).mono ?_); (case side1 => repeat (first | exact (Kd.R_reads' HO181.out).2.2 | (with_reducible refine Kd.C_alloc ?_ _) | (with_reducible refine Kd.C_drewN ?_ _) | (with_reducible refine Kd.C_drew ?_))); (case side2 => exact (Kd.R_reads' HO181.out).2.1); rintro e w21 ⟨rfl, hb⟩; refine ⟨_, rfl, ?_⟩; have n0_ := Aside0.mk (Kd.R_below (by (with_reducible repeat (first | apply Kd.R_alloc | apply Kd.R_drewN | apply Kd.R_drew)); exact HO181.out) hb); have n1_ := Aside0.mk (below_step (by repeat (first | (with_reducible first | exact HB.out | apply below_alloc | apply pw_below_drewN | apply below_drew1) | exact HB.out)) hb); clear HO181; clear HB; have HO181 := n0_; have HB := n1_; clear n0_ n1_; (try clear hb); (try clear hb2); (try clear hk); (try clear hi)) | ((with_reducible refine gate_callee (f := 37) rfl ?_); refine goesL_ (some 15) rfl rfl Try.func37 (by kernel_rfl) rfl #[.string t182] rfl (by (try simp only [List.map_toArray, List.map_cons, List.map_nil]); first | done | rfl | (simp only [List.length_drop, List.length_take]; rfl)) ?_; (with_reducible refine (code_Decode.calls k t182 t184 t185 _ A2.out).mono ?_); rintro e w22 ⟨v186, rfl, ho0, hb⟩; refine ⟨_, rfl, ?_⟩; have n0_ := Aside0.mk (Kd.R_elder' (by (with_reducible repeat (first | apply Kd.R_alloc | apply Kd.R_drewN | apply Kd.R_drew)); exact HO181.out) (Kd.R_base ho0) hb); have n1_ := Aside0.mk (Kd.R_lower (Kd.R_new' ho0 (Kd.R_lt (by (with_reducible repeat (first | apply Kd.R_alloc | apply Kd.R_drewN | apply Kd.R_drew)); exact HO181.out))) (below_size (by repeat (first | (with_reducible first | exact HB.out | apply below_alloc | apply pw_below_drewN | apply below_drew1) | exact HB.out)))); have n2_ := Aside0.mk (below_step (by repeat (first | (with_reducible first | exact HB.out | apply below_alloc | apply pw_below_drewN | apply below_drew1) | exact HB.out)) hb); clear HO181; clear HB; have HO181 := n0_; have HO187 := n1_; have HB := n2_; clear n0_ n1_ n2_; (try clear hb); (try clear hb2); (try clear hk); (try clear hi); (try clear ho0)))
      go_ret
      exact ⟨by first | rfl | (simp [errW_none, errW_some] <;> rfl) | (simp [*, errW_none, errW_some] <;> rfl), by repeat (first | (with_reducible first | exact HB.out | apply below_alloc | apply pw_below_drewN | apply below_drew1) | exact HB.out)⟩
  · rw [if_neg c3] at H
    have c3b0 : (t183 == 0) = false := beq_eq_false_iff_ne.mpr c3
    have c3b1 : (t183 != 0) = true := bne_iff_ne.mpr c3
    obtain rfl := Option.some.inj H
    go_enter Try.func35, Try.ntmps35
    go_wp2_with (first | ((with_reducible refine gate_dst (N := 7) rfl ?_); (try (refine gate_guard (by rfl) ?_; dsimp only)); refine Kd.R_lit k89 _ 89 ?hg (N := 7) ?hd (xs := ([(⟨1, 2, 0, 0, (-1)⟩ : S89)] : List (S89))) (inner := [.int .i64 1, .int .i64 2, .int .i64 0, .int .i64 0, .int .i64 (-1)]) (ok := fun _ => True) (okp := fun _ => True) ?hr ?hp (fun _ hk => hk) trivial (Below.refl _ _) (Nat.le_refl _) (by simp) ?_; (case hd => rfl); (case hg => rfl); (case hr => first | (go_simp; done) | (go_simp; rfl)); (case hp => exact (Reps.c5 (show Kd.M k89 _ _ _ (⟨1, 2, 0, 0, (-1)⟩ : S89) [.int .i64 1, .int .i64 2, .int .i64 0, .int .i64 0, .int .i64 (-1)] from (k89_mkM _ _ _ (⟨1, 2, 0, 0, (-1)⟩ : S89) )) (Reps.none _ _))); intro v180 w23 ho24 hb hg_ hnew_; clear hg_ hnew_; (first | rw [← Ny179.out] at ho24 | (simp only [Int.reduceToNat] at ho24; rw [← Ny179.out] at ho24)); have n0_ := Aside0.mk (Kd.R_lower ho24 (below_size (by repeat (first | (with_reducible first | exact HB.out | apply below_alloc | apply pw_below_drewN | apply below_drew1) | exact HB.out)))); have n1_ := Aside0.mk (below_step (by repeat (first | (with_reducible first | exact HB.out | apply below_alloc | apply pw_below_drewN | apply below_drew1) | exact HB.out)) hb); clear HB; have HO181 := n0_; have HB := n1_; clear n0_ n1_; clear hb ho24; obtain ⟨Ao25, co25, eo25⟩ := Kd.R_slice HO181.out; subst eo25) | ((with_reducible refine gate_callee (f := 40) rfl ?_); refine goesL_ (some 10) rfl rfl Try.func40 (by kernel_rfl) rfl #[.slice Ao25 y179.length co25] rfl (by (try simp only [List.map_toArray, List.map_cons, List.map_nil]); first | done | rfl | (simp only [List.length_drop, List.length_take]; rfl)) ?_; (with_reducible refine (code_Encode.calls _ _ y179 t182 t183 _ ?side1 ?side2 A1.out).mono ?_); (case side1 => repeat (first | exact (Kd.R_reads' HO181.out).2.2 | (with_reducible refine Kd.C_alloc ?_ _) | (with_reducible refine Kd.C_drewN ?_ _) | (with_reducible refine Kd.C_drew ?_))); (case side2 => exact (Kd.R_reads' HO181.out).2.1); rintro e w26 ⟨rfl, hb⟩; refine ⟨_, rfl, ?_⟩; have n0_ := Aside0.mk (Kd.R_below (by (with_reducible repeat (first | apply Kd.R_alloc | apply Kd.R_drewN | apply Kd.R_drew)); exact HO181.out) hb); have n1_ := Aside0.mk (below_step (by repeat (first | (with_reducible first | exact HB.out | apply below_alloc | apply pw_below_drewN | apply below_drew1) | exact HB.out)) hb); clear HO181; clear HB; have HO181 := n0_; have HB := n1_; clear n0_ n1_; (try clear hb); (try clear hb2); (try clear hk); (try clear hi)) | ((with_reducible refine gate_callee (f := 37) rfl ?_); refine goesL_ (some 15) rfl rfl Try.func37 (by kernel_rfl) rfl #[.string t182] rfl (by (try simp only [List.map_toArray, List.map_cons, List.map_nil]); first | done | rfl | (simp only [List.length_drop, List.length_take]; rfl)) ?_; (with_reducible refine (code_Decode.calls k t182 t184 t185 _ A2.out).mono ?_); rintro e w27 ⟨v186, rfl, ho0, hb⟩; refine ⟨_, rfl, ?_⟩; have n0_ := Aside0.mk (Kd.R_elder' (by (with_reducible repeat (first | apply Kd.R_alloc | apply Kd.R_drewN | apply Kd.R_drew)); exact HO181.out) (Kd.R_base ho0) hb); have n1_ := Aside0.mk (Kd.R_lower (Kd.R_new' ho0 (Kd.R_lt (by (with_reducible repeat (first | apply Kd.R_alloc | apply Kd.R_drewN | apply Kd.R_drew)); exact HO181.out))) (below_size (by repeat (first | (with_reducible first | exact HB.out | apply below_alloc | apply pw_below_drewN | apply below_drew1) | exact HB.out)))); have n2_ := Aside0.mk (below_step (by repeat (first | (with_reducible first | exact HB.out | apply below_alloc | apply pw_below_drewN | apply below_drew1) | exact HB.out)) hb); clear HO181; clear HB; have HO181 := n0_; have HO187 := n1_; have HB := n2_; clear n0_ n1_ n2_; (try clear hb); (try clear hb2); (try clear hk); (try clear hi); (try clear ho0)))
    go_ret
    exact ⟨by first | rfl | (simp [errW_none, errW_some] <;> rfl) | (simp [*, errW_none, errW_some] <;> rfl), by repeat (first | (with_reducible first | exact HB.out | apply below_alloc | apply pw_below_drewN | apply below_drew1) | exact HB.out)⟩

/-! ### fuglemanref01_More: function 69 -/
mutual
def fuglemanref01_More.l0 : Nat → ByteArray → Int → Int → Option (Int)
  | 0, _, _, _ => none
  | k + 1, x1, x5, x6 => if x6 < (x1.size : Int) then (if 0 ≤ x6 then (fuglemanref01_More.l1 k x1 (Go.bits .xor .i64 x5 (wrap64 ((wrap64 (bt x1 x6)) * 256))) x6 0) else (none)) else (some (IntKind.u16.wrap (x5)))
def fuglemanref01_More.l1 : Nat → ByteArray → Int → Int → Int → Option (Int)
  | 0, _, _, _, _ => none
  | k + 1, x1, x5, x6, x7 => if x7 < 8 then (if (wrap64 (2 * x5)) ≥ 65536 then (fuglemanref01_More.l1 k x1 (Go.bits .xor .i64 (wrap64 ((wrap64 (2 * x5)) - 65536)) 4129) x6 (wrap64 (x7 + 1))) else (fuglemanref01_More.l1 k x1 (wrap64 (2 * x5)) x6 (wrap64 (x7 + 1)))) else (fuglemanref01_More.l0 k x1 x5 (wrap64 (x6 + 1)))
end
def fuglemanref01_More.f (k : Nat) (a0 : Int) (a1 : ByteArray) : Option (Int) := fuglemanref01_More.l0 k a1 (wrap64 (a0)) 0
theorem fuglemanref01_More.mono_l : ∀ k, (∀ y0 y1 y2, LeO (fuglemanref01_More.l0 k y0 y1 y2) (fuglemanref01_More.l0 (k + 1) y0 y1 y2)) ∧ (∀ y0 y1 y2 y3, LeO (fuglemanref01_More.l1 k y0 y1 y2 y3) (fuglemanref01_More.l1 (k + 1) y0 y1 y2 y3))
  | 0 => ⟨fun _ _ _ r h => by simp [fuglemanref01_More.l0] at h, fun _ _ _ _ r h => by simp [fuglemanref01_More.l1] at h⟩
  | k + 1 => by
    obtain ⟨ih0, ih1⟩ := fuglemanref01_More.mono_l k
    refine ⟨?_, ?_⟩
    · intro y0 y1 y2
      unfold fuglemanref01_More.l0
      repeat' first
      | (with_reducible exact ih0 _ _ _)
      | (with_reducible exact ih1 _ _ _ _)
      | (with_reducible exact LeO.refl _)
      | (with_reducible exact LeO.none _)
      | (with_reducible refine LeO.ite ?_ ?_)
      | (with_reducible refine LeO.bind ?_ (fun _ => ?_))
      | exact ih0 _ _ _
      | exact ih1 _ _ _ _
      | exact LeO.none _
      | refine LeO.ite ?_ ?_
      | refine LeO.bind ?_ (fun _ => ?_)
    · intro y0 y1 y2 y3
      unfold fuglemanref01_More.l1
      repeat' first
      | (with_reducible exact ih0 _ _ _)
      | (with_reducible exact ih1 _ _ _ _)
      | (with_reducible exact LeO.refl _)
      | (with_reducible exact LeO.none _)
      | (with_reducible refine LeO.ite ?_ ?_)
      | (with_reducible refine LeO.bind ?_ (fun _ => ?_))
      | exact ih0 _ _ _
      | exact ih1 _ _ _ _
      | exact LeO.none _
      | refine LeO.ite ?_ ?_
      | refine LeO.bind ?_ (fun _ => ?_)
theorem fuglemanref01_More.mono : ∀ a0 a1 k, LeO (fuglemanref01_More.f k a0 a1) (fuglemanref01_More.f (k + 1) a0 a1) := by
  intro a0 a1 k
  obtain ⟨ih0, ih1⟩ := fuglemanref01_More.mono_l k
  unfold fuglemanref01_More.f
  repeat' first
      | (with_reducible exact ih0 _ _ _)
      | (with_reducible exact ih1 _ _ _ _)
      | (with_reducible exact LeO.refl _)
      | (with_reducible exact LeO.none _)
      | (with_reducible refine LeO.ite ?_ ?_)
      | (with_reducible refine LeO.bind ?_ (fun _ => ?_))
      | exact ih0 _ _ _
      | exact ih1 _ _ _ _
      | exact LeO.none _
      | refine LeO.ite ?_ ?_
      | refine LeO.bind ?_ (fun _ => ?_)
set_option maxHeartbeats 8000000 in
set_option maxRecDepth 100000 in
theorem fuglemanref01_More.calls (k : Nat) (a0 : Int) (a1 : ByteArray) (r : Int) (w : World) (h : fuglemanref01_More.f k a0 a1 = some r) :
    Calls Try.prog 69 #[.int .u16 a0, .string a1] w fun e w' => e = .returned (.int .u16 r) ∧ Drawn0 w w' := by
  have H : (fuglemanref01_More.l0 k a1 (wrap64 (a0)) 0) = some r := h
  clear h
  have H' := Aside0.mk H
  clear H
  go_enter Try.func69, Try.ntmps69
  go_wp2
  go_loopg [5, 6] k (fun kq v5 v6 w' => ∃ (x5_1 : Int) (x6_1 : Int), v5 = .int .i64 x5_1 ∧ v6 = .int .i64 x6_1 ∧ Aside0 (fuglemanref01_More.l0 kq a1 x5_1 x6_1 = some r) ∧ Aside0 (kq ≤ k) ∧ Drawn0 w w')
  case atStart => exact ⟨(wrap64 (a0)), (0), (by first | rfl | (simp; done) | (simp [*]; done)), (by first | rfl | (simp; done) | (simp [*]; done)), H', ⟨Nat.le_refl _⟩, by repeat (first | exact Drawn0.refl _ | apply Drawn0.step)⟩
  case round =>
    clear H'
    try clear p2
    obtain ⟨x5_1, x6_1, rfl, rfl, HA, HK1, ⟨m1, rfl⟩⟩ := hrel
    cases gk with
    | zero => exact absurd HA.out (by simp [fuglemanref01_More.l0])
    | succ k1 =>
      have H := HA.out
      clear HA
      simp only [fuglemanref01_More.l0] at H
      by_cases c3 : x6_1 < (a1.size : Int)
      · rw [if_pos c3] at H
        have c3b0 : decide (x6_1 < (a1.size : Int)) = true := decide_eq_true c3
        clear c3
        by_cases c4 : 0 ≤ x6_1
        · rw [if_pos c4] at H
          have c4b0 : decide (0 ≤ x6_1) = true := decide_eq_true c4
          clear c4
          have H' := Aside0.mk H
          clear H
          have p5 : 0 ≤ (x6_1 : Int) := of_decide_eq_true (by first | (with_reducible assumption) | assumption)
          have q5 : x6_1 < (a1.size : Int) := of_decide_eq_true (by first | (with_reducible assumption) | assumption)
          have hx5 := bt_at a1 x6_1
          replace p5 := eq_true p5
          replace q5 := eq_true q5
          go_wp2
          go_loopg [5, 7] k1 (fun kq v5 v7 w' => ∃ (x5_2 : Int) (x7_2 : Int), v5 = .int .i64 x5_2 ∧ v7 = .int .i64 x7_2 ∧ Aside0 (fuglemanref01_More.l1 kq a1 x5_2 x6_1 x7_2 = some r) ∧ Aside0 (kq ≤ k1) ∧ Drawn0 w w')
          case atStart => exact ⟨(Go.bits .xor .i64 x5_1 (wrap64 ((wrap64 (bt a1 x6_1)) * 256))), (0), (by first | rfl | (simp; done) | (simp [*]; done)), (by first | rfl | (simp; done) | (simp [*]; done)), H', ⟨Nat.le_refl _⟩, by repeat (first | exact Drawn0.refl _ | apply Drawn0.step)⟩
          case round =>
            clear H'
            try clear p2
            try clear c3
            try clear c3b0
            try clear c4
            try clear c4b0
            try clear p5
            try clear q5
            try clear hx5
            try clear p2
            try clear p5
            try clear q5
            obtain ⟨x5_2, x7_2, rfl, rfl, HA, HK2, ⟨m2, rfl⟩⟩ := hrel
            cases gk with
            | zero => exact absurd HA.out (by simp [fuglemanref01_More.l1])
            | succ k2 =>
              have H := HA.out
              clear HA
              simp only [fuglemanref01_More.l1] at H
              by_cases c6 : x7_2 < 8
              · rw [if_pos c6] at H
                have c6b0 : decide (x7_2 < 8) = true := decide_eq_true c6
                clear c6
                by_cases c7 : (wrap64 (2 * x5_2)) ≥ 65536
                · rw [if_pos c7] at H
                  have c7b0 : decide (65536 ≤ (wrap64 (2 * x5_2))) = true := decide_eq_true c7
                  clear c7
                  have H' := Aside0.mk H
                  clear H
                  go_wp2
                  go_roundg k2
                  case measure => have := HK1.out; have := HK2.out; omega
                  case rel => exact ⟨(Go.bits .xor .i64 (wrap64 ((wrap64 (2 * x5_2)) - 65536)) 4129), (wrap64 (x7_2 + 1)), (by first | rfl | (simp; done) | (simp [*]; done)), (by first | rfl | (simp; done) | (simp [*]; done)), H', ⟨by have := HK1.out; have := HK2.out; omega⟩, by repeat (first | exact Drawn0.refl _ | apply Drawn0.step)⟩
                · rw [if_neg c7] at H
                  have c7b0 : decide (65536 ≤ (wrap64 (2 * x5_2))) = false := decide_eq_false c7
                  clear c7
                  have H' := Aside0.mk H
                  clear H
                  go_wp2
                  go_roundg k2
                  case measure => have := HK1.out; have := HK2.out; omega
                  case rel => exact ⟨(wrap64 (2 * x5_2)), (wrap64 (x7_2 + 1)), (by first | rfl | (simp; done) | (simp [*]; done)), (by first | rfl | (simp; done) | (simp [*]; done)), H', ⟨by have := HK1.out; have := HK2.out; omega⟩, by repeat (first | exact Drawn0.refl _ | apply Drawn0.step)⟩
              · rw [if_neg c6] at H
                have c6b0 : decide (x7_2 < 8) = false := decide_eq_false c6
                clear c6
                have H' := Aside0.mk H
                clear H
                go_wp2
                go_roundg k2
                case measure => have := HK1.out; have := HK2.out; omega
                case rel => exact ⟨(x5_2), (wrap64 (x6_1 + 1)), (by first | rfl | (simp; done) | (simp [*]; done)), (by first | rfl | (simp; done) | (simp [*]; done)), H', ⟨by have := HK1.out; have := HK2.out; omega⟩, by repeat (first | exact Drawn0.refl _ | apply Drawn0.step)⟩
        · rw [if_neg c4] at H
          exact absurd H (by simp)
      · rw [if_neg c3] at H
        have c3b0 : decide (x6_1 < (a1.size : Int)) = false := decide_eq_false c3
        clear c3
        obtain rfl := Option.some.inj H
        go_wp2
        go_ret
        exact ⟨by first | rfl | (simp; done) | (simp [*]; done), by repeat (first | exact Drawn0.refl _ | apply Drawn0.step)⟩

/-! ### fuglemanref01_Sum: function 44 -/

def fuglemanref01_Sum.f (a0 : ByteArray) : Option Int := if a0.size ≤ maxLen then some (((Crc.rmore 65535 a0.data.toList : Nat) : Int)) else none
theorem fuglemanref01_Sum.calls (a0 : ByteArray) (r : Int) (w : World) (h : fuglemanref01_Sum.f a0 = some r) :
    Calls Try.prog 44 #[.string a0] w fun e w' => e = .returned (.int .u16 r) ∧ Drawn0 w w' := by
  unfold fuglemanref01_Sum.f at h
  split at h
  · next hs =>
    obtain rfl := Option.some.inj h
    exact (rsum_any a0 hs w).mono fun e w' ⟨he, hw⟩ => ⟨he, by subst hw; exact Drawn0.refl _⟩
  · cases h



/-! ### fuglemanref01_Sealed: function 36 -/

def fuglemanref01_Sealed.f (a0 : ByteArray) : Option ByteArray := if a0.size + 2 ≤ maxLen then some (Crc.rsealed a0) else none
theorem fuglemanref01_Sealed.calls (a0 : ByteArray) (r : ByteArray) (w : World) (h : fuglemanref01_Sealed.f a0 = some r) :
    Calls Try.prog 36 #[.string a0] w fun e w' => e = .returned (.string r) ∧ Below w.heap.size w w' := by
  unfold fuglemanref01_Sealed.f at h
  split at h
  · next hs =>
    obtain rfl := Option.some.inj h
    exact rsealed_any a0 hs w
  · cases h



/-! ### fuglemanref11_Size: function 32 -/

def fuglemanref11_Size.f (a0 : Int) : Option Int := some (sizeK (kN a0))
theorem fuglemanref11_Size.calls (a0 : Int) (r : Int) (w : World) (h : fuglemanref11_Size.f a0 = some r) :
    Calls Try.prog 32 #[.int .i64 a0] w fun e w' => e = .returned (.int .i64 r) ∧ Below w.heap.size w w' := by
  obtain rfl := Option.some.inj h
  exact rsize_any a0 w



/-! ### fuglemanref11_There: function 20 -/

def fuglemanref11_There.f (a0 a1 a2 : Int) : Option Bool := if (0 ≤ a0 ∧ a0 ≤ 140737488355328) ∧ -9223372036854775808 ≤ a1 ∧ a1 ≤ 9223372036854775807 then some (thereB a0 a1 (sizeK (kN a2))) else none
theorem fuglemanref11_There.calls (a0 a1 a2 : Int) (r : Bool) (w : World) (h : fuglemanref11_There.f a0 a1 a2 = some r) :
    Calls Try.prog 20 #[.int .i64 a0, .int .i64 a1, .int .i64 a2] w fun e w' => e = .returned (.bool r) ∧ Below w.heap.size w w' := by
  unfold fuglemanref11_There.f at h
  split at h
  · next hs =>
    obtain rfl := Option.some.inj h
    exact rthere_any a0 a1 a2 hs.1 hs.2 w
  · cases h



/-! ### fuglemanref11_many: function 46 -/
def fuglemanref11_many.l0 : Nat → Int → Int → Int → Option (Int)
  | 0, _, _, _ => none
  | k + 1, x0, x3, x4 => (fuglemanref11_Size.f x0).bind fun t189 => (if x4 < t189 then (fuglemanref11_many.l0 k x0 (wrap64 (x3 * 256)) (wrap64 (x4 + 1))) else (some x3))
def fuglemanref11_many.f (k : Nat) (a0 : Int) : Option (Int) := if a0 = 1 then (some 2) else (fuglemanref11_many.l0 k a0 1 0)
theorem fuglemanref11_many.mono_l : ∀ k, (∀ y0 y1 y2, LeO (fuglemanref11_many.l0 k y0 y1 y2) (fuglemanref11_many.l0 (k + 1) y0 y1 y2))
  | 0 => fun _ _ _ r h => by simp [fuglemanref11_many.l0] at h
  | k + 1 => by
    have ih0 := fuglemanref11_many.mono_l k
    · intro y0 y1 y2
      unfold fuglemanref11_many.l0
      repeat' first
      | (with_reducible exact ih0 _ _ _)
      | (with_reducible exact LeO.refl _)
      | (with_reducible exact LeO.none _)
      | (with_reducible refine LeO.ite ?_ ?_)
      | (with_reducible refine LeO.bind ?_ (fun _ => ?_))
      | exact ih0 _ _ _
      | exact LeO.none _
      | refine LeO.ite ?_ ?_
      | refine LeO.bind ?_ (fun _ => ?_)
theorem fuglemanref11_many.mono : ∀ a0 k, LeO (fuglemanref11_many.f k a0) (fuglemanref11_many.f (k + 1) a0) := by
  intro a0 k
  have ih0 := fuglemanref11_many.mono_l k
  unfold fuglemanref11_many.f
  repeat' first
      | (with_reducible exact ih0 _ _ _)
      | (with_reducible exact LeO.refl _)
      | (with_reducible exact LeO.none _)
      | (with_reducible refine LeO.ite ?_ ?_)
      | (with_reducible refine LeO.bind ?_ (fun _ => ?_))
      | exact ih0 _ _ _
      | exact LeO.none _
      | refine LeO.ite ?_ ?_
      | refine LeO.bind ?_ (fun _ => ?_)
set_option maxHeartbeats 8000000 in
set_option maxRecDepth 100000 in
theorem fuglemanref11_many.calls (k : Nat) (a0 : Int) (r : Int) (w : World) (h : fuglemanref11_many.f k a0 = some r) :
    Calls Try.prog 46 #[.int .i64 a0] w fun e w' => e = .returned (.int .i64 r) ∧ Below w.heap.size w w' := by
  have HB := Aside0.mk (Below.refl w.heap.size w)
  have H : (if a0 = 1 then (some 2) else (fuglemanref11_many.l0 k a0 1 0)) = some r := h
  clear h
  by_cases c2 : a0 = 1
  · rw [if_pos c2] at H
    have c2b0 : (a0 == 1) = true := beq_iff_eq.mpr c2
    have c2b1 : (a0 != 1) = false := bne_eq_false_iff_eq.mpr c2
    clear c2
    obtain rfl := Option.some.inj H
    go_enter Try.func46, Try.ntmps46
    go_wp2
    go_ret
    exact ⟨by first | rfl | (simp [errW_none, errW_some] <;> rfl) | (simp [*, errW_none, errW_some] <;> rfl), by repeat (first | (with_reducible first | exact HB.out | apply below_alloc | apply pw_below_drewN | apply below_drew1) | exact HB.out)⟩
  · rw [if_neg c2] at H
    have c2b0 : (a0 == 1) = false := beq_eq_false_iff_ne.mpr c2
    have c2b1 : (a0 != 1) = true := bne_iff_ne.mpr c2
    have H' := Aside0.mk H
    clear H
    go_enter Try.func46, Try.ntmps46
    go_wp2
    go_loopg [3, 4] k (fun kq v3 v4 w' => ∃ (x3_1 : Int) (x4_1 : Int), v3 = .int .i64 x3_1 ∧ v4 = .int .i64 x4_1 ∧ Aside0 (fuglemanref11_many.l0 kq a0 x3_1 x4_1 = some r) ∧ Aside0 (kq ≤ k) ∧ Aside0 (Below w.heap.size w w'))
    case atStart => exact ⟨(1), (0), (by first | rfl | (simp; done) | (simp [*]; done)), (by first | rfl | (simp; done) | (simp [*]; done)), H', ⟨Nat.le_refl _⟩, ⟨by repeat (first | (with_reducible first | exact HB.out | apply below_alloc | apply pw_below_drewN | apply below_drew1) | exact HB.out)⟩⟩
    case round =>
      clear H'
      try clear c2
      try clear c2b0
      try clear c2b1
      try clear p2
      obtain ⟨x3_1, x4_1, rfl, rfl, HA, HK1, HB⟩ := hrel
      cases gk with
      | zero => exact absurd HA.out (by simp [fuglemanref11_many.l0])
      | succ k1 =>
        have H := HA.out
        clear HA
        simp only [fuglemanref11_many.l0] at H
        replace H := Option.bind_eq_some_iff.mp H
        obtain ⟨t189, A30, H⟩ := H
        replace H : (if x4_1 < t189 then (fuglemanref11_many.l0 k1 a0 (wrap64 (x3_1 * 256)) (wrap64 (x4_1 + 1))) else (some x3_1)) = some r := H
        have A3 := Aside0.mk A30
        clear A30
        by_cases c4 : x4_1 < t189
        · rw [if_pos c4] at H
          have c4b0 : decide (x4_1 < t189) = true := decide_eq_true c4
          clear c4
          have H' := Aside0.mk H
          clear H
          go_wp2_with (first | ((with_reducible refine gate_callee (f := 32) rfl ?_); refine goesL_ (some 9) rfl rfl Try.func32 (by kernel_rfl) rfl #[.int .i64 a0] rfl (by (try simp only [List.map_toArray, List.map_cons, List.map_nil]); first | done | rfl | (simp only [List.length_drop, List.length_take]; rfl)) ?_; (with_reducible refine (fuglemanref11_Size.calls a0 t189 _ A3.out).mono ?_); rintro e w5 ⟨rfl, hb⟩; refine ⟨_, rfl, ?_⟩; have n0_ := Aside0.mk (below_step (by repeat (first | (with_reducible first | exact HB.out | apply below_alloc | apply pw_below_drewN | apply below_drew1) | exact HB.out)) hb); clear HB; have HB := n0_; clear n0_; (try clear hb); (try clear hb2); (try clear hk); (try clear hi)))
          go_roundg k1
          case measure => have := HK1.out; omega
          case rel => exact ⟨(wrap64 (x3_1 * 256)), (wrap64 (x4_1 + 1)), (by first | rfl | (simp; done) | (simp [*]; done)), (by first | rfl | (simp; done) | (simp [*]; done)), H', ⟨by have := HK1.out; omega⟩, ⟨by repeat (first | (with_reducible first | exact HB.out | apply below_alloc | apply pw_below_drewN | apply below_drew1) | exact HB.out)⟩⟩
        · rw [if_neg c4] at H
          have c4b0 : decide (x4_1 < t189) = false := decide_eq_false c4
          clear c4
          obtain rfl := Option.some.inj H
          go_wp2_with (first | ((with_reducible refine gate_callee (f := 32) rfl ?_); refine goesL_ (some 9) rfl rfl Try.func32 (by kernel_rfl) rfl #[.int .i64 a0] rfl (by (try simp only [List.map_toArray, List.map_cons, List.map_nil]); first | done | rfl | (simp only [List.length_drop, List.length_take]; rfl)) ?_; (with_reducible refine (fuglemanref11_Size.calls a0 t189 _ A3.out).mono ?_); rintro e w6 ⟨rfl, hb⟩; refine ⟨_, rfl, ?_⟩; have n0_ := Aside0.mk (below_step (by repeat (first | (with_reducible first | exact HB.out | apply below_alloc | apply pw_below_drewN | apply below_drew1) | exact HB.out)) hb); clear HB; have HB := n0_; clear n0_; (try clear hb); (try clear hb2); (try clear hk); (try clear hi)))
          go_ret
          exact ⟨by first | rfl | (simp [errW_none, errW_some] <;> rfl) | (simp [*, errW_none, errW_some] <;> rfl), by repeat (first | (with_reducible first | exact HB.out | apply below_alloc | apply pw_below_drewN | apply below_drew1) | exact HB.out)⟩

/-! ### fuglemanref11_least: function 47 -/
def fuglemanref11_least.f (k : Nat) (a0 : Int) : Option (Int) := if a0 ≥ 2 then (if a0 ≤ 4 then ((fuglemanref11_many.f k a0).bind fun t190 => (some (wrap64 (Int.tdiv (wrap64 (-t190)) 2)))) else (some 0)) else (some 0)
theorem fuglemanref11_least.mono : ∀ a0 k, LeO (fuglemanref11_least.f k a0) (fuglemanref11_least.f (k + 1) a0) := by
  intro a0 k
  unfold fuglemanref11_least.f
  repeat' first
      | (with_reducible exact fuglemanref11_many.mono _ _)
      | (with_reducible exact LeO.refl _)
      | (with_reducible exact LeO.none _)
      | (with_reducible refine LeO.ite ?_ ?_)
      | (with_reducible refine LeO.bind ?_ (fun _ => ?_))
      | exact fuglemanref11_many.mono _ _
      | exact LeO.none _
      | refine LeO.ite ?_ ?_
      | refine LeO.bind ?_ (fun _ => ?_)
set_option maxHeartbeats 8000000 in
set_option maxRecDepth 100000 in
theorem fuglemanref11_least.calls (k : Nat) (a0 : Int) (r : Int) (w : World) (h : fuglemanref11_least.f k a0 = some r) :
    Calls Try.prog 47 #[.int .i64 a0] w fun e w' => e = .returned (.int .i64 r) ∧ Below w.heap.size w w' := by
  have HB := Aside0.mk (Below.refl w.heap.size w)
  have H : (if a0 ≥ 2 then (if a0 ≤ 4 then ((fuglemanref11_many.f k a0).bind fun t190 => (some (wrap64 (Int.tdiv (wrap64 (-t190)) 2)))) else (some 0)) else (some 0)) = some r := h
  clear h
  by_cases c2 : a0 ≥ 2
  · rw [if_pos c2] at H
    have c2b0 : decide (2 ≤ a0) = true := decide_eq_true c2
    clear c2
    by_cases c3 : a0 ≤ 4
    · rw [if_pos c3] at H
      have c3b0 : decide (a0 ≤ 4) = true := decide_eq_true c3
      clear c3
      replace H := Option.bind_eq_some_iff.mp H
      obtain ⟨t190, A40, H⟩ := H
      replace H : (some (wrap64 (Int.tdiv (wrap64 (-t190)) 2))) = some r := H
      have A4 := Aside0.mk A40
      clear A40
      obtain rfl := Option.some.inj H
      go_enter Try.func47, Try.ntmps47
      go_wp2_with (first | ((with_reducible refine gate_callee (f := 46) rfl ?_); refine goesL_ (some 10) rfl rfl Try.func46 (by kernel_rfl) rfl #[.int .i64 a0] rfl (by (try simp only [List.map_toArray, List.map_cons, List.map_nil]); first | done | rfl | (simp only [List.length_drop, List.length_take]; rfl)) ?_; (with_reducible refine (fuglemanref11_many.calls k a0 t190 _ A4.out).mono ?_); rintro e w5 ⟨rfl, hb⟩; refine ⟨_, rfl, ?_⟩; have n0_ := Aside0.mk (below_step (by repeat (first | (with_reducible first | exact HB.out | apply below_alloc | apply pw_below_drewN | apply below_drew1) | exact HB.out)) hb); clear HB; have HB := n0_; clear n0_; (try clear hb); (try clear hb2); (try clear hk); (try clear hi)))
      go_ret
      exact ⟨by first | rfl | (simp [errW_none, errW_some] <;> rfl) | (simp [*, errW_none, errW_some] <;> rfl), by repeat (first | (with_reducible first | exact HB.out | apply below_alloc | apply pw_below_drewN | apply below_drew1) | exact HB.out)⟩
    · rw [if_neg c3] at H
      have c3b0 : decide (a0 ≤ 4) = false := decide_eq_false c3
      clear c3
      obtain rfl := Option.some.inj H
      go_enter Try.func47, Try.ntmps47
      go_wp2
      go_ret
      exact ⟨by first | rfl | (simp [errW_none, errW_some] <;> rfl) | (simp [*, errW_none, errW_some] <;> rfl), by repeat (first | (with_reducible first | exact HB.out | apply below_alloc | apply pw_below_drewN | apply below_drew1) | exact HB.out)⟩
  · rw [if_neg c2] at H
    have c2b0 : decide (2 ≤ a0) = false := decide_eq_false c2
    clear c2
    obtain rfl := Option.some.inj H
    go_enter Try.func47, Try.ntmps47
    go_wp2
    go_ret
    exact ⟨by first | rfl | (simp [errW_none, errW_some] <;> rfl) | (simp [*, errW_none, errW_some] <;> rfl), by repeat (first | (with_reducible first | exact HB.out | apply below_alloc | apply pw_below_drewN | apply below_drew1) | exact HB.out)⟩

/-! ### fuglemanref11_Is: function 34 -/

def fuglemanref11_Is.f (a0 : Int) (a1 : Int) : Option Bool := some (isK (kN a0) a1)
theorem fuglemanref11_Is.calls (a0 : Int) (a1 : Int) (r : Bool) (w : World) (h : fuglemanref11_Is.f a0 a1 = some r) :
    Calls Try.prog 34 #[.int .i64 a0, .int .i64 a1] w fun e w' => e = .returned (.bool r) ∧ Below w.heap.size w w' := by
  obtain rfl := Option.some.inj h
  exact ris_any a0 a1 w



/-! ### fuglemanref12_reads: function 82 -/
def fuglemanref12_reads.f (a0 : Int) : Option (Bool) := if a0 = 1 then (some true) else (if a0 = 2 then (some true) else (if a0 ≥ 7 then (if a0 ≤ 12 then (some true) else (if a0 ≥ 14 then (some (decide (a0 ≤ 24))) else (some false))) else (if a0 ≥ 14 then (some (decide (a0 ≤ 24))) else (some false))))
set_option maxHeartbeats 8000000 in
set_option maxRecDepth 100000 in
theorem fuglemanref12_reads.calls (a0 : Int) (r : Bool) (w : World) (h : fuglemanref12_reads.f a0 = some r) :
    Calls Try.prog 82 #[.int .i64 a0] w fun e w' => e = .returned (.bool r) ∧ Drawn0 w w' := by
  have H : (if a0 = 1 then (some true) else (if a0 = 2 then (some true) else (if a0 ≥ 7 then (if a0 ≤ 12 then (some true) else (if a0 ≥ 14 then (some (decide (a0 ≤ 24))) else (some false))) else (if a0 ≥ 14 then (some (decide (a0 ≤ 24))) else (some false))))) = some r := h
  clear h
  by_cases c2 : a0 = 1
  · rw [if_pos c2] at H
    have c2b0 : (a0 == 1) = true := beq_iff_eq.mpr c2
    have c2b1 : (a0 != 1) = false := bne_eq_false_iff_eq.mpr c2
    clear c2
    obtain rfl := Option.some.inj H
    go_enter Try.func82, Try.ntmps82
    go_wp2
    go_ret
    exact ⟨by first | rfl | (simp; done) | (simp [*]; done), by repeat (first | exact Drawn0.refl _ | apply Drawn0.step)⟩
  · rw [if_neg c2] at H
    have c2b0 : (a0 == 1) = false := beq_eq_false_iff_ne.mpr c2
    have c2b1 : (a0 != 1) = true := bne_iff_ne.mpr c2
    by_cases c3 : a0 = 2
    · rw [if_pos c3] at H
      have c3b0 : (a0 == 2) = true := beq_iff_eq.mpr c3
      have c3b1 : (a0 != 2) = false := bne_eq_false_iff_eq.mpr c3
      clear c3
      obtain rfl := Option.some.inj H
      go_enter Try.func82, Try.ntmps82
      go_wp2
      go_ret
      exact ⟨by first | rfl | (simp; done) | (simp [*]; done), by repeat (first | exact Drawn0.refl _ | apply Drawn0.step)⟩
    · rw [if_neg c3] at H
      have c3b0 : (a0 == 2) = false := beq_eq_false_iff_ne.mpr c3
      have c3b1 : (a0 != 2) = true := bne_iff_ne.mpr c3
      by_cases c4 : a0 ≥ 7
      · rw [if_pos c4] at H
        have c4b0 : decide (7 ≤ a0) = true := decide_eq_true c4
        clear c4
        by_cases c5 : a0 ≤ 12
        · rw [if_pos c5] at H
          have c5b0 : decide (a0 ≤ 12) = true := decide_eq_true c5
          clear c5
          obtain rfl := Option.some.inj H
          go_enter Try.func82, Try.ntmps82
          go_wp2
          go_ret
          exact ⟨by first | rfl | (simp; done) | (simp [*]; done), by repeat (first | exact Drawn0.refl _ | apply Drawn0.step)⟩
        · rw [if_neg c5] at H
          have c5b0 : decide (a0 ≤ 12) = false := decide_eq_false c5
          clear c5
          by_cases c6 : a0 ≥ 14
          · rw [if_pos c6] at H
            have c6b0 : decide (14 ≤ a0) = true := decide_eq_true c6
            clear c6
            obtain rfl := Option.some.inj H
            go_enter Try.func82, Try.ntmps82
            go_wp2
            go_ret
            exact ⟨by first | rfl | (simp; done) | (simp [*]; done), by repeat (first | exact Drawn0.refl _ | apply Drawn0.step)⟩
          · rw [if_neg c6] at H
            have c6b0 : decide (14 ≤ a0) = false := decide_eq_false c6
            clear c6
            obtain rfl := Option.some.inj H
            go_enter Try.func82, Try.ntmps82
            go_wp2
            go_ret
            exact ⟨by first | rfl | (simp; done) | (simp [*]; done), by repeat (first | exact Drawn0.refl _ | apply Drawn0.step)⟩
      · rw [if_neg c4] at H
        have c4b0 : decide (7 ≤ a0) = false := decide_eq_false c4
        clear c4
        by_cases c7 : a0 ≥ 14
        · rw [if_pos c7] at H
          have c7b0 : decide (14 ≤ a0) = true := decide_eq_true c7
          clear c7
          obtain rfl := Option.some.inj H
          go_enter Try.func82, Try.ntmps82
          go_wp2
          go_ret
          exact ⟨by first | rfl | (simp; done) | (simp [*]; done), by repeat (first | exact Drawn0.refl _ | apply Drawn0.step)⟩
        · rw [if_neg c7] at H
          have c7b0 : decide (14 ≤ a0) = false := decide_eq_false c7
          clear c7
          obtain rfl := Option.some.inj H
          go_enter Try.func82, Try.ntmps82
          go_wp2
          go_ret
          exact ⟨by first | rfl | (simp; done) | (simp [*]; done), by repeat (first | exact Drawn0.refl _ | apply Drawn0.step)⟩

/-! ### fuglemanref12_writes: function 83 -/
def fuglemanref12_writes.f (a0 : Int) : Option (Bool) := if a0 ≥ 3 then (some (decide (a0 ≤ 6))) else (some false)
set_option maxHeartbeats 8000000 in
set_option maxRecDepth 100000 in
theorem fuglemanref12_writes.calls (a0 : Int) (r : Bool) (w : World) (h : fuglemanref12_writes.f a0 = some r) :
    Calls Try.prog 83 #[.int .i64 a0] w fun e w' => e = .returned (.bool r) ∧ Drawn0 w w' := by
  have H : (if a0 ≥ 3 then (some (decide (a0 ≤ 6))) else (some false)) = some r := h
  clear h
  by_cases c2 : a0 ≥ 3
  · rw [if_pos c2] at H
    have c2b0 : decide (3 ≤ a0) = true := decide_eq_true c2
    clear c2
    obtain rfl := Option.some.inj H
    go_enter Try.func83, Try.ntmps83
    go_wp2
    go_ret
    exact ⟨by first | rfl | (simp; done) | (simp [*]; done), by repeat (first | exact Drawn0.refl _ | apply Drawn0.step)⟩
  · rw [if_neg c2] at H
    have c2b0 : decide (3 ≤ a0) = false := decide_eq_false c2
    clear c2
    obtain rfl := Option.some.inj H
    go_enter Try.func83, Try.ntmps83
    go_wp2
    go_ret
    exact ⟨by first | rfl | (simp; done) | (simp [*]; done), by repeat (first | exact Drawn0.refl _ | apply Drawn0.step)⟩

/-! ### fuglemanref12_Right: function 66 -/

def fuglemanref12_Right.f (a0_0 : Int) (a0_1 : Int) (a0_2 : Int) (a0_3 : Int) (a0_4 : Int) : Option Bool := if -9223372036854775808 ≤ a0_3 ∧ a0_3 ≤ 9223372036854775807 then some (rightS a0_0 a0_1 a0_2 a0_3 a0_4) else none
theorem fuglemanref12_Right.calls (a0_0 : Int) (a0_1 : Int) (a0_2 : Int) (a0_3 : Int) (a0_4 : Int) (r : Bool) (w : World) (h : fuglemanref12_Right.f a0_0 a0_1 a0_2 a0_3 a0_4 = some r) :
    Calls Try.prog 66 #[.agg #[.int .i64 a0_0, .int .i64 a0_1, .int .i64 a0_2, .int .i64 a0_3, .int .i64 a0_4]] w fun e w' => e = .returned (.bool r) ∧ Below w.heap.size w w' := by
  unfold fuglemanref12_Right.f at h
  split at h
  · next hs =>
    obtain rfl := Option.some.inj h
    exact rright_any a0_0 a0_1 a0_2 a0_3 a0_4 hs w
  · cases h



end Go.Proofs.Ytclbmgnpgjhlhaa.PCode
