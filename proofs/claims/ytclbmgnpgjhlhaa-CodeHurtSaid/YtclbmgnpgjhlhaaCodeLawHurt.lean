/- The law CodeHurt: a program's bytes with one burst that turns something, or cut off at the end, aren't that program's. -/
import Derived.Test.YtclbmgnpgjhlhaaCodeLawReads
import Derived.Test.YtclbmgnpgjhlhaagCrc
import Derived.Test.YtclbmgnpgjhlhaagBase
import Derived.OpenShut
namespace Go.Proofs.Ytclbmgnpgjhlhaa.PCode
open Go.RowKit Go.Proofs.YtclbmgnpgjhlhaaW.PrintWords Go.Proofs.YtclbmgnpgjhlhaaW.PrintLast
theorem decT_nil (t : ByteArray) (h : (decT t).2 ≠ 0) : (decT t).1 = [] := by
  unfold decT at h ⊢
  split
  · rfl
  split
  · rfl
  split
  · rfl
  · split
    · rfl
    split
    · rfl
    split
    · next h2 hs _ c L e h8 h20 he =>
      rw [if_neg h2, if_neg hs] at h
      simp only [e] at h
      rw [if_neg h8, if_neg h20, if_pos he] at h
      exact absurd rfl h
    · rfl
theorem decT_burst (t : ByteArray) (h : Crc.more 65535 t.data.toList ≠ 0) : decT t = ([], 9) := by
  unfold decT
  split
  · rfl
  · next h2 => rw [if_pos (fun hs => h ((Crc.open_just t (by omega)).2 hs))]
theorem plain_len (l : List II) : (plainB l).length = 1 + 8 * l.length := by unfold plainB; rw [List.length_cons, insBs_length]; omega
theorem decT_prog (l : List II) (hok : l.all okB = true) (hin : ∀ x ∈ l, inI x) (hl : l.length ≤ 200) : decT (Crc.sealed ⟨(plainB l).toArray⟩) = (l, 0) := by
  have h1 := decode_eq l hok hin hl 1000 (by omega)
  have h2 := decode_all (Crc.sealed ⟨(plainB l).toArray⟩) (by rw [Crc.sealed_size, bsize (plainB l), plain_len]; omega) 1000 (by decide)
  exact Option.some.inj (h2.symm.trans h1)
theorem decT_cut (l : List II) (hl : l.length ≤ 200) (j : Nat) (hj : j < 3 + 8 * l.length) : (decT ((Crc.sealed ⟨(plainB l).toArray⟩).extract 0 j)).2 ≠ 0 := by
  have hz : (Crc.sealed ⟨(plainB l).toArray⟩).size = 3 + 8 * l.length := by rw [Crc.sealed_size, bsize (plainB l), plain_len]; omega
  have hps : ((Crc.sealed ⟨(plainB l).toArray⟩).extract 0 j).size = j := by rw [ByteArray.size_extract]; omega
  have hpl : (((Crc.sealed ⟨(plainB l).toArray⟩).extract 0 j).extract 0 (j - 2)).data.toList = ((plainB l ++ [UInt8.ofNat (Crc.more 65535 (plainB l) / 256), UInt8.ofNat (Crc.more 65535 (plainB l) % 256)]).take j).take (j - 2) := by
    rw [Crc.extract_list, Crc.extract_list, Crc.sealed_list]
  have hlen : (((Crc.sealed ⟨(plainB l).toArray⟩).extract 0 j).extract 0 (j - 2)).data.toList.length = j - 2 := by
    rw [hpl, List.length_take, List.length_take, List.length_append, plain_len]
    simp
    omega
  intro h
  unfold decT at h
  rw [hps] at h
  split at h
  · simp at h
  split at h
  · simp at h
  split at h
  · simp at h
  · next h2 hs _ c L e =>
    rw [e, List.length_cons] at hlen
    have hc : c = UInt8.ofNat (l.length % 256) := by
      rw [e] at hpl
      unfold plainB at hpl
      obtain ⟨j2, rfl⟩ : ∃ j2, j = j2 + 1 := ⟨j - 1, by omega⟩
      obtain ⟨j3, rfl⟩ : ∃ j3, j2 = j3 + 1 := ⟨j2 - 1, by omega⟩
      rw [List.cons_append, List.take_succ_cons] at hpl
      rw [show j3 + 1 + 1 - 2 = j3 by omega] at hpl hlen
      obtain ⟨j4, rfl⟩ : ∃ j4, j3 = j4 + 1 := ⟨j3 - 1, by omega⟩
      rw [List.take_succ_cons] at hpl
      exact (List.cons.inj hpl).1
    split at h
    · simp at h
    · next h8 =>
      have h8 := Classical.not_not.1 h8
      rw [hc, UInt8.toNat_ofNat'] at h8
      omega
theorem encode_all (l : List II) (hin : ∀ x ∈ l, inI x) : code_Encode.f l = some (if errE l = 0 then (Crc.sealed ⟨(plainB l).toArray⟩, 0) else (⟨#[]⟩, errE l)) := by
  unfold code_Encode.f
  rw [code_right_eq l hin, Option.bind_some]
  by_cases he : errE l = 0
  · have hl : l.length ≤ 200 := by
      unfold errE at he
      split at he
      · omega
      · omega
    rw [if_pos he, if_pos he]
    unfold code_plain.f crc_Sealed.f
    rw [if_pos hl, Option.bind_some, if_pos (by rw [bsize (plainB l), plain_len]; unfold maxLen; omega), Option.bind_some]
  · rw [if_neg he, if_neg he]
end Go.Proofs.Ytclbmgnpgjhlhaa.PCode
namespace Go.Proofs.Ytclbmgnpgjhlhaa
open Go.RowKit Go.Proofs.YtclbmgnpgjhlhaaW.PrintWords Go.Proofs.YtclbmgnpgjhlhaaW.PrintLast
set_option maxRecDepth 100000 in
set_option maxHeartbeats 2000000 in
theorem codeHurt_walk {H : Type} {enc : TypeId × Value → H} (v : Value) (d : DataW H) (p : List MemPlace) {w : World}
    (h : DataW.Trod enc Try.prog w 0 (fun _ => true) true 56 v d p) (o : Value.okWide Try.prog w .any 0 56 v) (_ : ∀ x ∈ d.weights Try.prog 56, x ≤ 140737488351232)
    (at_ : Int) (wa : (Lit.int .i64 at_).wf = true)
    (v2 : Value) (d2 : DataW H) (p2 : List MemPlace) (h2 : DataW.Trod enc Try.prog w 0 (fun _ => true) true 71 v2 d2 p2) (o2 : Value.okWide Try.prog w .any 0 71 v2) (_ : ∀ x ∈ d2.weights Try.prog 71, x ≤ 140737488351232) (_ : World) :
    Calls Try.prog 11 #[v, .int .i64 at_, v2] w fun e w' => e = .returned (.bool true) ∧ Below w.heap.size w w' := by
  obtain ⟨A0, k0, l, rfl, hC, hc, hin⟩ := ins_arg h o
  obtain ⟨la, hl, rfl, hw⟩ := arr_of (k := .u16) Try.underlying71 Try.underlying66 (by kernel_rfl) (by kernel_rfl) h2 o2
  clear h o h2 o2 wa
  match la, hl, hw with
  | [y, q], _, hw =>
  have hy := bounds_u16 (hw y (by simp))
  have hq := bounds_u16 (hw q (by simp))
  clear hw
  obtain ⟨y, rfl⟩ := Int.eq_ofNat_of_zero_le hy.1
  obtain ⟨q, rfl⟩ := Int.eq_ofNat_of_zero_le hq.1
  have hy2 : y < 65536 := by omega
  have hq2 : q < 65536 := by omega
  clear hy hq
  have hX := ObjAt.new w #[.int .u16 (y : Int), .int .u16 (q : Int)] 71
  have hbx := (Below.refl w.heap.size w).alloc (Nat.le_refl _) (.cells #[.int .u16 (y : Int), .int .u16 (q : Int)] 71)
  have hlt : w.heap.size < (w.alloc (.cells #[.int .u16 (y : Int), .int .u16 (q : Int)] 71)).heap.size := by simp
  have x0 := hX.cell 0
  have x1 := hX.cell 1
  have HX := Lib.hid (And.intro x0 (And.intro x1 (And.intro hbx (And.intro hlt (And.intro (Kd.C_below hC hbx) (And.intro hc hin))))))
  clear hX hbx hlt x0 x1 hC hc hin
  go_enter Try.func11, Try.ntmps11
  go_wp2_with fail
  generalize w.alloc (.cells #[.int .u16 (y : Int), .int .u16 (q : Int)] 71) = W at *
  refine (PCode.fuglemanlaw13_awake.calls 1000 true _ (PCode.awake_eq 1000 (by decide))).mono ?_
  rintro e w1 ⟨rfl, hb1⟩
  have HB1 := Lib.hid hb1
  clear hb1
  go_wp2_with fail
  have hen := PCode.encode_all l HX.out.2.2.2.2.2.2
  by_cases he : PCode.errE l = 0
  · rw [if_pos he] at hen
    have HE := Lib.hid hen
    have hlen : l.length ≤ 200 := by
      unfold PCode.errE at he
      split at he
      · omega
      · omega
    have hok : l.all PCode.okB = true := by
      unfold PCode.errE at he
      rw [if_neg (by omega)] at he
      split at he
      · assumption
      · omega
    have hprog := PCode.decT_prog l hok HX.out.2.2.2.2.2.2 hlen
    have hcut := PCode.decT_cut l hlen
    have hzero := Crc.sealed_zero ⟨(PCode.plainB l).toArray⟩
    have hsize : (Crc.sealed ⟨(PCode.plainB l).toArray⟩).size = 3 + 8 * l.length := by rw [Crc.sealed_size, PCode.bsize (PCode.plainB l), PCode.plain_len]; omega
    generalize Crc.sealed ⟨(PCode.plainB l).toArray⟩ = S at *
    have HP := Lib.hid (And.intro hprog (And.intro hcut hzero))
    clear hprog hcut hzero hok he hen
    refine (PCode.code_Encode.calls A0 k0 l S 0 _ (Kd.C_below HX.out.2.2.2.2.1 HB1.out) HX.out.2.2.2.2.2.1 HE.out).mono ?_
    rintro e w2 ⟨rfl, hb2⟩
    have hb := below_step HB1.out hb2
    have y0 : w2.cell? ⟨w.heap.size, 0, none⟩ = some (.int .u16 (y : Int)) := (hb.cell (p := ⟨w.heap.size, 0, none⟩) HX.out.2.2.2.1).trans HX.out.1
    have HB2 := Lib.hid hb
    clear hb2 hb HB1 HE
    by_cases hl2 : 100 < l.length
    · have hl3 : (100 : Int) < (l.length : Int) := by omega
      go_wp2
      go_ret
      exact ⟨rfl, HX.out.2.2.1.trans (HB2.out.mono HX.out.2.2.1.size)⟩
    have hl3 : ¬ (100 : Int) < (l.length : Int) := by omega
    clear hl2
    go_wp2_with fail
    have h8 : S.size * 8 ≤ maxLen := by unfold maxLen; omega
    refine (burst_any S h8 at_ y hy2 _).mono ?_
    rintro e w3 ⟨rfl, hb3⟩
    have hbs := Crc.burst_size S at_ y
    have hfound := Crc.burst_found S at_ y hy2 HP.out.2.2
    have hb := below_step HB2.out hb3
    have HB3 := Lib.hid hb
    clear hb hb3 HB2 y0
    generalize hT : Crc.burst S at_ y = T at *
    have HF := Lib.hid (And.intro hfound hT)
    clear hfound hT
    go_wp2_with fail
    refine (PCode.code_Decode.calls 1000 T (PCode.decT T).1 (PCode.decT T).2 _ (PCode.decode_all T (by omega) 1000 (by decide))).mono ?_
    rintro e w4 ⟨v4, rfl, hR4, hb4⟩
    have hb := below_step HB3.out hb4
    have y1 : w4.cell? ⟨w.heap.size, 1, none⟩ = some (.int .u16 (q : Int)) := (hb.cell (p := ⟨w.heap.size, 1, none⟩) HX.out.2.2.2.1).trans HX.out.2.1
    have HB4 := Lib.hid hb
    clear hb hb4 HB3
    obtain ⟨j, hj⟩ : ∃ j : Nat, j = q % S.size := ⟨_, rfl⟩
    have hjl : j < S.size := by rw [hj]; exact Nat.mod_lt _ (by omega)
    have hjm : (q : Int) % (3 + 8 * (l.length : Int)) = (j : Int) := by rw [hj, hsize]; simp
    have hj0 : (0 : Int) ≤ (j : Int) := by omega
    have hj1 : (j : Int) ≤ 3 + 8 * (l.length : Int) := by omega
    have hcz := HP.out.2.1 j (by omega)
    have hnil := PCode.decT_nil _ hcz
    have hps : (S.extract 0 j).size = j := by rw [ByteArray.size_extract]; omega
    have HZ := Lib.hid (And.intro hcz (And.intro hnil hps))
    clear hcz hnil hps hj
    by_cases hTS : T = S
    · subst hTS
      rw [HP.out.1] at hR4 ⊢
      obtain ⟨A4, c4, rfl⟩ := Kd.R_slice hR4
      obtain ⟨b, hb, hbb⟩ := PCode.same_eq l l (by omega) 1000 (by omega)
      have hb1 : b = true := hbb.2 rfl
      subst hb1
      have HR4 := Lib.hid (And.intro hR4 hb)
      clear hR4 hb hbb
      go_wp2_with fail
      refine (PCode.fuglemanref12_Same.calls 1000 A0 k0 l A4 c4 l true _ (Kd.C_below HX.out.2.2.2.2.1 HB4.out) HX.out.2.2.2.2.2.1 (Kd.R_reads' HR4.out.1).2.2 (Kd.R_reads' HR4.out.1).2.1 HR4.out.2).mono ?_
      rintro e w' ⟨rfl, ⟨nd, rfl⟩⟩
      go_wp2_with fail
      refine (PCode.code_Decode.calls 1000 (T.extract 0 j) (PCode.decT (T.extract 0 j)).1 (PCode.decT (T.extract 0 j)).2 _ (PCode.decode_all _ (by have := HZ.out.2.2; omega) 1000 (by decide))).mono ?_
      rintro e w5 ⟨v5, rfl, hR5, hb5⟩
      rw [HZ.out.2.1] at hR5
      obtain ⟨A5, c5, rfl⟩ := Kd.R_slice hR5
      have hz9 : ((PCode.decT (T.extract 0 j)).2 != 0) = true := bne_iff_ne.mpr HZ.out.1
      have HB5 := Lib.hid (below_step (show Below W.heap.size W (w4.drewN nd) by apply pw_below_drewN; exact HB4.out) hb5)
      clear hR5 hb5
      generalize (PCode.decT (T.extract 0 j)).2 = z at *
      go_wp2
      go_ret
      exact ⟨rfl, HX.out.2.2.1.trans (HB5.out.mono HX.out.2.2.1.size)⟩
    · have h9 := PCode.decT_burst T (HF.out.1 hTS)
      rw [h9] at hR4 ⊢
      obtain ⟨A4, c4, rfl⟩ := Kd.R_slice hR4
      have hne : (T.toList == S.toList) = false := bytes_ne hTS
      have hne2 : (T.toList != S.toList) = true := by simp [bne, hne]
      clear hR4 h9 hTS
      go_wp2_with fail
      refine (PCode.code_Decode.calls 1000 (S.extract 0 j) (PCode.decT (S.extract 0 j)).1 (PCode.decT (S.extract 0 j)).2 _ (PCode.decode_all _ (by have := HZ.out.2.2; omega) 1000 (by decide))).mono ?_
      rintro e w5 ⟨v5, rfl, hR5, hb5⟩
      rw [HZ.out.2.1] at hR5
      obtain ⟨A5, c5, rfl⟩ := Kd.R_slice hR5
      have hz9 : ((PCode.decT (S.extract 0 j)).2 != 0) = true := bne_iff_ne.mpr HZ.out.1
      have HB5 := Lib.hid (below_step HB4.out hb5)
      clear hR5 hb5
      generalize (PCode.decT (S.extract 0 j)).2 = z at *
      go_wp2
      go_ret
      exact ⟨rfl, HX.out.2.2.1.trans (HB5.out.mono HX.out.2.2.1.size)⟩
  · rw [if_neg he] at hen
    refine (PCode.code_Encode.calls A0 k0 l _ _ _ (Kd.C_below HX.out.2.2.2.2.1 HB1.out) HX.out.2.2.2.2.2.1 hen).mono ?_
    rintro e w2 ⟨rfl, hb2⟩
    have hb := below_step HB1.out hb2
    have HB2 := Lib.hid hb
    have heb : (PCode.errE l != 0) = true := bne_iff_ne.mpr he
    clear hb2 hb HB1 hen he
    by_cases hl2 : 100 < l.length
    · have hl3 : (100 : Int) < (l.length : Int) := by omega
      go_wp2
      go_ret
      exact ⟨rfl, HX.out.2.2.1.trans (HB2.out.mono HX.out.2.2.1.size)⟩
    · have hl3 : ¬ (100 : Int) < (l.length : Int) := by omega
      go_wp2
      go_ret
      exact ⟨rfl, HX.out.2.2.1.trans (HB2.out.mono HX.out.2.2.1.size)⟩
end Go.Proofs.Ytclbmgnpgjhlhaa
