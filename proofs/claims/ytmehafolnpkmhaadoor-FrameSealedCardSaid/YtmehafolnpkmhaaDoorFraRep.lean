/- The reference's epoch, as bytes. -/
import Derived.Test.YtmehafolnpkmhaaDoorFraEnc
namespace Go.Proofs.YtmehafolnpkmhaaDoor
open Go.RowKit
theorem bts_one (n : Nat) : Oct.bts n 1 = [UInt8.ofNat n] := by
  have h : UInt8.ofNat (n % 256) = UInt8.ofNat n := by
    apply UInt8.toNat_inj.1
    simp
  simp [Oct.bts, h]
theorem rbytes_two (a : Int) (ha : 0 ≤ a ∧ a ≤ 4294967295) (w : World) :
    Calls Tryd.prog 78 #[.int .u32 a, .int .i64 2] w fun e w' => e = .returned (.string ⟨(Oct.bts a.toNat 2).toArray⟩) ∧ Below w.heap.size w w' :=
  rbytes_int a ha 2 (by omega) w
theorem rbytes_four (a : Int) (ha : 0 ≤ a ∧ a ≤ 4294967295) (w : World) :
    Calls Tryd.prog 78 #[.int .u32 a, .int .i64 4] w fun e w' => e = .returned (.string ⟨(Oct.bts a.toNat 4).toArray⟩) ∧ Below w.heap.size w w' :=
  rbytes_int a ha 4 (by omega) w
theorem str_size (l : List UInt8) : (⟨l.toArray⟩ : ByteArray).size = l.length := by
  show l.toArray.size = _
  simp
theorem str_add (l m : List UInt8) : (⟨l.toArray⟩ : ByteArray) ++ ⟨m.toArray⟩ = ⟨(l ++ m).toArray⟩ := by
  apply ext_bytes
  rw [ByteArray.data_append, Array.toList_append]
set_option maxRecDepth 100000 in
set_option maxHeartbeats 4000000 in
theorem repoch_any (c a i : Int) (hc : 0 ≤ c ∧ c < 65536) (ha : 0 ≤ a ∧ a < 256) (hi : 0 ≤ i ∧ i < 65536) (w : World) :
    Calls Tryd.prog 77 #[.agg #[.int .u16 c, .int .u8 a, .int .u16 i]] w fun e w' => e = .returned (.string ⟨(epB c a i).toArray⟩) ∧ Below w.heap.size w w' := by
  have HO := Lib.hid (ObjAt.new w #[.int .u16 c, .int .u8 a, .int .u16 i] 45)
  have HB := Lib.hid ((Below.refl w.heap.size w).alloc (Nat.le_refl _) (.cells #[.int .u16 c, .int .u8 a, .int .u16 i] 45))
  have hw1 : IntKind.u32.wrap c = c := by rw [IntKind.wrap_u32']; omega
  have hw2 : IntKind.u32.wrap a = a := by rw [IntKind.wrap_u32']; omega
  have hw3 : IntKind.u32.wrap i = i := by rw [IntKind.wrap_u32']; omega
  go_enter Tryd.func77, Tryd.ntmps77
  go_wp2_with fail
  generalize w.alloc (.cells #[.int .u16 c, .int .u8 a, .int .u16 i] 45) = w1 at *
  generalize hgg : w.heap.size = g at *
  have HGG := Lib.hid hgg
  clear hgg
  have HW0 := Lib.hid (show ObjAt w1.drew g #[.int .u16 c, .int .u8 a, .int .u16 i] 45 from HO.out)
  have HX0 := Lib.hid (show Below g w w1.drew from ⟨HB.out.os, HB.out.tape, HB.out.output, HB.out.size, HB.out.block⟩)
  have hl1 : ∀ n k, (⟨(Oct.bts n k).toArray⟩ : ByteArray).size = k := fun n k => by rw [str_size, Oct.bts_length]
  go_region_held3 (fun w' => w'.cell? ⟨g, 0, none⟩ = some (.int .u16 c) ∧ w'.cell? ⟨g, 1, none⟩ = some (.int .u8 a) ∧ w'.cell? ⟨g, 2, none⟩ = some (.int .u16 i))
    (first | exact ⟨HO.out.cell 0, HO.out.cell 1, HO.out.cell 2⟩ | exact ⟨HO5.out.cell 0, HO5.out.cell 1, HO5.out.cell 2⟩ | exact ⟨HO6.out.cell 0, HO6.out.cell 1, HO6.out.cell 2⟩ | exact ⟨HO7.out.cell 0, HO7.out.cell 1, HO7.out.cell 2⟩)
    (first
      | (go_at_call 78; (with_reducible refine (rbytes_two c (by omega) _).mono ?_); rintro e w5 ⟨rfl, hb5⟩; have HX5 := Lib.hid (HX0.out.trans (hb5.mono (Nat.le_of_lt HW0.out.lt))); have HO5 := Lib.hid ((Keep.of_below (S := fun _ => False) hb5).obj HW0.out (fun h => h)))
      | (go_at_call 78; (with_reducible refine (rbytes_one a (by omega) _).mono ?_); rintro e w6 ⟨rfl, hb6⟩; have HX6 := Lib.hid (HX5.out.trans (hb6.mono (Nat.le_of_lt HO5.out.lt))); have HO6 := Lib.hid ((Keep.of_below (S := fun _ => False) hb6).obj HO5.out (fun h => h)))
      | (go_at_call 78; (with_reducible refine (rbytes_two i (by omega) _).mono ?_); rintro e w7 ⟨rfl, hb7⟩; have HX7 := Lib.hid (HX6.out.trans (hb7.mono (Nat.le_of_lt HO6.out.lt))); have HO7 := Lib.hid ((Keep.of_below (S := fun _ => False) hb7).obj HO6.out (fun h => h))))
  go_wp2
  go_ret
  refine ⟨?_, by rw [HGG.out]; exact HX7.out⟩
  rw [str_add, str_add, bts_one]
  rfl
end Go.Proofs.YtmehafolnpkmhaaDoor
