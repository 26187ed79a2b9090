/- frame.put: an epoch behind what a pen has written. -/
import Derived.Test.YtmehafolnpkmhaaDoorgOct
import Derived.Test.YtmehafolnpkmhaaDoorFraFr
import Derived.Deep.RegionHeld3
import Derived.BigQuiet
namespace Go.Proofs.YtmehafolnpkmhaaDoor
open Go.RowKit
theorem PenAt.alloc {w : World} {b : Nat} {l : List UInt8} (h : PenAt w b l) (o : Obj) : PenAt (w.alloc o) b l := by
  obtain ⟨v, hv, hr⟩ := h
  exact ⟨v, hv.alloc o, hr.alloc o⟩
theorem PenAt.drewN {w : World} {b : Nat} {l : List UInt8} (h : PenAt w b l) (n : Nat) : PenAt (w.drewN n) b l := h
theorem PenKeep.obj {b : Nat} {w w' : World} (h : PenKeep b w w') {k : Nat} {cs : Array Value} {t : TypeId} (ho : ObjAt w k cs t) (hk : k ≠ b) (ht : t ≠ 5) : ObjAt w' k cs t := h.objs k cs t (0, 0) hk ht ho
theorem PenKeep.drewN {b : Nat} {u w : World} (h : PenKeep b u w) (n : Nat) : PenKeep b u (w.drewN n) := ⟨⟨h.below.os, h.below.tape, h.below.output, h.below.size, h.below.block⟩, h.objs⟩
/-- An epoch's bytes. -/
def epB (c a i : Int) : List UInt8 := Oct.bts c.toNat 2 ++ [UInt8.ofNat a.toNat] ++ Oct.bts i.toNat 2
set_option maxRecDepth 100000 in
set_option maxHeartbeats 4000000 in
theorem put_any (b : Nat) (l : List UInt8) (c a i : Int) (hc : 0 ≤ c ∧ c ≤ 65535) (ha : 0 ≤ a ∧ a ≤ 255) (hi : 0 ≤ i ∧ i ≤ 65535) (hl : l.length + 10 ≤ 140737488355328) (w : World) (h : PenAt w b l) :
    Calls Tryd.prog 65 #[.pointer (some ⟨b, 0, none⟩), .agg #[.int .u16 c, .int .u8 a, .int .u16 i]] w fun e w' => e = .returned (.tuple #[]) ∧ PenAt w' b (l ++ epB c a i) ∧ PenKeep b w w' := by
  have hlt := h.lt
  have HP := Lib.hid (h.alloc (.cells #[.int .u16 c, .int .u8 a, .int .u16 i] 45))
  have HK := Lib.hid ((PenKeep.refl b w).alloc (Nat.le_of_lt hlt) (.cells #[.int .u16 c, .int .u8 a, .int .u16 i] 45))
  have HO := Lib.hid (ObjAt.new w #[.int .u16 c, .int .u8 a, .int .u16 i] 45)
  have HL := Lib.hid hl
  clear h hl
  go_enter Tryd.func65, Tryd.ntmps65
  go_wp2_with fail
  have hne : w.heap.size ≠ b := by omega
  generalize w.alloc (.cells #[.int .u16 c, .int .u8 a, .int .u16 i] 45) = wa at *
  generalize w.heap.size = g at *
  have a0 : wa.cell? ⟨g, 0, none⟩ = some (.int .u16 c) := HO.out.cell 0
  have a1 : wa.cell? ⟨g, 1, none⟩ = some (.int .u8 a) := HO.out.cell 1
  have a2 : wa.cell? ⟨g, 2, none⟩ = some (.int .u16 i) := HO.out.cell 2
  have HP0 := Lib.hid (show PenAt wa.drew b l from HP.out)
  have HK0 := Lib.hid (show PenKeep b w wa.drew from HK.out.drewN 1)
  have HO0 := Lib.hid (show ObjAt wa.drew g _ _ from HO.out)
  have HT := Lib.hid (show 45 ≠ 5 by decide)
  clear HP HK
  go_region_held3 (fun w' => w'.cell? ⟨g, 0, none⟩ = some (.int .u16 c) ∧ w'.cell? ⟨g, 1, none⟩ = some (.int .u8 a) ∧ w'.cell? ⟨g, 2, none⟩ = some (.int .u16 i))
    (first | exact ⟨HO.out.cell 0, HO.out.cell 1, HO.out.cell 2⟩ | exact ⟨HO5.out.cell 0, HO5.out.cell 1, HO5.out.cell 2⟩ | exact ⟨HO6.out.cell 0, HO6.out.cell 1, HO6.out.cell 2⟩ | exact ⟨HO7.out.cell 0, HO7.out.cell 1, HO7.out.cell 2⟩)
    (first
      | (go_at_call 64; (with_reducible refine (penTwo_int b l c hc (by have := HL.out; omega) _ HP0.out).mono ?_); rintro e w5 ⟨rfl, hp5, hk5⟩; have HP5 := Lib.hid hp5; have HK5 := Lib.hid (HK0.out.trans hk5); have HO5 := Lib.hid (hk5.obj HO0.out hne HT.out))
      | (go_at_call 63; (with_reducible refine (penByte_any b (l ++ Oct.bts c.toNat 2) a ha (by have := HL.out; simp [Oct.bts_length]; omega) _ HP5.out).mono ?_); rintro e w6 ⟨rfl, hp6, hk6⟩; have HP6 := Lib.hid hp6; have HK6 := Lib.hid (HK5.out.trans hk6); have HO6 := Lib.hid (hk6.obj HO5.out hne HT.out))
      | (go_at_call 64; (with_reducible refine (penTwo_int b (l ++ Oct.bts c.toNat 2 ++ [UInt8.ofNat a.toNat]) i hi (by have := HL.out; simp [Oct.bts_length]; omega) _ HP6.out).mono ?_); rintro e w7 ⟨rfl, hp7, hk7⟩; have HP7 := Lib.hid hp7; have HK7 := Lib.hid (HK6.out.trans hk7); have HO7 := Lib.hid (hk7.obj HO6.out hne HT.out)))
  go_wp2
  go_end0
  refine ⟨rfl, ?_, HK7.out⟩
  have := HP7.out
  simp only [List.append_assoc] at this
  simp only [epB, List.append_assoc]
  exact this
end Go.Proofs.YtmehafolnpkmhaaDoor
