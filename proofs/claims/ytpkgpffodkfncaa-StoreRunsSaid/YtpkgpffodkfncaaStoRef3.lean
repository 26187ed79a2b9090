/- The reference's Of. -/
import Derived.Test.YtpkgpffodkfncaaStoRef
namespace Go.Proofs.Ytpkgpffodkfncaa
open Go.RowKit
set_option maxRecDepth 100000 in
theorem rstOf_any (s : ByteArray) (hs : s.size ≤ 200) (w : World) :
    Calls Try.prog 55 #[.string s] w fun e w' => e = .returned (.pointer (some ⟨w.heap.size + 1, 0, none⟩)) ∧ RstAt w' (w.heap.size + 1) w.heap.size s.size s.data.toList true (-1) 0 ∧ Below w.heap.size w w' := by
  have hsl : s.data.toList.length = s.size := by simp
  have hcl : clampN (s.size : Int) = s.size := by unfold clampN; omega
  have HCL := Lib.hid hcl
  have HSL := Lib.hid hsl
  clear hsl hcl
  go_enter Try.func55, Try.ntmps55
  go_wp2_with fail
  refine (rstNew_any (s.size : Int) (by omega) w).mono ?_
  rintro e w1 ⟨rfl, hR, hb⟩
  rw [HCL.out] at hR
  obtain ⟨z, hz⟩ : ∃ z : List UInt8, z = List.replicate s.size 0 := ⟨_, rfl⟩
  rw [← hz] at hR
  have hzl : z.length = s.size := by rw [hz]; simp
  have hpt : putAt z 0 s.data.toList = s.data.toList := by
    simp only [putAt, List.take_zero, List.nil_append]
    rw [List.drop_of_length_le (by rw [HSL.out]; omega), List.append_nil]
  have c0 : w1.cell? ⟨w.heap.size + 1, 0, none⟩ = some (.slice (some ⟨w.heap.size, 0, none⟩) s.size s.size) := by rw [← hzl]; have := hR.obj.cell 0; rw [hzl] at this ⊢; exact this
  have hcp0 := row_copy hR.row 3 0 s.size s (by omega)
  have hcp : (Builtin.copy_ #[33, 9] 3 #[.slice (some ⟨w.heap.size, 0, none⟩) s.size s.size, .string s]).run Try.prog w1 = .ok (goInt s.size) (w1.setCells w.heap.size 0 (u8Vals s.data.toList)) := by
    rw [Nat.sub_zero, hzl] at hcp0
    exact hcp0
  have HR := Lib.hid hR
  have HZ := Lib.hid hzl
  have HP := Lib.hid hpt
  clear hR hzl hpt hcp0 hz
  go_wp2_with (at_builtin; refine Lib.wpList_copy_run _ rfl _ _ 33 9 rfl _ _ rfl rfl hcp ?_)
  go_ret
  have hr := HR.out.row.put 0 s.data.toList (by rw [HSL.out, HZ.out]; omega)
  rw [HP.out] at hr
  have ho : ObjAt (w1.setCells w.heap.size 0 (u8Vals s.data.toList)) (w.heap.size + 1) _ _ := (setCells_heap_other w.heap.size (w.heap.size + 1) (by omega) _ 0 w1).trans HR.out.obj
  refine ⟨rfl, ⟨?_, hr, by omega, by rw [HSL.out]; omega, by omega, by rw [HSL.out]; omega⟩, ?_⟩
  · rw [HSL.out]
    rw [HZ.out] at ho
    exact ho
  · exact hb.trans ((keep_setCells (fun k => k = w.heap.size) w.heap.size rfl _ 0 w1).below hb.size (fun k hk he => by omega))
end Go.Proofs.Ytpkgpffodkfncaa
