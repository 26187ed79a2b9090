/- Functions of the program as plain Lean functions, and that the machine's calls do what these say (written by a program of mine, wip/myprint.py, over the kit's print). -/
import Derived.Test.YtclbmgnpgjhlhaaPCodex0
namespace Go.Proofs.Ytclbmgnpgjhlhaa.PCode
open Go.RowKit Go.Proofs.YtclbmgnpgjhlhaaW.PrintWords Go.Proofs.YtclbmgnpgjhlhaaW.PrintLast Go.Proofs.YtclbmgnpgjhlhaaW.PrintMore
attribute [local go_sem] max2_int min2_int max_two min_two max_three min_three max_four min_four   -- for this text's walks alone
set_option linter.unusedVariables false
set_option linter.unusedSimpArgs false

-- NOT PRINTED: function 54 (iec_kinds)

-- NOT PRINTED: function 51 (iec_of)

/-! ### iec_Size: function 25 -/

def iec_Size.f (a0 : Int) : Option Int := some (sizeK (kN a0))
theorem iec_Size.calls (a0 : Int) (r : Int) (w : World) (h : iec_Size.f a0 = some r) :
    Calls Try.prog 25 #[.int .i64 a0] w fun e w' => e = .returned (.int .i64 r) ∧ Below w.heap.size w w' := by
  obtain rfl := Option.some.inj h
  exact size_any a0 w



/-! ### iec_Wrap: function 26 -/

def iec_Wrap.f (a0 : Int) (a1 : Int) : Option Int := some (wrapK (kN a0) a1)
theorem iec_Wrap.calls (a0 : Int) (a1 : Int) (r : Int) (w : World) (h : iec_Wrap.f a0 a1 = some r) :
    Calls Try.prog 26 #[.int .i64 a0, .int .i64 a1] w fun e w' => e = .returned (.int .i64 r) ∧ Below w.heap.size w w' := by
  obtain rfl := Option.some.inj h
  exact wrap_any a0 a1 w



/-! ### iec_Is: function 27 -/

def iec_Is.f (a0 : Int) (a1 : Int) : Option Bool := some (isK (kN a0) a1)
theorem iec_Is.calls (a0 : Int) (a1 : Int) (r : Bool) (w : World) (h : iec_Is.f a0 a1 = some r) :
    Calls Try.prog 27 #[.int .i64 a0, .int .i64 a1] w fun e w' => e = .returned (.bool r) ∧ Below w.heap.size w w' := by
  obtain rfl := Option.some.inj h
  exact is_any a0 a1 w



-- NOT PRINTED: function 93 (il_ops)

/-! ### il_of: function 87 -/

def opNames : List ByteArray := [⟨#[]⟩, ⟨#[76, 68]⟩, ⟨#[76, 68, 78]⟩, ⟨#[83, 84]⟩, ⟨#[83, 84, 78]⟩, ⟨#[83]⟩, ⟨#[82]⟩, ⟨#[65, 78, 68]⟩, ⟨#[79, 82]⟩, ⟨#[88, 79, 82]⟩, ⟨#[65, 78, 68, 78]⟩, ⟨#[79, 82, 78]⟩, ⟨#[88, 79, 82, 78]⟩, ⟨#[78, 79, 84]⟩, ⟨#[65, 68, 68]⟩, ⟨#[83, 85, 66]⟩, ⟨#[77, 85, 76]⟩, ⟨#[68, 73, 86]⟩, ⟨#[77, 79, 68]⟩, ⟨#[71, 84]⟩, ⟨#[71, 69]⟩, ⟨#[69, 81]⟩, ⟨#[78, 69]⟩, ⟨#[76, 69]⟩, ⟨#[76, 84]⟩, ⟨#[74, 77, 80]⟩, ⟨#[74, 77, 80, 67]⟩, ⟨#[74, 77, 80, 67, 78]⟩, ⟨#[82, 69, 84]⟩, ⟨#[82, 69, 84, 67]⟩, ⟨#[82, 69, 84, 67, 78]⟩, ⟨#[67, 79, 78, 86]⟩, ⟨#[]⟩, ⟨#[]⟩, ⟨#[84, 79, 78]⟩, ⟨#[67, 84, 85]⟩, ⟨#[84, 82, 73, 71]⟩]
def opClasses : List Int := [0, 1, 1, 2, 2, 2, 2, 1, 1, 1, 1, 1, 1, 4, 1, 1, 1, 1, 1, 1, 1, 1, 1, 1, 1, 3, 3, 3, 4, 4, 4, 5, 6, 4, 7, 7, 8]
def opCells : Array Value := #[.string ⟨#[]⟩, .int .i64 0, .string ⟨#[76, 68]⟩, .int .i64 1, .string ⟨#[76, 68, 78]⟩, .int .i64 1, .string ⟨#[83, 84]⟩, .int .i64 2, .string ⟨#[83, 84, 78]⟩, .int .i64 2, .string ⟨#[83]⟩, .int .i64 2, .string ⟨#[82]⟩, .int .i64 2, .string ⟨#[65, 78, 68]⟩, .int .i64 1, .string ⟨#[79, 82]⟩, .int .i64 1, .string ⟨#[88, 79, 82]⟩, .int .i64 1, .string ⟨#[65, 78, 68, 78]⟩, .int .i64 1, .string ⟨#[79, 82, 78]⟩, .int .i64 1, .string ⟨#[88, 79, 82, 78]⟩, .int .i64 1, .string ⟨#[78, 79, 84]⟩, .int .i64 4, .string ⟨#[65, 68, 68]⟩, .int .i64 1, .string ⟨#[83, 85, 66]⟩, .int .i64 1, .string ⟨#[77, 85, 76]⟩, .int .i64 1, .string ⟨#[68, 73, 86]⟩, .int .i64 1, .string ⟨#[77, 79, 68]⟩, .int .i64 1, .string ⟨#[71, 84]⟩, .int .i64 1, .string ⟨#[71, 69]⟩, .int .i64 1, .string ⟨#[69, 81]⟩, .int .i64 1, .string ⟨#[78, 69]⟩, .int .i64 1, .string ⟨#[76, 69]⟩, .int .i64 1, .string ⟨#[76, 84]⟩, .int .i64 1, .string ⟨#[74, 77, 80]⟩, .int .i64 3, .string ⟨#[74, 77, 80, 67]⟩, .int .i64 3, .string ⟨#[74, 77, 80, 67, 78]⟩, .int .i64 3, .string ⟨#[82, 69, 84]⟩, .int .i64 4, .string ⟨#[82, 69, 84, 67]⟩, .int .i64 4, .string ⟨#[82, 69, 84, 67, 78]⟩, .int .i64 4, .string ⟨#[67, 79, 78, 86]⟩, .int .i64 5, .string ⟨#[]⟩, .int .i64 6, .string ⟨#[]⟩, .int .i64 4, .string ⟨#[84, 79, 78]⟩, .int .i64 7, .string ⟨#[67, 84, 85]⟩, .int .i64 7, .string ⟨#[84, 82, 73, 71]⟩, .int .i64 8]
def il_of.f (a0 : Int) : Option (ByteArray × Int) := if 0 ≤ a0 ∧ a0 ≤ 36 then some (opNames.getD a0.toNat ⟨#[]⟩, opClasses.getD a0.toNat 0) else some (⟨#[]⟩, 0)
theorem il_of_lit : (#[.string ⟨#[]⟩, .int .i64 0, .string ⟨#[76, 68]⟩, .int .i64 1, .string ⟨#[76, 68, 78]⟩, .int .i64 1, .string ⟨#[83, 84]⟩, .int .i64 2, .string ⟨#[83, 84, 78]⟩, .int .i64 2, .string ⟨#[83]⟩, .int .i64 2, .string ⟨#[82]⟩, .int .i64 2, .string ⟨#[65, 78, 68]⟩, .int .i64 1, .string ⟨#[79, 82]⟩, .int .i64 1, .string ⟨#[88, 79, 82]⟩, .int .i64 1, .string ⟨#[65, 78, 68, 78]⟩, .int .i64 1, .string ⟨#[79, 82, 78]⟩, .int .i64 1, .string ⟨#[88, 79, 82, 78]⟩, .int .i64 1, .string ⟨#[78, 79, 84]⟩, .int .i64 4, .string ⟨#[65, 68, 68]⟩, .int .i64 1, .string ⟨#[83, 85, 66]⟩, .int .i64 1, .string ⟨#[77, 85, 76]⟩, .int .i64 1, .string ⟨#[68, 73, 86]⟩, .int .i64 1, .string ⟨#[77, 79, 68]⟩, .int .i64 1, .string ⟨#[71, 84]⟩, .int .i64 1, .string ⟨#[71, 69]⟩, .int .i64 1, .string ⟨#[69, 81]⟩, .int .i64 1, .string ⟨#[78, 69]⟩, .int .i64 1, .string ⟨#[76, 69]⟩, .int .i64 1, .string ⟨#[76, 84]⟩, .int .i64 1, .string ⟨#[74, 77, 80]⟩, .int .i64 3, .string ⟨#[74, 77, 80, 67]⟩, .int .i64 3, .string ⟨#[74, 77, 80, 67, 78]⟩, .int .i64 3, .string ⟨#[82, 69, 84]⟩, .int .i64 4, .string ⟨#[82, 69, 84, 67]⟩, .int .i64 4, .string ⟨#[82, 69, 84, 67, 78]⟩, .int .i64 4, .string ⟨#[67, 79, 78, 86]⟩, .int .i64 5, .string ⟨#[]⟩, .int .i64 6, .string ⟨#[]⟩, .int .i64 4, .string ⟨#[84, 79, 78]⟩, .int .i64 7, .string ⟨#[67, 84, 85]⟩, .int .i64 7, .string ⟨#[84, 82, 73, 71]⟩, .int .i64 8] : Array Value) = opCells := rfl
set_option maxRecDepth 100000 in
set_option maxHeartbeats 4000000 in
theorem il_of_ops (w : World) : Calls Try.prog 93 #[] w fun e w' => e = .returned (.slice (some ⟨w.heap.size, 0, none⟩) 37 37) ∧ w' = w.alloc (.cells #[.string ⟨#[]⟩, .int .i64 0, .string ⟨#[76, 68]⟩, .int .i64 1, .string ⟨#[76, 68, 78]⟩, .int .i64 1, .string ⟨#[83, 84]⟩, .int .i64 2, .string ⟨#[83, 84, 78]⟩, .int .i64 2, .string ⟨#[83]⟩, .int .i64 2, .string ⟨#[82]⟩, .int .i64 2, .string ⟨#[65, 78, 68]⟩, .int .i64 1, .string ⟨#[79, 82]⟩, .int .i64 1, .string ⟨#[88, 79, 82]⟩, .int .i64 1, .string ⟨#[65, 78, 68, 78]⟩, .int .i64 1, .string ⟨#[79, 82, 78]⟩, .int .i64 1, .string ⟨#[88, 79, 82, 78]⟩, .int .i64 1, .string ⟨#[78, 79, 84]⟩, .int .i64 4, .string ⟨#[65, 68, 68]⟩, .int .i64 1, .string ⟨#[83, 85, 66]⟩, .int .i64 1, .string ⟨#[77, 85, 76]⟩, .int .i64 1, .string ⟨#[68, 73, 86]⟩, .int .i64 1, .string ⟨#[77, 79, 68]⟩, .int .i64 1, .string ⟨#[71, 84]⟩, .int .i64 1, .string ⟨#[71, 69]⟩, .int .i64 1, .string ⟨#[69, 81]⟩, .int .i64 1, .string ⟨#[78, 69]⟩, .int .i64 1, .string ⟨#[76, 69]⟩, .int .i64 1, .string ⟨#[76, 84]⟩, .int .i64 1, .string ⟨#[74, 77, 80]⟩, .int .i64 3, .string ⟨#[74, 77, 80, 67]⟩, .int .i64 3, .string ⟨#[74, 77, 80, 67, 78]⟩, .int .i64 3, .string ⟨#[82, 69, 84]⟩, .int .i64 4, .string ⟨#[82, 69, 84, 67]⟩, .int .i64 4, .string ⟨#[82, 69, 84, 67, 78]⟩, .int .i64 4, .string ⟨#[67, 79, 78, 86]⟩, .int .i64 5, .string ⟨#[]⟩, .int .i64 6, .string ⟨#[]⟩, .int .i64 4, .string ⟨#[84, 79, 78]⟩, .int .i64 7, .string ⟨#[67, 84, 85]⟩, .int .i64 7, .string ⟨#[84, 82, 73, 71]⟩, .int .i64 8] 120) := by
  go_enter Try.func93, Try.ntmps93
  go_wp2
  go_ret
  exact ⟨rfl, rfl⟩
theorem il_of_cell : ∀ n : Nat, n < 37 → opCells[n * 2]? = some (.string (opNames.getD n ⟨#[]⟩)) ∧ opCells[n * 2 + 1]? = some (.int .i64 (opClasses.getD n 0))
  | 0, _ => ⟨rfl, rfl⟩
  | 1, _ => ⟨rfl, rfl⟩
  | 2, _ => ⟨rfl, rfl⟩
  | 3, _ => ⟨rfl, rfl⟩
  | 4, _ => ⟨rfl, rfl⟩
  | 5, _ => ⟨rfl, rfl⟩
  | 6, _ => ⟨rfl, rfl⟩
  | 7, _ => ⟨rfl, rfl⟩
  | 8, _ => ⟨rfl, rfl⟩
  | 9, _ => ⟨rfl, rfl⟩
  | 10, _ => ⟨rfl, rfl⟩
  | 11, _ => ⟨rfl, rfl⟩
  | 12, _ => ⟨rfl, rfl⟩
  | 13, _ => ⟨rfl, rfl⟩
  | 14, _ => ⟨rfl, rfl⟩
  | 15, _ => ⟨rfl, rfl⟩
  | 16, _ => ⟨rfl, rfl⟩
  | 17, _ => ⟨rfl, rfl⟩
  | 18, _ => ⟨rfl, rfl⟩
  | 19, _ => ⟨rfl, rfl⟩
  | 20, _ => ⟨rfl, rfl⟩
  | 21, _ => ⟨rfl, rfl⟩
  | 22, _ => ⟨rfl, rfl⟩
  | 23, _ => ⟨rfl, rfl⟩
  | 24, _ => ⟨rfl, rfl⟩
  | 25, _ => ⟨rfl, rfl⟩
  | 26, _ => ⟨rfl, rfl⟩
  | 27, _ => ⟨rfl, rfl⟩
  | 28, _ => ⟨rfl, rfl⟩
  | 29, _ => ⟨rfl, rfl⟩
  | 30, _ => ⟨rfl, rfl⟩
  | 31, _ => ⟨rfl, rfl⟩
  | 32, _ => ⟨rfl, rfl⟩
  | 33, _ => ⟨rfl, rfl⟩
  | 34, _ => ⟨rfl, rfl⟩
  | 35, _ => ⟨rfl, rfl⟩
  | 36, _ => ⟨rfl, rfl⟩
  | n + 37, h => absurd h (by omega)
set_option maxRecDepth 100000 in
set_option maxHeartbeats 1000000 in
theorem il_of.calls (a0 : Int) (r1 : ByteArray) (r2 : Int) (w : World) (h : il_of.f a0 = some (r1, r2)) :
    Calls Try.prog 87 #[.int .i64 a0] w fun e w' => e = .returned (.agg #[.string r1, .int .i64 r2]) ∧ Below w.heap.size w w' := by
  unfold il_of.f at h
  have hu := Try.underlying120
  split at h
  · next hs =>
    simp only [Option.some.injEq, Prod.mk.injEq] at h
    obtain ⟨n, rfl⟩ := Int.eq_ofNat_of_zero_le hs.1
    rw [Int.toNat_natCast] at h
    have hc := il_of_cell n (by omega)
    rw [h.1, h.2] at hc
    clear h
    have hlo : ¬ (n : Int) < 0 := by omega
    have hhi : ¬ 37 ≤ (n : Int) := by omega
    have hn : n < 37 := by omega
    have hw0 := (Below.refl w.heap.size w).alloc (Nat.le_refl _) (.cells #[.string ⟨#[]⟩, .int .i64 0] 120)
    have HW := Lib.hid hw0
    have HC := Lib.hid hc
    clear hw0 hc hs
    go_enter Try.func87, Try.ntmps87
    go_wp2_with fail
    refine (il_of_ops _).mono ?_
    rintro e w1 ⟨rfl, rfl⟩
    rw [il_of_lit]
    have hz : (w.alloc (.cells #[.string ⟨#[]⟩, .int .i64 0] 120)).heap.size = w.heap.size + 1 := by simp
    rw [hz]
    have hobj := ObjAt.new (w.alloc (.cells #[.string ⟨#[]⟩, .int .i64 0] 120)) opCells 120
    rw [hz] at hobj
    have c0 : ((w.alloc (.cells #[.string ⟨#[]⟩, .int .i64 0] 120)).alloc (.cells opCells 120)).cell? ⟨w.heap.size + 1, n * 2, none⟩ = some (.string r1) := (hobj.cell _).trans HC.out.1
    have c1 : ((w.alloc (.cells #[.string ⟨#[]⟩, .int .i64 0] 120)).alloc (.cells opCells 120)).cell? ⟨w.heap.size + 1, n * 2 + 1, none⟩ = some (.int .i64 r2) := (hobj.cell _).trans HC.out.2
    have hold := (ObjAt.new w #[.string ⟨#[]⟩, .int .i64 0] 120).alloc (.cells opCells 120)
    have d0 := hold.cell 0
    have d1 := hold.cell 1
    have e0 := hold.free 0
    have e1 := hold.free 1
    have HB := Lib.hid (HW.out.alloc (by simp) (.cells opCells 120))
    have HO := Lib.hid hold
    clear hobj hold hz
    generalize (w.alloc (.cells #[.string ⟨#[]⟩, .int .i64 0] 120)).alloc (.cells opCells 120) = W at *
    go_wp2
    have ho := (HO.out.set 0 (.string r1)).set 1 (.int .i64 r2)
    have f0 : ((W.setCell ⟨w.heap.size, 0, none⟩ (.string r1)).setCell ⟨w.heap.size, 1, none⟩ (.int .i64 r2)).cell? ⟨w.heap.size, 0, none⟩ = some (.string r1) := ho.cell 0
    have f1 : ((W.setCell ⟨w.heap.size, 0, none⟩ (.string r1)).setCell ⟨w.heap.size, 1, none⟩ (.int .i64 r2)).cell? ⟨w.heap.size, 1, none⟩ = some (.int .i64 r2) := ho.cell 1
    exact bodyPost_ret (v := .agg #[.string r1, .int .i64 r2]) (by simp [results, Try.results87, go_sem, f0, f1]) rfl ⟨rfl, (HB.out.setCell (by simp) _).setCell (by simp) _⟩
  · next hs =>
    simp only [Option.some.injEq, Prod.mk.injEq] at h
    obtain ⟨rfl, rfl⟩ := h
    rcases (by omega : a0 < 0 ∨ 36 < a0) with h | h
    · go_enter Try.func87, Try.ntmps87
      go_wp2_with fail
      refine (il_of_ops _).mono ?_
      rintro e w1 ⟨rfl, rfl⟩
      rw [il_of_lit]
      generalize opCells = C
      go_wp2
      exact bodyPost_ret (v := .agg #[.string ⟨#[]⟩, .int .i64 0]) (by simp [results, Try.results87, go_sem]) rfl ⟨rfl, ((Below.refl _ _).alloc (Nat.le_refl _) _).alloc (by simp) _⟩
    · have hlo : ¬ a0 < 0 := by omega
      have hhi : 37 ≤ a0 := by omega
      go_enter Try.func87, Try.ntmps87
      go_wp2_with fail
      refine (il_of_ops _).mono ?_
      rintro e w1 ⟨rfl, rfl⟩
      rw [il_of_lit]
      generalize opCells = C
      go_wp2
      exact bodyPost_ret (v := .agg #[.string ⟨#[]⟩, .int .i64 0]) (by simp [results, Try.results87, go_sem]) rfl ⟨rfl, ((Below.refl _ _).alloc (Nat.le_refl _) _).alloc (by simp) _⟩



/-! ### il_stands: function 88 -/
def il_stands.f (a0_0 : Int) (a0_1 : Int) (a0_2 : Int) (a0_3 : Int) (a0_4 : Int) (a1 : Int) : Option (Bool) := (iec_Size.f a0_1).bind fun t103 => (if t103 > 0 then (if a0_2 ≥ a1 then (if a0_2 ≤ 4 then (if a0_3 ≥ 0 then (if a0_3 ≤ (wrap64 (64 - t103)) then (some (a0_4 == 0)) else (some false)) else (some false)) else (some false)) else (some false)) else (some false))
set_option maxHeartbeats 8000000 in
set_option maxRecDepth 100000 in
theorem il_stands.calls (a0_0 : Int) (a0_1 : Int) (a0_2 : Int) (a0_3 : Int) (a0_4 : Int) (a1 : Int) (r : Bool) (w : World) (h : il_stands.f a0_0 a0_1 a0_2 a0_3 a0_4 a1 = some r) :
    Calls Try.prog 88 #[.agg #[.int .i64 a0_0, .int .i64 a0_1, .int .i64 a0_2, .int .i64 a0_3, .int .i64 a0_4], .int .i64 a1] w fun e w' => e = .returned (.bool r) ∧ Below w.heap.size w w' := by
  have hu89 := Try.underlying89
  have HB := Aside0.mk (Below.refl w.heap.size w)
  have H : ((iec_Size.f a0_1).bind fun t103 => (if t103 > 0 then (if a0_2 ≥ a1 then (if a0_2 ≤ 4 then (if a0_3 ≥ 0 then (if a0_3 ≤ (wrap64 (64 - t103)) then (some (a0_4 == 0)) else (some false)) else (some false)) else (some false)) else (some false)) else (some false))) = some r := h
  clear h
  replace H := Option.bind_eq_some_iff.mp H
  obtain ⟨t103, A30, H⟩ := H
  replace H : (if t103 > 0 then (if a0_2 ≥ a1 then (if a0_2 ≤ 4 then (if a0_3 ≥ 0 then (if a0_3 ≤ (wrap64 (64 - t103)) then (some (a0_4 == 0)) else (some false)) else (some false)) else (some false)) else (some false)) else (some false)) = some r := H
  have A3 := Aside0.mk A30
  clear A30
  by_cases c4 : t103 > 0
  · rw [if_pos c4] at H
    have c4b0 : decide (0 < t103) = true := decide_eq_true c4
    clear c4
    by_cases c5 : a0_2 ≥ a1
    · rw [if_pos c5] at H
      have c5b0 : decide (a1 ≤ a0_2) = true := decide_eq_true c5
      clear c5
      by_cases c6 : a0_2 ≤ 4
      · rw [if_pos c6] at H
        have c6b0 : decide (a0_2 ≤ 4) = true := decide_eq_true c6
        clear c6
        by_cases c7 : a0_3 ≥ 0
        · rw [if_pos c7] at H
          have c7b0 : decide (0 ≤ a0_3) = true := decide_eq_true c7
          clear c7
          by_cases c8 : a0_3 ≤ (wrap64 (64 - t103))
          · rw [if_pos c8] at H
            have c8b0 : decide (a0_3 ≤ (wrap64 (64 - t103))) = true := decide_eq_true c8
            clear c8
            obtain rfl := Option.some.inj H
            go_enter Try.func88, Try.ntmps88
            go_wp2_with (first | ((with_reducible refine gate_dst (N := 2) rfl ?_); refine box_event ?hg (N := 2) ?hd (cs := #[.int .i64 a0_0, .int .i64 a0_1, .int .i64 a0_2, .int .i64 a0_3, .int .i64 a0_4]) (t := 89) ?hr ?_; (case hd => rfl); (case hg => rfl); (case hr => first | (go_simp; done) | (go_simp; rfl)); intro gb102 hg w9 hbox hb; have n0_ := Aside0.mk (below_step (by repeat (first | (with_reducible first | exact HB.out | apply below_alloc | apply pw_below_drewN | apply below_drew1) | exact HB.out)) hb); have n1_ := Aside0.mk (hbox); have n2_ := Aside0.mk ((by rw [hg]; exact (below_size (by repeat (first | (with_reducible first | exact HB.out | apply below_alloc | apply pw_below_drewN | apply below_drew1) | exact HB.out))) : w.heap.size ≤ gb102)); have n3_ := Aside0.mk ((by rw [hg]; exact (below_size (by repeat (first | (with_reducible first | exact HB.out | apply below_alloc | apply pw_below_drewN | apply below_drew1) | exact HB.out))) : w.heap.size ≤ gb102)); clear HB; have HB := n0_; have BK102 := n1_; have GW102 := n2_; have GE102 := n3_; clear n0_ n1_ n2_ n3_; clear hb hbox hg; have hcz10_0 : w9.cell? ⟨gb102, 0, none⟩ = some (.int .i64 a0_0) := (blk_cell BK102.out 0).trans rfl; have hcz10_1 : w9.cell? ⟨gb102, 1, none⟩ = some (.int .i64 a0_1) := (blk_cell BK102.out 1).trans rfl; have hcz10_2 : w9.cell? ⟨gb102, 2, none⟩ = some (.int .i64 a0_2) := (blk_cell BK102.out 2).trans rfl; have hcz10_3 : w9.cell? ⟨gb102, 3, none⟩ = some (.int .i64 a0_3) := (blk_cell BK102.out 3).trans rfl; have hcz10_4 : w9.cell? ⟨gb102, 4, none⟩ = some (.int .i64 a0_4) := (blk_cell BK102.out 4).trans rfl; have hfz10_0 := blk_frozen BK102.out 0; have hfz10_1 := blk_frozen BK102.out 1; have hfz10_2 := blk_frozen BK102.out 2; have hfz10_3 := blk_frozen BK102.out 3; have hfz10_4 := blk_frozen BK102.out 4) | ((with_reducible refine gate_callee (f := 25) rfl ?_); refine goesL_ (some 8) rfl rfl Try.func25 (by kernel_rfl) rfl #[.int .i64 a0_1] rfl (by (try simp only [List.map_toArray, List.map_cons, List.map_nil]); first | done | rfl | (simp only [List.length_drop, List.length_take]; rfl)) ?_; (with_reducible refine (iec_Size.calls a0_1 t103 _ A3.out).mono ?_); rintro e w11 ⟨rfl, hb⟩; refine ⟨_, rfl, ?_⟩; have n0_ := Aside0.mk (blk_below (g := gb102) (o := .cells #[.int .i64 a0_0, .int .i64 a0_1, .int .i64 a0_2, .int .i64 a0_3, .int .i64 a0_4] 89 (0, 0)) (by (with_reducible repeat (first | refine blk_drewN ?_ _ | refine blk_drew ?_ | refine blk_alloc ?_ _)); exact BK102.out) hb); have n1_ := Aside0.mk (below_step (by repeat (first | (with_reducible first | exact HB.out | apply below_alloc | apply pw_below_drewN | apply below_drew1 | refine below_set ?_ GE102.out) | exact HB.out)) hb); clear BK102; clear HB; have BK102 := n0_; have HB := n1_; clear n0_ n1_; (try clear hb); (try clear hb2); (try clear hk); (try clear hi); have hcz12_0 : w11.cell? ⟨gb102, 0, none⟩ = some (.int .i64 a0_0) := (blk_cell BK102.out 0).trans rfl; have hcz12_1 : w11.cell? ⟨gb102, 1, none⟩ = some (.int .i64 a0_1) := (blk_cell BK102.out 1).trans rfl; have hcz12_2 : w11.cell? ⟨gb102, 2, none⟩ = some (.int .i64 a0_2) := (blk_cell BK102.out 2).trans rfl; have hcz12_3 : w11.cell? ⟨gb102, 3, none⟩ = some (.int .i64 a0_3) := (blk_cell BK102.out 3).trans rfl; have hcz12_4 : w11.cell? ⟨gb102, 4, none⟩ = some (.int .i64 a0_4) := (blk_cell BK102.out 4).trans rfl; have hfz12_0 := blk_frozen BK102.out 0; have hfz12_1 := blk_frozen BK102.out 1; have hfz12_2 := blk_frozen BK102.out 2; have hfz12_3 := blk_frozen BK102.out 3; have hfz12_4 := blk_frozen BK102.out 4))
            go_ret
            exact ⟨by first | rfl | (simp [errW_none, errW_some] <;> rfl) | (simp [*, errW_none, errW_some] <;> rfl), by repeat (first | (with_reducible first | exact HB.out | apply below_alloc | apply pw_below_drewN | apply below_drew1 | refine below_set ?_ GE102.out) | exact HB.out)⟩
          · rw [if_neg c8] at H
            have c8b0 : decide (a0_3 ≤ (wrap64 (64 - t103))) = false := decide_eq_false c8
            clear c8
            obtain rfl := Option.some.inj H
            go_enter Try.func88, Try.ntmps88
            go_wp2_with (first | ((with_reducible refine gate_dst (N := 2) rfl ?_); refine box_event ?hg (N := 2) ?hd (cs := #[.int .i64 a0_0, .int .i64 a0_1, .int .i64 a0_2, .int .i64 a0_3, .int .i64 a0_4]) (t := 89) ?hr ?_; (case hd => rfl); (case hg => rfl); (case hr => first | (go_simp; done) | (go_simp; rfl)); intro gb102 hg w13 hbox hb; have n0_ := Aside0.mk (below_step (by repeat (first | (with_reducible first | exact HB.out | apply below_alloc | apply pw_below_drewN | apply below_drew1) | exact HB.out)) hb); have n1_ := Aside0.mk (hbox); have n2_ := Aside0.mk ((by rw [hg]; exact (below_size (by repeat (first | (with_reducible first | exact HB.out | apply below_alloc | apply pw_below_drewN | apply below_drew1) | exact HB.out))) : w.heap.size ≤ gb102)); have n3_ := Aside0.mk ((by rw [hg]; exact (below_size (by repeat (first | (with_reducible first | exact HB.out | apply below_alloc | apply pw_below_drewN | apply below_drew1) | exact HB.out))) : w.heap.size ≤ gb102)); clear HB; have HB := n0_; have BK102 := n1_; have GW102 := n2_; have GE102 := n3_; clear n0_ n1_ n2_ n3_; clear hb hbox hg; have hcz14_0 : w13.cell? ⟨gb102, 0, none⟩ = some (.int .i64 a0_0) := (blk_cell BK102.out 0).trans rfl; have hcz14_1 : w13.cell? ⟨gb102, 1, none⟩ = some (.int .i64 a0_1) := (blk_cell BK102.out 1).trans rfl; have hcz14_2 : w13.cell? ⟨gb102, 2, none⟩ = some (.int .i64 a0_2) := (blk_cell BK102.out 2).trans rfl; have hcz14_3 : w13.cell? ⟨gb102, 3, none⟩ = some (.int .i64 a0_3) := (blk_cell BK102.out 3).trans rfl; have hcz14_4 : w13.cell? ⟨gb102, 4, none⟩ = some (.int .i64 a0_4) := (blk_cell BK102.out 4).trans rfl; have hfz14_0 := blk_frozen BK102.out 0; have hfz14_1 := blk_frozen BK102.out 1; have hfz14_2 := blk_frozen BK102.out 2; have hfz14_3 := blk_frozen BK102.out 3; have hfz14_4 := blk_frozen BK102.out 4) | ((with_reducible refine gate_callee (f := 25) rfl ?_); refine goesL_ (some 8) rfl rfl Try.func25 (by kernel_rfl) rfl #[.int .i64 a0_1] rfl (by (try simp only [List.map_toArray, List.map_cons, List.map_nil]); first | done | rfl | (simp only [List.length_drop, List.length_take]; rfl)) ?_; (with_reducible refine (iec_Size.calls a0_1 t103 _ A3.out).mono ?_); rintro e w15 ⟨rfl, hb⟩; refine ⟨_, rfl, ?_⟩; have n0_ := Aside0.mk (blk_below (g := gb102) (o := .cells #[.int .i64 a0_0, .int .i64 a0_1, .int .i64 a0_2, .int .i64 a0_3, .int .i64 a0_4] 89 (0, 0)) (by (with_reducible repeat (first | refine blk_drewN ?_ _ | refine blk_drew ?_ | refine blk_alloc ?_ _)); exact BK102.out) hb); have n1_ := Aside0.mk (below_step (by repeat (first | (with_reducible first | exact HB.out | apply below_alloc | apply pw_below_drewN | apply below_drew1 | refine below_set ?_ GE102.out) | exact HB.out)) hb); clear BK102; clear HB; have BK102 := n0_; have HB := n1_; clear n0_ n1_; (try clear hb); (try clear hb2); (try clear hk); (try clear hi); have hcz16_0 : w15.cell? ⟨gb102, 0, none⟩ = some (.int .i64 a0_0) := (blk_cell BK102.out 0).trans rfl; have hcz16_1 : w15.cell? ⟨gb102, 1, none⟩ = some (.int .i64 a0_1) := (blk_cell BK102.out 1).trans rfl; have hcz16_2 : w15.cell? ⟨gb102, 2, none⟩ = some (.int .i64 a0_2) := (blk_cell BK102.out 2).trans rfl; have hcz16_3 : w15.cell? ⟨gb102, 3, none⟩ = some (.int .i64 a0_3) := (blk_cell BK102.out 3).trans rfl; have hcz16_4 : w15.cell? ⟨gb102, 4, none⟩ = some (.int .i64 a0_4) := (blk_cell BK102.out 4).trans rfl; have hfz16_0 := blk_frozen BK102.out 0; have hfz16_1 := blk_frozen BK102.out 1; have hfz16_2 := blk_frozen BK102.out 2; have hfz16_3 := blk_frozen BK102.out 3; have hfz16_4 := blk_frozen BK102.out 4))
            go_ret
            exact ⟨by first | rfl | (simp [errW_none, errW_some] <;> rfl) | (simp [*, errW_none, errW_some] <;> rfl), by repeat (first | (with_reducible first | exact HB.out | apply below_alloc | apply pw_below_drewN | apply below_drew1 | refine below_set ?_ GE102.out) | exact HB.out)⟩
        · rw [if_neg c7] at H
          have c7b0 : decide (0 ≤ a0_3) = false := decide_eq_false c7
          clear c7
          obtain rfl := Option.some.inj H
          go_enter Try.func88, Try.ntmps88
          go_wp2_with (first | ((with_reducible refine gate_dst (N := 2) rfl ?_); refine box_event ?hg (N := 2) ?hd (cs := #[.int .i64 a0_0, .int .i64 a0_1, .int .i64 a0_2, .int .i64 a0_3, .int .i64 a0_4]) (t := 89) ?hr ?_; (case hd => rfl); (case hg => rfl); (case hr => first | (go_simp; done) | (go_simp; rfl)); intro gb102 hg w17 hbox hb; have n0_ := Aside0.mk (below_step (by repeat (first | (with_reducible first | exact HB.out | apply below_alloc | apply pw_below_drewN | apply below_drew1) | exact HB.out)) hb); have n1_ := Aside0.mk (hbox); have n2_ := Aside0.mk ((by rw [hg]; exact (below_size (by repeat (first | (with_reducible first | exact HB.out | apply below_alloc | apply pw_below_drewN | apply below_drew1) | exact HB.out))) : w.heap.size ≤ gb102)); have n3_ := Aside0.mk ((by rw [hg]; exact (below_size (by repeat (first | (with_reducible first | exact HB.out | apply below_alloc | apply pw_below_drewN | apply below_drew1) | exact HB.out))) : w.heap.size ≤ gb102)); clear HB; have HB := n0_; have BK102 := n1_; have GW102 := n2_; have GE102 := n3_; clear n0_ n1_ n2_ n3_; clear hb hbox hg; have hcz18_0 : w17.cell? ⟨gb102, 0, none⟩ = some (.int .i64 a0_0) := (blk_cell BK102.out 0).trans rfl; have hcz18_1 : w17.cell? ⟨gb102, 1, none⟩ = some (.int .i64 a0_1) := (blk_cell BK102.out 1).trans rfl; have hcz18_2 : w17.cell? ⟨gb102, 2, none⟩ = some (.int .i64 a0_2) := (blk_cell BK102.out 2).trans rfl; have hcz18_3 : w17.cell? ⟨gb102, 3, none⟩ = some (.int .i64 a0_3) := (blk_cell BK102.out 3).trans rfl; have hcz18_4 : w17.cell? ⟨gb102, 4, none⟩ = some (.int .i64 a0_4) := (blk_cell BK102.out 4).trans rfl; have hfz18_0 := blk_frozen BK102.out 0; have hfz18_1 := blk_frozen BK102.out 1; have hfz18_2 := blk_frozen BK102.out 2; have hfz18_3 := blk_frozen BK102.out 3; have hfz18_4 := blk_frozen BK102.out 4) | ((with_reducible refine gate_callee (f := 25) rfl ?_); refine goesL_ (some 8) rfl rfl Try.func25 (by kernel_rfl) rfl #[.int .i64 a0_1] rfl (by (try simp only [List.map_toArray, List.map_cons, List.map_nil]); first | done | rfl | (simp only [List.length_drop, List.length_take]; rfl)) ?_; (with_reducible refine (iec_Size.calls a0_1 t103 _ A3.out).mono ?_); rintro e w19 ⟨rfl, hb⟩; refine ⟨_, rfl, ?_⟩; have n0_ := Aside0.mk (blk_below (g := gb102) (o := .cells #[.int .i64 a0_0, .int .i64 a0_1, .int .i64 a0_2, .int .i64 a0_3, .int .i64 a0_4] 89 (0, 0)) (by (with_reducible repeat (first | refine blk_drewN ?_ _ | refine blk_drew ?_ | refine blk_alloc ?_ _)); exact BK102.out) hb); have n1_ := Aside0.mk (below_step (by repeat (first | (with_reducible first | exact HB.out | apply below_alloc | apply pw_below_drewN | apply below_drew1 | refine below_set ?_ GE102.out) | exact HB.out)) hb); clear BK102; clear HB; have BK102 := n0_; have HB := n1_; clear n0_ n1_; (try clear hb); (try clear hb2); (try clear hk); (try clear hi); have hcz20_0 : w19.cell? ⟨gb102, 0, none⟩ = some (.int .i64 a0_0) := (blk_cell BK102.out 0).trans rfl; have hcz20_1 : w19.cell? ⟨gb102, 1, none⟩ = some (.int .i64 a0_1) := (blk_cell BK102.out 1).trans rfl; have hcz20_2 : w19.cell? ⟨gb102, 2, none⟩ = some (.int .i64 a0_2) := (blk_cell BK102.out 2).trans rfl; have hcz20_3 : w19.cell? ⟨gb102, 3, none⟩ = some (.int .i64 a0_3) := (blk_cell BK102.out 3).trans rfl; have hcz20_4 : w19.cell? ⟨gb102, 4, none⟩ = some (.int .i64 a0_4) := (blk_cell BK102.out 4).trans rfl; have hfz20_0 := blk_frozen BK102.out 0; have hfz20_1 := blk_frozen BK102.out 1; have hfz20_2 := blk_frozen BK102.out 2; have hfz20_3 := blk_frozen BK102.out 3; have hfz20_4 := blk_frozen BK102.out 4))
          go_ret
          exact ⟨by first | rfl | (simp [errW_none, errW_some] <;> rfl) | (simp [*, errW_none, errW_some] <;> rfl), by repeat (first | (with_reducible first | exact HB.out | apply below_alloc | apply pw_below_drewN | apply below_drew1 | refine below_set ?_ GE102.out) | exact HB.out)⟩
      · rw [if_neg c6] at H
        have c6b0 : decide (a0_2 ≤ 4) = false := decide_eq_false c6
        clear c6
        obtain rfl := Option.some.inj H
        go_enter Try.func88, Try.ntmps88
        go_wp2_with (first | ((with_reducible refine gate_dst (N := 2) rfl ?_); refine box_event ?hg (N := 2) ?hd (cs := #[.int .i64 a0_0, .int .i64 a0_1, .int .i64 a0_2, .int .i64 a0_3, .int .i64 a0_4]) (t := 89) ?hr ?_; (case hd => rfl); (case hg => rfl); (case hr => first | (go_simp; done) | (go_simp; rfl)); intro gb102 hg w21 hbox hb; have n0_ := Aside0.mk (below_step (by repeat (first | (with_reducible first | exact HB.out | apply below_alloc | apply pw_below_drewN | apply below_drew1) | exact HB.out)) hb); have n1_ := Aside0.mk (hbox); have n2_ := Aside0.mk ((by rw [hg]; exact (below_size (by repeat (first | (with_reducible first | exact HB.out | apply below_alloc | apply pw_below_drewN | apply below_drew1) | exact HB.out))) : w.heap.size ≤ gb102)); have n3_ := Aside0.mk ((by rw [hg]; exact (below_size (by repeat (first | (with_reducible first | exact HB.out | apply below_alloc | apply pw_below_drewN | apply below_drew1) | exact HB.out))) : w.heap.size ≤ gb102)); clear HB; have HB := n0_; have BK102 := n1_; have GW102 := n2_; have GE102 := n3_; clear n0_ n1_ n2_ n3_; clear hb hbox hg; have hcz22_0 : w21.cell? ⟨gb102, 0, none⟩ = some (.int .i64 a0_0) := (blk_cell BK102.out 0).trans rfl; have hcz22_1 : w21.cell? ⟨gb102, 1, none⟩ = some (.int .i64 a0_1) := (blk_cell BK102.out 1).trans rfl; have hcz22_2 : w21.cell? ⟨gb102, 2, none⟩ = some (.int .i64 a0_2) := (blk_cell BK102.out 2).trans rfl; have hcz22_3 : w21.cell? ⟨gb102, 3, none⟩ = some (.int .i64 a0_3) := (blk_cell BK102.out 3).trans rfl; have hcz22_4 : w21.cell? ⟨gb102, 4, none⟩ = some (.int .i64 a0_4) := (blk_cell BK102.out 4).trans rfl; have hfz22_0 := blk_frozen BK102.out 0; have hfz22_1 := blk_frozen BK102.out 1; have hfz22_2 := blk_frozen BK102.out 2; have hfz22_3 := blk_frozen BK102.out 3; have hfz22_4 := blk_frozen BK102.out 4) | ((with_reducible refine gate_callee (f := 25) rfl ?_); refine goesL_ (some 8) rfl rfl Try.func25 (by kernel_rfl) rfl #[.int .i64 a0_1] rfl (by (try simp only [List.map_toArray, List.map_cons, List.map_nil]); first | done | rfl | (simp only [List.length_drop, List.length_take]; rfl)) ?_; (with_reducible refine (iec_Size.calls a0_1 t103 _ A3.out).mono ?_); rintro e w23 ⟨rfl, hb⟩; refine ⟨_, rfl, ?_⟩; have n0_ := Aside0.mk (blk_below (g := gb102) (o := .cells #[.int .i64 a0_0, .int .i64 a0_1, .int .i64 a0_2, .int .i64 a0_3, .int .i64 a0_4] 89 (0, 0)) (by (with_reducible repeat (first | refine blk_drewN ?_ _ | refine blk_drew ?_ | refine blk_alloc ?_ _)); exact BK102.out) hb); have n1_ := Aside0.mk (below_step (by repeat (first | (with_reducible first | exact HB.out | apply below_alloc | apply pw_below_drewN | apply below_drew1 | refine below_set ?_ GE102.out) | exact HB.out)) hb); clear BK102; clear HB; have BK102 := n0_; have HB := n1_; clear n0_ n1_; (try clear hb); (try clear hb2); (try clear hk); (try clear hi); have hcz24_0 : w23.cell? ⟨gb102, 0, none⟩ = some (.int .i64 a0_0) := (blk_cell BK102.out 0).trans rfl; have hcz24_1 : w23.cell? ⟨gb102, 1, none⟩ = some (.int .i64 a0_1) := (blk_cell BK102.out 1).trans rfl; have hcz24_2 : w23.cell? ⟨gb102, 2, none⟩ = some (.int .i64 a0_2) := (blk_cell BK102.out 2).trans rfl; have hcz24_3 : w23.cell? ⟨gb102, 3, none⟩ = some (.int .i64 a0_3) := (blk_cell BK102.out 3).trans rfl; have hcz24_4 : w23.cell? ⟨gb102, 4, none⟩ = some (.int .i64 a0_4) := (blk_cell BK102.out 4).trans rfl; have hfz24_0 := blk_frozen BK102.out 0; have hfz24_1 := blk_frozen BK102.out 1; have hfz24_2 := blk_frozen BK102.out 2; have hfz24_3 := blk_frozen BK102.out 3; have hfz24_4 := blk_frozen BK102.out 4))
        go_ret
        exact ⟨by first | rfl | (simp [errW_none, errW_some] <;> rfl) | (simp [*, errW_none, errW_some] <;> rfl), by repeat (first | (with_reducible first | exact HB.out | apply below_alloc | apply pw_below_drewN | apply below_drew1 | refine below_set ?_ GE102.out) | exact HB.out)⟩
    · rw [if_neg c5] at H
      have c5b0 : decide (a1 ≤ a0_2) = false := decide_eq_false c5
      clear c5
      obtain rfl := Option.some.inj H
      go_enter Try.func88, Try.ntmps88
      go_wp2_with (first | ((with_reducible refine gate_dst (N := 2) rfl ?_); refine box_event ?hg (N := 2) ?hd (cs := #[.int .i64 a0_0, .int .i64 a0_1, .int .i64 a0_2, .int .i64 a0_3, .int .i64 a0_4]) (t := 89) ?hr ?_; (case hd => rfl); (case hg => rfl); (case hr => first | (go_simp; done) | (go_simp; rfl)); intro gb102 hg w25 hbox hb; have n0_ := Aside0.mk (below_step (by repeat (first | (with_reducible first | exact HB.out | apply below_alloc | apply pw_below_drewN | apply below_drew1) | exact HB.out)) hb); have n1_ := Aside0.mk (hbox); have n2_ := Aside0.mk ((by rw [hg]; exact (below_size (by repeat (first | (with_reducible first | exact HB.out | apply below_alloc | apply pw_below_drewN | apply below_drew1) | exact HB.out))) : w.heap.size ≤ gb102)); have n3_ := Aside0.mk ((by rw [hg]; exact (below_size (by repeat (first | (with_reducible first | exact HB.out | apply below_alloc | apply pw_below_drewN | apply below_drew1) | exact HB.out))) : w.heap.size ≤ gb102)); clear HB; have HB := n0_; have BK102 := n1_; have GW102 := n2_; have GE102 := n3_; clear n0_ n1_ n2_ n3_; clear hb hbox hg; have hcz26_0 : w25.cell? ⟨gb102, 0, none⟩ = some (.int .i64 a0_0) := (blk_cell BK102.out 0).trans rfl; have hcz26_1 : w25.cell? ⟨gb102, 1, none⟩ = some (.int .i64 a0_1) := (blk_cell BK102.out 1).trans rfl; have hcz26_2 : w25.cell? ⟨gb102, 2, none⟩ = some (.int .i64 a0_2) := (blk_cell BK102.out 2).trans rfl; have hcz26_3 : w25.cell? ⟨gb102, 3, none⟩ = some (.int .i64 a0_3) := (blk_cell BK102.out 3).trans rfl; have hcz26_4 : w25.cell? ⟨gb102, 4, none⟩ = some (.int .i64 a0_4) := (blk_cell BK102.out 4).trans rfl; have hfz26_0 := blk_frozen BK102.out 0; have hfz26_1 := blk_frozen BK102.out 1; have hfz26_2 := blk_frozen BK102.out 2; have hfz26_3 := blk_frozen BK102.out 3; have hfz26_4 := blk_frozen BK102.out 4) | ((with_reducible refine gate_callee (f := 25) rfl ?_); refine goesL_ (some 8) rfl rfl Try.func25 (by kernel_rfl) rfl #[.int .i64 a0_1] rfl (by (try simp only [List.map_toArray, List.map_cons, List.map_nil]); first | done | rfl | (simp only [List.length_drop, List.length_take]; rfl)) ?_; (with_reducible refine (iec_Size.calls a0_1 t103 _ A3.out).mono ?_); rintro e w27 ⟨rfl, hb⟩; refine ⟨_, rfl, ?_⟩; have n0_ := Aside0.mk (blk_below (g := gb102) (o := .cells #[.int .i64 a0_0, .int .i64 a0_1, .int .i64 a0_2, .int .i64 a0_3, .int .i64 a0_4] 89 (0, 0)) (by (with_reducible repeat (first | refine blk_drewN ?_ _ | refine blk_drew ?_ | refine blk_alloc ?_ _)); exact BK102.out) hb); have n1_ := Aside0.mk (below_step (by repeat (first | (with_reducible first | exact HB.out | apply below_alloc | apply pw_below_drewN | apply below_drew1 | refine below_set ?_ GE102.out) | exact HB.out)) hb); clear BK102; clear HB; have BK102 := n0_; have HB := n1_; clear n0_ n1_; (try clear hb); (try clear hb2); (try clear hk); (try clear hi); have hcz28_0 : w27.cell? ⟨gb102, 0, none⟩ = some (.int .i64 a0_0) := (blk_cell BK102.out 0).trans rfl; have hcz28_1 : w27.cell? ⟨gb102, 1, none⟩ = some (.int .i64 a0_1) := (blk_cell BK102.out 1).trans rfl; have hcz28_2 : w27.cell? ⟨gb102, 2, none⟩ = some (.int .i64 a0_2) := (blk_cell BK102.out 2).trans rfl; have hcz28_3 : w27.cell? ⟨gb102, 3, none⟩ = some (.int .i64 a0_3) := (blk_cell BK102.out 3).trans rfl; have hcz28_4 : w27.cell? ⟨gb102, 4, none⟩ = some (.int .i64 a0_4) := (blk_cell BK102.out 4).trans rfl; have hfz28_0 := blk_frozen BK102.out 0; have hfz28_1 := blk_frozen BK102.out 1; have hfz28_2 := blk_frozen BK102.out 2; have hfz28_3 := blk_frozen BK102.out 3; have hfz28_4 := blk_frozen BK102.out 4))
      go_ret
      exact ⟨by first | rfl | (simp [errW_none, errW_some] <;> rfl) | (simp [*, errW_none, errW_some] <;> rfl), by repeat (first | (with_reducible first | exact HB.out | apply below_alloc | apply pw_below_drewN | apply below_drew1 | refine below_set ?_ GE102.out) | exact HB.out)⟩
  · rw [if_neg c4] at H
    have c4b0 : decide (0 < t103) = false := decide_eq_false c4
    clear c4
    obtain rfl := Option.some.inj H
    go_enter Try.func88, Try.ntmps88
    go_wp2_with (first | ((with_reducible refine gate_dst (N := 2) rfl ?_); refine box_event ?hg (N := 2) ?hd (cs := #[.int .i64 a0_0, .int .i64 a0_1, .int .i64 a0_2, .int .i64 a0_3, .int .i64 a0_4]) (t := 89) ?hr ?_; (case hd => rfl); (case hg => rfl); (case hr => first | (go_simp; done) | (go_simp; rfl)); intro gb102 hg w29 hbox hb; have n0_ := Aside0.mk (below_step (by repeat (first | (with_reducible first | exact HB.out | apply below_alloc | apply pw_below_drewN | apply below_drew1) | exact HB.out)) hb); have n1_ := Aside0.mk (hbox); have n2_ := Aside0.mk ((by rw [hg]; exact (below_size (by repeat (first | (with_reducible first | exact HB.out | apply below_alloc | apply pw_below_drewN | apply below_drew1) | exact HB.out))) : w.heap.size ≤ gb102)); have n3_ := Aside0.mk ((by rw [hg]; exact (below_size (by repeat (first | (with_reducible first | exact HB.out | apply below_alloc | apply pw_below_drewN | apply below_drew1) | exact HB.out))) : w.heap.size ≤ gb102)); clear HB; have HB := n0_; have BK102 := n1_; have GW102 := n2_; have GE102 := n3_; clear n0_ n1_ n2_ n3_; clear hb hbox hg; have hcz30_0 : w29.cell? ⟨gb102, 0, none⟩ = some (.int .i64 a0_0) := (blk_cell BK102.out 0).trans rfl; have hcz30_1 : w29.cell? ⟨gb102, 1, none⟩ = some (.int .i64 a0_1) := (blk_cell BK102.out 1).trans rfl; have hcz30_2 : w29.cell? ⟨gb102, 2, none⟩ = some (.int .i64 a0_2) := (blk_cell BK102.out 2).trans rfl; have hcz30_3 : w29.cell? ⟨gb102, 3, none⟩ = some (.int .i64 a0_3) := (blk_cell BK102.out 3).trans rfl; have hcz30_4 : w29.cell? ⟨gb102, 4, none⟩ = some (.int .i64 a0_4) := (blk_cell BK102.out 4).trans rfl; have hfz30_0 := blk_frozen BK102.out 0; have hfz30_1 := blk_frozen BK102.out 1; have hfz30_2 := blk_frozen BK102.out 2; have hfz30_3 := blk_frozen BK102.out 3; have hfz30_4 := blk_frozen BK102.out 4) | ((with_reducible refine gate_callee (f := 25) rfl ?_); refine goesL_ (some 8) rfl rfl Try.func25 (by kernel_rfl) rfl #[.int .i64 a0_1] rfl (by (try simp only [List.map_toArray, List.map_cons, List.map_nil]); first | done | rfl | (simp only [List.length_drop, List.length_take]; rfl)) ?_; (with_reducible refine (iec_Size.calls a0_1 t103 _ A3.out).mono ?_); rintro e w31 ⟨rfl, hb⟩; refine ⟨_, rfl, ?_⟩; have n0_ := Aside0.mk (blk_below (g := gb102) (o := .cells #[.int .i64 a0_0, .int .i64 a0_1, .int .i64 a0_2, .int .i64 a0_3, .int .i64 a0_4] 89 (0, 0)) (by (with_reducible repeat (first | refine blk_drewN ?_ _ | refine blk_drew ?_ | refine blk_alloc ?_ _)); exact BK102.out) hb); have n1_ := Aside0.mk (below_step (by repeat (first | (with_reducible first | exact HB.out | apply below_alloc | apply pw_below_drewN | apply below_drew1 | refine below_set ?_ GE102.out) | exact HB.out)) hb); clear BK102; clear HB; have BK102 := n0_; have HB := n1_; clear n0_ n1_; (try clear hb); (try clear hb2); (try clear hk); (try clear hi)))
    go_ret
    exact ⟨by first | rfl | (simp [errW_none, errW_some] <;> rfl) | (simp [*, errW_none, errW_some] <;> rfl), by repeat (first | (with_reducible first | exact HB.out | apply below_alloc | apply pw_below_drewN | apply below_drew1 | refine below_set ?_ GE102.out) | exact HB.out)⟩

/-! ### il_within: function 89 -/
def il_within.f (a0 : Int) : Option (Bool) := (il_of.f a0).bind fun bt104 => (if bt104.2 = 1 then (some (decide (a0 ≥ 7))) else (some false))
set_option maxHeartbeats 8000000 in
set_option maxRecDepth 100000 in
theorem il_within.calls (a0 : Int) (r : Bool) (w : World) (h : il_within.f a0 = some r) :
    Calls Try.prog 89 #[.int .i64 a0] w fun e w' => e = .returned (.bool r) ∧ Below w.heap.size w w' := by
  have hu120 := Try.underlying120
  have hfd120_1 : ∀ (x0_ : ByteArray) (x1_ : Int) (W : World), (Instr.field 120 (.agg #[.string x0_, .int .i64 x1_]) 1).run Try.prog W = .ok (.int .i64 x1_) W := fun _ _ _ => by kernel_rfl
  have HB := Aside0.mk (Below.refl w.heap.size w)
  have H : ((il_of.f a0).bind fun bt104 => (if bt104.2 = 1 then (some (decide (a0 ≥ 7))) else (some false))) = some r := h
  clear h
  replace H := Option.bind_eq_some_iff.mp H
  obtain ⟨⟨t104, t105⟩, A20, H⟩ := H
  replace H : (if t105 = 1 then (some (decide (a0 ≥ 7))) else (some false)) = some r := H
  have A2 := Aside0.mk A20
  clear A20
  by_cases c3 : t105 = 1
  · rw [if_pos c3] at H
    have c3b0 : (t105 == 1) = true := beq_iff_eq.mpr c3
    have c3b1 : (t105 != 1) = false := bne_eq_false_iff_eq.mpr c3
    clear c3
    obtain rfl := Option.some.inj H
    go_enter Try.func89, Try.ntmps89
    go_wp2_with (first | ((with_reducible refine gate_callee (f := 87) rfl ?_); refine goesL_ (some 4) rfl rfl Try.func87 (by kernel_rfl) rfl #[.int .i64 a0] rfl (by (try simp only [List.map_toArray, List.map_cons, List.map_nil]); first | done | rfl | (simp only [List.length_drop, List.length_take]; rfl)) ?_; (with_reducible refine (il_of.calls a0 t104 t105 _ A2.out).mono ?_); rintro e w4 ⟨rfl, hb⟩; refine ⟨_, rfl, ?_⟩; have n0_ := Aside0.mk (below_step (by repeat (first | (with_reducible first | exact HB.out | apply below_alloc | apply pw_below_drewN | apply below_drew1) | exact HB.out)) hb); clear HB; have HB := n0_; clear n0_; (try clear hb); (try clear hb2); (try clear hk); (try clear hi)))
    go_ret
    exact ⟨by first | rfl | (simp [errW_none, errW_some] <;> rfl) | (simp [*, errW_none, errW_some] <;> rfl), by repeat (first | (with_reducible first | exact HB.out | apply below_alloc | apply pw_below_drewN | apply below_drew1) | exact HB.out)⟩
  · rw [if_neg c3] at H
    have c3b0 : (t105 == 1) = false := beq_eq_false_iff_ne.mpr c3
    have c3b1 : (t105 != 1) = true := bne_iff_ne.mpr c3
    obtain rfl := Option.some.inj H
    go_enter Try.func89, Try.ntmps89
    go_wp2_with (first | ((with_reducible refine gate_callee (f := 87) rfl ?_); refine goesL_ (some 4) rfl rfl Try.func87 (by kernel_rfl) rfl #[.int .i64 a0] rfl (by (try simp only [List.map_toArray, List.map_cons, List.map_nil]); first | done | rfl | (simp only [List.length_drop, List.length_take]; rfl)) ?_; (with_reducible refine (il_of.calls a0 t104 t105 _ A2.out).mono ?_); rintro e w5 ⟨rfl, hb⟩; refine ⟨_, rfl, ?_⟩; have n0_ := Aside0.mk (below_step (by repeat (first | (with_reducible first | exact HB.out | apply below_alloc | apply pw_below_drewN | apply below_drew1) | exact HB.out)) hb); clear HB; have HB := n0_; clear n0_; (try clear hb); (try clear hb2); (try clear hk); (try clear hi)))
    go_ret
    exact ⟨by first | rfl | (simp [errW_none, errW_some] <;> rfl) | (simp [*, errW_none, errW_some] <;> rfl), by repeat (first | (with_reducible first | exact HB.out | apply below_alloc | apply pw_below_drewN | apply below_drew1) | exact HB.out)⟩

/-! ### il_keeps: function 90 -/
def il_keeps.f (a0 : Int) : Option (Bool) := if a0 = 3 then (some true) else (some (a0 == 4))
set_option maxHeartbeats 8000000 in
set_option maxRecDepth 100000 in
theorem il_keeps.calls (a0 : Int) (r : Bool) (w : World) (h : il_keeps.f a0 = some r) :
    Calls Try.prog 90 #[.int .i64 a0] w fun e w' => e = .returned (.bool r) ∧ Drawn0 w w' := by
  have H : (if a0 = 3 then (some true) else (some (a0 == 4))) = some r := h
  clear h
  by_cases c2 : a0 = 3
  · rw [if_pos c2] at H
    have c2b0 : (a0 == 3) = true := beq_iff_eq.mpr c2
    have c2b1 : (a0 != 3) = false := bne_eq_false_iff_eq.mpr c2
    clear c2
    obtain rfl := Option.some.inj H
    go_enter Try.func90, Try.ntmps90
    go_wp2
    go_ret
    exact ⟨by first | rfl | (simp; done) | (simp [*]; done), by repeat (first | exact Drawn0.refl _ | apply Drawn0.step)⟩
  · rw [if_neg c2] at H
    have c2b0 : (a0 == 3) = false := beq_eq_false_iff_ne.mpr c2
    have c2b1 : (a0 != 3) = true := bne_iff_ne.mpr c2
    obtain rfl := Option.some.inj H
    go_enter Try.func90, Try.ntmps90
    go_wp2
    go_ret
    exact ⟨by first | rfl | (simp; done) | (simp [*]; done), by repeat (first | exact Drawn0.refl _ | apply Drawn0.step)⟩

end Go.Proofs.Ytclbmgnpgjhlhaa.PCode
