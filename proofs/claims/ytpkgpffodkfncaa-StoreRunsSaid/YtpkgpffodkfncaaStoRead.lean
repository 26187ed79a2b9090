/- A store's Read and Armed, every argument. -/
import Derived.Test.YtpkgpffodkfncaaStoOf
namespace Go.Proofs.Ytpkgpffodkfncaa
open Go.RowKit
theorem ba_empty : (⟨#[]⟩ : ByteArray) = ByteArray.empty := rfl
set_option maxRecDepth 100000 in
theorem stoRead_not (b g cap : Nat) (d : Sto) (a n : Int) (ha : -9223372036854775808 ≤ a ∧ a ≤ 9223372036854775807) (hn : -9223372036854775808 ≤ n ∧ n ≤ 9223372036854775807) (ht : stoThere d.l.length a n = false) (w : World) (h : StoAt w b g cap d) :
    Calls Try.prog 47 #[.pointer (some ⟨b, 0, none⟩), .int .i64 a, .int .i64 n] w fun e w' => e = .returned (.tuple #[.string ⟨#[]⟩, .bool false]) ∧ w = w' := by
  go_enter Try.func47, Try.ntmps47
  go_wp2_with fail
  refine (stoThere_any b g cap d a n ha hn w h).mono ?_
  rintro e w' ⟨rfl, rfl⟩
  go_wp2
  go_ret2
  exact ⟨rfl, rfl⟩
set_option maxRecDepth 100000 in
theorem stoArmed_any (b g cap : Nat) (d : Sto) (w : World) (h : StoAt w b g cap d) :
    Calls Try.prog 73 #[.pointer (some ⟨b, 0, none⟩)] w fun e w' => e = .returned (.tuple #[.int .i64 (if d.armed = true then (d.left : Int) else 0), .bool d.armed]) ∧ w = w' := by
  have c3 : w.cell? ⟨b, 3, none⟩ = some (.int .i64 (d.left : Int)) := h.obj.cell 3
  cases ha : d.armed with
  | true =>
    have c2 : w.cell? ⟨b, 2, none⟩ = some (.bool true) := by rw [← ha]; exact h.obj.cell 2
    clear ha
    go_enter Try.func73, Try.ntmps73
    go_wp2
    go_ret2
    exact ⟨rfl, rfl⟩
  | false =>
    have c2 : w.cell? ⟨b, 2, none⟩ = some (.bool false) := by rw [← ha]; exact h.obj.cell 2
    clear ha
    go_enter Try.func73, Try.ntmps73
    go_wp2
    go_ret2
    exact ⟨rfl, rfl⟩
end Go.Proofs.Ytpkgpffodkfncaa
