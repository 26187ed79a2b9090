/- An argument that is a slice of instructions, opened as the printed texts want it. -/
import Derived.Test.YtclbmgnpgjhlhaaPCodex
import Derived.Test.YtclbmgnpgjhlhaaCodePure
import Derived.Test.YtclbmgnpgjhlhaagBase
import Derived.OpenShut
import Derived.Carry
namespace Go.Proofs.Ytclbmgnpgjhlhaa
open Go.RowKit Go.ChangeShapes Go.WideShapes Go.Proofs.YtclbmgnpgjhlhaaW.PrintWords Go.Proofs.YtclbmgnpgjhlhaaW.PrintLast
theorem addr_add (b o k : Nat) : (⟨b, o, none⟩ : Addr).add k = ⟨b, o + k, none⟩ := by
  unfold Addr.add
  split
  · next h => subst h; rfl
  · rfl
set_option maxRecDepth 100000 in
theorem ins_arg {H : Type} {enc : TypeId × Value → H} {W : World} {v : Value} {d : DataW H} {p : List MemPlace}
    (h : DataW.Trod enc Try.prog W 0 (fun _ => true) true 56 v d p) (o : Value.okWide Try.prog W .any 0 56 v) :
    ∃ (A0 : Option Addr) (c0 : Nat) (l : List PCode.II), v = .slice A0 l.length c0 ∧ Kd.C PCode.k89 W A0 l.length l ∧ l.length ≤ c0 ∧ ∀ x ∈ l, PCode.inI x := by
  obtain ⟨a, len, cap, rfl⟩ := Go.WideShapes.okWide_slice Try.underlying56 o
  obtain ⟨m, hm⟩ := h
  rcases open_slice_fields Try.underlying56 Try.underlying89 (by kernel_rfl) (by kernel_rfl) (by decide) hm with h0 | ⟨a', len', cap', n, V, Y, h0, hl, hc, hx⟩
  · have e : a = none ∧ len = 0 ∧ cap = 0 := by simpa [Value.cells] using h0
    obtain ⟨rfl, rfl, rfl⟩ := e
    exact ⟨none, 0, [], rfl, ⟨rfl, by simp, fun h => absurd h (by simp)⟩, by simp, by simp⟩
  · have e : a = some a' ∧ len = len' ∧ cap = cap' := by simpa [Value.cells] using h0
    obtain ⟨rfl, rfl, rfl⟩ := e
    let q : Value → Int := fun v => match v with | .int _ z => z | _ => 0
    let f : Nat → PCode.II := fun i => ⟨q (V i 0), q (V i 1), q (V i 2), q (V i 3), q (V i 4)⟩
    have hf : ∀ i, i < len → (∀ j, j < 5 → V i j = .int .i64 (q (V i j)) ∧ -9223372036854775808 ≤ q (V i j) ∧ q (V i j) ≤ 9223372036854775807) := by
      intro i hi
      obtain ⟨-, -, hj⟩ := hx i hi
      have key : ∀ (j t : Nat) (fl : Field), (Try.prog.underlying t = some (.int .i64)) → ((#[V i j] : Array Value).size = 1) → (∃ y n', DataW.trod enc Try.prog W 0 (fun _ => true) true n' t [V i j] = some y) → V i j = .int .i64 (q (V i j)) ∧ -9223372036854775808 ≤ q (V i j) ∧ q (V i j) ≤ 9223372036854775807 := by
        intro j t fl ht _ ⟨y, n', hy⟩
        obtain ⟨z, e, -, w⟩ := DataW.trod_int ht hy
        have e' : V i j = .int .i64 z := by simpa using e
        rw [e']
        exact ⟨rfl, bounds_i64 w⟩
      intro j hj5
      rcases (by omega : j = 0 ∨ j = 1 ∨ j = 2 ∨ j = 3 ∨ j = 4) with rfl | rfl | rfl | rfl | rfl
      · exact key 0 3 default Try.underlying3 rfl ⟨_, _, (hj 0 _ rfl).2⟩
      · exact key 1 3 default Try.underlying3 rfl ⟨_, _, (hj 1 _ rfl).2⟩
      · exact key 2 3 default Try.underlying3 rfl ⟨_, _, (hj 2 _ rfl).2⟩
      · exact key 3 3 default Try.underlying3 rfl ⟨_, _, (hj 3 _ rfl).2⟩
      · exact key 4 2 default Try.underlying2 rfl ⟨_, _, (hj 4 _ rfl).2⟩
    refine ⟨some a', cap, (List.range len).map f, by simp, ?_, by simpa using hl, ?_⟩
    · unfold maxLen at hc
      refine ⟨by simp, by simp; omega, fun _ => ⟨a', rfl, fun j x hp => ?_⟩⟩
      have hj : j < len := by
        rcases Nat.lt_or_ge j len with h | h
        · exact h
        · rw [List.getElem?_eq_none (by simp; exact h)] at hp
          cases hp
      rw [List.getElem?_map, List.getElem?_range hj] at hp
      obtain rfl := Option.some.inj hp
      have hv := hf j hj
      obtain ⟨ha, -, hcell⟩ := hx j hj
      refine ⟨_, rfl, PCode.k89_mk W (f j), fun i u hu => ?_⟩
      rw [ha, addr_add]
      have c0 := (hcell 0 _ rfl).1
      have c1 := (hcell 1 _ rfl).1
      have c2 := (hcell 2 _ rfl).1
      have c3 := (hcell 3 _ rfl).1
      have c4 := (hcell 4 _ rfl).1
      rw [(hv 0 (by decide)).1] at c0
      rw [(hv 1 (by decide)).1] at c1
      rw [(hv 2 (by decide)).1] at c2
      rw [(hv 3 (by decide)).1] at c3
      rw [(hv 4 (by decide)).1] at c4
      match i, hu with
      | 0, hu => obtain rfl := Option.some.inj hu; exact c0
      | 1, hu => obtain rfl := Option.some.inj hu; exact c1
      | 2, hu => obtain rfl := Option.some.inj hu; exact c2
      | 3, hu => obtain rfl := Option.some.inj hu; exact c3
      | 4, hu => obtain rfl := Option.some.inj hu; exact c4
      | i + 5, hu => simp at hu
    · intro x hxm
      obtain ⟨i, hi, rfl⟩ := List.mem_map.1 hxm
      have := hf i (List.mem_range.1 hi)
      exact ⟨(this 0 (by decide)).2, (this 1 (by decide)).2, (this 2 (by decide)).2, (this 3 (by decide)).2, (this 4 (by decide)).2⟩
end Go.Proofs.Ytclbmgnpgjhlhaa
