/- QueueRuns: the acts as a list; small words. -/
import Derived.Test.YtkeeledkdoiglaaQrRef2
import Derived.Test.YtkeeledkdoiglaaQoPull
import Derived.Test.YtkeeledkdoiglaaQoState
namespace Go.Proofs.Ytkeeledkdoiglaa.Qr
open Go.RowKit Go.ChangeShapes Go.WideShapes Go.Proofs.Ytkeeledkdoiglaa
structure ActV where
  what : Nat
  high : Bool
  s : ByteArray
/-- A slice of acts that is there. -/
def ActsAt (w : World) (v : Value) (xs : List ActV) : Prop :=
  ∃ a cap b o, v = .slice a xs.length cap ∧ xs.length ≤ cap ∧ cap ≤ maxLen ∧ (xs ≠ [] → a = some ⟨b, o, none⟩ ∧ b < w.heap.size) ∧
    ∀ (i : Nat) (h : i < xs.length), w.cell? ⟨b, o + i * 3 + 0, none⟩ = some (.int .u8 (xs[i].what : Int)) ∧ w.cell? ⟨b, o + i * 3 + 1, none⟩ = some (.bool xs[i].high) ∧
      w.cell? ⟨b, o + i * 3 + 2, none⟩ = some (.string xs[i].s)
theorem acts_of {H : Type} {enc : TypeId × Value → H} {W : World} {v : Value} {d : DataW H} {p : List MemPlace}
    (h : DataW.Trod enc Try.prog W 0 (fun _ => true) true 45 v d p) (o : Value.okWide Try.prog W .any 0 45 v) :
    ∃ xs, ActsAt W v xs ∧ ∀ x ∈ xs, x.what < 256 := by
  obtain ⟨a, len, cap, rfl⟩ := Go.WideShapes.okWide_slice Try.underlying45 o
  obtain ⟨m, hm⟩ := h
  rcases open_slice_fields Try.underlying45 Try.underlying51 (by kernel_rfl) (by kernel_rfl) (by decide) hm with h0 | ⟨a', len', cap', n, V, Y, h0, hl, hc, hx⟩
  · have e : a = none ∧ len = 0 ∧ cap = 0 := by simpa [Value.cells] using h0
    obtain ⟨rfl, rfl, rfl⟩ := e
    exact ⟨[], ⟨none, 0, 0, 0, rfl, by simp, by simp [maxLen], fun h => absurd rfl h, fun i hi => by simp at hi⟩, by simp⟩
  · have e : a = some a' ∧ len = len' ∧ cap = cap' := by simpa [Value.cells] using h0
    obtain ⟨rfl, rfl, rfl⟩ := e
    let f : Nat → ActV := fun i => ⟨match V i 0 with | .int _ z => z.toNat | _ => 0, match V i 1 with | .bool z => z | _ => false, match V i 2 with | .string s => s | _ => ⟨#[]⟩⟩
    have hf : ∀ i, i < len → V i 0 = .int .u8 ((f i).what : Int) ∧ V i 1 = .bool (f i).high ∧ V i 2 = .string (f i).s ∧ (f i).what < 256 := by
      intro i hi
      obtain ⟨-, -, hj⟩ := hx i hi
      obtain ⟨-, t0⟩ := hj 0 _ rfl
      obtain ⟨-, t1⟩ := hj 1 _ rfl
      obtain ⟨-, t2⟩ := hj 2 _ rfl
      obtain ⟨z0, e0, -, w0⟩ := DataW.trod_int Try.underlying5 t0
      obtain ⟨z1, e1⟩ := trod_is_bool Try.underlying4 t1
      obtain ⟨s2, e2, -, w2⟩ := DataW.trod_string Try.underlying9 t2
      have e0' : V i 0 = .int .u8 z0 := by simpa using e0
      have e1' : V i 1 = .bool z1 := by simpa using e1
      have e2' : V i 2 = .string s2 := by simpa using e2
      have b0 := bounds_u8 w0
      have f0 : (f i).what = z0.toNat := by show (match V i 0 with | .int _ z => z.toNat | _ => 0) = _; rw [e0']
      have f1 : (f i).high = z1 := by show (match V i 1 with | .bool z => z | _ => false) = _; rw [e1']
      have f2 : (f i).s = s2 := by show (match V i 2 with | .string s => s | _ => ⟨#[]⟩) = _; rw [e2']
      exact ⟨by rw [e0', f0, Int.toNat_of_nonneg b0.1], by rw [e1', f1], by rw [e2', f2], by rw [f0]; omega⟩
    have hlen : ((List.range len).map f).length = len := by simp
    refine ⟨(List.range len).map f, ⟨some a', cap, a'.block, a'.off, by rw [hlen], by rw [hlen]; exact hl, hc, fun hne => ?_, fun i hi => ?_⟩, fun x hxm => ?_⟩
    · have hpos : 0 < len := by
        rcases Nat.eq_zero_or_pos len with h | h
        · subst h; exact absurd rfl hne
        · exact h
      obtain ⟨h1, h2, -⟩ := hx 0 hpos
      exact ⟨by rw [← h1], h2⟩
    · have hi' : i < len := by simpa using hi
      obtain ⟨-, -, hj⟩ := hx i hi'
      obtain ⟨g0, g1, g2, -⟩ := hf i hi'
      obtain ⟨c0, -⟩ := hj 0 _ rfl
      obtain ⟨c1, -⟩ := hj 1 _ rfl
      obtain ⟨c2, -⟩ := hj 2 _ rfl
      simp only [List.getElem_map, List.getElem_range]
      exact ⟨c0.trans (by rw [g0]), c1.trans (by rw [g1]), c2.trans (by rw [g2])⟩
    · obtain ⟨i, hi, rfl⟩ := List.mem_map.1 hxm
      exact (hf i (List.mem_range.1 hi)).2.2.2
/-- Take and Peek of the reference, together. -/
theorem rtakeQ (E : Nat → Prop) (rb n : Nat) (fl hi g : Bool) (l0 l1 : List ByteArray) (w : World) (h : RQ w E rb n fl l0 l1) (h0 : l0.length ≤ 1000) (h1 : l1.length ≤ 1000) :
    Calls Try.prog 30 #[.pointer (some ⟨rb, 0, none⟩), .bool hi, .bool g] w fun e w' =>
      e = .returned (.tuple #[Value.string ((Qs.pickL hi l0 l1).headD (⟨#[]⟩ : ByteArray)), .bool (!(Qs.pickL hi l0 l1).isEmpty)]) ∧ Keep (fun k => ¬ E k) w w' ∧ RQ w' E rb n fl (if g && !hi then l0.tail else l0) (if g && hi then l1.tail else l1) := by
  cases hi
  · match l0, h, h0 with
    | [], h, h0 =>
      refine (rtake_none0 E rb n fl g l1 w h).mono ?_
      rintro e w' ⟨rfl, rfl⟩
      exact ⟨rfl, Keep.refl _ _, by cases g <;> exact h⟩
    | x :: r, h, h0 =>
      cases g
      · refine (rtake_look0 E rb n fl x r l1 w h (by simp at h0; omega)).mono ?_
        rintro e w' ⟨rfl, rfl⟩
        exact ⟨rfl, Keep.refl _ _, h⟩
      · refine (rtake_go0 E rb n fl x r l1 w h (by simp at h0; omega)).mono ?_
        rintro e w' ⟨rfl, hk, hq⟩
        exact ⟨rfl, hk, hq⟩
  · match l1, h, h1 with
    | [], h, h1 =>
      refine (rtake_none1 E rb n fl g l0 w h).mono ?_
      rintro e w' ⟨rfl, rfl⟩
      exact ⟨rfl, Keep.refl _ _, by cases g <;> exact h⟩
    | x :: r, h, h1 =>
      cases g
      · refine (rtake_look1 E rb n fl x r l0 w h (by simp at h1; omega)).mono ?_
        rintro e w' ⟨rfl, rfl⟩
        exact ⟨rfl, Keep.refl _ _, h⟩
      · refine (rtake_go1 E rb n fl x r l0 w h (by simp at h1; omega)).mono ?_
        rintro e w' ⟨rfl, hk, hq⟩
        exact ⟨rfl, hk, hq⟩
theorem rputQ (E : Nat → Prop) (rb n : Nat) (fl hi : Bool) (x : ByteArray) (l0 l1 : List ByteArray) (w : World) (h : RQ w E rb n fl l0 l1) (hn : n ≤ 64) (hl : l0.length + l1.length ≤ n) :
    Calls Try.prog 27 #[.pointer (some ⟨rb, 0, none⟩), .string x, .bool hi] w fun e w' =>
      e = .returned (.int .i64 (if l0.length + l1.length = n then 8 else 0)) ∧ Keep (fun k => ¬ E k) w w' ∧ RQ w' E rb n (if l0.length + l1.length = n then true else fl) (if l0.length + l1.length = n then l0 else if hi then l0 else l0 ++ [x]) (if l0.length + l1.length = n then l1 else if hi then l1 ++ [x] else l1) := by
  by_cases hf : l0.length + l1.length = n
  · simp only [if_pos hf]
    cases hi
    · exact rput_full0 E rb n fl x l0 l1 w h hn hf
    · exact rput_full1 E rb n fl x l0 l1 w h hn hf
  · simp only [if_neg hf]
    cases hi
    · exact rput_room0 E rb n fl x l0 l1 w h hn (by omega)
    · exact rput_room1 E rb n fl x l0 l1 w h hn (by omega)
theorem RQ.lt {w : World} {E : Nat → Prop} {rb n : Nat} {fl : Bool} {l0 l1 : List ByteArray} (h : RQ w E rb n fl l0 l1) : rb < w.heap.size ∧ ¬ E rb ∧ ∀ k, E k → k < w.heap.size := by
  obtain ⟨v0, v1, h⟩ := h
  exact ⟨h.obj.lt, h.ne, h.lt⟩
theorem RQ.cell0 {w : World} {E : Nat → Prop} {rb n : Nat} {fl : Bool} {l0 l1 : List ByteArray} (h : RQ w E rb n fl l0 l1) : w.cell? ⟨rb, 0, none⟩ = some (.int .i64 (n : Int)) := by
  obtain ⟨v0, v1, h⟩ := h
  exact h.obj.cell 0
theorem RQ.cell3 {w : World} {E : Nat → Prop} {rb n : Nat} {fl : Bool} {l0 l1 : List ByteArray} (h : RQ w E rb n fl l0 l1) : w.cell? ⟨rb, 3, none⟩ = some (.bool fl) ∧ w.frozen? ⟨rb, 3, none⟩ = false := by
  obtain ⟨v0, v1, h⟩ := h
  exact ⟨h.obj.cell 3, h.obj.free 3⟩
theorem RQ.fault {w : World} {E : Nat → Prop} {rb n : Nat} {fl : Bool} {l0 l1 : List ByteArray} (h : RQ w E rb n fl l0 l1) (b : Bool) : RQ (w.setCell ⟨rb, 3, none⟩ (.bool b)) E rb n b l0 l1 ∧ Keep (fun k => ¬ E k) w (w.setCell ⟨rb, 3, none⟩ (.bool b)) := by
  obtain ⟨v0, v1, h⟩ := h
  exact ⟨⟨v0, v1, (h.fault b).1⟩, (h.fault b).2⟩
end Go.Proofs.Ytkeeledkdoiglaa.Qr
