/- Every act with both stores; the acts as a list. -/
import Derived.Test.YtpkgpffodkfncaaStoOneW
import Derived.Test.YtpkgpffodkfncaaStoOneN
import Derived.Test.YtpkgpffodkfncaaStoOneR
import Derived.Test.YtpkgpffodkfncaaStoOneE
import Derived.Test.YtpkgpffodkfncaaOpen
import Derived.OpenShut
namespace Go.Proofs.Ytpkgpffodkfncaa
open Go.RowKit Go.ChangeShapes Go.WideShapes
def ActV.ok (x : ActV) : Prop := x.what < 256 ∧ (-9223372036854775808 ≤ x.at_ ∧ x.at_ ≤ 9223372036854775807) ∧ (-9223372036854775808 ≤ x.n ∧ x.n ≤ 9223372036854775807)
def actVal (x : ActV) : Value := .agg #[.int .u8 (x.what : Int), .int .i64 x.at_, .int .i64 x.n, .string x.s]
theorem one_any (b1 g1 cap1 b2 g2 cap2 : Nat) (d : Sto) (x : ActV) (hx : x.ok) (hsz : x.s.size ≤ 140737488355328) (hwr : d.wrote ≤ 1000000) (hlm : d.left ≤ 9223372036854775807) (hd1 : b1 ≠ b2) (hd2 : b1 ≠ g2) (hd3 : g1 ≠ b2) (hd4 : g1 ≠ g2) (w : World) (h1 : StoAt w b1 g1 cap1 d) (h2 : RAs w b2 g2 cap2 d) :
    Calls Try.prog 56 #[.pointer (some ⟨b1, 0, none⟩), .pointer (some ⟨b2, 0, none⟩), .agg #[.int .u8 (x.what : Int), .int .i64 x.at_, .int .i64 x.n, .string x.s]] w fun e w' =>
      e = .returned (.bool true) ∧ StoAt w' b1 g1 cap1 (stepS d x) ∧ RAs w' b2 g2 cap2 (stepS d x) ∧ FourKeep b1 g1 b2 g2 w w' := by
  obtain ⟨hw, hat, hn⟩ := hx
  rcases (by omega : x.what % 5 = 0 ∨ x.what % 5 = 1 ∨ x.what % 5 = 2 ∨ x.what % 5 = 3 ∨ x.what % 5 = 4) with hq | hq | hq | hq | hq
  · exact one_write b1 g1 cap1 b2 g2 cap2 d x hq hw hn hat hsz hwr hlm hd1 hd2 hd3 hd4 w h1 h2
  · by_cases ht : stoThere d.l.length x.at_ x.n = false
    · exact one_readnot b1 g1 cap1 b2 g2 cap2 d x hq hw hn hat ht hd1 hd2 hd3 hd4 w h1 h2
    · have ht' : stoThere d.l.length x.at_ x.n = true := by simpa using ht
      simp [stoThere] at ht'
      obtain ⟨a, ha⟩ := Int.eq_ofNat_of_zero_le ht'.1.1.1
      obtain ⟨n, hn'⟩ := Int.eq_ofNat_of_zero_le ht'.1.2
      have hle := RstAt.le h2
      by_cases hac : a < cap2
      · exact one_readin b1 g1 cap1 b2 g2 cap2 d x hq hw hn a n ha hn' (by omega) hac hd1 hd2 hd3 hd4 w h1 h2
      · exact one_readend b1 g1 cap1 b2 g2 cap2 d x hq hw hn a ha (by omega) (by omega) (by omega) hd1 hd2 hd3 hd4 w h1 h2
  · exact one_arm b1 g1 cap1 b2 g2 cap2 d x hq hw hn hd1 hd2 hd3 hd4 w h1 h2
  · exact one_off b1 g1 cap1 b2 g2 cap2 d x hq hw hn hd1 hd2 hd3 hd4 w h1 h2
  · exact one_on b1 g1 cap1 b2 g2 cap2 d x hq hw hn hd1 hd2 hd3 hd4 w h1 h2
theorem n_le (d : Sto) (s : ByteArray) : d.n s ≤ s.size := by unfold Sto.n; split <;> omega
theorem step_wrote (d : Sto) (x : ActV) : (stepS d x).wrote ≤ d.wrote + x.s.size := by
  have hn := n_le d x.s
  unfold stepS
  split
  · unfold Sto.writeS
    split
    · omega
    split <;> simp [Sto.off, Sto.put] <;> omega
  · omega
  · simp
  · simp [Sto.off]
  · simp
theorem step_left (d : Sto) (x : ActV) (h : d.left ≤ 9223372036854775807) (hx : x.n ≤ 9223372036854775807) : (stepS d x).left ≤ 9223372036854775807 := by
  unfold stepS
  split
  · unfold Sto.writeS
    split
    · omega
    split
    · simp [Sto.off]
    · simp only [Sto.put]
      split <;> omega
  · omega
  · simp; omega
  · simp [Sto.off]
  · simpa using h
/-- A slice of acts that is there. -/
def ActsAt (w : World) (v : Value) (xs : List ActV) : Prop :=
  ∃ a cap b o, v = .slice a xs.length cap ∧ xs.length ≤ cap ∧ cap ≤ maxLen ∧ (xs ≠ [] → a = some ⟨b, o, none⟩ ∧ b < w.heap.size) ∧
    ∀ (i : Nat) (h : i < xs.length), w.cell? ⟨b, o + i * 4 + 0, none⟩ = some (.int .u8 (xs[i].what : Int)) ∧ w.cell? ⟨b, o + i * 4 + 1, none⟩ = some (.int .i64 xs[i].at_) ∧
      w.cell? ⟨b, o + i * 4 + 2, none⟩ = some (.int .i64 xs[i].n) ∧ w.cell? ⟨b, o + i * 4 + 3, none⟩ = some (.string xs[i].s)
theorem acts_of {H : Type} {enc : TypeId × Value → H} {W : World} {v : Value} {d : DataW H} {p : List MemPlace}
    (h : DataW.Trod enc Try.prog W 0 (fun _ => true) true 67 v d p) (o : Value.okWide Try.prog W .any 0 67 v) :
    ∃ xs, ActsAt W v xs ∧ ∀ x ∈ xs, x.ok := by
  obtain ⟨a, len, cap, rfl⟩ := Go.WideShapes.okWide_slice Try.underlying67 o
  obtain ⟨m, hm⟩ := h
  rcases open_slice_fields Try.underlying67 Try.underlying72 (by kernel_rfl) (by kernel_rfl) (by decide) hm with h0 | ⟨a', len', cap', n, V, Y, h0, hl, hc, hx⟩
  · have e : a = none ∧ len = 0 ∧ cap = 0 := by simpa [Value.cells] using h0
    obtain ⟨rfl, rfl, rfl⟩ := e
    exact ⟨[], ⟨none, 0, 0, 0, rfl, by simp, by simp [maxLen], fun h => absurd rfl h, fun i hi => by simp at hi⟩, by simp⟩
  · have e : a = some a' ∧ len = len' ∧ cap = cap' := by simpa [Value.cells] using h0
    obtain ⟨rfl, rfl, rfl⟩ := e
    let f : Nat → ActV := fun i => ⟨match V i 0 with | .int _ z => z.toNat | _ => 0, match V i 1 with | .int _ z => z | _ => 0, match V i 2 with | .int _ z => z | _ => 0, match V i 3 with | .string s => s | _ => ⟨#[]⟩⟩
    have hf : ∀ i, i < len → V i 0 = .int .u8 ((f i).what : Int) ∧ V i 1 = .int .i64 (f i).at_ ∧ V i 2 = .int .i64 (f i).n ∧ V i 3 = .string (f i).s ∧ (f i).ok := by
      intro i hi
      obtain ⟨-, -, hj⟩ := hx i hi
      obtain ⟨-, t0⟩ := hj 0 _ rfl
      obtain ⟨-, t1⟩ := hj 1 _ rfl
      obtain ⟨-, t2⟩ := hj 2 _ rfl
      obtain ⟨-, t3⟩ := hj 3 _ rfl
      obtain ⟨z0, e0, -, w0⟩ := DataW.trod_int Try.underlying5 t0
      obtain ⟨z1, e1, -, w1⟩ := DataW.trod_int Try.underlying3 t1
      obtain ⟨z2, e2, -, w2⟩ := DataW.trod_int Try.underlying3 t2
      obtain ⟨s3, e3, -, w3⟩ := DataW.trod_string Try.underlying9 t3
      have e0' : V i 0 = .int .u8 z0 := by simpa using e0
      have e1' : V i 1 = .int .i64 z1 := by simpa using e1
      have e2' : V i 2 = .int .i64 z2 := by simpa using e2
      have e3' : V i 3 = .string s3 := by simpa using e3
      have b0 := bounds_u8 w0
      have b1 := bounds_i64 w1
      have b2 := bounds_i64 w2
      have f0 : (f i).what = z0.toNat := by show (match V i 0 with | .int _ z => z.toNat | _ => 0) = _; rw [e0']
      have f1 : (f i).at_ = z1 := by show (match V i 1 with | .int _ z => z | _ => 0) = _; rw [e1']
      have f2 : (f i).n = z2 := by show (match V i 2 with | .int _ z => z | _ => 0) = _; rw [e2']
      have f3 : (f i).s = s3 := by show (match V i 3 with | .string s => s | _ => ⟨#[]⟩) = _; rw [e3']
      refine ⟨by rw [e0', f0, Int.toNat_of_nonneg b0.1], by rw [e1', f1], by rw [e2', f2], by rw [e3', f3], ?_⟩
      unfold ActV.ok
      rw [f0, f1, f2]
      exact ⟨by omega, b1, b2⟩
    have hlen : ((List.range len).map f).length = len := by simp
    refine ⟨(List.range len).map f, ⟨some a', cap, a'.block, a'.off, by rw [hlen], by rw [hlen]; exact hl, hc, fun hne => ?_, fun i hi => ?_⟩, fun x hxm => ?_⟩
    · have hpos : 0 < len := by
        rcases Nat.eq_zero_or_pos len with h | h
        · subst h; exact absurd rfl hne
        · exact h
      obtain ⟨h1, h2, -⟩ := hx 0 hpos
      exact ⟨by rw [← h1], h2⟩
    · have hi' : i < len := by simpa using hi
      obtain ⟨-, -, hj⟩ := hx i hi'
      obtain ⟨g0, g1, g2, g3, -⟩ := hf i hi'
      obtain ⟨c0, -⟩ := hj 0 _ rfl
      obtain ⟨c1, -⟩ := hj 1 _ rfl
      obtain ⟨c2, -⟩ := hj 2 _ rfl
      obtain ⟨c3, -⟩ := hj 3 _ rfl
      simp only [List.getElem_map, List.getElem_range]
      exact ⟨c0.trans (by rw [g0]), c1.trans (by rw [g1]), c2.trans (by rw [g2]), c3.trans (by rw [g3])⟩
    · obtain ⟨i, hi, rfl⟩ := List.mem_map.1 hxm
      exact (hf i (List.mem_range.1 hi)).2.2.2.2
end Go.Proofs.Ytpkgpffodkfncaa
