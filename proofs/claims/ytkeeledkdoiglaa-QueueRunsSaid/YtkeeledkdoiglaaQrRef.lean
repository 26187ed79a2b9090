/- QueueRuns: the reference's queue as two lists: state, class, New, Len. -/
import Derived.Test.YtkeeledkdoiglaaQrApp
import Derived.BigQuiet
namespace Go.Proofs.Ytkeeledkdoiglaa.Qr
open Go.RowKit Go.Proofs.Ytkeeledkdoiglaa
def Apart (u v : Value) : Prop := ∀ k, u.ownBlock = some k → v.ownBlock ≠ some k
theorem Apart.symm {u v : Value} (h : Apart u v) : Apart v u := fun k hv hu => h k hu hv
/-- The two rows and what lies at rb. -/
structure RAt (w : World) (E : Nat → Prop) (rb n : Nat) (fl : Bool) (v0 v1 : Value) (l0 l1 : List ByteArray) : Prop where
  obj : ObjAt w rb #[.int .i64 (n : Int), v0, v1, .bool fl] 61
  r0 : TRow w (fun k => E k ∨ k = rb) v0 l0
  r1 : TRow w (fun k => E k ∨ k = rb) v1 l1
  ap : Apart v0 v1
  ne : ¬ E rb
  lt : ∀ k, E k → k < w.heap.size
def RQ (w : World) (E : Nat → Prop) (rb n : Nat) (fl : Bool) (l0 l1 : List ByteArray) : Prop := ∃ v0 v1, RAt w E rb n fl v0 v1 l0 l1
section
variable {w : World} {E : Nat → Prop} {rb n : Nat} {fl : Bool} {v0 v1 : Value} {l0 l1 : List ByteArray}
theorem RAt.keep (h : RAt w E rb n fl v0 v1 l0 l1) {S : Nat → Prop} {w' : World} (hk : Keep S w w') (hs : ∀ k, S k → E k) : RAt w' E rb n fl v0 v1 l0 l1 :=
  ⟨hk.obj h.obj (fun k => h.ne (hs _ k)), h.r0.block (fun k h1 h2 => hk.block k h1 (fun h3 => (h.r0.own k h2).1 (.inl (hs _ h3)))) (fun _ _ h => h), h.r1.block (fun k h1 h2 => hk.block k h1 (fun h3 => (h.r1.own k h2).1 (.inl (hs _ h3)))) (fun _ _ h => h), h.ap, h.ne, fun k hk' => Nat.lt_of_lt_of_le (h.lt k hk') hk.size⟩
theorem RAt.drewN (h : RAt w E rb n fl v0 v1 l0 l1) (k : Nat) : RAt (w.drewN k) E rb n fl v0 v1 l0 l1 := h.keep (S := fun _ => False) ((Keep.refl _ w).drewN k) (fun _ h => h.elim)
theorem RAt.alloc (h : RAt w E rb n fl v0 v1 l0 l1) (o : Obj) : RAt (w.alloc o) (fun k => E k ∨ k = w.heap.size) rb n fl v0 v1 l0 l1 := by
  have hk : Keep (fun _ => False) w (w.alloc o) := (Keep.refl _ w).alloc o
  have hl := h.obj.lt
  refine ⟨h.obj.alloc o, h.r0.block (fun k h1 h2 => hk.block k h1 (fun h => h)) ?_, h.r1.block (fun k h1 h2 => hk.block k h1 (fun h => h)) ?_, h.ap, ?_, ?_⟩
  · rintro k hk1 ((h1 | h1) | h1)
    · exact .inl h1
    · omega
    · exact .inr h1
  · rintro k hk1 ((h1 | h1) | h1)
    · exact .inl h1
    · omega
    · exact .inr h1
  · rintro (h1 | h1)
    · exact h.ne h1
    · omega
  · rintro k (h1 | h1)
    · exact Nat.lt_of_lt_of_le (h.lt k h1) (by simp)
    · simp; omega
theorem RQ.keep (h : RQ w E rb n fl l0 l1) {S : Nat → Prop} {w' : World} (hk : Keep S w w') (hs : ∀ k, S k → E k) : RQ w' E rb n fl l0 l1 := by
  obtain ⟨v0, v1, h⟩ := h
  exact ⟨v0, v1, h.keep hk hs⟩
theorem RQ.drewN (h : RQ w E rb n fl l0 l1) (k : Nat) : RQ (w.drewN k) E rb n fl l0 l1 := by
  obtain ⟨v0, v1, h⟩ := h
  exact ⟨v0, v1, h.drewN k⟩
theorem RQ.alloc (h : RQ w E rb n fl l0 l1) (o : Obj) : RQ (w.alloc o) (fun k => E k ∨ k = w.heap.size) rb n fl l0 l1 := by
  obtain ⟨v0, v1, h⟩ := h
  exact ⟨v0, v1, h.alloc o⟩
theorem RAt.form0 (h : RAt w E rb n fl v0 v1 l0 l1) : ∃ a c, v0 = .slice a l0.length c := by
  rcases h.r0 with ⟨rfl, rfl⟩ | ⟨g, off, cap, cur, rfl, _⟩
  · exact ⟨none, 0, rfl⟩
  · exact ⟨_, _, rfl⟩
theorem RAt.form1 (h : RAt w E rb n fl v0 v1 l0 l1) : ∃ a c, v1 = .slice a l1.length c := by
  rcases h.r1 with ⟨rfl, rfl⟩ | ⟨g, off, cap, cur, rfl, _⟩
  · exact ⟨none, 0, rfl⟩
  · exact ⟨_, _, rfl⟩
end
set_option maxRecDepth 100000 in
theorem class_t (w : World) : Calls Try.prog 47 #[.bool true] w fun e w' => e = .returned (.int .i64 1) ∧ w' = w := by
  go_enter Try.func47, Try.ntmps47
  go_wp2
  go_ret
  exact ⟨rfl, rfl⟩
set_option maxRecDepth 100000 in
theorem class_f (w : World) : Calls Try.prog 47 #[.bool false] w fun e w' => e = .returned (.int .i64 0) ∧ w' = w := by
  go_enter Try.func47, Try.ntmps47
  go_wp2
  go_ret
  exact ⟨rfl, rfl⟩
set_option maxRecDepth 100000 in
theorem rnew_any (E : Nat → Prop) (p : Int) (w : World) (hE : ∀ k, E k → k < w.heap.size) :
    Calls Try.prog 25 #[.int .i64 p] w fun e w' => ∃ rb, w.heap.size ≤ rb ∧ e = .returned (.pointer (some ⟨rb, 0, none⟩)) ∧ Below w.heap.size w w' ∧ RQ w' E rb (min (max p 0) 64).toNat false [] [] := by
  obtain ⟨n, hn⟩ : ∃ n : Nat, (n : Int) = min (max p 0) 64 := ⟨(min (max p 0) 64).toNat, by omega⟩
  rw [← hn, Int.toNat_natCast]
  have hn3 := hn.symm
  clear hn
  go_enter Try.func25, Try.ntmps25
  go_wp2
  go_ret
  refine ⟨w.heap.size, Nat.le_refl _, rfl, (Below.refl _ w).alloc (Nat.le_refl _) _, .slice none 0 0, .slice none 0 0, ObjAt.new w _ _, .inl ⟨rfl, rfl⟩, .inl ⟨rfl, rfl⟩, fun k hk => by simp [Value.ownBlock] at hk, fun h => by have := hE _ h; omega, fun k hk => Nat.lt_of_lt_of_le (hE k hk) (by simp)⟩
set_option maxRecDepth 100000 in
theorem rlen0 (E : Nat → Prop) (rb n : Nat) (fl : Bool) (l0 l1 : List ByteArray) (w : World) (h : RQ w E rb n fl l0 l1) :
    Calls Try.prog 34 #[.pointer (some ⟨rb, 0, none⟩), .bool false] w fun e w' => e = .returned (.int .i64 (l0.length : Int)) ∧ ∃ k, w' = w.drewN k := by
  obtain ⟨v0, v1, h⟩ := h
  obtain ⟨a, c, rfl⟩ := h.form0
  have c0 : w.cell? ⟨rb, 1, none⟩ = some (.slice a l0.length c) := h.obj.cell 1
  clear h
  go_enter Try.func34, Try.ntmps34
  go_wp2_with fail
  go_quiet ((go_at_call 47; refine Calls.quiet_of_same (class_f _)))
  go_wp2
  go_ret
  exact ⟨rfl, _, rfl⟩
set_option maxRecDepth 100000 in
theorem rlen1 (E : Nat → Prop) (rb n : Nat) (fl : Bool) (l0 l1 : List ByteArray) (w : World) (h : RQ w E rb n fl l0 l1) :
    Calls Try.prog 34 #[.pointer (some ⟨rb, 0, none⟩), .bool true] w fun e w' => e = .returned (.int .i64 (l1.length : Int)) ∧ ∃ k, w' = w.drewN k := by
  obtain ⟨v0, v1, h⟩ := h
  obtain ⟨a, c, rfl⟩ := h.form1
  have c0 : w.cell? ⟨rb, 2, none⟩ = some (.slice a l1.length c) := h.obj.cell 2
  clear h
  go_enter Try.func34, Try.ntmps34
  go_wp2_with fail
  go_quiet ((go_at_call 47; refine Calls.quiet_of_same (class_t _)))
  go_wp2
  go_ret
  exact ⟨rfl, _, rfl⟩
end Go.Proofs.Ytkeeledkdoiglaa.Qr
