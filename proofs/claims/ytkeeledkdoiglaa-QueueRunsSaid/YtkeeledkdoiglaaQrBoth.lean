/- QueueRuns: both queues. -/
import Derived.Test.YtkeeledkdoiglaaQrActs
namespace Go.Proofs.Ytkeeledkdoiglaa.Qr
open Go.RowKit Go.Proofs.Ytkeeledkdoiglaa
theorem slen1 (qb cb n : Nat) (fl : Bool) (l0 l1 : List ByteArray) (w : World) (h : Qs.QIs w qb cb n fl l0 l1) :
    Calls Try.prog 33 #[.pointer (some ⟨qb, 0, none⟩), .bool true] w fun e w' => e = .returned (.int .i64 (l1.length : Int)) ∧ w' = w := Qs.lenQ qb cb n fl true l0 l1 w h
theorem slen0 (qb cb n : Nat) (fl : Bool) (l0 l1 : List ByteArray) (w : World) (h : Qs.QIs w qb cb n fl l0 l1) :
    Calls Try.prog 33 #[.pointer (some ⟨qb, 0, none⟩), .bool false] w fun e w' => e = .returned (.int .i64 (l0.length : Int)) ∧ w' = w := Qs.lenQ qb cb n fl false l0 l1 w h
structure Bo (w0 w : World) (E : Nat → Prop) (qb cb rb n : Nat) (fq : Bool) (q0 q1 : List ByteArray) (fr : Bool) (r0 r1 : List ByteArray) : Prop where
  e0 : ∀ k, k < w0.heap.size → E k
  eq : E qb
  ec : E cb
  q : Qs.QIs w qb cb n fq q0 q1
  r : RQ w E rb n fr r0 r1
  ge : w0.heap.size ≤ qb ∧ w0.heap.size ≤ cb
  below : Below w0.heap.size w0 w
section
variable {w0 w : World} {E : Nat → Prop} {qb cb rb n : Nat} {fq : Bool} {q0 q1 : List ByteArray} {fr : Bool} {r0 r1 : List ByteArray}
theorem Bo.drewN (h : Bo w0 w E qb cb rb n fq q0 q1 fr r0 r1) (k : Nat) : Bo w0 (w.drewN k) E qb cb rb n fq q0 q1 fr r0 r1 :=
  ⟨h.e0, h.eq, h.ec, h.q.drewN k, h.r.drewN k, h.ge, ⟨h.below.os, h.below.tape, h.below.output, h.below.size, h.below.block⟩⟩
theorem Bo.alloc (h : Bo w0 w E qb cb rb n fq q0 q1 fr r0 r1) (o : Obj) : Bo w0 (w.alloc o) (fun k => E k ∨ k = w.heap.size) qb cb rb n fq q0 q1 fr r0 r1 :=
  ⟨fun k hk => .inl (h.e0 k hk), .inl h.eq, .inl h.ec, h.q.keep (S := fun _ => False) ((Keep.refl _ w).alloc o) (fun h => h) (fun h => h), h.r.alloc o, h.ge, h.below.alloc h.below.size o⟩
theorem Bo.qstep (h : Bo w0 w E qb cb rb n fq q0 q1 fr r0 r1) {w' : World} {fq' : Bool} {q0' q1' : List ByteArray} (hk : Keep (fun k => k = qb ∨ k = cb) w w') (hq : Qs.QIs w' qb cb n fq' q0' q1') : Bo w0 w' E qb cb rb n fq' q0' q1' fr r0 r1 :=
  ⟨h.e0, h.eq, h.ec, hq, h.r.keep hk (fun k hk => hk.elim (fun e => e ▸ h.eq) (fun e => e ▸ h.ec)), h.ge, h.below.trans (hk.below h.below.size (by intro k h1; have := h.ge; omega))⟩
theorem Bo.rstep (h : Bo w0 w E qb cb rb n fq q0 q1 fr r0 r1) {w' : World} {rb' : Nat} {fr' : Bool} {r0' r1' : List ByteArray} (hk : Keep (fun k => ¬ E k) w w') (hr : RQ w' E rb' n fr' r0' r1') : Bo w0 w' E qb cb rb' n fq q0 q1 fr' r0' r1' :=
  ⟨h.e0, h.eq, h.ec, h.q.keep hk (fun k => k h.eq) (fun k => k h.ec), hr, h.ge, h.below.trans (hk.below h.below.size (fun k h1 h2 => h2 (h.e0 k h1)))⟩
end
def QRel (w0 : World) (qb cb n len : Nat) (r c : Value) (wr : World) : Prop :=
  ∃ (k : Nat) (E : Nat → Prop) (rb : Nat) (fl : Bool) (l0 l1 : List ByteArray), k ≤ len ∧ c = .int .i64 (k : Int) ∧ r = .pointer (some ⟨rb, 0, none⟩) ∧ Bo w0 wr E qb cb rb n fl l0 l1 fl l0 l1
end Go.Proofs.Ytkeeledkdoiglaa.Qr
