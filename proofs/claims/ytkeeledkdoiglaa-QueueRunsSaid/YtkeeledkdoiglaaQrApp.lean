/- A row of texts that may begin anywhere in its block; one text more. -/
import Derived.Test.YtkeeledkdoiglaagBase
import Derived.ArgAppend
import Derived.Deep.AppendLies
namespace Go.Proofs.Ytkeeledkdoiglaa.Qr
open Go.RowKit Go.Proofs.Ytkeeledkdoiglaa
def strs (l : List ByteArray) : List Value := l.map Value.string
/-- The row: nothing, or a stretch of a block that is not among E. -/
def TRow (w : World) (E : Nat → Prop) (v : Value) (l : List ByteArray) : Prop :=
  (v = .slice none 0 0 ∧ l = []) ∨ ∃ g off cap cur, v = .slice (some ⟨g, off, none⟩) l.length cap ∧ ¬ E g ∧ ObjAt w g cur 9 ∧ l.length ≤ cap ∧ off + cap ≤ cur.size ∧ ∀ j u, (strs l)[j]? = some u → cur[off + j]? = some u
theorem TRow.block {w w' : World} {E E' : Nat → Prop} {v : Value} {l : List ByteArray} (h : TRow w E v l) (hb : ∀ k, k < w.heap.size → v.ownBlock = some k → w'.heap[k]? = w.heap[k]?) (he : ∀ k, k < w.heap.size → E' k → E k) : TRow w' E' v l := by
  rcases h with h | ⟨g, off, cap, cur, rfl, hg, ho, h1, h2, h3⟩
  · exact .inl h
  · exact .inr ⟨g, off, cap, cur, rfl, fun k => hg (he g ho.lt k), (hb g ho.lt rfl).trans ho, h1, h2, h3⟩
theorem TRow.own {w : World} {E : Nat → Prop} {v : Value} {l : List ByteArray} (h : TRow w E v l) : ∀ k, v.ownBlock = some k → ¬ E k ∧ k < w.heap.size := by
  intro k hk
  rcases h with ⟨rfl, _⟩ | ⟨g, off, cap, cur, rfl, hg, ho, _⟩
  · simp [Value.ownBlock] at hk
  · simp [Value.ownBlock] at hk
    subst hk
    exact ⟨hg, ho.lt⟩
/-- One more. -/
theorem run_append_t {P : Program} (w : World) (E : Nat → Prop) (hE : ∀ k, E k → k < w.heap.size) (t ty : TypeId) (i : TypeInfo) (z : Value) (ht : P.underlying t = some (.slice 9)) (hi : P.info? 9 = some i) (hz : i.zero = some z)
    (hsize : i.size = 1) (hby : i.bytes = 16) (hzs : z.cells.size = 1) (v : Value) (l : List ByteArray) (hrow : TRow w E v l) (ad : Addr) (x : ByteArray) (hx : w.cell? ad = some (.string x)) (hl : l.length ≤ 1000) :
    ∃ v' w', (Builtin.append_ #[t, t] ty #[v, .slice (some ad) 1 1]).run P w = .ok v' w' ∧ TRow w' E v' (l ++ [x]) ∧ w.grownBy w' v.ownBlock ∧ (v'.ownBlock = v.ownBlock ∨ ∃ k, v'.ownBlock = some k ∧ w.heap.size ≤ k) ∧ ∃ a c, v' = .slice (some a) (l.length + 1) c := by
  have hnews : ∀ j u, ([Value.string x] : List Value)[j]? = some u → w.cell? (ad.add j) = some u := by
    intro j u hj
    match j, hj with
    | 0, hj => simp at hj; subst hj; simpa [Addr.add] using hx
  have h63 : l.length + 1 ≤ maxLen := by unfold maxLen; omega
  have hby2 : (l.length + 1) * 16 ≤ 140737488355328 := by omega
  have key : ∀ (b : Addr) (cap : Nat), (∀ j u, (strs l)[j]? = some u → w.cell? (b.add j) = some u) → cap < l.length + 1 →
      ∃ v' w', (Builtin.append_ #[t, t] ty #[.slice (some b) l.length cap, .slice (some ad) 1 1]).run P w = .ok v' w' ∧ TRow w' E v' (l ++ [x]) ∧ w.grownBy w' none ∧ (∃ k, v'.ownBlock = some k ∧ w.heap.size ≤ k) ∧ ∃ a c, v' = .slice (some a) (l.length + 1) c := by
    intro b cap hc hg
    obtain ⟨v', w', hr, h2, h3⟩ := run_append_arg_grows (P := P) w t ty 9 i z 1 16 ht hi hz hsize hby hzs (by decide) b l.length cap (strs l) (by simp [strs]) hc ad 1 1 [.string x] rfl hnews hg h63 hby2
    refine ⟨v', w', hr, ?_, h3, ?_⟩
    · rcases h2.2 with ⟨_, h0⟩ | ⟨g, cap', cur, rfl, hb, hg', hn, hm, hs, ht'⟩
      · omega
      · refine .inr ⟨g, 0, cap', cur, by simp, fun he => by have := hE g he; omega, hg', by simpa using hn, by omega, fun j u hj => ?_⟩
        have e : strs (l ++ [x]) = strs l ++ [Value.string x] := by simp [strs]
        rw [e, ← ht', List.getElem?_take] at hj
        split at hj
        · simpa using hj
        · simp at hj
    · rcases h2.2 with ⟨_, h0⟩ | ⟨g, cap', cur, rfl, hb, _⟩
      · omega
      · exact ⟨⟨g, rfl, hb⟩, _, _, rfl⟩
  rcases hrow with ⟨rfl, rfl⟩ | ⟨g, off, cap, cur, rfl, hg, ho, h1, h2, h3⟩
  · obtain ⟨v', w', hr, h2, h3, _⟩ := run_append_own (P := P) w w.heap.size t ty 9 i z 1 16 ht hi hz hsize hby hzs (by decide) (.slice none 0 0) 0 [] (World.ownsRow_nil w _ _ _) ad 1 1 [.string x] rfl hnews (by simp [Value.oneCell']) (by simpa using h63) (by simp) (Nat.le_refl _)
    refine ⟨v', w', hr, ?_, h3, ?_⟩
    · rcases h2.2 with ⟨_, h0⟩ | ⟨g, cap', cur, rfl, hb, hg', hn, hm, hs, ht'⟩
      · omega
      · refine .inr ⟨g, 0, cap', cur, by simp, fun he => by have := hE g he; omega, hg', by simpa using hn, by omega, fun j u hj => ?_⟩
        have e : strs ([] ++ [x]) = [] ++ [Value.string x] := by simp [strs]
        rw [e, ← ht', List.getElem?_take] at hj
        split at hj
        · simpa using hj
        · simp at hj
    · rcases h2.2 with ⟨_, h0⟩ | ⟨g, cap', cur, rfl, hb, _⟩
      · omega
      · exact ⟨.inr ⟨g, rfl, hb⟩, _, _, rfl⟩
  · have hc : ∀ j u, (strs l)[j]? = some u → w.cell? ((⟨g, off, none⟩ : Addr).add j) = some u := fun j u hj => by rw [Addr.add_lit, ho.cell]; exact h3 j u hj
    by_cases hr : l.length + 1 ≤ cap
    · have hrun := run_append_room_cells (P := P) w t ty 9 i ht hi g off l.length cap ad 1 1 [.string x] (by simp [hsize]) hnews (by simp [Value.oneCell']) hr
        (fun j hj => by
          obtain rfl : j = 0 := by simpa using hj
          rw [ho.cell, hsize, Nat.mul_one, Nat.add_zero, Array.getElem?_eq_getElem (by omega)]; rfl) (fun j hj => ho.free _)
      refine ⟨_, _, hrun, ?_, ?_, .inl rfl, _, _, rfl⟩
      · rw [hsize, Nat.mul_one]
        refine .inr ⟨g, off, cap, cur.setIfInBounds (off + l.length) (.string x), by simp, hg, ho.set (off + l.length) (.string x), by simpa using hr, by simpa using h2, fun j u hj => ?_⟩
        have e : strs (l ++ [x]) = strs l ++ [Value.string x] := by simp [strs]
        rw [e] at hj
        by_cases hjl : j < l.length
        · rw [List.getElem?_append_left (by simpa [strs] using hjl)] at hj
          rw [Array.getElem?_setIfInBounds_ne (by omega)]
          exact h3 j u hj
        · rw [List.getElem?_append_right (by simp [strs]; omega)] at hj
          have hj0 : j = l.length := by
            have := (List.getElem?_eq_some_iff.1 hj).1
            simp [strs] at this
            omega
          subst hj0
          simp [strs] at hj
          subst hj
          rw [Array.getElem?_setIfInBounds_self_of_lt (by omega)]
      · refine ⟨rfl, rfl, rfl, by simp [World.setCells, World.setCell], fun k hk hne => ?_⟩
        exact heap_setCell_other _ _ _ _ (fun e => hne (by simp [Value.ownBlock, e]))
    · obtain ⟨v', w', hr', q1, q2, q3, q4⟩ := key ⟨g, off, none⟩ cap hc (by omega)
      exact ⟨v', w', hr', q1, ⟨q2.os, q2.tape, q2.output, q2.size, fun k hk _ => q2.block k hk (by simp)⟩, .inr q3, q4⟩
/-- At a step of a region that draws. -/
theorem step_append_t {P : Program} {w : World} {ops : Array Oper} {o : Oper} {a : Act} {K : Act → World → Prop} {Q : Exit → Act → World → Prop} {G : Prop} (hgd : o.guard = none) (s x : Operand) (t : TypeId)
    (ho : o.op = .call { callee := .builtin .append, args := #[s, x], argTypes := #[t, t] })
    (E : Nat → Prop) (hE : ∀ k, E k → k < w.heap.size) (i : TypeInfo) (z : Value) (ht : P.underlying t = some (.slice 9)) (hi : P.info? 9 = some i) (hz : i.zero = some z)
    (hsize : i.size = 1) (hby : i.bytes = 16) (hzs : z.cells.size = 1) (v : Value) (l : List ByteArray) (hs : a.eval s = v) (hrow : TRow w E v l) (ad : Addr) (y : ByteArray) (hx : a.eval x = .slice (some ad) 1 1) (hy : w.cell? ad = some (.string y)) (hl : l.length ≤ 1000)
    (h : ∀ ad' c' w', TRow w' E (.slice (some ad') (l.length + 1) c') (l ++ [y]) → w.grownBy w' v.ownBlock → (some ad'.block = v.ownBlock ∨ w.heap.size ≤ ad'.block) → K (a.put o.dst (.slice (some ad') (l.length + 1) c')) w') :
    if Region.wanted o (yielded ops a.tmps) = true then Oper.wp P o a w K Q else G := by
  have hw : Region.wanted o (yielded ops a.tmps) = true := by simp [Region.wanted, hgd]
  rw [if_pos hw]
  obtain ⟨v', w', hr, h2, h3, h4, ad', c', rfl⟩ := run_append_t (P := P) w E hE t o.type i z ht hi hz hsize hby hzs v l hrow ad y hy hl
  unfold Oper.wp execOp
  simp only [ho, resolve, invoke, builtin, Sem.run_bind, Sem.run_pure, Result.andThen_ok, List.map_toArray, List.map_cons, List.map_nil, hs, hx, hr]
  refine h ad' c' w' h2 h3 ?_
  rcases h4 with h4 | ⟨k, h4, h5⟩
  · exact .inl h4
  · exact .inr (by simp [Value.ownBlock] at h4; omega)
end Go.Proofs.Ytkeeledkdoiglaa.Qr
