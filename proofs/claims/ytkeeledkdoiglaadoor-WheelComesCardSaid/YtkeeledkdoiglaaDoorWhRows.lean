/- Wheel: many ticks, told as rows (plain); a row appended to a row. -/
import Derived.Test.YtkeeledkdoiglaaDoorWhSame
import Derived.Laws.OwnMore
namespace Go.Proofs.YtkeeledkdoiglaaDoor.Wh
open Go.RowKit Go.Proofs.YtkeeledkdoiglaaDoor
/-- What is left behind n ticks. -/
def adv (F : Nat → Int) : Nat → Nat → Int
  | 0 => F
  | n + 1 => adv (down F 16) n
/-- Those that come in n ticks. -/
def rows (F : Nat → Int) : Nat → List Int
  | 0 => []
  | n + 1 => comes F 16 ++ rows (down F 16) n
theorem rows_congr : ∀ (n : Nat) {F G : Nat → Int}, (∀ i, i < 16 → F i = G i) → rows F n = rows G n ∧ ∀ i, i < 16 → adv F n i = adv G n i
  | 0, _, _, h => ⟨rfl, h⟩
  | n + 1, F, G, h => by
    obtain ⟨h1, h2⟩ := rows_congr n (down_congr h)
    exact ⟨by unfold rows; rw [h1, comes_congr 16 h], h2⟩
theorem rows_len : ∀ (n : Nat) (F : Nat → Int), (rows F n).length ≤ 16 * n
  | 0, _ => Nat.le_refl _
  | n + 1, F => by
    have := rows_len n (down F 16)
    have := comes_len F 16
    simp only [rows, List.length_append]
    omega
theorem rows_add : ∀ (a b : Nat) (F : Nat → Int), rows F (a + b) = rows F a ++ rows (adv F a) b ∧ adv F (a + b) = adv (adv F a) b
  | 0, b, F => by simp [rows, adv]
  | a + 1, b, F => by
    obtain ⟨h1, h2⟩ := rows_add a b (down F 16)
    rw [show a + 1 + b = (a + b) + 1 by omega]
    simp only [rows, adv]
    rw [h1, h2, List.append_assoc]
    exact ⟨rfl, rfl⟩
theorem rows_succ (F : Nat → Int) (a : Nat) : rows F (a + 1) = rows F a ++ comes (adv F a) 16 ∧ adv F (a + 1) = down (adv F a) 16 := by
  obtain ⟨h1, h2⟩ := rows_add a 1 F
  rw [h1, h2]
  simp [rows, adv]
theorem comes_none (F : Nat → Int) : ∀ k, (∀ i, i < k → F i ≠ 1) → comes F k = []
  | 0, _ => rfl
  | k + 1, h => by
    unfold comes
    rw [if_neg (h k (by omega)), comes_none F k (fun i hi => h i (by omega))]
theorem rows_none : ∀ (n : Nat) {F : Nat → Int}, (∀ i, i < 16 → F i ≤ 0) → rows F n = [] ∧ ∀ i, i < 16 → adv F n i = F i
  | 0, _, _ => ⟨rfl, fun _ _ => rfl⟩
  | n + 1, F, h => by
    have hd : ∀ i, i < 16 → down F 16 i = F i := fun i hi => by
      unfold down
      rw [if_neg (by have := h i hi; omega)]
    obtain ⟨h1, h2⟩ := rows_congr n hd
    obtain ⟨h3, h4⟩ := rows_none n h
    refine ⟨?_, fun i hi => (h2 i hi).trans (h4 i hi)⟩
    unfold rows
    rw [h1, h3, comes_none F 16 (fun i hi e => by have := h i hi; omega)]
    rfl
def less (F : Nat → Int) (d : Nat) : Nat → Int := fun i => if 0 < F i then F i - d else F i
theorem rows_idle : ∀ (d n : Nat) {F : Nat → Int}, (∀ i, i < 16 → 0 < F i → (d : Int) < F i) → rows F (d + n) = rows (less F d) n ∧ ∀ i, i < 16 → adv F (d + n) i = adv (less F d) n i
  | 0, n, F, h => by
    rw [Nat.zero_add]
    exact rows_congr n fun i hi => by unfold less; split <;> simp
  | d + 1, n, F, h => by
    have hd : ∀ i, i < 16 → 0 < down F 16 i → (d : Int) < down F 16 i := fun i hi h0 => by
      unfold down at h0 ⊢
      by_cases e : 0 < F i
      · have := h i hi e
        rw [if_pos ⟨hi, e⟩]
        omega
      · rw [if_neg (by omega)] at h0
        omega
    obtain ⟨h1, h2⟩ := rows_idle d n hd
    have hl : ∀ i, i < 16 → less (down F 16) d i = less F (d + 1) i := fun i hi => by
      by_cases e : 0 < F i
      · have := h i hi e
        have e2 : down F 16 i = F i - 1 := by unfold down; rw [if_pos ⟨hi, e⟩]
        unfold less
        rw [e2, if_pos (by omega), if_pos e]
        omega
      · have e2 : down F 16 i = F i := by unfold down; rw [if_neg (by omega)]
        unfold less
        rw [e2, if_neg e, if_neg e]
    obtain ⟨h3, h4⟩ := rows_congr n hl
    rw [show d + 1 + n = (d + n) + 1 by omega]
    refine ⟨?_, fun i hi => ((h2 i hi).trans (h4 i hi))⟩
    show comes F 16 ++ rows (down F 16) (d + n) = _
    rw [h1, h3, comes_none F 16 (fun i hi e => by have := h i hi (by omega); omega)]
    rfl
theorem soon_least (F : Nat → Int) : ∀ k, ((soon F k).2 = true → 0 < (soon F k).1 ∧ ∀ i, i < k → 0 < F i → (soon F k).1 ≤ F i) ∧ ((soon F k).2 = false → ∀ i, i < k → F i ≤ 0)
  | 0 => ⟨fun h => by simp [soon] at h, fun _ i hi => by omega⟩
  | k + 1 => by
    obtain ⟨h1, h2⟩ := soon_least F k
    by_cases h : 0 < F k ∧ ((soon F k).2 = false ∨ F k < (soon F k).1)
    · rw [soon_yes h]
      refine ⟨fun _ => ⟨h.1, fun i hi h0 => ?_⟩, fun e => by cases e⟩
      by_cases e : i = k
      · rw [e]; exact Int.le_refl _
      · rcases h.2 with hf | hl
        · have := h2 hf i (by omega); omega
        · cases hs : (soon F k).2
          · have := h2 hs i (by omega); omega
          · have := (h1 hs).2 i (by omega) h0
            show F k ≤ F i
            omega
    · rw [soon_no h]
      refine ⟨fun hs => ⟨(h1 hs).1, fun i hi h0 => ?_⟩, fun hs i hi => ?_⟩
      · by_cases e : i = k
        · subst e
          exact Int.not_lt.1 fun hlt => h ⟨h0, .inr hlt⟩
        · exact (h1 hs).2 i (by omega) h0
      · by_cases e : i = k
        · subst e
          exact Int.not_lt.1 fun hlt => h ⟨hlt, .inl hs⟩
        · exact h2 hs i (by omega)
/-- A row behind a row. -/
theorem wpList_append_rows {P : Program} {w : World} {ops : Array Oper} {rest : List Oper} {o : Oper} {a : Act} {Q : Exit → Act → World → Prop} (hgd : o.guard = none) (s x : Operand) (t : TypeId)
    (ho : o.op = .call { callee := .builtin .append, args := #[s, x], argTypes := #[t, t] })
    (base : Nat) (i : TypeInfo) (ht : P.underlying t = some (.slice 3)) (hi : P.info? 3 = some i) (hz : i.zero = some (.int .i64 0)) (hsize : i.size = 1) (hby : i.bytes = 8)
    (v : Value) (l : List Int) (hs : a.eval s = v) (hown : Own w base v l) (b2 : Nat) (u : Value) (l2 : List Int) (hx : a.eval x = u) (hown2 : Own w b2 u l2)
    (hlen : l.length + l2.length ≤ 1000000) (hbase : base ≤ w.heap.size)
    (h : ∀ v' w', Own w' base v' (l ++ l2) → w.grownBy w' v.ownBlock → (v'.ownBlock = v.ownBlock ∨ ∃ k, v'.ownBlock = some k ∧ w.heap.size ≤ k) → wpList P ops Q rest (a.put o.dst v') w') :
    wpList P ops Q (o :: rest) a w := by
  obtain ⟨a2, c2, g2, rfl, hne, hcell, hc | hc⟩ := own_form hown2
  · obtain ⟨he, rfl⟩ := hc
    rw [he] at hx
    refine wpList_plain hgd fun _ hK => ?_
    have hr := run_append_owned_none (P := P) w base t o.type 3 i 1 ht hi v l.length (ints l) hown
    unfold Oper.wp execOp
    simp only [ho, resolve, invoke, builtin, Sem.run_bind, Sem.run_pure, Result.andThen_ok, List.map_toArray, List.map_cons, List.map_nil, hs, hx, hr]
    exact hK _ _ (h v w (by rw [List.append_nil]; exact hown) ⟨rfl, rfl, rfl, Nat.le_refl _, fun _ _ _ => rfl⟩ (.inl rfl))
  · obtain ⟨rfl, -, -⟩ := hc
    refine wpList_append_blk hgd s x t ho base 3 i (.int .i64 0) 1 8 ht hi hz hsize hby rfl (by decide) v l.length (ints l) hs hown ⟨g2, 0, none⟩ l2.length c2 (ints l2) hx (by simp [ints]) ?_ ?_ (by unfold maxLen; omega) (by omega) hbase fun v' w' h2 h3 h4 => h v' w' ?_ h3 ?_
    · intro j u hj
      unfold ints at hj
      rw [List.getElem?_map] at hj
      obtain ⟨y, hy, rfl⟩ := Option.map_eq_some_iff.1 hj
      obtain ⟨hj', rfl⟩ := List.getElem?_eq_some_iff.1 hy
      have := hcell j hj'
      unfold Addr.add
      split
      · next e => subst e; exact this
      · simpa using this
    · intro u hu
      unfold ints at hu
      obtain ⟨y, -, rfl⟩ := List.mem_map.1 hu
      rfl
    · unfold Own ints at *
      rw [List.length_append, List.map_append]
      exact h2
    · rcases h4 with h4 | h4
      · exact .inl h4
      · exact .inr ⟨_, h4, Nat.le_refl _⟩
theorem WL.block {w w' : World} {wb : Nat} {F : Nat → Int} {m : Int} (h : WL w wb F m) (hs : w.heap.size ≤ w'.heap.size) (hb : w'.heap[wb]? = w.heap[wb]?) : WL w' wb F m := by
  obtain ⟨s, ha, r⟩ := h
  have hc : ∀ j, w'.cell? ⟨wb, j, none⟩ = w.cell? ⟨wb, j, none⟩ := fun j => World.cell?_of_block (a := ⟨wb, j, none⟩) hb
  have hf : ∀ j, w'.frozen? ⟨wb, j, none⟩ = w.frozen? ⟨wb, j, none⟩ := fun j => World.frozen?_of_block (a := ⟨wb, j, none⟩) hb
  exact ⟨s, ⟨Nat.lt_of_lt_of_le ha.lt hs, (hc 0).trans ha.now, fun i hi => (hc _).trans (ha.due i hi), (hc 17).trans ha.set, fun j hj => (hc _).trans (ha.spoke j hj), fun j => (hf j).trans (ha.free j)⟩, r⟩
theorem own_keep {w w' : World} {base : Nat} {u v : Value} {l : List Int} (h : Own w base v l) (hg : w.grownBy w' u.ownBlock) (ap : ∀ k, u.ownBlock = some k → v.ownBlock ≠ some k) : Own w' base v l :=
  h.kept hg (by
    cases hbb : v.ownBlock with
    | none => exact .inl rfl
    | some j => exact .inr (fun e => ap j e.symm hbb))
theorem idle_good {s : WS} (h : Good s) (d : Nat) (hd : ∀ i, i < 16 → 0 < s.left i → (d : Int) < s.left i) : Good { s with now := s.now + d } ∧ ∀ i, i < 16 → WS.left { s with now := s.now + d } i = less s.left d i := by
  have key : ∀ i, i < 16 → s.M.testBit i = true → s.left i = s.D i - s.now ∧ (d : Int) < s.left i := fun i hi hb => by
    have e : s.left i = s.D i - s.now := by simp [WS.left, hb]
    exact ⟨e, hd i hi ((good_bd h i hi).2.2.1 hb)⟩
  refine ⟨⟨h.m, h.s16, by have := h.n; show 0 ≤ s.now + (d : Int); omega, h.sp, fun i hi hb => ?_⟩, fun i hi => ?_⟩
  · have := key i hi hb
    have := h.due i hi hb
    show s.now + (d : Int) < s.D i ∧ s.D i ≤ s.now + d + 10000
    omega
  · unfold less
    cases hb : s.M.testBit i
    · simp [WS.left, hb]
    · have := key i hi hb
      rw [if_pos (by omega), this.1]
      simp [WS.left, hb]
      omega
end Go.Proofs.YtkeeledkdoiglaaDoor.Wh
