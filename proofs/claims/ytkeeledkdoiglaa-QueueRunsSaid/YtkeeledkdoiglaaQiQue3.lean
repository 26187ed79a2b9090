/- The queue (of numbers) as two lists of things. -/
import Derived.Test.YtkeeledkdoiglaaQiQue2
namespace Go.Proofs.Ytkeeledkdoiglaa.Qi
open Go.RowKit
/-- From st on, each next one, to the end. -/
def chain (N : Nat → Int) : Int → List Nat → Prop
  | st, [] => st = -1
  | st, i :: r => st = (i : Int) ∧ chain N (N i) r
/-- From a on, each next one. -/
def lnk (N : Nat → Int) : Int → List Nat → Prop
  | _, [] => True
  | a, i :: r => a = (i : Int) ∧ lnk N (N i) r
theorem chain_upd {N : Nat → Int} {i : Nat} {x : Int} : ∀ (l : List Nat) (st : Int), i ∉ l → chain N st l → chain (upd N i x) st l
  | [], _, _, h => h
  | j :: r, st, hi, h => by
    have hij : i ≠ j := fun e => hi (by simp [e])
    refine ⟨h.1, ?_⟩
    have : upd N i x j = N j := if_neg (Ne.symm hij)
    rw [this]
    exact chain_upd r _ (fun e => hi (by simp [e])) h.2
theorem lnk_upd {N : Nat → Int} {i : Nat} {x : Int} : ∀ (l : List Nat) (st : Int), i ∉ l → lnk N st l → lnk (upd N i x) st l
  | [], _, _, h => h
  | j :: r, st, hi, h => by
    have hij : i ≠ j := fun e => hi (by simp [e])
    refine ⟨h.1, ?_⟩
    have : upd N i x j = N j := if_neg (Ne.symm hij)
    rw [this]
    exact lnk_upd r _ (fun e => hi (by simp [e])) h.2
/-- One behind the last one. -/
theorem lnk_snoc {N : Nat → Int} {i l : Nat} : ∀ (A : List Nat) (st : Int), (A ++ [l]).Nodup → lnk N st (A ++ [l]) → lnk (upd N l i) st (A ++ [l] ++ [i])
  | [], st, _, h => by
    refine ⟨h.1, ?_⟩
    have : upd N l (i : Int) l = i := if_pos rfl
    rw [this]
    exact ⟨rfl, trivial⟩
  | j :: r, st, hn, h => by
    have hn2 := (List.nodup_cons.1 hn)
    have hjl : j ≠ l := fun e => hn2.1 (by simp [e])
    refine ⟨h.1, ?_⟩
    have : upd N l (i : Int) j = N j := if_neg hjl
    rw [this]
    exact lnk_snoc r _ hn2.2 h.2
/-- How the cells hang together: free ones, low ones, high ones. -/
structure Rep (n : Nat) (s : QS) (F A0 A1 : List Nat) : Prop where
  nd : (F ++ (A0 ++ A1)).Nodup
  lt : ∀ i ∈ F ++ (A0 ++ A1), i < n
  len : F.length + A0.length + A1.length = n
  free : chain s.N s.free F
  c0 : s.n0 = (A0.length : Int)
  c1 : s.n1 = (A1.length : Int)
  l0 : lnk s.N s.a0 A0
  l1 : lnk s.N s.a1 A1
  e0 : ∀ (B : List Nat) (l : Nat), A0 = B ++ [l] → s.b0 = (l : Int)
  e1 : ∀ (B : List Nat) (l : Nat), A1 = B ++ [l] → s.b1 = (l : Int)
theorem map_upd {α : Type} (X : Nat → α) (i : Nat) (x : α) (l : List Nat) (h : i ∉ l) : l.map (upd X i x) = l.map X := by
  apply List.map_congr_left
  intro j hj
  exact if_neg (fun e => h (by rw [← e]; exact hj))
theorem chain_range (n : Nat) : ∀ (d k : Nat), k + d = n → chain (clrN n) (if k < n then (k : Int) else -1) (List.range' k d)
  | 0, k, h => by
    show (if k < n then (k : Int) else -1) = -1
    rw [if_neg (by omega)]
  | d + 1, k, h => by
    rw [List.range'_succ]
    refine ⟨if_pos (by omega), ?_⟩
    have := chain_range n d (k + 1) (by omega)
    have e : clrN n k = if k + 1 < n then ((k + 1 : Nat) : Int) else -1 := by
      unfold clrN
      split <;> simp
    rw [e]
    exact this
theorem rep_zero (n : Nat) : Rep n (QS.zero n) (List.range' 0 n) [] [] := by
  refine ⟨?_, ?_, by simp, ?_, rfl, rfl, trivial, trivial, ?_, ?_⟩
  · rw [List.append_nil, List.append_nil]; exact List.nodup_range'
  · intro i hi
    rw [List.append_nil, List.append_nil] at hi
    have := List.mem_range'_1.1 hi
    omega
  · have := chain_range n n 0 (by omega)
    simpa [QS.zero] using this
  · intro B l h; simp at h
  · intro B l h; simp at h

theorem rep_take0 {n : Nat} {s : QS} {F r A1 : List Nat} {i : Nat} (h : Rep n s F (i :: r) A1) : Rep n (s.take0 i) (i :: F) r A1 := by
  obtain ⟨nd, lt, len, free, c0, c1, l0, l1, e0, e1⟩ := h
  have hF : i ∉ F := by
    intro hi
    have := (List.nodup_append.1 nd).2.2 i hi i (by simp)
    exact this rfl
  have nd2 := (List.nodup_append.1 nd).2.1
  have hr : i ∉ r := by
    intro hi
    have := nd2
    simp [List.nodup_append, List.nodup_cons] at this
    grind
  have ho : i ∉ A1 := by
    intro hi
    have := nd2
    simp [List.nodup_append, List.nodup_cons] at this
    grind
  have hN : upd s.N i s.free i = s.free := if_pos rfl
  unfold QS.take0
  refine ⟨?_, ?_, ?_, ?_, ?_, ?_, ?_, ?_, ?_, ?_⟩ <;> (try dsimp only)
  · simp [List.nodup_append, List.nodup_cons] at nd ⊢; grind
  · intro j hj
    apply lt
    simp at hj ⊢
    grind
  · simp at len ⊢; omega
  · exact ⟨rfl, by rw [hN]; exact chain_upd F _ hF free⟩
  · rw [c0]; simp
  · exact c1
  · exact lnk_upd r _ hr l0.2
  · exact lnk_upd A1 _ ho l1
  · intro B l hB; exact e0 (i :: B) l (by rw [hB]; rfl)
  · exact e1

theorem rep_first0 {n : Nat} {s : QS} {F A1 : List Nat} {i : Nat} (x : Int) (h : Rep n s (i :: F) [] A1) : Rep n (s.first0 i x) F [i] A1 := by
  obtain ⟨nd, lt, len, free, c0, c1, l0, l1, e0, e1⟩ := h
  have hF : i ∉ F := by simp [List.nodup_append, List.nodup_cons] at nd; grind
  have ho : i ∉ A1 := by simp [List.nodup_append, List.nodup_cons] at nd; grind
  unfold QS.first0
  refine ⟨?_, ?_, ?_, ?_, ?_, ?_, ?_, ?_, ?_, ?_⟩ <;> (try dsimp only)
  · simp [List.nodup_append, List.nodup_cons] at nd ⊢; grind
  · intro j hj
    apply lt
    simp at hj ⊢
    grind
  · simp at len ⊢; omega
  · exact chain_upd F _ hF free.2
  · rw [c0]; simp
  · exact c1
  · exact ⟨rfl, trivial⟩
  · exact lnk_upd A1 _ ho l1
  · intro B l hB
    have := congrArg List.getLast? hB
    simp at this
    rw [this]
  · exact e1

theorem rep_more0 {n : Nat} {s : QS} {F B A1 : List Nat} {i l : Nat} (x : Int) (h : Rep n s (i :: F) (B ++ [l]) A1) : Rep n (s.more0 i l x) F ((B ++ [l]) ++ [i]) A1 ∧ l ≠ i := by
  obtain ⟨nd, lt, len, free, c0, c1, l0, l1, e0, e1⟩ := h
  have hF : i ∉ F := by simp [List.nodup_append, List.nodup_cons] at nd; grind
  have ho : i ∉ A1 := by simp [List.nodup_append, List.nodup_cons] at nd; grind
  have hB : i ∉ B ++ [l] := by simp [List.nodup_append, List.nodup_cons] at nd; simp; grind
  have lF : l ∉ F := by simp [List.nodup_append, List.nodup_cons] at nd; grind
  have lo : l ∉ A1 := by simp [List.nodup_append, List.nodup_cons] at nd; grind
  have nB : (B ++ [l]).Nodup := by simp [List.nodup_append, List.nodup_cons] at nd ⊢; grind
  refine ⟨?_, fun e => hB (by simp [e])⟩
  unfold QS.more0
  refine ⟨?_, ?_, ?_, ?_, ?_, ?_, ?_, ?_, ?_, ?_⟩ <;> (try dsimp only)
  · simp [List.nodup_append, List.nodup_cons] at nd ⊢; grind
  · intro j hj
    apply lt
    simp at hj ⊢
    grind
  · simp at len ⊢; omega
  · exact chain_upd F _ lF (chain_upd F _ hF free.2)
  · rw [c0]; simp; omega
  · exact c1
  · exact lnk_snoc B _ nB (lnk_upd _ _ hB l0)
  · exact lnk_upd A1 _ lo (lnk_upd A1 _ ho l1)
  · intro C m hC
    have := congrArg List.getLast? hC
    simp at this
    rw [this]
  · exact e1

theorem rep_take1 {n : Nat} {s : QS} {F r A0 : List Nat} {i : Nat} (h : Rep n s F A0 (i :: r)) : Rep n (s.take1 i) (i :: F) A0 r := by
  obtain ⟨nd, lt, len, free, c0, c1, l0, l1, e0, e1⟩ := h
  have hF : i ∉ F := by
    intro hi
    have := (List.nodup_append.1 nd).2.2 i hi i (by simp)
    exact this rfl
  have nd2 := (List.nodup_append.1 nd).2.1
  have hr : i ∉ r := by
    intro hi
    have := nd2
    simp [List.nodup_append, List.nodup_cons] at this
    grind
  have ho : i ∉ A0 := by
    intro hi
    have := nd2
    simp [List.nodup_append, List.nodup_cons] at this
    grind
  have hN : upd s.N i s.free i = s.free := if_pos rfl
  unfold QS.take1
  refine ⟨?_, ?_, ?_, ?_, ?_, ?_, ?_, ?_, ?_, ?_⟩ <;> (try dsimp only)
  · simp [List.nodup_append, List.nodup_cons] at nd ⊢; grind
  · intro j hj
    apply lt
    simp at hj ⊢
    grind
  · simp at len ⊢; omega
  · exact ⟨rfl, by rw [hN]; exact chain_upd F _ hF free⟩
  · exact c0
  · rw [c1]; simp
  · exact lnk_upd A0 _ ho l0
  · exact lnk_upd r _ hr l1.2
  · exact e0
  · intro B l hB; exact e1 (i :: B) l (by rw [hB]; rfl)

theorem rep_first1 {n : Nat} {s : QS} {F A0 : List Nat} {i : Nat} (x : Int) (h : Rep n s (i :: F) A0 []) : Rep n (s.first1 i x) F A0 [i] := by
  obtain ⟨nd, lt, len, free, c0, c1, l0, l1, e0, e1⟩ := h
  have hF : i ∉ F := by simp [List.nodup_append, List.nodup_cons] at nd; grind
  have ho : i ∉ A0 := by simp [List.nodup_append, List.nodup_cons] at nd; grind
  unfold QS.first1
  refine ⟨?_, ?_, ?_, ?_, ?_, ?_, ?_, ?_, ?_, ?_⟩ <;> (try dsimp only)
  · simp [List.nodup_append, List.nodup_cons] at nd ⊢; grind
  · intro j hj
    apply lt
    simp at hj ⊢
    grind
  · simp at len ⊢; omega
  · exact chain_upd F _ hF free.2
  · exact c0
  · rw [c1]; simp
  · exact lnk_upd A0 _ ho l0
  · exact ⟨rfl, trivial⟩
  · exact e0
  · intro B l hB
    have := congrArg List.getLast? hB
    simp at this
    rw [this]

theorem rep_more1 {n : Nat} {s : QS} {F B A0 : List Nat} {i l : Nat} (x : Int) (h : Rep n s (i :: F) A0 (B ++ [l])) : Rep n (s.more1 i l x) F A0 ((B ++ [l]) ++ [i]) ∧ l ≠ i := by
  obtain ⟨nd, lt, len, free, c0, c1, l0, l1, e0, e1⟩ := h
  have hF : i ∉ F := by simp [List.nodup_append, List.nodup_cons] at nd; grind
  have ho : i ∉ A0 := by simp [List.nodup_append, List.nodup_cons] at nd; grind
  have hB : i ∉ B ++ [l] := by simp [List.nodup_append, List.nodup_cons] at nd; simp; grind
  have lF : l ∉ F := by simp [List.nodup_append, List.nodup_cons] at nd; grind
  have lo : l ∉ A0 := by simp [List.nodup_append, List.nodup_cons] at nd; grind
  have nB : (B ++ [l]).Nodup := by simp [List.nodup_append, List.nodup_cons] at nd ⊢; grind
  refine ⟨?_, fun e => hB (by simp [e])⟩
  unfold QS.more1
  refine ⟨?_, ?_, ?_, ?_, ?_, ?_, ?_, ?_, ?_, ?_⟩ <;> (try dsimp only)
  · simp [List.nodup_append, List.nodup_cons] at nd ⊢; grind
  · intro j hj
    apply lt
    simp at hj ⊢
    grind
  · simp at len ⊢; omega
  · exact chain_upd F _ lF (chain_upd F _ hF free.2)
  · exact c0
  · rw [c1]; simp; omega
  · exact lnk_upd A0 _ lo (lnk_upd A0 _ ho l0)
  · exact lnk_snoc B _ nB (lnk_upd _ _ hB l1)
  · exact e0
  · intro C m hC
    have := congrArg List.getLast? hC
    simp at this
    rw [this]

/-- A queue of so many places in memory: what waits low, what waits high; the fault. -/
def QIs (w : World) (qb cb n : Nat) (fl : Bool) (l0 l1 : List Int) : Prop :=
  ∃ (s : QS) (F A0 A1 : List Nat), QAt w qb cb n s ∧ Rep n s F A0 A1 ∧ A0.map s.X = l0 ∧ A1.map s.X = l1 ∧ s.fault = fl ∧ n ≤ 64
theorem QIs.keep {w w' : World} {qb cb n : Nat} {fl : Bool} {l0 l1 : List Int} (h : QIs w qb cb n fl l0 l1) {S : Nat → Prop} (hk : Keep S w w') (h1 : ¬ S qb) (h2 : ¬ S cb) : QIs w' qb cb n fl l0 l1 := by
  obtain ⟨s, F, A0, A1, h, r⟩ := h
  exact ⟨s, F, A0, A1, h.keep hk h1 h2, r⟩
theorem QIs.drewN {w : World} {qb cb n : Nat} {fl : Bool} {l0 l1 : List Int} (h : QIs w qb cb n fl l0 l1) (k : Nat) : QIs (w.drewN k) qb cb n fl l0 l1 := by
  obtain ⟨s, F, A0, A1, h, r⟩ := h
  exact ⟨s, F, A0, A1, h.drewN k, r⟩
theorem QIs.lens {w : World} {qb cb n : Nat} {fl : Bool} {l0 l1 : List Int} (h : QIs w qb cb n fl l0 l1) : l0.length + l1.length ≤ n ∧ n ≤ 64 := by
  obtain ⟨s, F, A0, A1, h, R, rfl, rfl, _, hn⟩ := h
  have := R.len
  simp
  omega
theorem QIs.lt {w : World} {qb cb n : Nat} {fl : Bool} {l0 l1 : List Int} (h : QIs w qb cb n fl l0 l1) : qb < w.heap.size ∧ cb < w.heap.size := by
  obtain ⟨s, F, A0, A1, h, _⟩ := h
  exact ⟨h.obj.lt, h.lt⟩
def pickL (hi : Bool) (l0 l1 : List Int) : List Int := if hi then l1 else l0
theorem lenQ (qb cb n : Nat) (fl hi : Bool) (l0 l1 : List Int) (w : World) (h : QIs w qb cb n fl l0 l1) :
    Calls Try.prog 42 #[.pointer (some ⟨qb, 0, none⟩), .bool hi] w fun e w' => e = .returned (.int .i64 ((pickL hi l0 l1).length : Int)) ∧ w' = w := by
  obtain ⟨s, F, A0, A1, h, R, rfl, rfl, rfl, hn⟩ := h
  refine (len_any qb cb n s hi w h).mono ?_
  rintro e w' ⟨rfl, rfl⟩
  refine ⟨?_, rfl⟩
  cases hi
  · show Ending.returned (.int .i64 s.n0) = _; rw [R.c0]; simp [pickL]
  · show Ending.returned (.int .i64 s.n1) = _; rw [R.c1]; simp [pickL]
theorem roomQ (qb cb n : Nat) (fl : Bool) (l0 l1 : List Int) (w : World) (h : QIs w qb cb n fl l0 l1) :
    Calls Try.prog 39 #[.pointer (some ⟨qb, 0, none⟩)] w fun e w' => e = .returned (.int .i64 ((n : Int) - l1.length - l0.length)) ∧ ∃ k, w' = w.drewN k := by
  obtain ⟨s, F, A0, A1, h, R, rfl, rfl, rfl, hn⟩ := h
  have hl := R.len
  refine (room_any qb cb n s w h hn (by rw [R.c0]; omega) (by rw [R.c1]; omega)).mono ?_
  rintro e w' ⟨rfl, hw⟩
  refine ⟨?_, hw⟩
  rw [R.c0, R.c1]
  simp
theorem faultQ (qb cb n : Nat) (fl : Bool) (l0 l1 : List Int) (w : World) (h : QIs w qb cb n fl l0 l1) :
    Calls Try.prog 41 #[.pointer (some ⟨qb, 0, none⟩)] w fun e w' => e = .returned (.bool fl) ∧ Keep (fun k => k = qb ∨ k = cb) w w' ∧ QIs w' qb cb n false l0 l1 := by
  obtain ⟨s, F, A0, A1, h, R, rfl, rfl, rfl, hn⟩ := h
  refine (fault_any qb cb n s w h).mono ?_
  rintro e w' ⟨rfl, hk, hq⟩
  exact ⟨rfl, hk.mono fun k _ hk => .inl hk, { s with fault := false }, F, A0, A1, hq, ⟨R.nd, R.lt, R.len, R.free, R.c0, R.c1, R.l0, R.l1, R.e0, R.e1⟩, rfl, rfl, rfl, hn⟩
theorem clearQ (qb cb n : Nat) (fl : Bool) (l0 l1 : List Int) (w : World) (h : QIs w qb cb n fl l0 l1) :
    Calls Try.prog 48 #[.pointer (some ⟨qb, 0, none⟩)] w fun e w' => e = .returned (.tuple #[]) ∧ Keep (fun k => k = qb ∨ k = cb) w w' ∧ QIs w' qb cb n false [] [] := by
  obtain ⟨s, F, A0, A1, h, R, rfl, rfl, rfl, hn⟩ := h
  refine (clear_any qb cb n s w h hn).mono ?_
  rintro e w' ⟨rfl, hk, hq⟩
  exact ⟨rfl, hk, _, _, _, _, hq, rep_zero n, rfl, rfl, rfl, hn⟩
theorem newQ (p : Int) (w : World) :
    Calls Try.prog 36 #[.int .i64 p] w fun e w' => ∃ qb cb, w.heap.size ≤ qb ∧ w.heap.size ≤ cb ∧ e = .returned (.pointer (some ⟨qb, 0, none⟩)) ∧ Below w.heap.size w w' ∧ QIs w' qb cb (min (max p 0) 64).toNat false [] [] := by
  refine (new_any p w).mono ?_
  rintro e w' ⟨qb, cb, h1, h2, rfl, hb, hq⟩
  exact ⟨qb, cb, h1, h2, rfl, hb, _, _, _, _, hq, rep_zero _, rfl, rfl, rfl, by omega⟩
/-- The first one, and the others. -/
theorem takeQ (qb cb n : Nat) (fl hi : Bool) (l0 l1 : List Int) (w : World) (h : QIs w qb cb n fl l0 l1) :
    Calls Try.prog 38 #[.pointer (some ⟨qb, 0, none⟩), .bool hi] w fun e w' =>
      e = .returned (.tuple #[Value.int .i64 ((pickL hi l0 l1).headD (0 : Int)), .bool (!(pickL hi l0 l1).isEmpty)]) ∧ Keep (fun k => k = qb ∨ k = cb) w w' ∧ QIs w' qb cb n fl (if hi then l0 else l0.tail) (if hi then l1.tail else l1) := by
  obtain ⟨s, F, A0, A1, h, R, rfl, rfl, rfl, hn⟩ := h
  have hl := R.len
  have c0 := R.c0
  have c1 := R.c1
  cases hi
  · match A0, R with
    | [], R =>
      refine (take_none0 qb cb n s w h (by rw [R.c0]; rfl)).mono ?_
      rintro e w' ⟨rfl, rfl⟩
      exact ⟨rfl, Keep.refl _ _, s, F, [], A1, h, R, rfl, rfl, rfl, hn⟩
    | i :: r, R =>
      simp only [List.length_cons] at hl c0
      refine (take_some0 qb cb n i s w h hn (by omega) (by omega) (R.lt i (by simp)) R.l0.1).mono ?_
      rintro e w' ⟨rfl, hk, hq⟩
      have nd := R.nd
      have hr : i ∉ r := by simp [List.nodup_append, List.nodup_cons] at nd; grind
      have ho : i ∉ A1 := by simp [List.nodup_append, List.nodup_cons] at nd; grind
      exact ⟨rfl, hk, _, _, _, _, hq, rep_take0 R, map_upd _ _ _ _ hr, map_upd _ _ _ _ ho, rfl, hn⟩
  · match A1, R with
    | [], R =>
      refine (take_none1 qb cb n s w h (by rw [R.c1]; rfl)).mono ?_
      rintro e w' ⟨rfl, rfl⟩
      exact ⟨rfl, Keep.refl _ _, s, F, A0, [], h, R, rfl, rfl, rfl, hn⟩
    | i :: r, R =>
      simp only [List.length_cons] at hl c1
      refine (take_some1 qb cb n i s w h hn (by omega) (by omega) (R.lt i (by simp)) R.l1.1).mono ?_
      rintro e w' ⟨rfl, hk, hq⟩
      have nd := R.nd
      have hr : i ∉ r := by simp [List.nodup_append, List.nodup_cons] at nd; grind
      have ho : i ∉ A0 := by simp [List.nodup_append, List.nodup_cons] at nd; grind
      exact ⟨rfl, hk, _, _, _, _, hq, rep_take1 R, map_upd _ _ _ _ ho, map_upd _ _ _ _ hr, rfl, hn⟩
theorem peekQ (qb cb n : Nat) (fl hi : Bool) (l0 l1 : List Int) (w : World) (h : QIs w qb cb n fl l0 l1) :
    Calls Try.prog 49 #[.pointer (some ⟨qb, 0, none⟩), .bool hi] w fun e w' =>
      e = .returned (.tuple #[Value.int .i64 ((pickL hi l0 l1).headD (0 : Int)), .bool (!(pickL hi l0 l1).isEmpty)]) ∧ ∃ k, w' = w.drewN k := by
  obtain ⟨s, F, A0, A1, h, R, rfl, rfl, rfl, hn⟩ := h
  have hl := R.len
  have c0 := R.c0
  have c1 := R.c1
  cases hi
  · match A0, R with
    | [], R =>
      refine (peek_none0 qb cb n s w h (by rw [R.c0]; rfl)).mono ?_
      rintro e w' ⟨rfl, rfl⟩
      exact ⟨rfl, 0, rfl⟩
    | i :: r, R =>
      simp only [List.length_cons] at hl c0
      refine (peek_some0 qb cb n i s w h hn (by omega) (R.lt i (by simp)) R.l0.1).mono ?_
      rintro e w' ⟨rfl, hk⟩
      exact ⟨rfl, hk⟩
  · match A1, R with
    | [], R =>
      refine (peek_none1 qb cb n s w h (by rw [R.c1]; rfl)).mono ?_
      rintro e w' ⟨rfl, rfl⟩
      exact ⟨rfl, 0, rfl⟩
    | i :: r, R =>
      simp only [List.length_cons] at hl c1
      refine (peek_some1 qb cb n i s w h hn (by omega) (R.lt i (by simp)) R.l1.1).mono ?_
      rintro e w' ⟨rfl, hk⟩
      exact ⟨rfl, hk⟩
theorem snoc_of {l : List Nat} (h : l ≠ []) : ∃ B m, l = B ++ [m] := ⟨l.dropLast, l.getLast h, (List.dropLast_concat_getLast h).symm⟩
theorem putQ (qb cb n : Nat) (fl hi : Bool) (x : Int) (l0 l1 : List Int) (w : World) (h : QIs w qb cb n fl l0 l1) :
    Calls Try.prog 40 #[.pointer (some ⟨qb, 0, none⟩), Value.int .i64 x, .bool hi] w fun e w' =>
      e = .returned (.int .i64 (if l0.length + l1.length = n then 8 else 0)) ∧ Keep (fun k => k = qb ∨ k = cb) w w' ∧
      (if l0.length + l1.length = n then QIs w' qb cb n true l0 l1 else QIs w' qb cb n fl (if hi then l0 else l0 ++ [x]) (if hi then l1 ++ [x] else l1)) := by
  obtain ⟨s, F, A0, A1, h, R, rfl, rfl, rfl, hn⟩ := h
  have hl := R.len
  have c0 := R.c0
  have c1 := R.c1
  simp only [List.length_map]
  match F, R with
  | [], R =>
    simp only [List.length_nil] at hl
    have hfull : A0.length + A1.length = n := by omega
    rw [if_pos hfull]
    have key : ∀ hi, Calls Try.prog 40 #[.pointer (some ⟨qb, 0, none⟩), Value.int .i64 x, .bool hi] w fun e w' => e = .returned (.int .i64 8) ∧ Keep (fun k => k = qb ∨ k = cb) w w' ∧ QAt w' qb cb n { s with fault := true } := by
      intro hi
      cases hi
      · exact put_full0 qb cb n s x w h R.free
      · exact put_full1 qb cb n s x w h R.free
    refine (key hi).mono ?_
    rintro e w' ⟨rfl, hk, hq⟩
    refine ⟨rfl, hk, ?_⟩
    rw [if_pos hfull]
    exact ⟨_, [], A0, A1, hq, ⟨R.nd, R.lt, R.len, R.free, R.c0, R.c1, R.l0, R.l1, R.e0, R.e1⟩, rfl, rfl, rfl, hn⟩
  | i :: F, R =>
    simp only [List.length_cons] at hl
    have hroom : ¬ A0.length + A1.length = n := by omega
    have nd := R.nd
    have hi0 : i ∉ A0 := by simp [List.nodup_append, List.nodup_cons] at nd; grind
    have hi1 : i ∉ A1 := by simp [List.nodup_append, List.nodup_cons] at nd; grind
    have hin := R.lt i (by simp)
    have hXi : ∀ X : Nat → Int, upd X i x i = x := fun X => if_pos rfl
    rw [if_neg hroom]
    cases hi
    · by_cases hA : A0 = []
      · subst hA
        refine (put_first0 qb cb n i s x w h hn hin R.free.1 (by rw [R.c0]; rfl)).mono ?_
        rintro e w' ⟨rfl, hk, hq⟩
        refine ⟨rfl, hk, ?_⟩
        rw [if_neg hroom]
        exact ⟨_, _, _, _, hq, rep_first0 x R, by simp [QS.first0, hXi], map_upd _ _ _ _ hi1, rfl, hn⟩
      · obtain ⟨B, l, rfl⟩ := snoc_of hA
        obtain ⟨R2, hli⟩ := rep_more0 x R
        have hlen : 0 < (B ++ [l]).length := by simp
        refine (put_more0 qb cb n i l s x w h hn hin R.free.1 (by omega) (by omega) (R.lt l (by simp)) hli (R.e0 B l rfl)).mono ?_
        rintro e w' ⟨rfl, hk, hq⟩
        refine ⟨rfl, hk, ?_⟩
        rw [if_neg hroom]
        refine ⟨_, _, _, _, hq, R2, ?_, map_upd _ _ _ _ hi1, rfl, hn⟩
        rw [List.map_append]
        show List.map (upd s.X i x) (B ++ [l]) ++ [upd s.X i x i] = _
        rw [map_upd _ _ _ _ hi0, hXi]
        simp
    · by_cases hA : A1 = []
      · subst hA
        refine (put_first1 qb cb n i s x w h hn hin R.free.1 (by rw [R.c1]; rfl)).mono ?_
        rintro e w' ⟨rfl, hk, hq⟩
        refine ⟨rfl, hk, ?_⟩
        rw [if_neg hroom]
        exact ⟨_, _, _, _, hq, rep_first1 x R, map_upd _ _ _ _ hi0, by simp [QS.first1, hXi], rfl, hn⟩
      · obtain ⟨B, l, rfl⟩ := snoc_of hA
        obtain ⟨R2, hli⟩ := rep_more1 x R
        have hlen : 0 < (B ++ [l]).length := by simp
        refine (put_more1 qb cb n i l s x w h hn hin R.free.1 (by omega) (by omega) (R.lt l (by simp)) hli (R.e1 B l rfl)).mono ?_
        rintro e w' ⟨rfl, hk, hq⟩
        refine ⟨rfl, hk, ?_⟩
        rw [if_neg hroom]
        refine ⟨_, _, _, _, hq, R2, map_upd _ _ _ _ hi0, ?_, rfl, hn⟩
        rw [List.map_append]
        show List.map (upd s.X i x) (B ++ [l]) ++ [upd s.X i x i] = _
        rw [map_upd _ _ _ _ hi1, hXi]
        simp
end Go.Proofs.Ytkeeledkdoiglaa.Qi
