/- A frame as a record of what its cells hold. -/
import Derived.Test.YtmehafolnpkmhaaDoorgBase
import Derived.Laws.Rows
import Derived.Deep.MidRow
namespace Go.Proofs.YtmehafolnpkmhaaDoor
open Go.RowKit
theorem wpList_wanted {P : Program} {ops : Array Oper} {Q : Exit → Act → World → Prop} {a : Act} {w : World} {rest : List Oper} {o : Oper} (hw : Region.wanted o (yielded ops a.tmps) = true) (h : o.wp P a w (fun a' w' => wpList P ops Q rest a' w') Q) : wpList P ops Q (o :: rest) a w := by
  simp only [wpList, hw, if_true]
  exact .inl h
/-- A whole frame out of its block. -/
theorem wpList_frame {ops : Array Oper} {Q : Exit → Act → World → Prop} {a : Act} {w : World} {rest : List Oper} {o : Oper} (x : Operand) (ho : o.op = .load 49 x) (hw : Region.wanted o (yielded ops a.tmps) = true) (g : Nat) (C : Array Value)
    (hx : a.eval x = .pointer (some ⟨g, 0, none⟩)) (hs : C.size = 19) (hg : ObjAt w g C 49) (h : wpList Tryd.prog ops Q rest (a.put o.dst (.agg C)) w) : wpList Tryd.prog ops Q (o :: rest) a w :=
  wpList_wanted hw (wp_load_row 49 x ho g hx 49 C (0, 0) _ hg Tryd.underlying49 rfl (by rw [hs]; kernel_rfl) h)
structure Fr where
  k : Int
  s : Int
  d : Int
  si : Int
  di : Int
  ec : Int
  ea : Int
  ei : Int
  h : Int
  hc : Int
  ha : Int
  hi : Int
  w : Bool
  b : Int
  vi : Int
  vs : Int
  p : Int
  q : Int
  t : ByteArray
/-- Its cells. -/
def Fr.cells (f : Fr) : Array Value := #[.int .i64 f.k, .int .u8 f.s, .int .u8 f.d, .int .u16 f.si, .int .u16 f.di, .int .u16 f.ec, .int .u8 f.ea, .int .u16 f.ei, .int .u16 f.h, .int .u16 f.hc, .int .u8 f.ha, .int .u16 f.hi, .bool f.w, .int .u8 f.b, .int .u16 f.vi, .int .u32 f.vs, .int .u8 f.p, .int .u8 f.q, .string f.t]
structure Fr.ok (f : Fr) : Prop where
  k : -9223372036854775808 ≤ f.k ∧ f.k ≤ 9223372036854775807
  s : 0 ≤ f.s ∧ f.s < 256
  d : 0 ≤ f.d ∧ f.d < 256
  si : 0 ≤ f.si ∧ f.si < 65536
  di : 0 ≤ f.di ∧ f.di < 65536
  ec : 0 ≤ f.ec ∧ f.ec < 65536
  ea : 0 ≤ f.ea ∧ f.ea < 256
  ei : 0 ≤ f.ei ∧ f.ei < 65536
  h : 0 ≤ f.h ∧ f.h < 65536
  hc : 0 ≤ f.hc ∧ f.hc < 65536
  ha : 0 ≤ f.ha ∧ f.ha < 256
  hi : 0 ≤ f.hi ∧ f.hi < 65536
  b : 0 ≤ f.b ∧ f.b < 256
  vi : 0 ≤ f.vi ∧ f.vi < 65536
  vs : 0 ≤ f.vs ∧ f.vs < 4294967296
  p : 0 ≤ f.p ∧ f.p < 256
  q : 0 ≤ f.q ∧ f.q < 256
def Fr.zero : Fr := ⟨0, 0, 0, 0, 0, 0, 0, 0, 0, 0, 0, 0, false, 0, 0, 0, 0, 0, ⟨#[]⟩⟩
theorem Fr.size {C : Array Value} {f : Fr} (h : C = f.cells) : C.size = 19 := by subst h; rfl
theorem Fr.a0 {C : Array Value} {f : Fr} (h : C = f.cells) : C[0]'(by rw [Fr.size h]; decide) = .int .i64 f.k := by subst h; rfl
theorem Fr.a1 {C : Array Value} {f : Fr} (h : C = f.cells) : C[1]'(by rw [Fr.size h]; decide) = .int .u8 f.s := by subst h; rfl
theorem Fr.a2 {C : Array Value} {f : Fr} (h : C = f.cells) : C[2]'(by rw [Fr.size h]; decide) = .int .u8 f.d := by subst h; rfl
theorem Fr.a3 {C : Array Value} {f : Fr} (h : C = f.cells) : C[3]'(by rw [Fr.size h]; decide) = .int .u16 f.si := by subst h; rfl
theorem Fr.a4 {C : Array Value} {f : Fr} (h : C = f.cells) : C[4]'(by rw [Fr.size h]; decide) = .int .u16 f.di := by subst h; rfl
theorem Fr.a5 {C : Array Value} {f : Fr} (h : C = f.cells) : C[5]'(by rw [Fr.size h]; decide) = .int .u16 f.ec := by subst h; rfl
theorem Fr.a6 {C : Array Value} {f : Fr} (h : C = f.cells) : C[6]'(by rw [Fr.size h]; decide) = .int .u8 f.ea := by subst h; rfl
theorem Fr.a7 {C : Array Value} {f : Fr} (h : C = f.cells) : C[7]'(by rw [Fr.size h]; decide) = .int .u16 f.ei := by subst h; rfl
theorem Fr.a8 {C : Array Value} {f : Fr} (h : C = f.cells) : C[8]'(by rw [Fr.size h]; decide) = .int .u16 f.h := by subst h; rfl
theorem Fr.a9 {C : Array Value} {f : Fr} (h : C = f.cells) : C[9]'(by rw [Fr.size h]; decide) = .int .u16 f.hc := by subst h; rfl
theorem Fr.a10 {C : Array Value} {f : Fr} (h : C = f.cells) : C[10]'(by rw [Fr.size h]; decide) = .int .u8 f.ha := by subst h; rfl
theorem Fr.a11 {C : Array Value} {f : Fr} (h : C = f.cells) : C[11]'(by rw [Fr.size h]; decide) = .int .u16 f.hi := by subst h; rfl
theorem Fr.a12 {C : Array Value} {f : Fr} (h : C = f.cells) : C[12]'(by rw [Fr.size h]; decide) = .bool f.w := by subst h; rfl
theorem Fr.a13 {C : Array Value} {f : Fr} (h : C = f.cells) : C[13]'(by rw [Fr.size h]; decide) = .int .u8 f.b := by subst h; rfl
theorem Fr.a14 {C : Array Value} {f : Fr} (h : C = f.cells) : C[14]'(by rw [Fr.size h]; decide) = .int .u16 f.vi := by subst h; rfl
theorem Fr.a15 {C : Array Value} {f : Fr} (h : C = f.cells) : C[15]'(by rw [Fr.size h]; decide) = .int .u32 f.vs := by subst h; rfl
theorem Fr.a16 {C : Array Value} {f : Fr} (h : C = f.cells) : C[16]'(by rw [Fr.size h]; decide) = .int .u8 f.p := by subst h; rfl
theorem Fr.a17 {C : Array Value} {f : Fr} (h : C = f.cells) : C[17]'(by rw [Fr.size h]; decide) = .int .u8 f.q := by subst h; rfl
theorem Fr.a18 {C : Array Value} {f : Fr} (h : C = f.cells) : C[18]'(by rw [Fr.size h]; decide) = .string f.t := by subst h; rfl
theorem Fr.m0 {w : World} {g : Nat} {C : Array Value} {f : Fr} {t : TypeId} (h : C = f.cells) (ho : ObjAt w g C t) : w.cell? ⟨g, 0, none⟩ = some (.int .i64 f.k) := by rw [ho.cell]; subst h; rfl
theorem Fr.m1 {w : World} {g : Nat} {C : Array Value} {f : Fr} {t : TypeId} (h : C = f.cells) (ho : ObjAt w g C t) : w.cell? ⟨g, 1, none⟩ = some (.int .u8 f.s) := by rw [ho.cell]; subst h; rfl
theorem Fr.m2 {w : World} {g : Nat} {C : Array Value} {f : Fr} {t : TypeId} (h : C = f.cells) (ho : ObjAt w g C t) : w.cell? ⟨g, 2, none⟩ = some (.int .u8 f.d) := by rw [ho.cell]; subst h; rfl
theorem Fr.m3 {w : World} {g : Nat} {C : Array Value} {f : Fr} {t : TypeId} (h : C = f.cells) (ho : ObjAt w g C t) : w.cell? ⟨g, 3, none⟩ = some (.int .u16 f.si) := by rw [ho.cell]; subst h; rfl
theorem Fr.m4 {w : World} {g : Nat} {C : Array Value} {f : Fr} {t : TypeId} (h : C = f.cells) (ho : ObjAt w g C t) : w.cell? ⟨g, 4, none⟩ = some (.int .u16 f.di) := by rw [ho.cell]; subst h; rfl
theorem Fr.m5 {w : World} {g : Nat} {C : Array Value} {f : Fr} {t : TypeId} (h : C = f.cells) (ho : ObjAt w g C t) : w.cell? ⟨g, 5, none⟩ = some (.int .u16 f.ec) := by rw [ho.cell]; subst h; rfl
theorem Fr.m6 {w : World} {g : Nat} {C : Array Value} {f : Fr} {t : TypeId} (h : C = f.cells) (ho : ObjAt w g C t) : w.cell? ⟨g, 6, none⟩ = some (.int .u8 f.ea) := by rw [ho.cell]; subst h; rfl
theorem Fr.m7 {w : World} {g : Nat} {C : Array Value} {f : Fr} {t : TypeId} (h : C = f.cells) (ho : ObjAt w g C t) : w.cell? ⟨g, 7, none⟩ = some (.int .u16 f.ei) := by rw [ho.cell]; subst h; rfl
theorem Fr.m8 {w : World} {g : Nat} {C : Array Value} {f : Fr} {t : TypeId} (h : C = f.cells) (ho : ObjAt w g C t) : w.cell? ⟨g, 8, none⟩ = some (.int .u16 f.h) := by rw [ho.cell]; subst h; rfl
theorem Fr.m9 {w : World} {g : Nat} {C : Array Value} {f : Fr} {t : TypeId} (h : C = f.cells) (ho : ObjAt w g C t) : w.cell? ⟨g, 9, none⟩ = some (.int .u16 f.hc) := by rw [ho.cell]; subst h; rfl
theorem Fr.m10 {w : World} {g : Nat} {C : Array Value} {f : Fr} {t : TypeId} (h : C = f.cells) (ho : ObjAt w g C t) : w.cell? ⟨g, 10, none⟩ = some (.int .u8 f.ha) := by rw [ho.cell]; subst h; rfl
theorem Fr.m11 {w : World} {g : Nat} {C : Array Value} {f : Fr} {t : TypeId} (h : C = f.cells) (ho : ObjAt w g C t) : w.cell? ⟨g, 11, none⟩ = some (.int .u16 f.hi) := by rw [ho.cell]; subst h; rfl
theorem Fr.m12 {w : World} {g : Nat} {C : Array Value} {f : Fr} {t : TypeId} (h : C = f.cells) (ho : ObjAt w g C t) : w.cell? ⟨g, 12, none⟩ = some (.bool f.w) := by rw [ho.cell]; subst h; rfl
theorem Fr.m13 {w : World} {g : Nat} {C : Array Value} {f : Fr} {t : TypeId} (h : C = f.cells) (ho : ObjAt w g C t) : w.cell? ⟨g, 13, none⟩ = some (.int .u8 f.b) := by rw [ho.cell]; subst h; rfl
theorem Fr.m14 {w : World} {g : Nat} {C : Array Value} {f : Fr} {t : TypeId} (h : C = f.cells) (ho : ObjAt w g C t) : w.cell? ⟨g, 14, none⟩ = some (.int .u16 f.vi) := by rw [ho.cell]; subst h; rfl
theorem Fr.m15 {w : World} {g : Nat} {C : Array Value} {f : Fr} {t : TypeId} (h : C = f.cells) (ho : ObjAt w g C t) : w.cell? ⟨g, 15, none⟩ = some (.int .u32 f.vs) := by rw [ho.cell]; subst h; rfl
theorem Fr.m16 {w : World} {g : Nat} {C : Array Value} {f : Fr} {t : TypeId} (h : C = f.cells) (ho : ObjAt w g C t) : w.cell? ⟨g, 16, none⟩ = some (.int .u8 f.p) := by rw [ho.cell]; subst h; rfl
theorem Fr.m17 {w : World} {g : Nat} {C : Array Value} {f : Fr} {t : TypeId} (h : C = f.cells) (ho : ObjAt w g C t) : w.cell? ⟨g, 17, none⟩ = some (.int .u8 f.q) := by rw [ho.cell]; subst h; rfl
theorem Fr.m18 {w : World} {g : Nat} {C : Array Value} {f : Fr} {t : TypeId} (h : C = f.cells) (ho : ObjAt w g C t) : w.cell? ⟨g, 18, none⟩ = some (.string f.t) := by rw [ho.cell]; subst h; rfl
theorem Fr.load {w : World} {g : Nat} {C : Array Value} {f : Fr} (h : C = f.cells) (ho : ObjAt w g C 49) : (Instr.loadAt 49 (.pointer (some ⟨g, 0, none⟩))).run Tryd.prog w = .ok (.agg C) w := by
  simp only [Instr.loadAt, Instr.sureAddr, Sem.run_bind, Sem.run_pure, Result.andThen]
  exact run_loadVar_row w g 49 49 C (0, 0) _ ho Tryd.underlying49 rfl (by rw [Fr.size h]; kernel_rfl)
theorem Fr.load_e5 {w : World} {g : Nat} {C : Array Value} {f : Fr} {t : TypeId} (h : C = f.cells) (ho : ObjAt w g C t) : (Instr.loadAt 45 (.pointer (some ⟨g, 5, none⟩))).run Tryd.prog w = .ok (.agg #[.int .u16 f.ec, .int .u8 f.ea, .int .u16 f.ei]) w :=
  run_loadAt_mid w g 5 45 [.int .u16 f.ec, .int .u8 f.ea, .int .u16 f.ei] _ (fun j v hv => by
    rw [ho.cell]; subst h
    match j with
    | 0 | 1 | 2 => exact hv
    | j + 3 => simp at hv) Tryd.underlying45 rfl (by kernel_rfl)
theorem Fr.load_e9 {w : World} {g : Nat} {C : Array Value} {f : Fr} {t : TypeId} (h : C = f.cells) (ho : ObjAt w g C t) : (Instr.loadAt 45 (.pointer (some ⟨g, 9, none⟩))).run Tryd.prog w = .ok (.agg #[.int .u16 f.hc, .int .u8 f.ha, .int .u16 f.hi]) w :=
  run_loadAt_mid w g 9 45 [.int .u16 f.hc, .int .u8 f.ha, .int .u16 f.hi] _ (fun j v hv => by
    rw [ho.cell]; subst h
    match j with
    | 0 | 1 | 2 => exact hv
    | j + 3 => simp at hv) Tryd.underlying45 rfl (by kernel_rfl)
theorem Fr.load_v14 {w : World} {g : Nat} {C : Array Value} {f : Fr} {t : TypeId} (h : C = f.cells) (ho : ObjAt w g C t) : (Instr.loadAt 47 (.pointer (some ⟨g, 14, none⟩))).run Tryd.prog w = .ok (.agg #[.int .u16 f.vi, .int .u32 f.vs]) w :=
  run_loadAt_mid w g 14 47 [.int .u16 f.vi, .int .u32 f.vs] _ (fun j v hv => by
    rw [ho.cell]; subst h
    match j with
    | 0 | 1 => exact hv
    | j + 2 => simp at hv) Tryd.underlying47 rfl (by kernel_rfl)
/-- 19, not to be laid open (a frame's size: so that the walk takes a whole frame's load as one thing). -/
def n19 : Nat := 19
theorem sizeFr (w : World) : (sizeOf 49).run Tryd.prog w = .ok n19 w := Tryd.sizeOf49 w
theorem Fr.loadc {w : World} {g : Nat} {C : Array Value} {f : Fr} {t : TypeId} (h : C = f.cells) (ho : ObjAt w g C t) : (loadCellsFrom ⟨g, 0, none⟩ 0 n19 #[]).run Tryd.prog w = .ok C w := by
  have hl := run_loadCells_list (P := Tryd.prog) w ⟨g, 0, none⟩ C.toList (fun j v hv => by
    have := ho.cell j
    rw [← Array.getElem?_toList, hv] at this
    unfold Addr.add
    split
    · next e => subst e; exact this
    · simpa using this)
  have hn : C.toList.length = n19 := by rw [Array.length_toList, Fr.size h]; rfl
  rw [hn] at hl
  simpa [loadCells] using hl
theorem Fr.st_k {w : World} {g : Nat} {f : Fr} {t : TypeId} (ho : ObjAt w g f.cells t) (x : Int) : ObjAt (w.setCell ⟨g, 0, none⟩ (.int .i64 x)) g ({ f with k := x }).cells t := ho.set 0 _
theorem Fr.st_s {w : World} {g : Nat} {f : Fr} {t : TypeId} (ho : ObjAt w g f.cells t) (x : Int) : ObjAt (w.setCell ⟨g, 1, none⟩ (.int .u8 x)) g ({ f with s := x }).cells t := ho.set 1 _
theorem Fr.st_d {w : World} {g : Nat} {f : Fr} {t : TypeId} (ho : ObjAt w g f.cells t) (x : Int) : ObjAt (w.setCell ⟨g, 2, none⟩ (.int .u8 x)) g ({ f with d := x }).cells t := ho.set 2 _
theorem Fr.st_si {w : World} {g : Nat} {f : Fr} {t : TypeId} (ho : ObjAt w g f.cells t) (x : Int) : ObjAt (w.setCell ⟨g, 3, none⟩ (.int .u16 x)) g ({ f with si := x }).cells t := ho.set 3 _
theorem Fr.st_di {w : World} {g : Nat} {f : Fr} {t : TypeId} (ho : ObjAt w g f.cells t) (x : Int) : ObjAt (w.setCell ⟨g, 4, none⟩ (.int .u16 x)) g ({ f with di := x }).cells t := ho.set 4 _
theorem Fr.st_ec {w : World} {g : Nat} {f : Fr} {t : TypeId} (ho : ObjAt w g f.cells t) (x : Int) : ObjAt (w.setCell ⟨g, 5, none⟩ (.int .u16 x)) g ({ f with ec := x }).cells t := ho.set 5 _
theorem Fr.st_ea {w : World} {g : Nat} {f : Fr} {t : TypeId} (ho : ObjAt w g f.cells t) (x : Int) : ObjAt (w.setCell ⟨g, 6, none⟩ (.int .u8 x)) g ({ f with ea := x }).cells t := ho.set 6 _
theorem Fr.st_ei {w : World} {g : Nat} {f : Fr} {t : TypeId} (ho : ObjAt w g f.cells t) (x : Int) : ObjAt (w.setCell ⟨g, 7, none⟩ (.int .u16 x)) g ({ f with ei := x }).cells t := ho.set 7 _
theorem Fr.st_h {w : World} {g : Nat} {f : Fr} {t : TypeId} (ho : ObjAt w g f.cells t) (x : Int) : ObjAt (w.setCell ⟨g, 8, none⟩ (.int .u16 x)) g ({ f with h := x }).cells t := ho.set 8 _
theorem Fr.st_hc {w : World} {g : Nat} {f : Fr} {t : TypeId} (ho : ObjAt w g f.cells t) (x : Int) : ObjAt (w.setCell ⟨g, 9, none⟩ (.int .u16 x)) g ({ f with hc := x }).cells t := ho.set 9 _
theorem Fr.st_ha {w : World} {g : Nat} {f : Fr} {t : TypeId} (ho : ObjAt w g f.cells t) (x : Int) : ObjAt (w.setCell ⟨g, 10, none⟩ (.int .u8 x)) g ({ f with ha := x }).cells t := ho.set 10 _
theorem Fr.st_hi {w : World} {g : Nat} {f : Fr} {t : TypeId} (ho : ObjAt w g f.cells t) (x : Int) : ObjAt (w.setCell ⟨g, 11, none⟩ (.int .u16 x)) g ({ f with hi := x }).cells t := ho.set 11 _
theorem Fr.st_w {w : World} {g : Nat} {f : Fr} {t : TypeId} (ho : ObjAt w g f.cells t) (x : Bool) : ObjAt (w.setCell ⟨g, 12, none⟩ (.bool x)) g ({ f with w := x }).cells t := ho.set 12 _
theorem Fr.st_b {w : World} {g : Nat} {f : Fr} {t : TypeId} (ho : ObjAt w g f.cells t) (x : Int) : ObjAt (w.setCell ⟨g, 13, none⟩ (.int .u8 x)) g ({ f with b := x }).cells t := ho.set 13 _
theorem Fr.st_vi {w : World} {g : Nat} {f : Fr} {t : TypeId} (ho : ObjAt w g f.cells t) (x : Int) : ObjAt (w.setCell ⟨g, 14, none⟩ (.int .u16 x)) g ({ f with vi := x }).cells t := ho.set 14 _
theorem Fr.st_vs {w : World} {g : Nat} {f : Fr} {t : TypeId} (ho : ObjAt w g f.cells t) (x : Int) : ObjAt (w.setCell ⟨g, 15, none⟩ (.int .u32 x)) g ({ f with vs := x }).cells t := ho.set 15 _
theorem Fr.st_p {w : World} {g : Nat} {f : Fr} {t : TypeId} (ho : ObjAt w g f.cells t) (x : Int) : ObjAt (w.setCell ⟨g, 16, none⟩ (.int .u8 x)) g ({ f with p := x }).cells t := ho.set 16 _
theorem Fr.st_q {w : World} {g : Nat} {f : Fr} {t : TypeId} (ho : ObjAt w g f.cells t) (x : Int) : ObjAt (w.setCell ⟨g, 17, none⟩ (.int .u8 x)) g ({ f with q := x }).cells t := ho.set 17 _
theorem Fr.st_t {w : World} {g : Nat} {f : Fr} {t : TypeId} (ho : ObjAt w g f.cells t) (x : ByteArray) : ObjAt (w.setCell ⟨g, 18, none⟩ (.string x)) g ({ f with t := x }).cells t := ho.set 18 _
theorem Fr.ext_cells {f g : Fr} (h : f.cells = g.cells) : f = g := by
  unfold Fr.cells at h
  simp only [Array.mk.injEq, List.cons.injEq, Value.int.injEq, Value.bool.injEq, Value.string.injEq, true_and, and_true] at h
  obtain ⟨h0, h1, h2, h3, h4, h5, h6, h7, h8, h9, h10, h11, h12, h13, h14, h15, h16, h17, h18⟩ := h
  cases f; cases g; simp_all
end Go.Proofs.YtmehafolnpkmhaaDoor
