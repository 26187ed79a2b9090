/- frame.shapes. -/
import Derived.Test.YtmehafolnpkmhaaDoorgBase
import Derived.BigQuiet
import Derived.Laws.ResultCell
import Derived.Laws.Tables
import Derived.Deep.WholeRow
import Derived.Deep.MidRow
namespace Go.Proofs.YtmehafolnpkmhaaDoor
open Go.RowKit
theorem res_ct {P : Program} {fn : Func} {p u : Tmp} {ty : TypeId} (h : fn.results = #[.cell p ty, .tmp u]) (tmps : Array Value) (w : World) (g : Nat) (t : TypeId) (cs : Array Value) (fr : Nat × Nat) (d : TypeDesc)
    (hp : tmps.getD p undef = .pointer (some ⟨g, 0, none⟩)) (hg : w.heap[g]? = some (.cells cs t fr))
    (hu : P.underlying ty = some d) (hd : (match d with | .struct _ | .array _ _ => true | _ => false) = true) (hi : (P.info? ty).map (·.size) = some cs.size) :
    (results fn tmps).run P w = .ok (.tuple #[.agg cs, tmps.getD u undef]) w := by
  rw [results_cell_tmp h, hp]
  simp [asAddr, run_loadVar_row w g t ty cs fr d hg hu hd hi, Result.andThen]
/-- What a kind is: its name, has it a Dst, how many bytes at least, at most; is there such a kind. -/
def shapeF (k : Int) : ByteArray × Bool × Int × Int × Bool :=
  if k = 1 then (⟨#[116, 111, 107, 101, 110]⟩, true, 17, 17, true) else
  if k = 2 then (⟨#[112, 111, 108, 108]⟩, true, 17, 17, true) else
  if k = 3 then (⟨#[115, 116, 97, 116, 117, 115]⟩, true, 23, 23, true) else
  if k = 4 then (⟨#[100, 97, 116, 97]⟩, false, 27, 42, true) else
  if k = 5 then (⟨#[108, 101, 97, 118, 101]⟩, true, 17, 17, true) else
  (⟨#[63]⟩, true, 0, 0, false)
def shapeC : Array Value := #[.string (⟨#[]⟩ : ByteArray), .bool false, .int .i64 0, .int .i64 0, .string (⟨#[116, 111, 107, 101, 110]⟩ : ByteArray), .bool true, .int .i64 17, .int .i64 17, .string (⟨#[112, 111, 108, 108]⟩ : ByteArray), .bool true, .int .i64 17, .int .i64 17, .string (⟨#[115, 116, 97, 116, 117, 115]⟩ : ByteArray), .bool true, .int .i64 23, .int .i64 23, .string (⟨#[100, 97, 116, 97]⟩ : ByteArray), .bool false, .int .i64 27, .int .i64 42, .string (⟨#[108, 101, 97, 118, 101]⟩ : ByteArray), .bool true, .int .i64 17, .int .i64 17]
def shapeZ : Array Value := #[.string (⟨#[]⟩ : ByteArray), .bool false, .int .i64 0, .int .i64 0, .string (⟨#[]⟩ : ByteArray), .bool false, .int .i64 0, .int .i64 0, .string (⟨#[]⟩ : ByteArray), .bool false, .int .i64 0, .int .i64 0, .string (⟨#[]⟩ : ByteArray), .bool false, .int .i64 0, .int .i64 0, .string (⟨#[]⟩ : ByteArray), .bool false, .int .i64 0, .int .i64 0, .string (⟨#[]⟩ : ByteArray), .bool false, .int .i64 0, .int .i64 0]
theorem shape_build (W : World) : (Instr.build 105 #[(1, .agg #[.string (⟨#[116, 111, 107, 101, 110]⟩ : ByteArray), .bool true, .int .i64 17, .int .i64 17]), (2, .agg #[.string (⟨#[112, 111, 108, 108]⟩ : ByteArray), .bool true, .int .i64 17, .int .i64 17]), (3, .agg #[.string (⟨#[115, 116, 97, 116, 117, 115]⟩ : ByteArray), .bool true, .int .i64 23, .int .i64 23]), (4, .agg #[.string (⟨#[100, 97, 116, 97]⟩ : ByteArray), .bool false, .int .i64 27, .int .i64 42]), (5, .agg #[.string (⟨#[108, 101, 97, 118, 101]⟩ : ByteArray), .bool true, .int .i64 17, .int .i64 17])]).run Tryd.prog W = .ok (.agg shapeC) W := run_build W 105 _ _ (by kernel_rfl)
theorem shape_store (w : World) : (Instr.storeAt 105 (.pointer (some ⟨w.heap.size + 1, 0, none⟩)) (.agg shapeC)).run Tryd.prog ((w.alloc (.cells #[.string (⟨#[]⟩ : ByteArray), .bool false, .int .i64 0, .int .i64 0] 82)).alloc (.cells shapeZ 105)) = .ok () ((w.alloc (.cells #[.string (⟨#[]⟩ : ByteArray), .bool false, .int .i64 0, .int .i64 0] 82)).alloc (.cells shapeC 105)) := by
  have h := run_storeAt_new (P := Tryd.prog) (w.alloc (.cells #[.string (⟨#[]⟩ : ByteArray), .bool false, .int .i64 0, .int .i64 0] 82)) 105 shapeZ shapeC (by kernel_rfl) (by kernel_rfl) (by kernel_rfl)
  rw [World.size_alloc] at h
  exact h
theorem shape_load (_w : World) (o : Nat) (cs : List Value) (h : ∀ j v, cs[j]? = some v → shapeC[o + j]? = some v) (hl : cs.length = 4) (V : World) :
    (Instr.loadAt 82 (.pointer (some ⟨V.heap.size, o, none⟩))).run Tryd.prog (V.alloc (.cells shapeC 105)) = .ok (.agg cs.toArray) (V.alloc (.cells shapeC 105)) := by
  refine run_loadAt_mid (P := Tryd.prog) _ _ _ 82 cs _ (fun j v hv => ?_) Tryd.underlying82 rfl (by rw [hl]; kernel_rfl)
  rw [(ObjAt.new V shapeC 105).cell (o + j)]
  exact h j v hv
theorem wpList_build_to {P : Program} {w : World} {ops : Array Oper} {rest : List Oper} {o : Oper} {a : Act} {Q : Exit → Act → World → Prop} (hgd : o.guard = none) (t : TypeId) (parts : Array (Nat × Operand)) (ho : o.op = .build t parts) (cells : Array Value)
    (hc : P.built t (parts.map fun (i, x) => (i, a.eval x)).toList = some cells) (h : wpList P ops Q rest (a.put o.dst (.agg cells)) w) : wpList P ops Q (o :: rest) a w := by
  refine wpList_build hgd t parts ho (by rw [hc]; rfl) ?_
  rw [hc]
  exact h
theorem wpList_store_new {P : Program} {w : World} {ops : Array Oper} {rest : List Oper} {o : Oper} {a : Act} {Q : Exit → Act → World → Prop} (hgd : o.guard = none) (ty : TypeId) (x y : Operand) (ho : o.op = .store ty x y) (g : Nat) (c c' : Array Value)
    (hg : g = w.heap.size) (hx : a.eval x = .pointer (some ⟨g, 0, none⟩)) (hy : a.eval y = .agg c') (hi : (P.info? ty).map (·.size) = some c'.size) (hs : c.size = c'.size) (h1 : c'.all (·.oneCell') = true)
    (h : wpList P ops Q rest (a.put o.dst undef) (w.alloc (.cells c' ty))) : wpList P ops Q (o :: rest) a (w.alloc (.cells c ty)) := by
  subst hg
  refine wpList_plain hgd fun _ hK => ?_
  unfold Oper.wp execOp
  simp only [ho, hx, hy, run_storeAt_new w ty c c' hi hs h1, Sem.run_bind, Sem.run_pure, Result.andThen_ok]
  exact hK _ _ h
theorem shape_range (w : World) (off : Nat) (cs : List Value) (h : ∀ j v, cs[j]? = some v → shapeC[off + j]? = some v) : (w.alloc (.cells shapeC 105)).rangeAt w.heap.size off cs := fun j v hv => by
  rw [(ObjAt.new w shapeC 105).cell (off + j)]
  exact h j v hv
set_option maxRecDepth 100000 in
set_option maxHeartbeats 2000000 in
theorem shapes_1 (w : World) : Calls Tryd.prog 70 #[.int .i64 1] w fun e w' => e = .returned (.tuple #[.agg #[.string (⟨#[116, 111, 107, 101, 110]⟩ : ByteArray), .bool true, .int .i64 17, .int .i64 17], .bool true]) ∧ Below w.heap.size w w' := by
  have hr := Lib.hid (shape_range (w.alloc (.cells #[.string (⟨#[]⟩ : ByteArray), .bool false, .int .i64 0, .int .i64 0] 82)) 4 [.string (⟨#[116, 111, 107, 101, 110]⟩ : ByteArray), .bool true, .int .i64 17, .int .i64 17] (by intro j v; match j with | 0 | 1 | 2 | 3 => exact id | j + 4 => simp))
  go_enter Tryd.func70, Tryd.ntmps70
  go_wp2_with (first
    | (refine wpList_build_to rfl 105 _ rfl shapeC (by kernel_rfl) ?_)
    | (refine wpList_store_new rfl 105 _ _ rfl (w.heap.size + 1) shapeZ shapeC (by simp) rfl rfl (by kernel_rfl) (by kernel_rfl) (by kernel_rfl) ?_; generalize shapeC = C at *)
    | (refine wpList_load_mid rfl 82 _ rfl (w.heap.size + 1) 4 rfl [.string (⟨#[116, 111, 107, 101, 110]⟩ : ByteArray), .bool true, .int .i64 17, .int .i64 17] _ (by rw [World.size_alloc] at hr; exact hr.out) Tryd.underlying82 rfl (by kernel_rfl) ?_))
  have hg : ((w.alloc (.cells #[.string (⟨#[116, 111, 107, 101, 110]⟩ : ByteArray), .bool true, .int .i64 17, .int .i64 17] 82)).alloc (.cells C 105)).heap[w.heap.size]? = some (.cells #[.string (⟨#[116, 111, 107, 101, 110]⟩ : ByteArray), .bool true, .int .i64 17, .int .i64 17] 82 (0, 0)) := (ObjAt.new w #[.string (⟨#[116, 111, 107, 101, 110]⟩ : ByteArray), .bool true, .int .i64 17, .int .i64 17] 82).alloc _
  have hb : Below w.heap.size w ((w.alloc (.cells #[.string (⟨#[116, 111, 107, 101, 110]⟩ : ByteArray), .bool true, .int .i64 17, .int .i64 17] 82)).alloc (.cells C 105)) := ((Below.refl _ w).alloc (Nat.le_refl _) _).alloc (by simp) _
  refine bodyPost_ret (res_ct rfl _ _ w.heap.size 82 #[.string (⟨#[116, 111, 107, 101, 110]⟩ : ByteArray), .bool true, .int .i64 17, .int .i64 17] (0, 0) _ rfl hg Tryd.underlying82 rfl (by kernel_rfl)) rfl ?_
  exact ⟨rfl, hb⟩
set_option maxRecDepth 100000 in
set_option maxHeartbeats 2000000 in
theorem shapes_2 (w : World) : Calls Tryd.prog 70 #[.int .i64 2] w fun e w' => e = .returned (.tuple #[.agg #[.string (⟨#[112, 111, 108, 108]⟩ : ByteArray), .bool true, .int .i64 17, .int .i64 17], .bool true]) ∧ Below w.heap.size w w' := by
  have hr := Lib.hid (shape_range (w.alloc (.cells #[.string (⟨#[]⟩ : ByteArray), .bool false, .int .i64 0, .int .i64 0] 82)) 8 [.string (⟨#[112, 111, 108, 108]⟩ : ByteArray), .bool true, .int .i64 17, .int .i64 17] (by intro j v; match j with | 0 | 1 | 2 | 3 => exact id | j + 4 => simp))
  go_enter Tryd.func70, Tryd.ntmps70
  go_wp2_with (first
    | (refine wpList_build_to rfl 105 _ rfl shapeC (by kernel_rfl) ?_)
    | (refine wpList_store_new rfl 105 _ _ rfl (w.heap.size + 1) shapeZ shapeC (by simp) rfl rfl (by kernel_rfl) (by kernel_rfl) (by kernel_rfl) ?_; generalize shapeC = C at *)
    | (refine wpList_load_mid rfl 82 _ rfl (w.heap.size + 1) 8 rfl [.string (⟨#[112, 111, 108, 108]⟩ : ByteArray), .bool true, .int .i64 17, .int .i64 17] _ (by rw [World.size_alloc] at hr; exact hr.out) Tryd.underlying82 rfl (by kernel_rfl) ?_))
  have hg : ((w.alloc (.cells #[.string (⟨#[112, 111, 108, 108]⟩ : ByteArray), .bool true, .int .i64 17, .int .i64 17] 82)).alloc (.cells C 105)).heap[w.heap.size]? = some (.cells #[.string (⟨#[112, 111, 108, 108]⟩ : ByteArray), .bool true, .int .i64 17, .int .i64 17] 82 (0, 0)) := (ObjAt.new w #[.string (⟨#[112, 111, 108, 108]⟩ : ByteArray), .bool true, .int .i64 17, .int .i64 17] 82).alloc _
  have hb : Below w.heap.size w ((w.alloc (.cells #[.string (⟨#[112, 111, 108, 108]⟩ : ByteArray), .bool true, .int .i64 17, .int .i64 17] 82)).alloc (.cells C 105)) := ((Below.refl _ w).alloc (Nat.le_refl _) _).alloc (by simp) _
  refine bodyPost_ret (res_ct rfl _ _ w.heap.size 82 #[.string (⟨#[112, 111, 108, 108]⟩ : ByteArray), .bool true, .int .i64 17, .int .i64 17] (0, 0) _ rfl hg Tryd.underlying82 rfl (by kernel_rfl)) rfl ?_
  exact ⟨rfl, hb⟩
set_option maxRecDepth 100000 in
set_option maxHeartbeats 2000000 in
theorem shapes_3 (w : World) : Calls Tryd.prog 70 #[.int .i64 3] w fun e w' => e = .returned (.tuple #[.agg #[.string (⟨#[115, 116, 97, 116, 117, 115]⟩ : ByteArray), .bool true, .int .i64 23, .int .i64 23], .bool true]) ∧ Below w.heap.size w w' := by
  have hr := Lib.hid (shape_range (w.alloc (.cells #[.string (⟨#[]⟩ : ByteArray), .bool false, .int .i64 0, .int .i64 0] 82)) 12 [.string (⟨#[115, 116, 97, 116, 117, 115]⟩ : ByteArray), .bool true, .int .i64 23, .int .i64 23] (by intro j v; match j with | 0 | 1 | 2 | 3 => exact id | j + 4 => simp))
  go_enter Tryd.func70, Tryd.ntmps70
  go_wp2_with (first
    | (refine wpList_build_to rfl 105 _ rfl shapeC (by kernel_rfl) ?_)
    | (refine wpList_store_new rfl 105 _ _ rfl (w.heap.size + 1) shapeZ shapeC (by simp) rfl rfl (by kernel_rfl) (by kernel_rfl) (by kernel_rfl) ?_; generalize shapeC = C at *)
    | (refine wpList_load_mid rfl 82 _ rfl (w.heap.size + 1) 12 rfl [.string (⟨#[115, 116, 97, 116, 117, 115]⟩ : ByteArray), .bool true, .int .i64 23, .int .i64 23] _ (by rw [World.size_alloc] at hr; exact hr.out) Tryd.underlying82 rfl (by kernel_rfl) ?_))
  have hg : ((w.alloc (.cells #[.string (⟨#[115, 116, 97, 116, 117, 115]⟩ : ByteArray), .bool true, .int .i64 23, .int .i64 23] 82)).alloc (.cells C 105)).heap[w.heap.size]? = some (.cells #[.string (⟨#[115, 116, 97, 116, 117, 115]⟩ : ByteArray), .bool true, .int .i64 23, .int .i64 23] 82 (0, 0)) := (ObjAt.new w #[.string (⟨#[115, 116, 97, 116, 117, 115]⟩ : ByteArray), .bool true, .int .i64 23, .int .i64 23] 82).alloc _
  have hb : Below w.heap.size w ((w.alloc (.cells #[.string (⟨#[115, 116, 97, 116, 117, 115]⟩ : ByteArray), .bool true, .int .i64 23, .int .i64 23] 82)).alloc (.cells C 105)) := ((Below.refl _ w).alloc (Nat.le_refl _) _).alloc (by simp) _
  refine bodyPost_ret (res_ct rfl _ _ w.heap.size 82 #[.string (⟨#[115, 116, 97, 116, 117, 115]⟩ : ByteArray), .bool true, .int .i64 23, .int .i64 23] (0, 0) _ rfl hg Tryd.underlying82 rfl (by kernel_rfl)) rfl ?_
  exact ⟨rfl, hb⟩
set_option maxRecDepth 100000 in
set_option maxHeartbeats 2000000 in
theorem shapes_4 (w : World) : Calls Tryd.prog 70 #[.int .i64 4] w fun e w' => e = .returned (.tuple #[.agg #[.string (⟨#[100, 97, 116, 97]⟩ : ByteArray), .bool false, .int .i64 27, .int .i64 42], .bool true]) ∧ Below w.heap.size w w' := by
  have hr := Lib.hid (shape_range (w.alloc (.cells #[.string (⟨#[]⟩ : ByteArray), .bool false, .int .i64 0, .int .i64 0] 82)) 16 [.string (⟨#[100, 97, 116, 97]⟩ : ByteArray), .bool false, .int .i64 27, .int .i64 42] (by intro j v; match j with | 0 | 1 | 2 | 3 => exact id | j + 4 => simp))
  go_enter Tryd.func70, Tryd.ntmps70
  go_wp2_with (first
    | (refine wpList_build_to rfl 105 _ rfl shapeC (by kernel_rfl) ?_)
    | (refine wpList_store_new rfl 105 _ _ rfl (w.heap.size + 1) shapeZ shapeC (by simp) rfl rfl (by kernel_rfl) (by kernel_rfl) (by kernel_rfl) ?_; generalize shapeC = C at *)
    | (refine wpList_load_mid rfl 82 _ rfl (w.heap.size + 1) 16 rfl [.string (⟨#[100, 97, 116, 97]⟩ : ByteArray), .bool false, .int .i64 27, .int .i64 42] _ (by rw [World.size_alloc] at hr; exact hr.out) Tryd.underlying82 rfl (by kernel_rfl) ?_))
  have hg : ((w.alloc (.cells #[.string (⟨#[100, 97, 116, 97]⟩ : ByteArray), .bool false, .int .i64 27, .int .i64 42] 82)).alloc (.cells C 105)).heap[w.heap.size]? = some (.cells #[.string (⟨#[100, 97, 116, 97]⟩ : ByteArray), .bool false, .int .i64 27, .int .i64 42] 82 (0, 0)) := (ObjAt.new w #[.string (⟨#[100, 97, 116, 97]⟩ : ByteArray), .bool false, .int .i64 27, .int .i64 42] 82).alloc _
  have hb : Below w.heap.size w ((w.alloc (.cells #[.string (⟨#[100, 97, 116, 97]⟩ : ByteArray), .bool false, .int .i64 27, .int .i64 42] 82)).alloc (.cells C 105)) := ((Below.refl _ w).alloc (Nat.le_refl _) _).alloc (by simp) _
  refine bodyPost_ret (res_ct rfl _ _ w.heap.size 82 #[.string (⟨#[100, 97, 116, 97]⟩ : ByteArray), .bool false, .int .i64 27, .int .i64 42] (0, 0) _ rfl hg Tryd.underlying82 rfl (by kernel_rfl)) rfl ?_
  exact ⟨rfl, hb⟩
set_option maxRecDepth 100000 in
set_option maxHeartbeats 2000000 in
theorem shapes_5 (w : World) : Calls Tryd.prog 70 #[.int .i64 5] w fun e w' => e = .returned (.tuple #[.agg #[.string (⟨#[108, 101, 97, 118, 101]⟩ : ByteArray), .bool true, .int .i64 17, .int .i64 17], .bool true]) ∧ Below w.heap.size w w' := by
  have hr := Lib.hid (shape_range (w.alloc (.cells #[.string (⟨#[]⟩ : ByteArray), .bool false, .int .i64 0, .int .i64 0] 82)) 20 [.string (⟨#[108, 101, 97, 118, 101]⟩ : ByteArray), .bool true, .int .i64 17, .int .i64 17] (by intro j v; match j with | 0 | 1 | 2 | 3 => exact id | j + 4 => simp))
  go_enter Tryd.func70, Tryd.ntmps70
  go_wp2_with (first
    | (refine wpList_build_to rfl 105 _ rfl shapeC (by kernel_rfl) ?_)
    | (refine wpList_store_new rfl 105 _ _ rfl (w.heap.size + 1) shapeZ shapeC (by simp) rfl rfl (by kernel_rfl) (by kernel_rfl) (by kernel_rfl) ?_; generalize shapeC = C at *)
    | (refine wpList_load_mid rfl 82 _ rfl (w.heap.size + 1) 20 rfl [.string (⟨#[108, 101, 97, 118, 101]⟩ : ByteArray), .bool true, .int .i64 17, .int .i64 17] _ (by rw [World.size_alloc] at hr; exact hr.out) Tryd.underlying82 rfl (by kernel_rfl) ?_))
  have hg : ((w.alloc (.cells #[.string (⟨#[108, 101, 97, 118, 101]⟩ : ByteArray), .bool true, .int .i64 17, .int .i64 17] 82)).alloc (.cells C 105)).heap[w.heap.size]? = some (.cells #[.string (⟨#[108, 101, 97, 118, 101]⟩ : ByteArray), .bool true, .int .i64 17, .int .i64 17] 82 (0, 0)) := (ObjAt.new w #[.string (⟨#[108, 101, 97, 118, 101]⟩ : ByteArray), .bool true, .int .i64 17, .int .i64 17] 82).alloc _
  have hb : Below w.heap.size w ((w.alloc (.cells #[.string (⟨#[108, 101, 97, 118, 101]⟩ : ByteArray), .bool true, .int .i64 17, .int .i64 17] 82)).alloc (.cells C 105)) := ((Below.refl _ w).alloc (Nat.le_refl _) _).alloc (by simp) _
  refine bodyPost_ret (res_ct rfl _ _ w.heap.size 82 #[.string (⟨#[108, 101, 97, 118, 101]⟩ : ByteArray), .bool true, .int .i64 17, .int .i64 17] (0, 0) _ rfl hg Tryd.underlying82 rfl (by kernel_rfl)) rfl ?_
  exact ⟨rfl, hb⟩
set_option maxRecDepth 100000 in
set_option maxHeartbeats 2000000 in
theorem shapes_low (k : Int) (hk : k < 1) (w : World) : Calls Tryd.prog 70 #[.int .i64 k] w fun e w' => e = .returned (.tuple #[.agg #[.string (⟨#[63]⟩ : ByteArray), .bool true, .int .i64 0, .int .i64 0], .bool false]) ∧ Below w.heap.size w w' := by
  have hk0 : ¬ 6 ≤ k := by omega
  go_enter Tryd.func70, Tryd.ntmps70
  go_wp2_with (first
    | (refine wpList_build_to rfl 105 _ rfl shapeC (by kernel_rfl) ?_)
    | (refine wpList_store_new rfl 105 _ _ rfl (w.heap.size + 1) shapeZ shapeC (by simp) rfl rfl (by kernel_rfl) (by kernel_rfl) (by kernel_rfl) ?_; generalize shapeC = C at *))
  have hg : ((w.alloc (.cells #[.string (⟨#[63]⟩ : ByteArray), .bool true, .int .i64 0, .int .i64 0] 82)).alloc (.cells C 105)).heap[w.heap.size]? = some (.cells #[.string (⟨#[63]⟩ : ByteArray), .bool true, .int .i64 0, .int .i64 0] 82 (0, 0)) := (ObjAt.new w #[.string (⟨#[63]⟩ : ByteArray), .bool true, .int .i64 0, .int .i64 0] 82).alloc _
  have hb : Below w.heap.size w ((w.alloc (.cells #[.string (⟨#[63]⟩ : ByteArray), .bool true, .int .i64 0, .int .i64 0] 82)).alloc (.cells C 105)) := ((Below.refl _ w).alloc (Nat.le_refl _) _).alloc (by simp) _
  refine bodyPost_ret (res_ct rfl _ _ w.heap.size 82 #[.string (⟨#[63]⟩ : ByteArray), .bool true, .int .i64 0, .int .i64 0] (0, 0) _ rfl hg Tryd.underlying82 rfl (by kernel_rfl)) rfl ?_
  exact ⟨rfl, hb⟩
set_option maxRecDepth 100000 in
set_option maxHeartbeats 2000000 in
theorem shapes_high (k : Int) (hk : 6 ≤ k) (w : World) : Calls Tryd.prog 70 #[.int .i64 k] w fun e w' => e = .returned (.tuple #[.agg #[.string (⟨#[63]⟩ : ByteArray), .bool true, .int .i64 0, .int .i64 0], .bool false]) ∧ Below w.heap.size w w' := by
  have hk0 : 1 ≤ k := by omega
  go_enter Tryd.func70, Tryd.ntmps70
  go_wp2_with (first
    | (refine wpList_build_to rfl 105 _ rfl shapeC (by kernel_rfl) ?_)
    | (refine wpList_store_new rfl 105 _ _ rfl (w.heap.size + 1) shapeZ shapeC (by simp) rfl rfl (by kernel_rfl) (by kernel_rfl) (by kernel_rfl) ?_; generalize shapeC = C at *))
  have hg : ((w.alloc (.cells #[.string (⟨#[63]⟩ : ByteArray), .bool true, .int .i64 0, .int .i64 0] 82)).alloc (.cells C 105)).heap[w.heap.size]? = some (.cells #[.string (⟨#[63]⟩ : ByteArray), .bool true, .int .i64 0, .int .i64 0] 82 (0, 0)) := (ObjAt.new w #[.string (⟨#[63]⟩ : ByteArray), .bool true, .int .i64 0, .int .i64 0] 82).alloc _
  have hb : Below w.heap.size w ((w.alloc (.cells #[.string (⟨#[63]⟩ : ByteArray), .bool true, .int .i64 0, .int .i64 0] 82)).alloc (.cells C 105)) := ((Below.refl _ w).alloc (Nat.le_refl _) _).alloc (by simp) _
  refine bodyPost_ret (res_ct rfl _ _ w.heap.size 82 #[.string (⟨#[63]⟩ : ByteArray), .bool true, .int .i64 0, .int .i64 0] (0, 0) _ rfl hg Tryd.underlying82 rfl (by kernel_rfl)) rfl ?_
  exact ⟨rfl, hb⟩
theorem shapes_any (k : Int) (w : World) : Calls Tryd.prog 70 #[.int .i64 k] w fun e w' =>
    e = .returned (.tuple #[.agg #[.string (shapeF k).1, .bool (shapeF k).2.1, .int .i64 (shapeF k).2.2.1, .int .i64 (shapeF k).2.2.2.1], .bool (shapeF k).2.2.2.2]) ∧ Below w.heap.size w w' := by
  unfold shapeF
  by_cases h1 : k = 1
  · subst h1; exact shapes_1 w
  by_cases h2 : k = 2
  · subst h2; exact shapes_2 w
  by_cases h3 : k = 3
  · subst h3; exact shapes_3 w
  by_cases h4 : k = 4
  · subst h4; exact shapes_4 w
  by_cases h5 : k = 5
  · subst h5; exact shapes_5 w
  rw [if_neg h1, if_neg h2, if_neg h3, if_neg h4, if_neg h5]
  by_cases h : k < 1
  · exact shapes_low k h w
  · exact shapes_high k (by omega) w
end Go.Proofs.YtmehafolnpkmhaaDoor
