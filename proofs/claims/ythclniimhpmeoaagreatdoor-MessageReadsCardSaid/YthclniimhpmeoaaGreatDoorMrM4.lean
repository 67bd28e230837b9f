import Derived.Test.YthclniimhpmeoaaGreatDoorMrM3
import Derived.LoopN
import Derived.Lib.OthersKept
set_option maxRecDepth 20001
set_option linter.unusedSimpArgs false
set_option linter.unusedVariables false
namespace Go.Proofs.YthclniimhpmeoaaGreatDoor
set_option maxRecDepth 20000
section
section
variable {P : Program} {ops : Array Oper} {rest : List Oper} {o : Oper} {a : Act} {w : World} {Q : Exit → Act → World → Prop}
theorem wpList_v (v : Value) (hw : Region.wanted o (yielded ops a.tmps) = true) (hv : (execOp a.eval o).run P w = .ok (.value v) w) (h : wpList P ops Q rest (a.put o.dst v) w) : wpList P ops Q (o :: rest) a w :=
 wpList_step fun K hK => by rw [if_pos hw]; unfold Oper.wp; rw [hv, Oper.upon_value]; exact hK _ _ h
theorem run_load1 (ty : TypeId) (x : Operand) (ho : o.op = .load ty x) (p : Addr) (hx : a.eval x = .pointer (some p)) (v : Value) (d : TypeDesc) (hc : w.cell? p = some v)
 (hu : P.underlying ty = some d) (hd : d.isRow = false) : (execOp a.eval o).run P w = .ok (.value v) w := by
 have hagg : (isAgg ty).run P w = .ok false w := by
  unfold isAgg
  cases d <;> first | (simp [underlying, hu]; done) | (cases hd)
 unfold execOp;simp only [ho, hx, Instr.loadAt, Instr.sureAddr, Sem.run_bind, Sem.run_pure, Result.andThen_ok, loadVar, hagg, Bool.false_eq_true, if_false, run_load, hc]
theorem wpList_load1 (v : Value) (p : Addr) (ty : TypeId) (x : Operand) (d : TypeDesc) (hc : w.cell? p = some v) (hw : Region.wanted o (yielded ops a.tmps) = true) (ho : o.op = .load ty x) (hx : a.eval x = .pointer (some p))
 (hu : P.underlying ty = some d) (hd : d.isRow = false) (h : wpList P ops Q rest (a.put o.dst v) w) : wpList P ops Q (o :: rest) a w :=
 wpList_v v hw (run_load1 ty x ho p hx v d hc hu hd) h
theorem run_bin (op : BinOp) (t t2 : TypeId) (x y : Operand) (va vb v : Value) (ho : o.op = .binOp op t x y t2) (hx : a.eval x = va) (hy : a.eval y = vb)
 (hg : (eqGuard op t x y va vb).run P w = .ok () w) (h : (binOp op t va vb).run P w = .ok v w) : (execOp a.eval o).run P w = .ok (.value v) w := by
 unfold execOp;simp only [ho, hx, hy, Sem.run_bind, Sem.run_pure, Result.andThen_ok, hg, h]
theorem wpList_bin (v va vb : Value) (op : BinOp) (t t2 : TypeId) (x y : Operand) (h : (binOp op t va vb).run P w = .ok v w) (hw : Region.wanted o (yielded ops a.tmps) = true) (ho : o.op = .binOp op t x y t2) (hx : a.eval x = va) (hy : a.eval y = vb)
 (hg : (eqGuard op t x y va vb).run P w = .ok () w) (hq : wpList P ops Q rest (a.put o.dst v) w) : wpList P ops Q (o :: rest) a w :=
 wpList_v v hw (run_bin op t t2 x y va vb v ho hx hy hg h) hq
theorem wpList_fcall (f : FuncId) (args : Array Value) {R : Ending → World → Prop} (hc : Calls P f args w R) (hw : Region.wanted o (yielded ops a.tmps) = true)
 (he : (execOp a.eval o).run P w = .ok (.enter f args) w) (h : ∀ e w', R e w' → ∃ v, e = .returned v ∧ wpList P ops Q rest (a.put o.dst v) w') : wpList P ops Q (o :: rest) a w :=
 wpList_step fun K hK => by
  rw [if_pos hw]; unfold Oper.wp; rw [he, Oper.upon_enter];refine hc.mono fun e w' hR => ?_;obtain ⟨v, rfl, hv⟩ := h e w' hR;exact hK _ _ hv
theorem wpList_w (v : Value) (w' : World) (hw : Region.wanted o (yielded ops a.tmps) = true) (hv : (execOp a.eval o).run P w = .ok (.value v) w') (h : wpList P ops Q rest (a.put o.dst v) w') : wpList P ops Q (o :: rest) a w :=
 wpList_step fun K hK => by rw [if_pos hw]; unfold Oper.wp; rw [hv, Oper.upon_value]; exact hK _ _ h
theorem wv (v : Value) (h : wpList P ops Q rest (a.put o.dst v) w) (hw : Region.wanted o (yielded ops a.tmps) = true := by kernel_rfl) (hv : (execOp a.eval o).run P w = .ok (.value v) w := by kernel_rfl) : wpList P ops Q (o :: rest) a w := wpList_v v hw hv h
theorem wq (v : Value) (hv : (execOp a.eval o).run P w = .ok (.value v) w) (h : wpList P ops Q rest (a.put o.dst v) w) (hw : Region.wanted o (yielded ops a.tmps) = true := by kernel_rfl) : wpList P ops Q (o :: rest) a w := wpList_v v hw hv h
theorem ww (v : Value) (w' : World) (h : wpList P ops Q rest (a.put o.dst v) w') (hw : Region.wanted o (yielded ops a.tmps) = true := by kernel_rfl) (hv : (execOp a.eval o).run P w = .ok (.value v) w' := by kernel_rfl) : wpList P ops Q (o :: rest) a w := wpList_w v w' hw hv h
theorem wk (h : wpList P ops Q rest (a.put o.dst undef) w) (hw : Region.wanted o (yielded ops a.tmps) = false := by kernel_rfl) : wpList P ops Q (o :: rest) a w := wpList_skip hw h
def ldOf (a : Act) : Op → Option (TypeId × Value)
 | .load ty x => some (ty, a.eval x)
 | _ => none
theorem ldOf_eq {op : Op} {ty : TypeId} {v : Value} (h : ldOf a op = some (ty, v)) : ∃ x, op = .load ty x ∧ a.eval x = v := by
 cases op <;> first | (cases h; exact ⟨_, rfl, rfl⟩) | cases h
theorem wl (v : Value) (p : Addr) (hc : w.cell? p = some v) {ty : TypeId} {d : TypeDesc} (hu : P.underlying ty = some d) (h : wpList P ops Q rest (a.put o.dst v) w) (hl : ldOf a o.op = some (ty, .pointer (some p)) := by kernel_rfl) (hd : d.isRow = false := by kernel_rfl) (hw : Region.wanted o (yielded ops a.tmps) = true := by kernel_rfl) : wpList P ops Q (o :: rest) a w := by
 obtain ⟨x, ho, hx⟩ := ldOf_eq hl;exact wpList_load1 v p ty x d hc hw ho hx hu hd h
theorem wg (b f : Nat) (cs : List Value) (hc : w.rangeAt b f cs) {ty : TypeId} {d : TypeDesc} (hu : P.underlying ty = some d) (h : wpList P ops Q rest (a.put o.dst (.agg cs.toArray)) w) (hl : ldOf a o.op = some (ty, .pointer (some ⟨b, f, none⟩)) := by kernel_rfl) (hi : (P.info? ty).map (·.size) = some cs.length := by kernel_rfl) (hd : d.isRow = true := by kernel_rfl) (hw : Region.wanted o (yielded ops a.tmps) = true := by kernel_rfl) : wpList P ops Q (o :: rest) a w := by
 obtain ⟨x, ho, hx⟩ := ldOf_eq hl;exact wpList_load_g hw ty x ho b f hx cs d hc hu hd hi h
def binOf (a : Act) : Op → Option (BinOp × TypeId × Value × Value)
 | .binOp op t x y _ => some (op, t, a.eval x, a.eval y)
 | _ => none
theorem wb (v va vb : Value) (t : TypeId) {op : BinOp} (hr : (binOp op t va vb).run P w = .ok v w) (h : wpList P ops Q rest (a.put o.dst v) w) (hb : binOf a o.op = some (op, t, va, vb) := by kernel_rfl) (hg : (match o.op with | .binOp op t x y _ => (eqGuard op t x y (a.eval x) (a.eval y)).run P w | _ => .ok () w) = .ok () w := by kernel_rfl)
 (hw : Region.wanted o (yielded ops a.tmps) = true := by kernel_rfl) : wpList P ops Q (o :: rest) a w := by
 refine wpList_v v hw ?_ h
 cases ho : o.op with
 | binOp op' t' x y t2 =>
   rw [ho] at hb hg;cases hb;exact run_bin op t t2 x y _ _ v ho rfl rfl hg hr
 | _ => rw [ho] at hb; cases hb
theorem wc (f : FuncId) (args : Array Value) {R : Ending → World → Prop} (hc : Calls P f args w R) (h : ∀ e w', R e w' → ∃ v, e = .returned v ∧ wpList P ops Q rest (a.put o.dst v) w') (hw : Region.wanted o (yielded ops a.tmps) = true := by kernel_rfl)
 (he : (execOp a.eval o).run P w = .ok (.enter f args) w := by kernel_rfl) : wpList P ops Q (o :: rest) a w := wpList_fcall f args hc hw he h
theorem run_storeC (ty : TypeId) (b f : Nat) (v : Value) (cs : List Value) (hcs : v.cells = cs.toArray) (ht : w.there b f cs.length) (hi : (P.info? ty).map (·.size) = some cs.length) (h1 : ∀ v ∈ cs, v.oneCell' = true) :
 (storeVar ty ⟨b, f, none⟩ v).run P w = .ok () (w.setCells b f cs) := by
 have := run_storeCells_cells (P := P) b f cs 0 w (fun j hj => by simpa using (ht j (by simpa using hj)).1) (fun j hj => by simpa using (ht j (by simpa using hj)).2) h1
 cases hq : P.info? ty with
 | none => simp [hq] at hi
 | some i =>
   (have hs : cs.length = i.size := by simp [hq] at hi; omega);simp only [Nat.add_zero] at this;simp [storeVar, sizeOf, typeInfo, hq, hs, hcs, this]
theorem wpList_storeC (ty : TypeId) (b f : Nat) (v : Value) (cs : List Value) (ht : w.there b f cs.length) (hcs : v.cells = cs.toArray) (hi : (P.info? ty).map (·.size) = some cs.length) (h1 : ∀ v ∈ cs, v.oneCell' = true)
 (x y : Operand) (hw : Region.wanted o (yielded ops a.tmps) = true) (ho : o.op = .store ty x y) (hx : a.eval x = .pointer (some ⟨b, f, none⟩)) (hy : a.eval y = v)
 (h : wpList P ops Q rest (a.put o.dst undef) (w.setCells b f cs)) : wpList P ops Q (o :: rest) a w :=
 wpList_step fun K hK => by
  rw [if_pos hw]; unfold Oper.wp execOp;simp only [ho, hx, hy, Instr.storeAt, Instr.sureAddr, Sem.run_bind, Sem.run_pure, Result.andThen_ok, run_storeC ty b f v cs hcs ht hi h1];exact hK _ _ h
theorem then_ret {K : Act → World → Prop} (h : Q .ret a w) : Exit.then K Q .ret a w := h
theorem then_exit {K : Act → World → Prop} {id : Nat} (h : Q (.exit id) a w) : Exit.then K Q (.exit id) a w := h
theorem inBlock_normal {id : Nat} (h : Q .normal a w) : Exit.inBlock id Q .normal a w := h
theorem inBlock_ret {id : Nat} (h : Q .ret a w) : Exit.inBlock id Q .ret a w := h
theorem inBlock_here {id : Nat} (h : Q .normal a w) : Exit.inBlock id Q (.exit id) a w := by unfold Exit.inBlock; simp only [if_true]; exact h
theorem all1 {v : Value} (h : v.oneCell' = true) : ∀ u ∈ [v], u.oneCell' = true := fun u hu => by rw [List.mem_singleton.1 hu]; exact h
theorem allOf {cs : List Value} (h : cs.all (·.oneCell') = true) : ∀ u ∈ cs, u.oneCell' = true := fun u hu => List.all_eq_true.1 h u hu
end
section
variable {P : Program} {w : World} {t : TypeId} {k : IntKind} {x y : Int} {b : Bool}
theorem run_eqlI (h : decide (x = y) = b) : (binOp .eql t (.int k x) (.int k y)).run P w = .ok (.bool b) w := by subst h; cases k <;> rfl
theorem run_neqI (h : decide (x = y) = b) : (binOp .neq t (.int k x) (.int k y)).run P w = .ok (.bool !b) w := by subst h; cases k <;> rfl
theorem run_lssI (h : decide (x < y) = b) : (binOp .lss t (.int k x) (.int k y)).run P w = .ok (.bool b) w := by subst h; cases k <;> rfl
theorem run_leqI (h : decide (x ≤ y) = b) : (binOp .leq t (.int k x) (.int k y)).run P w = .ok (.bool b) w := by subst h; cases k <;> rfl
theorem run_gtrI (h : decide (x > y) = b) : (binOp .gtr t (.int k x) (.int k y)).run P w = .ok (.bool b) w := by subst h; cases k <;> rfl
theorem run_geqI (h : decide (x ≥ y) = b) : (binOp .geq t (.int k x) (.int k y)).run P w = .ok (.bool b) w := by subst h; cases k <;> rfl
theorem run_seqB {s u : ByteArray} (h : (s.data.toList == u.data.toList) = b) : (binOp .eql t (.string s) (.string u)).run P w = .ok (.bool b) w := by
 subst h;show (Op.stringOp .eql s u).run P w = _;simp only [Op.stringOp, Lib.toList_data, Sem.run_pure]
theorem run_sneB {s u : ByteArray} (h : (s.data.toList == u.data.toList) = b) : (binOp .neq t (.string s) (.string u)).run P w = .ok (.bool !b) w := by
 subst h;show (Op.stringOp .neq s u).run P w = _;simp only [Op.stringOp, Lib.toList_data, Sem.run_pure]
theorem run_neOfEq {c1 c2 : Array Value} (h : (binOp .eql t (.agg c1) (.agg c2)).run P w = .ok (.bool b) w) : (binOp .neq t (.agg c1) (.agg c2)).run P w = .ok (.bool !b) w := by
 simp only [binOp, Sem.run_bind] at h ⊢
 cases hq : (Op.equal t (.agg c1) (.agg c2)).run P w with
 | ok r z => rw [hq] at h; simp only [Result.andThen_ok, Sem.run_pure] at h ⊢; cases h; rfl
 | _ => rw [hq] at h; cases h
theorem partOf {cs part : List Value} (o : Nat) (h : (cs.drop o).take part.length = part) : ∀ j v, part[j]? = some v → cs[o + j]? = some v := fun j v hv => by
 rw [← h, List.getElem?_take] at hv
 split at hv
 ·rw [List.getElem?_drop] at hv; exact hv
 ·cases hv
end
open Go.RowKit
def slU : List Value → Nat → (Nat → Value) → List Value
 | l, 0, _ => l
 | [], _ + 1, _ => []
 | _ :: l, n + 1, u => u n :: slU l n u
def slL : List Value → Nat → Nat → (Nat → Value) → List Value
 | l, 0, n, u => slU l n u
 | [], _ + 1, _, _ => []
 | x :: l, i + 1, n, u => x :: slL l i n u
def slR : Act → List (Nat × Nat × Nat) → (Nat → Nat → Value) → Act
 | a, [], _ => a
 | a, (i, n, e) :: r, u => slR ⟨(slL a.tmps.toList i n (u e)).toArray, a.defers⟩ r u
def uOf (a : Act) (e k : Nat) : Value := a.tmps.getD (e - (k + 1)) undef
theorem fR : (∀ (l : List Value) (u : Nat → Value), slU l 0 u = l) ∧ (∀ (x : Value) (l : List Value) (n : Nat) (u : Nat → Value), slU (x :: l) (n + 1) u = u n :: slU l n u) ∧ (∀ (l : List Value) (n : Nat) (u : Nat → Value), slL l 0 n u = slU l n u) ∧
 (∀ (x : Value) (l : List Value) (i n : Nat) (u : Nat → Value), slL (x :: l) (i + 1) n u = x :: slL l i n u) ∧ (∀ (a : Act) (u : Nat → Nat → Value), slR a [] u = a) ∧ (∀ (l : List Value) (d : List Deferred) (i n e : Nat) (r : List (Nat × Nat × Nat)) (u : Nat → Nat → Value), slR ⟨l.toArray, d⟩ ((i, n, e) :: r) u = slR ⟨(slL l i n (u e)).toArray, d⟩ r u) :=
 ⟨fun _ _ => by unfold slU; rfl, fun _ _ _ _ => rfl, fun _ _ _ => by unfold slL; rfl, fun _ _ _ _ _ => rfl, fun _ _ => rfl, fun _ _ _ _ _ _ _ => rfl⟩
theorem nameA {P : Program} {Q : Exit → Act → World → Prop} {a : Act} {w : World} {c : Code} (h : ∀ A, A = a → c.wp P Q A w) : c.wp P Q a w := h a rfl
theorem jE {K : Act → World → Prop} {a A : Act} {R : List (Nat × Nat × Nat)} {z : World} (h : ∀ u, K (slR A R u) z) (e : a = slR A R (uOf a) := by kernel_rfl) : K a z := by rw [e]; exact h _
theorem exB (b : Bool) : ∃ d, b = d := ⟨b, rfl⟩
theorem dT {p : Prop} [Decidable p] (h : decide p = true) : p := of_decide_eq_true h
theorem dF {p : Prop} [Decidable p] (h : decide p = false) : ¬ p := of_decide_eq_false h
section
variable {P : Program} {ops : Array Oper} {rest : List Oper} {o : Oper} {a : Act} {w : World} {Q : Exit → Act → World → Prop}
theorem wwP (ob : Obj) (h : ∀ g z, g = w.heap.size → Below w.heap.size w z → z.heap[g]? = some ob → wpList P ops Q rest (a.put o.dst (.pointer (some ⟨g, 0, none⟩))) z) (hw : Region.wanted o (yielded ops a.tmps) = true := by kernel_rfl)
 (hv : (execOp a.eval o).run P w = .ok (.value (.pointer (some ⟨w.heap.size, 0, none⟩))) (w.alloc ob) := by kernel_rfl) : wpList P ops Q (o :: rest) a w := wpList_w _ _ hw hv (h _ _ rfl (alB rfl) (alN rfl))
theorem wwS (n : Nat) (ob : Obj) (h : ∀ g z, g = w.heap.size → Below w.heap.size w z → z.heap[g]? = some ob → wpList P ops Q rest (a.put o.dst (.slice (some ⟨g, 0, none⟩) n n)) z) (hw : Region.wanted o (yielded ops a.tmps) = true := by kernel_rfl)
 (hv : (execOp a.eval o).run P w = .ok (.value (.slice (some ⟨w.heap.size, 0, none⟩) n n)) (w.alloc ob) := by kernel_rfl) : wpList P ops Q (o :: rest) a w := wpList_w _ _ hw hv (h _ _ rfl (alB rfl) (alN rfl))
theorem wcR {f : FuncId} {args : Array Value} {v : Value} {R : World → Prop} (hc : Calls P f args w fun e w' => e = .returned v ∧ R w') (h : ∀ z, R z → wpList P ops Q rest (a.put o.dst v) z) (hw : Region.wanted o (yielded ops a.tmps) = true := by kernel_rfl)
 (he : (execOp a.eval o).run P w = .ok (.enter f args) w := by kernel_rfl) : wpList P ops Q (o :: rest) a w := wpList_fcall f args hc hw he fun _ z q => ⟨v, q.1, h z q.2⟩
theorem wcS {f : FuncId} {args : Array Value} {v : Value} (hc : Calls P f args w fun e w' => e = .returned v ∧ w = w') (h : wpList P ops Q rest (a.put o.dst v) w) (hw : Region.wanted o (yielded ops a.tmps) = true := by kernel_rfl)
 (he : (execOp a.eval o).run P w = .ok (.enter f args) w := by kernel_rfl) : wpList P ops Q (o :: rest) a w := wpList_fcall f args hc hw he fun _ z q => ⟨v, q.1, q.2 ▸ h⟩
theorem wcT {f : FuncId} {args : Array Value} {v : Value} (hc : Calls P f args w fun e w' => e = .returned v ∧ w' = w) (h : wpList P ops Q rest (a.put o.dst v) w) (hw : Region.wanted o (yielded ops a.tmps) = true := by kernel_rfl)
 (he : (execOp a.eval o).run P w = .ok (.enter f args) w := by kernel_rfl) : wpList P ops Q (o :: rest) a w := wpList_fcall f args hc hw he fun _ z q => ⟨v, q.1, q.2.symm ▸ h⟩
def stOf (a : Act) : Op → Option (TypeId × Value × Value)
 | .store ty x y => some (ty, a.eval x, a.eval y)
 | _ => none
theorem stOf_eq {op : Op} {ty : TypeId} {v u : Value} (h : stOf a op = some (ty, v, u)) : ∃ x y, op = .store ty x y ∧ a.eval x = v ∧ a.eval y = u := by
 cases op <;> first | (cases h; exact ⟨_, _, rfl, rfl, rfl⟩) | cases h
theorem wsC (ty : TypeId) (b f : Nat) (v : Value) (cs new : List Value) {old : List Value} {t : TypeId} (hz : w.heap[b]? = some (.cells old.toArray t (0, 0))) (h : ∀ z, z = w.setCells b f cs → w.grownBy z (some b) → z.heap[b]? = some (.cells new.toArray t (0, 0)) → wpList P ops Q rest a z)
 (hi : (P.info? ty).map (·.size) = some cs.length := by kernel_rfl) (hf : Nat.ble (f + cs.length) old.length = true := by kernel_rfl) (hn : putAt old f cs = new := by kernel_rfl) (hcs : v.cells = cs.toArray := by kernel_rfl) (h1 : cs.all (·.oneCell') = true := by kernel_rfl)
 (hs : stOf a o.op = some (ty, .pointer (some ⟨b, f, none⟩), v) := by kernel_rfl) (hw : Region.wanted o (yielded ops a.tmps) = true := by kernel_rfl) (hd : o.dst = none := by kernel_rfl) : wpList P ops Q (o :: rest) a w := by
 obtain ⟨x, y, ho, hx, hy⟩ := stOf_eq hs;refine wpList_storeC ty b f v cs (rowThere hz (Nat.le_of_ble_eq_true hf)) hcs hi (allOf h1) x y hw ho hx hy ?_;rw [hd];exact h _ rfl (stG rfl) (by rw [← hn]; exact stN rfl hz)
theorem wsR (ty : TypeId) (g : Nat) (cells : Array Value) {old : Array Value} {t : TypeId} (hz : w.heap[g]? = some (.cells old t (0, 0))) (h : ∀ z, z = w.setRow g cells → w.grownBy z (some g) → z.heap[g]? = some (.cells cells t (0, 0)) → wpList P ops Q rest a z)
 (hi : (P.info? ty).map (·.size) = some cells.size := by kernel_rfl) (h1 : cells.all (·.oneCell') = true := by kernel_rfl) (hold : old.size = cells.size := by kernel_rfl) (hs : stOf a o.op = some (ty, .pointer (some ⟨g, 0, none⟩), .agg cells) := by kernel_rfl) (hw : o.guard = none := by kernel_rfl) (hd : o.dst = none := by kernel_rfl) : wpList P ops Q (o :: rest) a w := by
 obtain ⟨x, y, ho, hx, hy⟩ := stOf_eq hs;refine wpList_store_row hw ty x y ho g cells hx hy t old hz hi hold h1 ?_;rw [hd];exact h _ rfl (rwG rfl) (rwN rfl hz)
end
end
section
section
variable {P : Program} {ops : Array Oper} {rest : List Oper} {o : Oper} {a : Act} {w : World} {Q : Exit → Act → World → Prop}
theorem wp_loop_st {c : Code} (N : Nat) (St : Nat → Act → World → Prop) (k0 : Nat) (hk : k0 ≤ N) (h0 : St k0 a w)
 (round : ∀ k a w, k ≤ N → St k a w → c.wp P (Exit.then (fun a' w' => k < N ∧ St (k + 1) a' w') Q) a w) : (Code.loop c).wp P Q a w := by
 have key : ∀ n k a w, n = N - k → k ≤ N → St k a w → Code.rounds P c Q (n + 1) a w := by
  intro n
  induction n with
  | zero =>
    intro k a w hn hk hs;rw [rounds_succ];refine Code.wp_mono (fun e a w q => ?_) (round k a w hk hs)
    cases e with
    | normal => exact absurd q.1 (by omega)
    | _ => exact q
  | succ n ih =>
    intro k a w hn hk hs;rw [rounds_succ];refine Code.wp_mono (fun e a w q => ?_) (round k a w hk hs)
    cases e with
    | normal => exact ih (k + 1) a w (by omega) q.1 q.2
    | _ => exact q
 exact wp_loop_rounds _ (key (N - k0) k0 a w rfl hk h0)
theorem then_normal {K : Act → World → Prop} (h : K a w) : Exit.then K Q .normal a w := h
def nextOf (a : Act) : Op → Option (Value × Bool)
 | .next x s => some (a.eval x, s)
 | _ => none
theorem wn (v : Value) (w' : World) {k : Nat} (hr : ∀ ty, (Instr.next (.pointer (some ⟨k, 0, none⟩)) true ty).run P w = .ok v w') (h : wpList P ops Q rest (a.put o.dst v) w')
 (hn : nextOf a o.op = some (.pointer (some ⟨k, 0, none⟩), true) := by kernel_rfl) (hw : Region.wanted o (yielded ops a.tmps) = true := by kernel_rfl) : wpList P ops Q (o :: rest) a w := by
 refine wpList_w v w' hw ?_ h
 cases ho : o.op with
 | next x s =>
   rw [ho] at hn
   cases hn2 : a.eval x with
   | pointer p =>
     have hn3 : some (a.eval x, s) = some (Value.pointer (some ⟨k, 0, none⟩), true) := hn;injection hn3 with e;injection e with e1 e2;unfold execOp;simp only [ho, e1, e2, Sem.run_bind, Sem.run_pure, Result.andThen_ok, hr]
   | _ =>
     have hn3 : some (a.eval x, s) = some (Value.pointer (some ⟨k, 0, none⟩), true) := hn;injection hn3 with e;injection e with e1 e2;rw [hn2] at e1; cases e1
 | _ => rw [ho] at hn; cases hn
theorem wp_loop_sv {c : Code} (N : Nat) (St : Nat → (Nat → Nat → Value) → Act → World → Prop) (k0 : Nat) (hk : k0 ≤ N) (h0 : St k0 (uOf a) a w)
 (round : ∀ k u a w, k ≤ N → St k u a w → c.wp P (Exit.then (fun a' w' => k < N ∧ St (k + 1) (uOf a') a' w') Q) a w) : (Code.loop c).wp P Q a w :=
 wp_loop_st N (fun k a w => St k (uOf a) a w) k0 hk h0 fun k a w hk h => round k _ a w hk h
end
end
section
open Go.RowKit
section
def PanicOk (Q : Exit → Act → World → Prop) : Prop := ∀ c a d v w, Q (.panic c) (Act.put a d v) w → Q (.panic c) a w
structure AnyS (P : Program) (ops : Array Oper) (Q : Exit → Act → World → Prop) (S : World → Prop) (n : Nat) (l : Array Bool) (a : Act) (w : World) : Prop where
 out : PanicOk Q → wpAnyH P .any ops Q S n l a w
structure StepS (P : Program) (ops : Array Oper) (Q : Exit → Act → World → Prop) (S : World → Prop) (n : Nat) (l : Array Bool) (a : Act) (w : World) (i : Nat) : Prop where
 out : PanicOk Q → wpOp P ops Q i (fun a' w' => S w' ∧ wpAnyH P .any ops Q S n (l.setIfInBounds i true) a' w') a w
theorem okIntA {k : IntKind} {x v : Int} {m : Option (Result Next)} {w : World} (he : x = v) (h : m = some (.ok (.value (.int k x)) w)) : m = some (.ok (.value (.int k v)) w) := he ▸ h
theorem okIntP {k : IntKind} {x v : Int} {m : Result Next} {w : World} (he : x = v) (h : m = .ok (.value (.int k x)) w) : m = .ok (.value (.int k v)) w := he ▸ h
variable {P : Program} {ops : Array Oper} {Q : Exit → Act → World → Prop} {S : World → Prop} {n : Nat} {l l' : Array Bool} {a : Act} {w : World}
def bmL : Nat → Nat → List Bool
 | 0, _ => []
 | n + 1, m => Nat.beq (m % 2) 1 :: bmL n (m / 2)
def bm (n m : Nat) : Array Bool := (bmL n m).toArray
def runAt (P : Program) (ops : Array Oper) (a : Act) (w : World) (i : Nat) : Option (Result Next) := (ops[i]?).map fun o => (execOp a.eval o).run P w
def wantAt (ops : Array Oper) (a : Act) (i : Nat) : Option Bool := (ops[i]?).map fun o => Region.wanted o (yielded ops a.tmps)
def dstAt (ops : Array Oper) (i : Nat) : Option (Option Tmp) := (ops[i]?).map (·.dst)
def freeAt' (ops : Array Oper) (l : Array Bool) (i : Nat) : Bool := Region.noSelect ops && Region.free .any ops l i && (Region.ready .any ops l).contains i
theorem any_begin {id : Nat} (S : World → Prop) (n : Nat) (l : Array Bool) (hS : S w.drew) (hQ : PanicOk Q) (h : AnyS P ops Q S n l a w.drew) (hm : P.follows .mixedOrders = true := by kernel_rfl)
 (hn : ops.size = n := by kernel_rfl) (hl : Array.replicate n false = l := by kernel_rfl) : (Code.region id ops true).wp P Q a w :=
 wp_region_held_drew hm hS fun _ => by rw [hn, hl]; exact h.out hQ
theorem any_end (h : Q .normal a w) (hr : Region.ready .any ops l = [] := by kernel_rfl) : AnyS P ops Q S n l a w := ⟨fun _ => wpAnyH_done hr h n⟩
theorem any_take {o : Oper} {v : Value} {i : Nat} (hi : ops[i]? = some o) (hf : freeAt' ops l i = true) (hy : YieldsIf P ops S o v a) (hS : S w) (hl : l.setIfInBounds i true = l') (h : AnyS P ops Q S n l' (a.put o.dst v) w) : AnyS P ops Q S (n + 1) l a w := by
 unfold freeAt' at hf;simp only [Bool.and_eq_true] at hf;exact ⟨fun hQ => wpAnyH_take hi hf.1.1 hf.1.2 hf.2 (fun c _ w hq => hQ c _ _ _ w hq) hy hS (by rw [hl]; exact h.out hQ)⟩
theorem ha (i : Nat) (d : Option Tmp) (v : Value) (l' : Array Bool) (hv : ∀ w, S w → runAt P ops a w i = some (.ok (.value v) w)) (hS : S w) (h : AnyS P ops Q S n l' (a.put d v) w)
 (hf : freeAt' ops l i = true := by kernel_rfl) (hw : wantAt ops a i = some true := by kernel_rfl) (hd : dstAt ops i = some d := by kernel_rfl) (hl : l.setIfInBounds i true = l' := by kernel_rfl) : AnyS P ops Q S (n + 1) l a w := by
 cases ho : ops[i]? with
 | none => unfold dstAt at hd; rw [ho] at hd; cases hd
 | some o =>
   unfold dstAt at hd; unfold wantAt at hw; unfold runAt at hv;rw [ho] at hd hw; simp only [ho] at hv;have hd : o.dst = d := Option.some.inj hd;have hw : Region.wanted o (yielded ops a.tmps) = true := Option.some.inj hw;exact any_take ho hf (Or.inl ⟨hw, fun w hs => by have := hv w hs; injection this⟩) hS hl (by rw [hd]; exact h)
theorem hk_ (i : Nat) (d : Option Tmp) (l' : Array Bool) (hS : S w) (h : AnyS P ops Q S n l' (a.put d undef) w)
 (hf : freeAt' ops l i = true := by kernel_rfl) (hw : wantAt ops a i = some false := by kernel_rfl) (hd : dstAt ops i = some d := by kernel_rfl) (hl : l.setIfInBounds i true = l' := by kernel_rfl) : AnyS P ops Q S (n + 1) l a w := by
 cases ho : ops[i]? with
 | none => unfold dstAt at hd; rw [ho] at hd; cases hd
 | some o =>
   unfold dstAt at hd; unfold wantAt at hw;rw [ho] at hd hw;have hd : o.dst = d := Option.some.inj hd;have hw : Region.wanted o (yielded ops a.tmps) = false := Option.some.inj hw;exact any_take ho hf (Or.inr ⟨hw, rfl⟩) hS hl (by rw [hd]; exact h)
def ldAt (ops : Array Oper) (a : Act) (i : Nat) : Option (TypeId × Value) := (ops[i]?).bind fun o => ldOf a o.op
theorem ldAt_eq {i : Nat} {ty : TypeId} {v : Value} (h : ldAt ops a i = some (ty, v)) : ∃ o x, ops[i]? = some o ∧ o.op = .load ty x ∧ a.eval x = v := by
 unfold ldAt at h
 cases ho : ops[i]? with
 | none => rw [ho] at h; cases h
 | some o => rw [ho] at h; obtain ⟨x, h1, h2⟩ := ldOf_eq (show ldOf a o.op = some (ty, v) from h); exact ⟨o, x, rfl, h1, h2⟩
theorem hl_ (i : Nat) (d : Option Tmp) (v : Value) (p : Addr) (l' : Array Bool) (hc : ∀ w, S w → w.cell? p = some v) {ty : TypeId} {dd : TypeDesc} (hu : P.underlying ty = some dd) (hS : S w) (h : AnyS P ops Q S n l' (a.put d v) w)
 (hld : ldAt ops a i = some (ty, .pointer (some p)) := by kernel_rfl) (hdd : dd.isRow = false := by rfl)
 (hf : freeAt' ops l i = true := by kernel_rfl) (hw : wantAt ops a i = some true := by kernel_rfl) (hd : dstAt ops i = some d := by kernel_rfl) (hl : l.setIfInBounds i true = l' := by kernel_rfl) : AnyS P ops Q S (n + 1) l a w := by
 obtain ⟨o, x, ho, h1, h2⟩ := ldAt_eq hld;refine ha i d v l' (fun w hs => ?_) hS h hf hw hd hl;unfold runAt; rw [ho];exact congrArg some (run_load1 ty x h1 p h2 v dd (hc w hs) hu hdd)
theorem run_loadG {o : Oper} (ty : TypeId) (x : Operand) (ho : o.op = .load ty x) (b f : Nat) (hx : a.eval x = .pointer (some ⟨b, f, none⟩)) (cs : List Value) (dd : TypeDesc) (hc : w.rangeAt b f cs) (hu : P.underlying ty = some dd) (hd : dd.isRow = true)
 (hi : (P.info? ty).map (·.size) = some cs.length) : (execOp a.eval o).run P w = .ok (.value (.agg cs.toArray)) w := by
 unfold execOp;simp only [ho, hx, Instr.loadAt, Instr.sureAddr, Sem.run_bind, Sem.run_pure, Result.andThen_ok, run_loadVar_mid w b f ty cs dd hc hu hd hi]
theorem hg_ (i : Nat) (d : Option Tmp) (b f : Nat) (cs : List Value) (l' : Array Bool) (hc : ∀ w, S w → w.rangeAt b f cs) {ty : TypeId} {dd : TypeDesc} (hu : P.underlying ty = some dd) (hS : S w) (h : AnyS P ops Q S n l' (a.put d (.agg cs.toArray)) w)
 (hld : ldAt ops a i = some (ty, .pointer (some ⟨b, f, none⟩)) := by kernel_rfl) (hdd : dd.isRow = true := by rfl) (hi : (P.info? ty).map (·.size) = some cs.length := by kernel_rfl)
 (hf : freeAt' ops l i = true := by kernel_rfl) (hw : wantAt ops a i = some true := by kernel_rfl) (hd : dstAt ops i = some d := by kernel_rfl) (hl : l.setIfInBounds i true = l' := by kernel_rfl) : AnyS P ops Q S (n + 1) l a w := by
 obtain ⟨o, x, ho, h1, h2⟩ := ldAt_eq hld;refine ha i d _ l' (fun w hs => ?_) hS h hf hw hd hl;unfold runAt; rw [ho];exact congrArg some (run_loadG ty x h1 b f h2 cs dd (hc w hs) hu hdd hi)
theorem any1 (i : Nat) (h : StepS P ops Q S n l a w i) (hr : Region.ready .any ops l = [i] := by kernel_rfl) : AnyS P ops Q S (n + 1) l a w :=
 ⟨fun hQ => wpAnyH_all hr (by simp) fun j hj => by rw [List.mem_singleton.1 hj]; exact h.out hQ⟩
theorem any2 (i j : Nat) (h : StepS P ops Q S n l a w i) (g : StepS P ops Q S n l a w j) (hr : Region.ready .any ops l = [i, j] := by kernel_rfl) : AnyS P ops Q S (n + 1) l a w :=
 ⟨fun hQ => wpAnyH_all hr (by simp) fun k hk => by
  rcases List.mem_cons.1 hk with rfl | hk
  ·exact h.out hQ
  ·rw [List.mem_singleton.1 hk]; exact g.out hQ⟩
theorem st_o {i : Nat} {o : Oper} (ho : ops[i]? = some o) (hw : Region.wanted o (yielded ops a.tmps) = true) (hl : l.setIfInBounds i true = l')
 (h : ∀ K : Act → World → Prop, (∀ v w', S w' → AnyS P ops Q S n l' (a.put o.dst v) w' → K (a.put o.dst v) w') → Oper.wp P o a w K Q) : StepS P ops Q S n l a w i :=
 ⟨fun hQ => by
  unfold wpOp;simp only [ho, hw, if_true];refine Or.inl (h _ fun v w' hs hA => ⟨hs, ?_⟩)
  rw [hl]; exact hA.out hQ⟩
theorem st_w (i : Nat) (d : Option Tmp) (v : Value) (w' : World) (l' : Array Bool) (h : S w' ∧ AnyS P ops Q S n l' (a.put d v) w') (hv : runAt P ops a w i = some (.ok (.value v) w') := by kernel_rfl)
 (hw : wantAt ops a i = some true := by kernel_rfl) (hd : dstAt ops i = some d := by kernel_rfl) (hl : l.setIfInBounds i true = l' := by kernel_rfl) : StepS P ops Q S n l a w i := by
 cases ho : ops[i]? with
 | none => unfold dstAt at hd; rw [ho] at hd; cases hd
 | some o =>
   unfold dstAt at hd; unfold wantAt at hw; unfold runAt at hv;rw [ho] at hd hw hv;have hd : o.dst = d := Option.some.inj hd;have hw : Region.wanted o (yielded ops a.tmps) = true := Option.some.inj hw;have hv : (execOp a.eval o).run P w = .ok (.value v) w' := Option.some.inj hv;refine st_o ho hw hl fun K hK => ?_;unfold Oper.wp; rw [hv, Oper.upon_value];exact hK _ _ h.1 (by rw [hd]; exact h.2)
theorem st_s (i : Nat) (w' : World) (l' : Array Bool) (hv : runAt P ops a w i = some (.ok .skip w')) (h : S w' ∧ AnyS P ops Q S n l' a w')
 (hw : wantAt ops a i = some true := by kernel_rfl) (hd : dstAt ops i = some none := by kernel_rfl) (hl : l.setIfInBounds i true = l' := by kernel_rfl) : StepS P ops Q S n l a w i := by
 cases ho : ops[i]? with
 | none => unfold dstAt at hd; rw [ho] at hd; cases hd
 | some o =>
   unfold dstAt at hd; unfold wantAt at hw; unfold runAt at hv;rw [ho] at hd hw hv;have hd : o.dst = none := Option.some.inj hd;have hw : Region.wanted o (yielded ops a.tmps) = true := Option.some.inj hw;have hv : (execOp a.eval o).run P w = .ok .skip w' := Option.some.inj hv;refine st_o ho hw hl fun K hK => ?_;unfold Oper.wp; rw [hv, Oper.upon_skip];have := hK undef w' h.1 (by rw [hd]; exact h.2);exact this
def stAt (ops : Array Oper) (a : Act) (i : Nat) : Option (TypeId × Value × Value) := (ops[i]?).bind fun o => match o.op with
 | .store ty x y => some (ty, a.eval x, a.eval y)
 | _ => none
theorem st_c (i : Nat) (ty : TypeId) (b f : Nat) (v : Value) (cs : List Value) (l' : Array Bool) (ht : w.there b f cs.length) (hcs : v.cells = cs.toArray) (hi : (P.info? ty).map (·.size) = some cs.length) (h1 : ∀ v ∈ cs, v.oneCell' = true)
 (h : S (w.setCells b f cs) ∧ AnyS P ops Q S n l' a (w.setCells b f cs)) (hs : stAt ops a i = some (ty, .pointer (some ⟨b, f, none⟩), v) := by kernel_rfl)
 (hw : wantAt ops a i = some true := by kernel_rfl) (hd : dstAt ops i = some none := by kernel_rfl) (hl : l.setIfInBounds i true = l' := by kernel_rfl) : StepS P ops Q S n l a w i := by
 refine st_s i _ l' ?_ h hw hd hl;unfold stAt at hs;unfold runAt
 cases ho : ops[i]? with
 | none => rw [ho] at hs; cases hs
 | some o =>
   rw [ho] at hs
   have hs : (match o.op with | .store ty x y => some (ty, a.eval x, a.eval y) | _ => none) = some (ty, .pointer (some ⟨b, f, none⟩), v) := hs
   refine congrArg some ?_
   cases hp : o.op with
   | store ty' x y =>
     rw [hp] at hs;injection hs with hs; injection hs with e1 hs; injection hs with e2 e3;subst e1;unfold execOp;simp only [hp, e2, e3, Instr.storeAt, Instr.sureAddr, Sem.run_bind, Sem.run_pure, Result.andThen_ok, run_storeC ty' b f v cs hcs ht hi h1]
   | _ => rw [hp] at hs; cases hs
theorem st_l (i : Nat) (d : Option Tmp) (v : Value) (p : Addr) (l' : Array Bool) (hc : w.cell? p = some v) {ty : TypeId} {dd : TypeDesc} (hu : P.underlying ty = some dd) (hS : S w) (h : AnyS P ops Q S n l' (a.put d v) w)
 (hld : ldAt ops a i = some (ty, .pointer (some p)) := by kernel_rfl) (hdd : dd.isRow = false := by rfl)
 (hw : wantAt ops a i = some true := by kernel_rfl) (hd : dstAt ops i = some d := by kernel_rfl) (hl : l.setIfInBounds i true = l' := by kernel_rfl) : StepS P ops Q S n l a w i := by
 obtain ⟨o, x, ho, h1, h2⟩ := ldAt_eq hld;refine st_w i d v w l' ⟨hS, h⟩ ?_ hw hd hl;unfold runAt; rw [ho];exact congrArg some (run_load1 ty x h1 p h2 v dd hc hu hdd)
theorem runBin (v va vb : Value) (t : TypeId) {op : BinOp} {i : Nat} (hr : (binOp op t va vb).run P w = .ok v w) (hb : (ops[i]?).bind (fun o => binOf a o.op) = some (op, t, va, vb) := by kernel_rfl)
 (hg : (ops[i]?).map (fun o => (match o.op with | .binOp op t x y _ => (eqGuard op t x y (a.eval x) (a.eval y)).run P w | _ => .ok () w)) = some (.ok () w) := by kernel_rfl) : runAt P ops a w i = some (.ok (.value v) w) := by
 unfold runAt
 cases ho : ops[i]? with
 | none => rw [ho] at hb; cases hb
 | some o =>
   rw [ho] at hb hg;have hb : binOf a o.op = some (op, t, va, vb) := hb
   have hg : (match o.op with | .binOp op t x y _ => (eqGuard op t x y (a.eval x) (a.eval y)).run P w | _ => .ok () w) = .ok () w := by injection hg
   cases hp : o.op with
   | binOp op' t' x y t2 =>
     rw [hp] at hb hg;cases hb;exact congrArg some (run_bin op t t2 x y _ _ v hp rfl rfl hg hr)
   | _ => rw [hp] at hb; cases hb
theorem st_f (i : Nat) (d : Option Tmp) (f : FuncId) (args : Array Value) (l' : Array Bool) {R : Ending → World → Prop} (hc : Calls P f args w R) (h : ∀ e w', R e w' → ∃ v, e = .returned v ∧ S w' ∧ AnyS P ops Q S n l' (a.put d v) w')
 (he : runAt P ops a w i = some (.ok (.enter f args) w) := by kernel_rfl) (hw : wantAt ops a i = some true := by kernel_rfl) (hd : dstAt ops i = some d := by kernel_rfl) (hl : l.setIfInBounds i true = l' := by kernel_rfl) : StepS P ops Q S n l a w i := by
 cases ho : ops[i]? with
 | none => unfold dstAt at hd; rw [ho] at hd; cases hd
 | some o =>
   unfold dstAt at hd; unfold wantAt at hw; unfold runAt at he;rw [ho] at hd hw he;have hd : o.dst = d := Option.some.inj hd;have hw : Region.wanted o (yielded ops a.tmps) = true := Option.some.inj hw;have he : (execOp a.eval o).run P w = .ok (.enter f args) w := Option.some.inj he;refine st_o ho hw hl fun K hK => ?_;unfold Oper.wp; rw [he, Oper.upon_enter];refine hc.mono fun e w' hR => ?_;obtain ⟨v, rfl, hs, hv⟩ := h e w' hR;exact hK _ _ hs (by rw [hd]; exact hv)
theorem st_wS (i : Nat) (d : Option Tmp) (m : Nat) (ob : Obj) (l' : Array Bool) (h : ∀ g z, g = w.heap.size → Below w.heap.size w z → z.heap[g]? = some ob → S z ∧ AnyS P ops Q S n l' (a.put d (.slice (some ⟨g, 0, none⟩) m m)) z) (hv : runAt P ops a w i = some (.ok (.value (.slice (some ⟨w.heap.size, 0, none⟩) m m)) (w.alloc ob)) := by kernel_rfl)
 (hw : wantAt ops a i = some true := by kernel_rfl) (hd : dstAt ops i = some d := by kernel_rfl) (hl : l.setIfInBounds i true = l' := by kernel_rfl) : StepS P ops Q S n l a w i := st_w i d _ _ l' (h _ _ rfl (alB rfl) (alN rfl)) hv hw hd hl
theorem st_cN (i : Nat) (ty : TypeId) (b f : Nat) (v : Value) (cs new : List Value) (l' : Array Bool) {old : List Value} {t : TypeId} (hz : w.heap[b]? = some (.cells old.toArray t (0, 0))) (h : ∀ z, z = w.setCells b f cs → w.grownBy z (some b) → z.heap[b]? = some (.cells new.toArray t (0, 0)) → S z ∧ AnyS P ops Q S n l' a z)
 (hi : (P.info? ty).map (·.size) = some cs.length := by kernel_rfl) (hf : Nat.ble (f + cs.length) old.length = true := by kernel_rfl) (hn : putAt old f cs = new := by kernel_rfl) (hcs : v.cells = cs.toArray := by kernel_rfl) (h1 : cs.all (·.oneCell') = true := by kernel_rfl) (hs : stAt ops a i = some (ty, .pointer (some ⟨b, f, none⟩), v) := by kernel_rfl)
 (hw : wantAt ops a i = some true := by kernel_rfl) (hd : dstAt ops i = some none := by kernel_rfl) (hl : l.setIfInBounds i true = l' := by kernel_rfl) : StepS P ops Q S n l a w i :=
 st_c i ty b f v cs l' (rowThere hz (Nat.le_of_ble_eq_true hf)) hcs hi (allOf h1) (h _ rfl (stG rfl) (by rw [← hn]; exact stN rfl hz)) hs hw hd hl
theorem st_R (i : Nat) (d : Option Tmp) (l' : Array Bool) {f : FuncId} {args : Array Value} {v : Value} {R : World → Prop} (hc : Calls P f args w fun e w' => e = .returned v ∧ R w') (h : ∀ z, R z → S z ∧ AnyS P ops Q S n l' (a.put d v) z)
 (he : runAt P ops a w i = some (.ok (.enter f args) w) := by kernel_rfl) (hw : wantAt ops a i = some true := by kernel_rfl) (hd : dstAt ops i = some d := by kernel_rfl) (hl : l.setIfInBounds i true = l' := by kernel_rfl) : StepS P ops Q S n l a w i :=
 st_f i d f args l' hc (fun _ z q => ⟨v, q.1, h z q.2⟩) he hw hd hl
end
end
end Go.Proofs.YthclniimhpmeoaaGreatDoor
