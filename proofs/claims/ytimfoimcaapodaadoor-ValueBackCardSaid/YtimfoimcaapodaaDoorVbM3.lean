import Derived.Test.YtimfoimcaapodaaDoorVbM2
import Derived.LoopN
import Derived.Lib.OthersKept
set_option maxRecDepth 20001
set_option linter.unusedSimpArgs false
set_option linter.unusedVariables false
namespace Go.Proofs.YtimfoimcaapodaaDoor
set_option maxRecDepth 20000
section
section
variable {P : Program} {ops : Array Oper} {rest : List Oper} {o : Oper} {a : Act} {w : World} {Q : Exit → Act → World → Prop}
theorem wpList_v (v : Value) (hw : Region.wanted o (yielded ops a.tmps) = true) (hv : (execOp a.eval o).run P w = .ok (.value v) w) (h : wpList P ops Q rest (a.put o.dst v) w) : wpList P ops Q (o :: rest) a w :=
 wpList_step fun K hK => by rw [if_pos hw]; unfold Oper.wp; rw [hv, Oper.upon_value]; exact hK _ _ h
theorem run_load1 (ty : TypeId) (x : Operand) (ho : o.op = .load ty x) (p : Addr) (hx : a.eval x = .pointer (some p)) (v : Value) (d : TypeDesc) (hc : w.cell? p = some v)
 (hu : P.underlying ty = some d) (hd : d.isRow = false) : (execOp a.eval o).run P w = .ok (.value v) w := by
 have hagg : (isAgg ty).run P w = .ok false w := by
  unfold isAgg
  cases d <;> first | (simp [underlying, hu]; done) | (cases hd)
 unfold execOp;simp only [ho, hx, Instr.loadAt, Instr.sureAddr, Sem.run_bind, Sem.run_pure, Result.andThen_ok, loadVar, hagg, Bool.false_eq_true, if_false, run_load, hc]
theorem wpList_load1 (v : Value) (p : Addr) (ty : TypeId) (x : Operand) (d : TypeDesc) (hc : w.cell? p = some v) (hw : Region.wanted o (yielded ops a.tmps) = true) (ho : o.op = .load ty x) (hx : a.eval x = .pointer (some p))
 (hu : P.underlying ty = some d) (hd : d.isRow = false) (h : wpList P ops Q rest (a.put o.dst v) w) : wpList P ops Q (o :: rest) a w :=
 wpList_v v hw (run_load1 ty x ho p hx v d hc hu hd) h
theorem run_bin (op : BinOp) (t t2 : TypeId) (x y : Operand) (va vb v : Value) (ho : o.op = .binOp op t x y t2) (hx : a.eval x = va) (hy : a.eval y = vb)
 (hg : (eqGuard op t x y va vb).run P w = .ok () w) (h : (binOp op t va vb).run P w = .ok v w) : (execOp a.eval o).run P w = .ok (.value v) w := by
 unfold execOp;simp only [ho, hx, hy, Sem.run_bind, Sem.run_pure, Result.andThen_ok, hg, h]
theorem wpList_fcall (f : FuncId) (args : Array Value) {R : Ending → World → Prop} (hc : Calls P f args w R) (hw : Region.wanted o (yielded ops a.tmps) = true)
 (he : (execOp a.eval o).run P w = .ok (.enter f args) w) (h : ∀ e w', R e w' → ∃ v, e = .returned v ∧ wpList P ops Q rest (a.put o.dst v) w') : wpList P ops Q (o :: rest) a w :=
 wpList_step fun K hK => by
  rw [if_pos hw]; unfold Oper.wp; rw [he, Oper.upon_enter];refine hc.mono fun e w' hR => ?_;obtain ⟨v, rfl, hv⟩ := h e w' hR;exact hK _ _ hv
theorem wpList_w (v : Value) (w' : World) (hw : Region.wanted o (yielded ops a.tmps) = true) (hv : (execOp a.eval o).run P w = .ok (.value v) w') (h : wpList P ops Q rest (a.put o.dst v) w') : wpList P ops Q (o :: rest) a w :=
 wpList_step fun K hK => by rw [if_pos hw]; unfold Oper.wp; rw [hv, Oper.upon_value]; exact hK _ _ h
theorem wv (v : Value) (h : wpList P ops Q rest (a.put o.dst v) w) (hw : Region.wanted o (yielded ops a.tmps) = true := by kernel_rfl) (hv : (execOp a.eval o).run P w = .ok (.value v) w := by kernel_rfl) : wpList P ops Q (o :: rest) a w := wpList_v v hw hv h
theorem wq (v : Value) (hv : (execOp a.eval o).run P w = .ok (.value v) w) (h : wpList P ops Q rest (a.put o.dst v) w) (hw : Region.wanted o (yielded ops a.tmps) = true := by kernel_rfl) : wpList P ops Q (o :: rest) a w := wpList_v v hw hv h
theorem wk (h : wpList P ops Q rest (a.put o.dst undef) w) (hw : Region.wanted o (yielded ops a.tmps) = false := by kernel_rfl) : wpList P ops Q (o :: rest) a w := wpList_skip hw h
def ldOf (a : Act) : Op → Option (TypeId × Value)
 | .load ty x => some (ty, a.eval x)
 | _ => none
theorem ldOf_eq {op : Op} {ty : TypeId} {v : Value} (h : ldOf a op = some (ty, v)) : ∃ x, op = .load ty x ∧ a.eval x = v := by
 cases op <;> first | (cases h; exact ⟨_, rfl, rfl⟩) | cases h
theorem wl (v : Value) (p : Addr) (hc : w.cell? p = some v) {ty : TypeId} {d : TypeDesc} (hu : P.underlying ty = some d) (h : wpList P ops Q rest (a.put o.dst v) w) (hl : ldOf a o.op = some (ty, .pointer (some p)) := by kernel_rfl) (hd : d.isRow = false := by kernel_rfl) (hw : Region.wanted o (yielded ops a.tmps) = true := by kernel_rfl) : wpList P ops Q (o :: rest) a w := by
 obtain ⟨x, ho, hx⟩ := ldOf_eq hl;exact wpList_load1 v p ty x d hc hw ho hx hu hd h
theorem wg (b f : Nat) (cs : List Value) (hc : w.rangeAt b f cs) {ty : TypeId} {d : TypeDesc} (hu : P.underlying ty = some d) (h : wpList P ops Q rest (a.put o.dst (.agg cs.toArray)) w) (hl : ldOf a o.op = some (ty, .pointer (some ⟨b, f, none⟩)) := by kernel_rfl) (hi : (P.info? ty).map (·.size) = some cs.length := by kernel_rfl) (hd : d.isRow = true := by kernel_rfl) (hw : Region.wanted o (yielded ops a.tmps) = true := by kernel_rfl) : wpList P ops Q (o :: rest) a w := by
 obtain ⟨x, ho, hx⟩ := ldOf_eq hl;exact wpList_load_g hw ty x ho b f hx cs d hc hu hd hi h
def binOf (a : Act) : Op → Option (BinOp × TypeId × Value × Value)
 | .binOp op t x y _ => some (op, t, a.eval x, a.eval y)
 | _ => none
theorem wb (v va vb : Value) (t : TypeId) {op : BinOp} (hr : (binOp op t va vb).run P w = .ok v w) (h : wpList P ops Q rest (a.put o.dst v) w) (hb : binOf a o.op = some (op, t, va, vb) := by kernel_rfl) (hg : (match o.op with | .binOp op t x y _ => (eqGuard op t x y (a.eval x) (a.eval y)).run P w | _ => .ok () w) = .ok () w := by kernel_rfl)
 (hw : Region.wanted o (yielded ops a.tmps) = true := by kernel_rfl) : wpList P ops Q (o :: rest) a w := by
 refine wpList_v v hw ?_ h
 cases ho : o.op with
 | binOp op' t' x y t2 =>
   rw [ho] at hb hg;cases hb;exact run_bin op t t2 x y _ _ v ho rfl rfl hg hr
 | _ => rw [ho] at hb; cases hb
theorem wc (f : FuncId) (args : Array Value) {R : Ending → World → Prop} (hc : Calls P f args w R) (h : ∀ e w', R e w' → ∃ v, e = .returned v ∧ wpList P ops Q rest (a.put o.dst v) w') (hw : Region.wanted o (yielded ops a.tmps) = true := by kernel_rfl)
 (he : (execOp a.eval o).run P w = .ok (.enter f args) w := by kernel_rfl) : wpList P ops Q (o :: rest) a w := wpList_fcall f args hc hw he h
theorem run_storeC (ty : TypeId) (b f : Nat) (v : Value) (cs : List Value) (hcs : v.cells = cs.toArray) (ht : w.there b f cs.length) (hi : (P.info? ty).map (·.size) = some cs.length) (h1 : ∀ v ∈ cs, v.oneCell' = true) :
 (storeVar ty ⟨b, f, none⟩ v).run P w = .ok () (w.setCells b f cs) := by
 have := run_storeCells_cells (P := P) b f cs 0 w (fun j hj => by simpa using (ht j (by simpa using hj)).1) (fun j hj => by simpa using (ht j (by simpa using hj)).2) h1
 cases hq : P.info? ty with
 | none => simp [hq] at hi
 | some i =>
   (have hs : cs.length = i.size := by simp [hq] at hi; omega);simp only [Nat.add_zero] at this;simp [storeVar, sizeOf, typeInfo, hq, hs, hcs, this]
theorem wpList_storeC (ty : TypeId) (b f : Nat) (v : Value) (cs : List Value) (ht : w.there b f cs.length) (hcs : v.cells = cs.toArray) (hi : (P.info? ty).map (·.size) = some cs.length) (h1 : ∀ v ∈ cs, v.oneCell' = true)
 (x y : Operand) (hw : Region.wanted o (yielded ops a.tmps) = true) (ho : o.op = .store ty x y) (hx : a.eval x = .pointer (some ⟨b, f, none⟩)) (hy : a.eval y = v)
 (h : wpList P ops Q rest (a.put o.dst undef) (w.setCells b f cs)) : wpList P ops Q (o :: rest) a w :=
 wpList_step fun K hK => by
  rw [if_pos hw]; unfold Oper.wp execOp;simp only [ho, hx, hy, Instr.storeAt, Instr.sureAddr, Sem.run_bind, Sem.run_pure, Result.andThen_ok, run_storeC ty b f v cs hcs ht hi h1];exact hK _ _ h
theorem then_ret {K : Act → World → Prop} (h : Q .ret a w) : Exit.then K Q .ret a w := h
theorem then_exit {K : Act → World → Prop} {id : Nat} (h : Q (.exit id) a w) : Exit.then K Q (.exit id) a w := h
theorem inBlock_normal {id : Nat} (h : Q .normal a w) : Exit.inBlock id Q .normal a w := h
theorem inBlock_ret {id : Nat} (h : Q .ret a w) : Exit.inBlock id Q .ret a w := h
theorem inBlock_here {id : Nat} (h : Q .normal a w) : Exit.inBlock id Q (.exit id) a w := by unfold Exit.inBlock; simp only [if_true]; exact h
theorem all1 {v : Value} (h : v.oneCell' = true) : ∀ u ∈ [v], u.oneCell' = true := fun u hu => by rw [List.mem_singleton.1 hu]; exact h
theorem allOf {cs : List Value} (h : cs.all (·.oneCell') = true) : ∀ u ∈ cs, u.oneCell' = true := fun u hu => List.all_eq_true.1 h u hu
end
section
variable {P : Program} {w : World} {t : TypeId} {k : IntKind} {x y : Int} {b : Bool}
theorem run_eqlI (h : decide (x = y) = b) : (binOp .eql t (.int k x) (.int k y)).run P w = .ok (.bool b) w := by subst h; cases k <;> rfl
theorem run_neqI (h : decide (x = y) = b) : (binOp .neq t (.int k x) (.int k y)).run P w = .ok (.bool !b) w := by subst h; cases k <;> rfl
theorem run_lssI (h : decide (x < y) = b) : (binOp .lss t (.int k x) (.int k y)).run P w = .ok (.bool b) w := by subst h; cases k <;> rfl
theorem run_leqI (h : decide (x ≤ y) = b) : (binOp .leq t (.int k x) (.int k y)).run P w = .ok (.bool b) w := by subst h; cases k <;> rfl
theorem run_gtrI (h : decide (x > y) = b) : (binOp .gtr t (.int k x) (.int k y)).run P w = .ok (.bool b) w := by subst h; cases k <;> rfl
theorem run_geqI (h : decide (x ≥ y) = b) : (binOp .geq t (.int k x) (.int k y)).run P w = .ok (.bool b) w := by subst h; cases k <;> rfl
theorem run_seqB {s u : ByteArray} (h : (s.data.toList == u.data.toList) = b) : (binOp .eql t (.string s) (.string u)).run P w = .ok (.bool b) w := by
 subst h;show (Op.stringOp .eql s u).run P w = _;simp only [Op.stringOp, Lib.toList_data, Sem.run_pure]
theorem run_sneB {s u : ByteArray} (h : (s.data.toList == u.data.toList) = b) : (binOp .neq t (.string s) (.string u)).run P w = .ok (.bool !b) w := by
 subst h;show (Op.stringOp .neq s u).run P w = _;simp only [Op.stringOp, Lib.toList_data, Sem.run_pure]
theorem run_neOfEq {c1 c2 : Array Value} (h : (binOp .eql t (.agg c1) (.agg c2)).run P w = .ok (.bool b) w) : (binOp .neq t (.agg c1) (.agg c2)).run P w = .ok (.bool !b) w := by
 simp only [binOp, Sem.run_bind] at h ⊢
 cases hq : (Op.equal t (.agg c1) (.agg c2)).run P w with
 | ok r z => rw [hq] at h; simp only [Result.andThen_ok, Sem.run_pure] at h ⊢; cases h; rfl
 | _ => rw [hq] at h; cases h
end
open Go.RowKit
def slU : List Value → Nat → (Nat → Value) → List Value
 | l, 0, _ => l
 | [], _ + 1, _ => []
 | _ :: l, n + 1, u => u n :: slU l n u
def slL : List Value → Nat → Nat → (Nat → Value) → List Value
 | l, 0, n, u => slU l n u
 | [], _ + 1, _, _ => []
 | x :: l, i + 1, n, u => x :: slL l i n u
def slR : Act → List (Nat × Nat × Nat) → (Nat → Nat → Value) → Act
 | a, [], _ => a
 | a, (i, n, e) :: r, u => slR ⟨(slL a.tmps.toList i n (u e)).toArray, a.defers⟩ r u
def uOf (a : Act) (e k : Nat) : Value := a.tmps.getD (e - (k + 1)) undef
theorem fR : (∀ (l : List Value) (u : Nat → Value), slU l 0 u = l) ∧ (∀ (x : Value) (l : List Value) (n : Nat) (u : Nat → Value), slU (x :: l) (n + 1) u = u n :: slU l n u) ∧ (∀ (l : List Value) (n : Nat) (u : Nat → Value), slL l 0 n u = slU l n u) ∧
 (∀ (x : Value) (l : List Value) (i n : Nat) (u : Nat → Value), slL (x :: l) (i + 1) n u = x :: slL l i n u) ∧ (∀ (a : Act) (u : Nat → Nat → Value), slR a [] u = a) ∧ (∀ (l : List Value) (d : List Deferred) (i n e : Nat) (r : List (Nat × Nat × Nat)) (u : Nat → Nat → Value), slR ⟨l.toArray, d⟩ ((i, n, e) :: r) u = slR ⟨(slL l i n (u e)).toArray, d⟩ r u) :=
 ⟨fun _ _ => by unfold slU; rfl, fun _ _ _ _ => rfl, fun _ _ _ => by unfold slL; rfl, fun _ _ _ _ _ => rfl, fun _ _ => rfl, fun _ _ _ _ _ _ _ => rfl⟩
theorem nameA {P : Program} {Q : Exit → Act → World → Prop} {a : Act} {w : World} {c : Code} (h : ∀ A, A = a → c.wp P Q A w) : c.wp P Q a w := h a rfl
theorem jE {K : Act → World → Prop} {a A : Act} {R : List (Nat × Nat × Nat)} {z : World} (h : ∀ u, K (slR A R u) z) (e : a = slR A R (uOf a) := by kernel_rfl) : K a z := by rw [e]; exact h _
theorem exB (b : Bool) : ∃ d, b = d := ⟨b, rfl⟩
theorem dT {p : Prop} [Decidable p] (h : decide p = true) : p := of_decide_eq_true h
theorem dF {p : Prop} [Decidable p] (h : decide p = false) : ¬ p := of_decide_eq_false h
section
variable {P : Program} {ops : Array Oper} {rest : List Oper} {o : Oper} {a : Act} {w : World} {Q : Exit → Act → World → Prop}
theorem wwP (ob : Obj) (h : ∀ g z, g = w.heap.size → Below w.heap.size w z → z.heap[g]? = some ob → wpList P ops Q rest (a.put o.dst (.pointer (some ⟨g, 0, none⟩))) z) (hw : Region.wanted o (yielded ops a.tmps) = true := by kernel_rfl)
 (hv : (execOp a.eval o).run P w = .ok (.value (.pointer (some ⟨w.heap.size, 0, none⟩))) (w.alloc ob) := by kernel_rfl) : wpList P ops Q (o :: rest) a w := wpList_w _ _ hw hv (h _ _ rfl (alB rfl) (alN rfl))
theorem wcR {f : FuncId} {args : Array Value} {v : Value} {R : World → Prop} (hc : Calls P f args w fun e w' => e = .returned v ∧ R w') (h : ∀ z, R z → wpList P ops Q rest (a.put o.dst v) z) (hw : Region.wanted o (yielded ops a.tmps) = true := by kernel_rfl)
 (he : (execOp a.eval o).run P w = .ok (.enter f args) w := by kernel_rfl) : wpList P ops Q (o :: rest) a w := wpList_fcall f args hc hw he fun _ z q => ⟨v, q.1, h z q.2⟩
theorem wcS {f : FuncId} {args : Array Value} {v : Value} (hc : Calls P f args w fun e w' => e = .returned v ∧ w = w') (h : wpList P ops Q rest (a.put o.dst v) w) (hw : Region.wanted o (yielded ops a.tmps) = true := by kernel_rfl)
 (he : (execOp a.eval o).run P w = .ok (.enter f args) w := by kernel_rfl) : wpList P ops Q (o :: rest) a w := wpList_fcall f args hc hw he fun _ z q => ⟨v, q.1, q.2 ▸ h⟩
def stOf (a : Act) : Op → Option (TypeId × Value × Value)
 | .store ty x y => some (ty, a.eval x, a.eval y)
 | _ => none
theorem stOf_eq {op : Op} {ty : TypeId} {v u : Value} (h : stOf a op = some (ty, v, u)) : ∃ x y, op = .store ty x y ∧ a.eval x = v ∧ a.eval y = u := by
 cases op <;> first | (cases h; exact ⟨_, _, rfl, rfl, rfl⟩) | cases h
theorem wsC (ty : TypeId) (b f : Nat) (v : Value) (cs new : List Value) {old : List Value} {t : TypeId} (hz : w.heap[b]? = some (.cells old.toArray t (0, 0))) (h : ∀ z, z = w.setCells b f cs → w.grownBy z (some b) → z.heap[b]? = some (.cells new.toArray t (0, 0)) → wpList P ops Q rest a z)
 (hi : (P.info? ty).map (·.size) = some cs.length := by kernel_rfl) (hf : Nat.ble (f + cs.length) old.length = true := by kernel_rfl) (hn : putAt old f cs = new := by kernel_rfl) (hcs : v.cells = cs.toArray := by kernel_rfl) (h1 : cs.all (·.oneCell') = true := by kernel_rfl)
 (hs : stOf a o.op = some (ty, .pointer (some ⟨b, f, none⟩), v) := by kernel_rfl) (hw : Region.wanted o (yielded ops a.tmps) = true := by kernel_rfl) (hd : o.dst = none := by kernel_rfl) : wpList P ops Q (o :: rest) a w := by
 obtain ⟨x, y, ho, hx, hy⟩ := stOf_eq hs;refine wpList_storeC ty b f v cs (rowThere hz (Nat.le_of_ble_eq_true hf)) hcs hi (allOf h1) x y hw ho hx hy ?_;rw [hd];exact h _ rfl (stG rfl) (by rw [← hn]; exact stN rfl hz)
theorem wsR (ty : TypeId) (g : Nat) (cells : Array Value) {old : Array Value} {t : TypeId} (hz : w.heap[g]? = some (.cells old t (0, 0))) (h : ∀ z, z = w.setRow g cells → w.grownBy z (some g) → z.heap[g]? = some (.cells cells t (0, 0)) → wpList P ops Q rest a z)
 (hi : (P.info? ty).map (·.size) = some cells.size := by kernel_rfl) (h1 : cells.all (·.oneCell') = true := by kernel_rfl) (hold : old.size = cells.size := by kernel_rfl) (hs : stOf a o.op = some (ty, .pointer (some ⟨g, 0, none⟩), .agg cells) := by kernel_rfl) (hw : o.guard = none := by kernel_rfl) (hd : o.dst = none := by kernel_rfl) : wpList P ops Q (o :: rest) a w := by
 obtain ⟨x, y, ho, hx, hy⟩ := stOf_eq hs;refine wpList_store_row hw ty x y ho g cells hx hy t old hz hi hold h1 ?_;rw [hd];exact h _ rfl (rwG rfl) (rwN rfl hz)
end
end
section
section
variable {P : Program} {ops : Array Oper} {rest : List Oper} {o : Oper} {a : Act} {w : World} {Q : Exit → Act → World → Prop}
theorem wp_loop_st {c : Code} (N : Nat) (St : Nat → Act → World → Prop) (k0 : Nat) (hk : k0 ≤ N) (h0 : St k0 a w)
 (round : ∀ k a w, k ≤ N → St k a w → c.wp P (Exit.then (fun a' w' => k < N ∧ St (k + 1) a' w') Q) a w) : (Code.loop c).wp P Q a w := by
 have key : ∀ n k a w, n = N - k → k ≤ N → St k a w → Code.rounds P c Q (n + 1) a w := by
  intro n
  induction n with
  | zero =>
    intro k a w hn hk hs;rw [rounds_succ];refine Code.wp_mono (fun e a w q => ?_) (round k a w hk hs)
    cases e with
    | normal => exact absurd q.1 (by omega)
    | _ => exact q
  | succ n ih =>
    intro k a w hn hk hs;rw [rounds_succ];refine Code.wp_mono (fun e a w q => ?_) (round k a w hk hs)
    cases e with
    | normal => exact ih (k + 1) a w (by omega) q.1 q.2
    | _ => exact q
 exact wp_loop_rounds _ (key (N - k0) k0 a w rfl hk h0)
theorem then_normal {K : Act → World → Prop} (h : K a w) : Exit.then K Q .normal a w := h
theorem wp_loop_sv {c : Code} (N : Nat) (St : Nat → (Nat → Nat → Value) → Act → World → Prop) (k0 : Nat) (hk : k0 ≤ N) (h0 : St k0 (uOf a) a w)
 (round : ∀ k u a w, k ≤ N → St k u a w → c.wp P (Exit.then (fun a' w' => k < N ∧ St (k + 1) (uOf a') a' w') Q) a w) : (Code.loop c).wp P Q a w :=
 wp_loop_st N (fun k a w => St k (uOf a) a w) k0 hk h0 fun k a w hk h => round k _ a w hk h
end
end
end Go.Proofs.YtimfoimcaapodaaDoor
