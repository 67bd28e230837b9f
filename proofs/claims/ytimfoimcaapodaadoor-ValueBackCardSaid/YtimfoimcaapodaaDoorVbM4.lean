import Derived.Test.YtimfoimcaapodaaDoorVbM3
set_option maxRecDepth 20001
set_option linter.unusedSimpArgs false
set_option linter.unusedVariables false
namespace Go.Proofs.YtimfoimcaapodaaDoor
set_option maxRecDepth 20000
section
open Go.RowKit
section
def PanicOk (Q : Exit → Act → World → Prop) : Prop := ∀ c a d v w, Q (.panic c) (Act.put a d v) w → Q (.panic c) a w
structure AnyS (P : Program) (ops : Array Oper) (Q : Exit → Act → World → Prop) (S : World → Prop) (n : Nat) (l : Array Bool) (a : Act) (w : World) : Prop where
 out : PanicOk Q → wpAnyH P .any ops Q S n l a w
structure StepS (P : Program) (ops : Array Oper) (Q : Exit → Act → World → Prop) (S : World → Prop) (n : Nat) (l : Array Bool) (a : Act) (w : World) (i : Nat) : Prop where
 out : PanicOk Q → wpOp P ops Q i (fun a' w' => S w' ∧ wpAnyH P .any ops Q S n (l.setIfInBounds i true) a' w') a w
theorem okIntP {k : IntKind} {x v : Int} {m : Result Next} {w : World} (he : x = v) (h : m = .ok (.value (.int k x)) w) : m = .ok (.value (.int k v)) w := he ▸ h
variable {P : Program} {ops : Array Oper} {Q : Exit → Act → World → Prop} {S : World → Prop} {n : Nat} {l l' : Array Bool} {a : Act} {w : World}
def bmL : Nat → Nat → List Bool
 | 0, _ => []
 | n + 1, m => Nat.beq (m % 2) 1 :: bmL n (m / 2)
def bm (n m : Nat) : Array Bool := (bmL n m).toArray
def runAt (P : Program) (ops : Array Oper) (a : Act) (w : World) (i : Nat) : Option (Result Next) := (ops[i]?).map fun o => (execOp a.eval o).run P w
def wantAt (ops : Array Oper) (a : Act) (i : Nat) : Option Bool := (ops[i]?).map fun o => Region.wanted o (yielded ops a.tmps)
def dstAt (ops : Array Oper) (i : Nat) : Option (Option Tmp) := (ops[i]?).map (·.dst)
def freeAt' (ops : Array Oper) (l : Array Bool) (i : Nat) : Bool := Region.noSelect ops && Region.free .any ops l i && (Region.ready .any ops l).contains i
theorem any_begin {id : Nat} (S : World → Prop) (n : Nat) (l : Array Bool) (hS : S w.drew) (hQ : PanicOk Q) (h : AnyS P ops Q S n l a w.drew) (hm : P.follows .mixedOrders = true := by kernel_rfl)
 (hn : ops.size = n := by kernel_rfl) (hl : Array.replicate n false = l := by kernel_rfl) : (Code.region id ops true).wp P Q a w :=
 wp_region_held_drew hm hS fun _ => by rw [hn, hl]; exact h.out hQ
theorem any_end (h : Q .normal a w) (hr : Region.ready .any ops l = [] := by kernel_rfl) : AnyS P ops Q S n l a w := ⟨fun _ => wpAnyH_done hr h n⟩
theorem any_take {o : Oper} {v : Value} {i : Nat} (hi : ops[i]? = some o) (hf : freeAt' ops l i = true) (hy : YieldsIf P ops S o v a) (hS : S w) (hl : l.setIfInBounds i true = l') (h : AnyS P ops Q S n l' (a.put o.dst v) w) : AnyS P ops Q S (n + 1) l a w := by
 unfold freeAt' at hf;simp only [Bool.and_eq_true] at hf;exact ⟨fun hQ => wpAnyH_take hi hf.1.1 hf.1.2 hf.2 (fun c _ w hq => hQ c _ _ _ w hq) hy hS (by rw [hl]; exact h.out hQ)⟩
theorem ha (i : Nat) (d : Option Tmp) (v : Value) (l' : Array Bool) (hv : ∀ w, S w → runAt P ops a w i = some (.ok (.value v) w)) (hS : S w) (h : AnyS P ops Q S n l' (a.put d v) w)
 (hf : freeAt' ops l i = true := by kernel_rfl) (hw : wantAt ops a i = some true := by kernel_rfl) (hd : dstAt ops i = some d := by kernel_rfl) (hl : l.setIfInBounds i true = l' := by kernel_rfl) : AnyS P ops Q S (n + 1) l a w := by
 cases ho : ops[i]? with
 | none => unfold dstAt at hd; rw [ho] at hd; cases hd
 | some o =>
   unfold dstAt at hd; unfold wantAt at hw; unfold runAt at hv;rw [ho] at hd hw; simp only [ho] at hv;have hd : o.dst = d := Option.some.inj hd;have hw : Region.wanted o (yielded ops a.tmps) = true := Option.some.inj hw;exact any_take ho hf (Or.inl ⟨hw, fun w hs => by have := hv w hs; injection this⟩) hS hl (by rw [hd]; exact h)
def ldAt (ops : Array Oper) (a : Act) (i : Nat) : Option (TypeId × Value) := (ops[i]?).bind fun o => ldOf a o.op
theorem ldAt_eq {i : Nat} {ty : TypeId} {v : Value} (h : ldAt ops a i = some (ty, v)) : ∃ o x, ops[i]? = some o ∧ o.op = .load ty x ∧ a.eval x = v := by
 unfold ldAt at h
 cases ho : ops[i]? with
 | none => rw [ho] at h; cases h
 | some o => rw [ho] at h; obtain ⟨x, h1, h2⟩ := ldOf_eq (show ldOf a o.op = some (ty, v) from h); exact ⟨o, x, rfl, h1, h2⟩
theorem hl_ (i : Nat) (d : Option Tmp) (v : Value) (p : Addr) (l' : Array Bool) (hc : ∀ w, S w → w.cell? p = some v) {ty : TypeId} {dd : TypeDesc} (hu : P.underlying ty = some dd) (hS : S w) (h : AnyS P ops Q S n l' (a.put d v) w)
 (hld : ldAt ops a i = some (ty, .pointer (some p)) := by kernel_rfl) (hdd : dd.isRow = false := by rfl)
 (hf : freeAt' ops l i = true := by kernel_rfl) (hw : wantAt ops a i = some true := by kernel_rfl) (hd : dstAt ops i = some d := by kernel_rfl) (hl : l.setIfInBounds i true = l' := by kernel_rfl) : AnyS P ops Q S (n + 1) l a w := by
 obtain ⟨o, x, ho, h1, h2⟩ := ldAt_eq hld;refine ha i d v l' (fun w hs => ?_) hS h hf hw hd hl;unfold runAt; rw [ho];exact congrArg some (run_load1 ty x h1 p h2 v dd (hc w hs) hu hdd)
theorem run_loadG {o : Oper} (ty : TypeId) (x : Operand) (ho : o.op = .load ty x) (b f : Nat) (hx : a.eval x = .pointer (some ⟨b, f, none⟩)) (cs : List Value) (dd : TypeDesc) (hc : w.rangeAt b f cs) (hu : P.underlying ty = some dd) (hd : dd.isRow = true)
 (hi : (P.info? ty).map (·.size) = some cs.length) : (execOp a.eval o).run P w = .ok (.value (.agg cs.toArray)) w := by
 unfold execOp;simp only [ho, hx, Instr.loadAt, Instr.sureAddr, Sem.run_bind, Sem.run_pure, Result.andThen_ok, run_loadVar_mid w b f ty cs dd hc hu hd hi]
theorem hg_ (i : Nat) (d : Option Tmp) (b f : Nat) (cs : List Value) (l' : Array Bool) (hc : ∀ w, S w → w.rangeAt b f cs) {ty : TypeId} {dd : TypeDesc} (hu : P.underlying ty = some dd) (hS : S w) (h : AnyS P ops Q S n l' (a.put d (.agg cs.toArray)) w)
 (hld : ldAt ops a i = some (ty, .pointer (some ⟨b, f, none⟩)) := by kernel_rfl) (hdd : dd.isRow = true := by rfl) (hi : (P.info? ty).map (·.size) = some cs.length := by kernel_rfl)
 (hf : freeAt' ops l i = true := by kernel_rfl) (hw : wantAt ops a i = some true := by kernel_rfl) (hd : dstAt ops i = some d := by kernel_rfl) (hl : l.setIfInBounds i true = l' := by kernel_rfl) : AnyS P ops Q S (n + 1) l a w := by
 obtain ⟨o, x, ho, h1, h2⟩ := ldAt_eq hld;refine ha i d _ l' (fun w hs => ?_) hS h hf hw hd hl;unfold runAt; rw [ho];exact congrArg some (run_loadG ty x h1 b f h2 cs dd (hc w hs) hu hdd hi)
theorem any1 (i : Nat) (h : StepS P ops Q S n l a w i) (hr : Region.ready .any ops l = [i] := by kernel_rfl) : AnyS P ops Q S (n + 1) l a w :=
 ⟨fun hQ => wpAnyH_all hr (by simp) fun j hj => by rw [List.mem_singleton.1 hj]; exact h.out hQ⟩
theorem st_o {i : Nat} {o : Oper} (ho : ops[i]? = some o) (hw : Region.wanted o (yielded ops a.tmps) = true) (hl : l.setIfInBounds i true = l')
 (h : ∀ K : Act → World → Prop, (∀ v w', S w' → AnyS P ops Q S n l' (a.put o.dst v) w' → K (a.put o.dst v) w') → Oper.wp P o a w K Q) : StepS P ops Q S n l a w i :=
 ⟨fun hQ => by
  unfold wpOp;simp only [ho, hw, if_true];refine Or.inl (h _ fun v w' hs hA => ⟨hs, ?_⟩)
  rw [hl]; exact hA.out hQ⟩
theorem st_w (i : Nat) (d : Option Tmp) (v : Value) (w' : World) (l' : Array Bool) (h : S w' ∧ AnyS P ops Q S n l' (a.put d v) w') (hv : runAt P ops a w i = some (.ok (.value v) w') := by kernel_rfl)
 (hw : wantAt ops a i = some true := by kernel_rfl) (hd : dstAt ops i = some d := by kernel_rfl) (hl : l.setIfInBounds i true = l' := by kernel_rfl) : StepS P ops Q S n l a w i := by
 cases ho : ops[i]? with
 | none => unfold dstAt at hd; rw [ho] at hd; cases hd
 | some o =>
   unfold dstAt at hd; unfold wantAt at hw; unfold runAt at hv;rw [ho] at hd hw hv;have hd : o.dst = d := Option.some.inj hd;have hw : Region.wanted o (yielded ops a.tmps) = true := Option.some.inj hw;have hv : (execOp a.eval o).run P w = .ok (.value v) w' := Option.some.inj hv;refine st_o ho hw hl fun K hK => ?_;unfold Oper.wp; rw [hv, Oper.upon_value];exact hK _ _ h.1 (by rw [hd]; exact h.2)
theorem runBin (v va vb : Value) (t : TypeId) {op : BinOp} {i : Nat} (hr : (binOp op t va vb).run P w = .ok v w) (hb : (ops[i]?).bind (fun o => binOf a o.op) = some (op, t, va, vb) := by kernel_rfl)
 (hg : (ops[i]?).map (fun o => (match o.op with | .binOp op t x y _ => (eqGuard op t x y (a.eval x) (a.eval y)).run P w | _ => .ok () w)) = some (.ok () w) := by kernel_rfl) : runAt P ops a w i = some (.ok (.value v) w) := by
 unfold runAt
 cases ho : ops[i]? with
 | none => rw [ho] at hb; cases hb
 | some o =>
   rw [ho] at hb hg;have hb : binOf a o.op = some (op, t, va, vb) := hb
   have hg : (match o.op with | .binOp op t x y _ => (eqGuard op t x y (a.eval x) (a.eval y)).run P w | _ => .ok () w) = .ok () w := by injection hg
   cases hp : o.op with
   | binOp op' t' x y t2 =>
     rw [hp] at hb hg;cases hb;exact congrArg some (run_bin op t t2 x y _ _ v hp rfl rfl hg hr)
   | _ => rw [hp] at hb; cases hb
theorem st_f (i : Nat) (d : Option Tmp) (f : FuncId) (args : Array Value) (l' : Array Bool) {R : Ending → World → Prop} (hc : Calls P f args w R) (h : ∀ e w', R e w' → ∃ v, e = .returned v ∧ S w' ∧ AnyS P ops Q S n l' (a.put d v) w')
 (he : runAt P ops a w i = some (.ok (.enter f args) w) := by kernel_rfl) (hw : wantAt ops a i = some true := by kernel_rfl) (hd : dstAt ops i = some d := by kernel_rfl) (hl : l.setIfInBounds i true = l' := by kernel_rfl) : StepS P ops Q S n l a w i := by
 cases ho : ops[i]? with
 | none => unfold dstAt at hd; rw [ho] at hd; cases hd
 | some o =>
   unfold dstAt at hd; unfold wantAt at hw; unfold runAt at he;rw [ho] at hd hw he;have hd : o.dst = d := Option.some.inj hd;have hw : Region.wanted o (yielded ops a.tmps) = true := Option.some.inj hw;have he : (execOp a.eval o).run P w = .ok (.enter f args) w := Option.some.inj he;refine st_o ho hw hl fun K hK => ?_;unfold Oper.wp; rw [he, Oper.upon_enter];refine hc.mono fun e w' hR => ?_;obtain ⟨v, rfl, hs, hv⟩ := h e w' hR;exact hK _ _ hs (by rw [hd]; exact hv)
theorem st_wP (i : Nat) (d : Option Tmp) (ob : Obj) (l' : Array Bool) (h : ∀ g z, g = w.heap.size → Below w.heap.size w z → z.heap[g]? = some ob → S z ∧ AnyS P ops Q S n l' (a.put d (.pointer (some ⟨g, 0, none⟩))) z) (hv : runAt P ops a w i = some (.ok (.value (.pointer (some ⟨w.heap.size, 0, none⟩))) (w.alloc ob)) := by kernel_rfl)
 (hw : wantAt ops a i = some true := by kernel_rfl) (hd : dstAt ops i = some d := by kernel_rfl) (hl : l.setIfInBounds i true = l' := by kernel_rfl) : StepS P ops Q S n l a w i := st_w i d _ _ l' (h _ _ rfl (alB rfl) (alN rfl)) hv hw hd hl
theorem st_R (i : Nat) (d : Option Tmp) (l' : Array Bool) {f : FuncId} {args : Array Value} {v : Value} {R : World → Prop} (hc : Calls P f args w fun e w' => e = .returned v ∧ R w') (h : ∀ z, R z → S z ∧ AnyS P ops Q S n l' (a.put d v) z)
 (he : runAt P ops a w i = some (.ok (.enter f args) w) := by kernel_rfl) (hw : wantAt ops a i = some true := by kernel_rfl) (hd : dstAt ops i = some d := by kernel_rfl) (hl : l.setIfInBounds i true = l' := by kernel_rfl) : StepS P ops Q S n l a w i :=
 st_f i d f args l' hc (fun _ z q => ⟨v, q.1, h z q.2⟩) he hw hd hl
end
end
section
theorem run_ix {P : Program} {w : World} (t e : TypeId) (b off len cap sz : Nat) (k : IntKind) (i : Nat) (ht : P.underlying t = some (.slice e)) (hs : (sizeOf e).run P w = .ok sz w) (hi : i < len) :
 (Instr.indexAt t (.slice (some ⟨b, off, none⟩) len cap) (.int k (i : Int))).run P w = .ok (.pointer (some ⟨b, off + i * sz, none⟩)) w := by
 (have h1 : (0 : Int) ≤ (i : Int) ∧ (i : Int) < (len : Int) := by omega);simp only [Instr.indexAt, asIntOf, Sem.run_bind, Sem.run_pure, Result.andThen_ok, run_underlying ht, h1, and_self, if_true, hs, Int.toNat_natCast, Addr.add_lit]
theorem exec_ix {P : Program} {a : Act} {o : Oper} {w : World} (x ix : Operand) {t e : TypeId} {b off len cap : Nat} (sz : Nat) {k : IntKind} {i : Nat} (ho : o.op = .indexAddr t x ix) (hx : a.eval x = .slice (some ⟨b, off, none⟩) len cap) (hi : a.eval ix = .int k (i : Int))
 (ht : P.underlying t = some (.slice e)) (hlt : i < len) (hs : (sizeOf e).run P w = .ok sz w := by kernel_rfl) : (execOp a.eval o).run P w = .ok (.value (.pointer (some ⟨b, off + i * sz, none⟩))) w := by
 unfold execOp;simp only [ho, hx, hi, Sem.run_bind, Sem.run_pure, Result.andThen_ok, run_ix t e b off len cap sz k i ht hs hlt]
theorem exec_ix1 {P : Program} {a : Act} {o : Oper} {w : World} (x ix : Operand) {t e : TypeId} {b len cap : Nat} {k : IntKind} {i : Nat} (ho : o.op = .indexAddr t x ix) (hx : a.eval x = .slice (some ⟨b, 0, none⟩) len cap) (hi : a.eval ix = .int k (i : Int))
 (ht : P.underlying t = some (.slice e)) (hlt : i < len) (hs : (sizeOf e).run P w = .ok 1 w := by kernel_rfl) : (execOp a.eval o).run P w = .ok (.value (.pointer (some ⟨b, i, none⟩))) w := by
 have := exec_ix (P := P) (a := a) (o := o) (w := w) x ix (t := t) (e := e) (b := b) (off := 0) (len := len) (cap := cap) 1 (k := k) (i := i) ho hx hi ht hlt hs
 rwa [Nat.mul_one, Nat.zero_add] at this
theorem runAt_of {P : Program} {ops : Array Oper} {a : Act} {w : World} {i : Nat} {o : Oper} {r : Result Next} (ho : ops[i]? = some o) (h : (execOp a.eval o).run P w = r) : runAt P ops a w i = some r := by unfold runAt; rw [ho]; exact congrArg some h
end
end Go.Proofs.YtimfoimcaapodaaDoor
