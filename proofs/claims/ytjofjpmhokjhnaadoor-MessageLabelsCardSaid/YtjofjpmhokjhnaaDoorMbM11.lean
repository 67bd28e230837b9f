/- Appends of bytes that lie behind bytes that are owned, in plain regions and in those that draw. Conditions: sizes. -/
import Derived.Test.YtjofjpmhokjhnaaDoorMbM2
import Derived.Deep.RegionHeld
import Derived.Test.YtjofjpmhokjhnaaDoorMbM10
namespace Go.Proofs.YtjofjpmhokjhnaaDoor
set_option maxRecDepth 20000
set_option linter.unusedSimpArgs false
set_option linter.unusedVariables false
section
/-- a loop of at most N rounds more than k0; what the slots hold that nobody names is told by one letter u -/
theorem wp_loop_su {P : Program} {Q : Exit → Act → World → Prop} {a : Act} {w : World} {c : Code} (N : Nat) (St : Nat → (Nat → Value) → Act → World → Prop) (k0 : Nat) (hk : k0 ≤ N) (h0 : St k0 (fun i => a.tmps.getD i undef) a w)
    (round : ∀ k u a w, k ≤ N → St k u a w → c.wp P (Exit.then (fun a' w' => k < N ∧ St (k + 1) (fun i => a'.tmps.getD i undef) a' w') Q) a w) : (Code.loop c).wp P Q a w :=
  wp_loop_st N (fun k a w => St k (fun i => a.tmps.getD i undef) a w) k0 hk h0 fun k a w hk h => round k _ a w hk h
/-- what a region's end says of a panic does not hang on the slots -/
def PanicOk (Q : Exit → Act → World → Prop) : Prop := ∀ c a d v w, Q (.panic c) (Act.put a d v) w → Q (.panic c) a w
/-- whatever order is picked, S holds all along, and the end is Q -/
structure AnyS (P : Program) (ops : Array Oper) (Q : Exit → Act → World → Prop) (S : World → Prop) (n : Nat) (l : Array Bool) (a : Act) (w : World) : Prop where
  out : PanicOk Q → wpAnyH P .any ops Q S n l a w
/-- operation i comes up now, and whatever order is picked behind it -/
structure StepS (P : Program) (ops : Array Oper) (Q : Exit → Act → World → Prop) (S : World → Prop) (n : Nat) (l : Array Bool) (a : Act) (w : World) (i : Nat) : Prop where
  out : PanicOk Q → wpOp P ops Q i (fun a' w' => S w' ∧ wpAnyH P .any ops Q S n (l.setIfInBounds i true) a' w') a w
theorem okIntA {k : IntKind} {x v : Int} {m : Option (Result Next)} {w : World} (he : x = v) (h : m = some (.ok (.value (.int k x)) w)) : m = some (.ok (.value (.int k v)) w) := he ▸ h
theorem okIntP {k : IntKind} {x v : Int} {m : Result Next} {w : World} (he : x = v) (h : m = .ok (.value (.int k x)) w) : m = .ok (.value (.int k v)) w := he ▸ h
variable {P : Program} {ops : Array Oper} {Q : Exit → Act → World → Prop} {S : World → Prop} {n : Nat} {l l' : Array Bool} {a : Act} {w : World}
def runAt (P : Program) (ops : Array Oper) (a : Act) (w : World) (i : Nat) : Option (Result Next) := (ops[i]?).map fun o => (execOp a.eval o).run P w
def wantAt (ops : Array Oper) (a : Act) (i : Nat) : Option Bool := (ops[i]?).map fun o => Region.wanted o (yielded ops a.tmps)
def dstAt (ops : Array Oper) (i : Nat) : Option (Option Tmp) := (ops[i]?).map (·.dst)
def freeAt' (ops : Array Oper) (l : Array Bool) (i : Nat) : Bool := Region.noSelect ops && Region.free .any ops l i && (Region.ready .any ops l).contains i
theorem any_begin {id : Nat} (S : World → Prop) (n : Nat) (l : Array Bool) (hS : S w.drew) (hQ : PanicOk Q) (h : AnyS P ops Q S n l a w.drew) (hm : P.follows .mixedOrders = true := by kernel_rfl)
    (hn : ops.size = n := by kernel_rfl) (hl : Array.replicate n false = l := by kernel_rfl) : (Code.region id ops true).wp P Q a w :=
  wp_region_held_drew hm hS fun _ => by rw [hn, hl]; exact h.out hQ
theorem any_end (h : Q .normal a w) (hr : Region.ready .any ops l = [] := by kernel_rfl) : AnyS P ops Q S n l a w := ⟨fun _ => wpAnyH_done hr h n⟩
theorem any_take {o : Oper} {v : Value} {i : Nat} (hi : ops[i]? = some o) (hf : freeAt' ops l i = true) (hy : YieldsIf P ops S o v a) (hS : S w) (hl : l.setIfInBounds i true = l') (h : AnyS P ops Q S n l' (a.put o.dst v) w) : AnyS P ops Q S (n + 1) l a w := by
  unfold freeAt' at hf
  simp only [Bool.and_eq_true] at hf
  exact ⟨fun hQ => wpAnyH_take hi hf.1.1 hf.1.2 hf.2 (fun c _ w hq => hQ c _ _ _ w hq) hy hS (by rw [hl]; exact h.out hQ)⟩
/-- an operation that yields a value wherever S holds -/
theorem ha (i : Nat) (d : Option Tmp) (v : Value) (l' : Array Bool) (hv : ∀ w, S w → runAt P ops a w i = some (.ok (.value v) w)) (hS : S w) (h : AnyS P ops Q S n l' (a.put d v) w)
    (hf : freeAt' ops l i = true := by kernel_rfl) (hw : wantAt ops a i = some true := by kernel_rfl) (hd : dstAt ops i = some d := by kernel_rfl) (hl : l.setIfInBounds i true = l' := by kernel_rfl) : AnyS P ops Q S (n + 1) l a w := by
  cases ho : ops[i]? with
  | none => unfold dstAt at hd; rw [ho] at hd; cases hd
  | some o =>
    unfold dstAt at hd; unfold wantAt at hw; unfold runAt at hv
    rw [ho] at hd hw; simp only [ho] at hv
    have hd : o.dst = d := Option.some.inj hd
    have hw : Region.wanted o (yielded ops a.tmps) = true := Option.some.inj hw
    exact any_take ho hf (Or.inl ⟨hw, fun w hs => by have := hv w hs; injection this⟩) hS hl (by rw [hd]; exact h)
def ldAt (ops : Array Oper) (a : Act) (i : Nat) : Option (TypeId × Value) := (ops[i]?).bind fun o => ldOf a o.op
theorem ldAt_eq {i : Nat} {ty : TypeId} {v : Value} (h : ldAt ops a i = some (ty, v)) : ∃ o x, ops[i]? = some o ∧ o.op = .load ty x ∧ a.eval x = v := by
  unfold ldAt at h
  cases ho : ops[i]? with
  | none => rw [ho] at h; cases h
  | some o => rw [ho] at h; obtain ⟨x, h1, h2⟩ := ldOf_eq (show ldOf a o.op = some (ty, v) from h); exact ⟨o, x, rfl, h1, h2⟩
/-- a cell is read -/
theorem hl_ (i : Nat) (d : Option Tmp) (v : Value) (p : Addr) (l' : Array Bool) (hc : ∀ w, S w → w.cell? p = some v) {ty : TypeId} {dd : TypeDesc} (hu : P.underlying ty = some dd) (hS : S w) (h : AnyS P ops Q S n l' (a.put d v) w)
    (hld : ldAt ops a i = some (ty, .pointer (some p)) := by kernel_rfl) (hdd : dd.isRow = false := by rfl)
    (hf : freeAt' ops l i = true := by kernel_rfl) (hw : wantAt ops a i = some true := by kernel_rfl) (hd : dstAt ops i = some d := by kernel_rfl) (hl : l.setIfInBounds i true = l' := by kernel_rfl) : AnyS P ops Q S (n + 1) l a w := by
  obtain ⟨o, x, ho, h1, h2⟩ := ldAt_eq hld
  refine ha i d v l' (fun w hs => ?_) hS h hf hw hd hl
  unfold runAt; rw [ho]
  exact congrArg some (run_load1 ty x h1 p h2 v dd (hc w hs) hu hdd)
theorem run_loadG {o : Oper} (ty : TypeId) (x : Operand) (ho : o.op = .load ty x) (b f : Nat) (hx : a.eval x = .pointer (some ⟨b, f, none⟩)) (cs : List Value) (dd : TypeDesc) (hc : w.rangeAt b f cs) (hu : P.underlying ty = some dd) (hd : dd.isRow = true)
    (hi : (P.info? ty).map (·.size) = some cs.length) : (execOp a.eval o).run P w = .ok (.value (.agg cs.toArray)) w := by
  unfold execOp
  simp only [ho, hx, Instr.loadAt, Instr.sureAddr, Sem.run_bind, Sem.run_pure, Result.andThen_ok, run_loadVar_mid w b f ty cs dd hc hu hd hi]
/-- a row is read -/
theorem hg_ (i : Nat) (d : Option Tmp) (b f : Nat) (cs : List Value) (l' : Array Bool) (hc : ∀ w, S w → w.rangeAt b f cs) {ty : TypeId} {dd : TypeDesc} (hu : P.underlying ty = some dd) (hS : S w) (h : AnyS P ops Q S n l' (a.put d (.agg cs.toArray)) w)
    (hld : ldAt ops a i = some (ty, .pointer (some ⟨b, f, none⟩)) := by kernel_rfl) (hdd : dd.isRow = true := by rfl) (hi : (P.info? ty).map (·.size) = some cs.length := by kernel_rfl)
    (hf : freeAt' ops l i = true := by kernel_rfl) (hw : wantAt ops a i = some true := by kernel_rfl) (hd : dstAt ops i = some d := by kernel_rfl) (hl : l.setIfInBounds i true = l' := by kernel_rfl) : AnyS P ops Q S (n + 1) l a w := by
  obtain ⟨o, x, ho, h1, h2⟩ := ldAt_eq hld
  refine ha i d _ l' (fun w hs => ?_) hS h hf hw hd hl
  unfold runAt; rw [ho]
  exact congrArg some (run_loadG ty x h1 b f h2 cs dd (hc w hs) hu hdd hi)
theorem any1 (i : Nat) (h : StepS P ops Q S n l a w i) (hr : Region.ready .any ops l = [i] := by kernel_rfl) : AnyS P ops Q S (n + 1) l a w :=
  ⟨fun hQ => wpAnyH_all hr (by simp) fun j hj => by rw [List.mem_singleton.1 hj]; exact h.out hQ⟩
theorem any2 (i j : Nat) (h : StepS P ops Q S n l a w i) (g : StepS P ops Q S n l a w j) (hr : Region.ready .any ops l = [i, j] := by kernel_rfl) : AnyS P ops Q S (n + 1) l a w :=
  ⟨fun hQ => wpAnyH_all hr (by simp) fun k hk => by
    rcases List.mem_cons.1 hk with rfl | hk
    · exact h.out hQ
    · rw [List.mem_singleton.1 hk]; exact g.out hQ⟩
/-- an operation by its own law -/
theorem st_o {i : Nat} {o : Oper} (ho : ops[i]? = some o) (hw : Region.wanted o (yielded ops a.tmps) = true) (hl : l.setIfInBounds i true = l')
    (h : ∀ K : Act → World → Prop, (∀ v w', S w' → AnyS P ops Q S n l' (a.put o.dst v) w' → K (a.put o.dst v) w') → Oper.wp P o a w K Q) : StepS P ops Q S n l a w i :=
  ⟨fun hQ => by
    unfold wpOp
    simp only [ho, hw, if_true]
    refine Or.inl (h _ fun v w' hs hA => ⟨hs, ?_⟩)
    rw [hl]; exact hA.out hQ⟩
/-- a value, and another world -/
theorem st_w (i : Nat) (d : Option Tmp) (v : Value) (w' : World) (l' : Array Bool) (h : S w' ∧ AnyS P ops Q S n l' (a.put d v) w') (hv : runAt P ops a w i = some (.ok (.value v) w') := by kernel_rfl)
    (hw : wantAt ops a i = some true := by kernel_rfl) (hd : dstAt ops i = some d := by kernel_rfl) (hl : l.setIfInBounds i true = l' := by kernel_rfl) : StepS P ops Q S n l a w i := by
  cases ho : ops[i]? with
  | none => unfold dstAt at hd; rw [ho] at hd; cases hd
  | some o =>
    unfold dstAt at hd; unfold wantAt at hw; unfold runAt at hv
    rw [ho] at hd hw hv
    have hd : o.dst = d := Option.some.inj hd
    have hw : Region.wanted o (yielded ops a.tmps) = true := Option.some.inj hw
    have hv : (execOp a.eval o).run P w = .ok (.value v) w' := Option.some.inj hv
    refine st_o ho hw hl fun K hK => ?_
    unfold Oper.wp; rw [hv, Oper.upon_value]
    exact hK _ _ h.1 (by rw [hd]; exact h.2)
/-- a store -/
theorem st_s (i : Nat) (w' : World) (l' : Array Bool) (hv : runAt P ops a w i = some (.ok .skip w')) (h : S w' ∧ AnyS P ops Q S n l' a w')
    (hw : wantAt ops a i = some true := by kernel_rfl) (hd : dstAt ops i = some none := by kernel_rfl) (hl : l.setIfInBounds i true = l' := by kernel_rfl) : StepS P ops Q S n l a w i := by
  cases ho : ops[i]? with
  | none => unfold dstAt at hd; rw [ho] at hd; cases hd
  | some o =>
    unfold dstAt at hd; unfold wantAt at hw; unfold runAt at hv
    rw [ho] at hd hw hv
    have hd : o.dst = none := Option.some.inj hd
    have hw : Region.wanted o (yielded ops a.tmps) = true := Option.some.inj hw
    have hv : (execOp a.eval o).run P w = .ok .skip w' := Option.some.inj hv
    refine st_o ho hw hl fun K hK => ?_
    unfold Oper.wp; rw [hv, Oper.upon_skip]
    have := hK undef w' h.1 (by rw [hd]; exact h.2)
    exact this
def stAt (ops : Array Oper) (a : Act) (i : Nat) : Option (TypeId × Value × Value) := (ops[i]?).bind fun o => match o.op with
  | .store ty x y => some (ty, a.eval x, a.eval y)
  | _ => none
/-- a store: the cells of the value are laid -/
theorem st_c (i : Nat) (ty : TypeId) (b f : Nat) (v : Value) (cs : List Value) (l' : Array Bool) (ht : w.there b f cs.length) (hcs : v.cells = cs.toArray) (hi : (P.info? ty).map (·.size) = some cs.length) (h1 : ∀ v ∈ cs, v.oneCell' = true)
    (h : S (w.setCells b f cs) ∧ AnyS P ops Q S n l' a (w.setCells b f cs)) (hs : stAt ops a i = some (ty, .pointer (some ⟨b, f, none⟩), v) := by kernel_rfl)
    (hw : wantAt ops a i = some true := by kernel_rfl) (hd : dstAt ops i = some none := by kernel_rfl) (hl : l.setIfInBounds i true = l' := by kernel_rfl) : StepS P ops Q S n l a w i := by
  refine st_s i _ l' ?_ h hw hd hl
  unfold stAt at hs
  unfold runAt
  cases ho : ops[i]? with
  | none => rw [ho] at hs; cases hs
  | some o =>
    rw [ho] at hs
    have hs : (match o.op with | .store ty x y => some (ty, a.eval x, a.eval y) | _ => none) = some (ty, .pointer (some ⟨b, f, none⟩), v) := hs
    refine congrArg some ?_
    cases hp : o.op with
    | store ty' x y =>
      rw [hp] at hs
      injection hs with hs; injection hs with e1 hs; injection hs with e2 e3
      subst e1
      unfold execOp
      simp only [hp, e2, e3, Instr.storeAt, Instr.sureAddr, Sem.run_bind, Sem.run_pure, Result.andThen_ok, run_storeC ty' b f v cs hcs ht hi h1]
    | _ => rw [hp] at hs; cases hs
/-- a cell, a row that is read where nothing else may come up -/
theorem st_l (i : Nat) (d : Option Tmp) (v : Value) (p : Addr) (l' : Array Bool) (hc : w.cell? p = some v) {ty : TypeId} {dd : TypeDesc} (hu : P.underlying ty = some dd) (hS : S w) (h : AnyS P ops Q S n l' (a.put d v) w)
    (hld : ldAt ops a i = some (ty, .pointer (some p)) := by kernel_rfl) (hdd : dd.isRow = false := by rfl)
    (hw : wantAt ops a i = some true := by kernel_rfl) (hd : dstAt ops i = some d := by kernel_rfl) (hl : l.setIfInBounds i true = l' := by kernel_rfl) : StepS P ops Q S n l a w i := by
  obtain ⟨o, x, ho, h1, h2⟩ := ldAt_eq hld
  refine st_w i d v w l' ⟨hS, h⟩ ?_ hw hd hl
  unfold runAt; rw [ho]
  exact congrArg some (run_load1 ty x h1 p h2 v dd hc hu hdd)
/-- a comparison's value -/
theorem runBin (v va vb : Value) (t : TypeId) {op : BinOp} {i : Nat} (hr : (binOp op t va vb).run P w = .ok v w) (hb : (ops[i]?).bind (fun o => binOf a o.op) = some (op, t, va, vb) := by kernel_rfl)
    (hg : (ops[i]?).map (fun o => (match o.op with | .binOp op t x y _ => (eqGuard op t x y (a.eval x) (a.eval y)).run P w | _ => .ok () w)) = some (.ok () w) := by kernel_rfl) : runAt P ops a w i = some (.ok (.value v) w) := by
  unfold runAt
  cases ho : ops[i]? with
  | none => rw [ho] at hb; cases hb
  | some o =>
    rw [ho] at hb hg
    have hb : binOf a o.op = some (op, t, va, vb) := hb
    have hg : (match o.op with | .binOp op t x y _ => (eqGuard op t x y (a.eval x) (a.eval y)).run P w | _ => .ok () w) = .ok () w := by injection hg
    cases hp : o.op with
    | binOp op' t' x y t2 =>
      rw [hp] at hb hg
      cases hb
      exact congrArg some (run_bin op t t2 x y _ _ v hp rfl rfl hg hr)
    | _ => rw [hp] at hb; cases hb
/-- a call -/
theorem st_f (i : Nat) (d : Option Tmp) (f : FuncId) (args : Array Value) (l' : Array Bool) {R : Ending → World → Prop} (hc : Calls P f args w R) (h : ∀ e w', R e w' → ∃ v, e = .returned v ∧ S w' ∧ AnyS P ops Q S n l' (a.put d v) w')
    (he : runAt P ops a w i = some (.ok (.enter f args) w) := by kernel_rfl) (hw : wantAt ops a i = some true := by kernel_rfl) (hd : dstAt ops i = some d := by kernel_rfl) (hl : l.setIfInBounds i true = l' := by kernel_rfl) : StepS P ops Q S n l a w i := by
  cases ho : ops[i]? with
  | none => unfold dstAt at hd; rw [ho] at hd; cases hd
  | some o =>
    unfold dstAt at hd; unfold wantAt at hw; unfold runAt at he
    rw [ho] at hd hw he
    have hd : o.dst = d := Option.some.inj hd
    have hw : Region.wanted o (yielded ops a.tmps) = true := Option.some.inj hw
    have he : (execOp a.eval o).run P w = .ok (.enter f args) w := Option.some.inj he
    refine st_o ho hw hl fun K hK => ?_
    unfold Oper.wp; rw [he, Oper.upon_enter]
    refine hc.mono fun e w' hR => ?_
    obtain ⟨v, rfl, hs, hv⟩ := h e w' hR
    exact hK _ _ hs (by rw [hd]; exact hv)
end
end Go.Proofs.YtjofjpmhokjhnaaDoor

namespace Go.Proofs.YtjofjpmhokjhnaaDoor
set_option maxRecDepth 20001
open Go.RowKit T
set_option linter.unusedSimpArgs false
set_option linter.unusedVariables false
/-- an owned slice of bytes -/
abbrev OwnB (w : World) (base : Nat) (v : Value) (l : List UInt8) : Prop := w.ownsRow base 5 1 v l.length (bc l)
theorem run_app8 {w : World} {base B : Nat} {v vx : Value} {l m : List UInt8} (ty : TypeId) (hown : OwnB w base v l) (hx : SlB w B vx m) (hl : l.length ≤ 549755813888) (hm : m.length ≤ 549755813888) (hbase : base ≤ w.heap.size) :
    ∃ v' w', (Builtin.append_ #[37, 37] ty #[v, vx]).run Tryd.prog w = .ok v' w' ∧ OwnB w' base v' (l ++ m) ∧ w.grownBy w' v.ownBlock := by
  obtain ⟨i0, hi, hz0, hz1, hz2⟩ := info_parts info_u8
  obtain ⟨A, c, rfl, hc, hcm, hA, hr⟩ := hx
  obtain ⟨v', w', h1, h2, h3⟩ := run_append_rd (P := Tryd.prog) w base 37 ty 5 i0 (.int .u8 0) 1 Tryd.underlying37 hi hz0 hz1 hz2 rfl v l.length (bc l) hown B A m.length c (bc m) (bc_len m) (fun h => (hA h).2) hr (bc_one m) (by unfold maxLen; omega) (by omega) hbase
  refine ⟨v', w', h1, ?_, h3⟩
  unfold OwnB
  rw [bc_app, List.length_append]; exact h2
section
variable {ops : Array Oper} {rest : List Oper} {o : Oper} {a : Act} {Q : Exit → Act → World → Prop} {S : World → Prop} {n : Nat} {l l' : Array Bool} {w : World}
theorem exec_app8 {o : Oper} {s x : Operand} {v vx v' : Value} {w' : World} (ho : o.op = .call { callee := .builtin .append, args := #[s, x], argTypes := #[37, 37] }) (hs : a.eval s = v) (hx : a.eval x = vx)
    (hr : (Builtin.append_ #[37, 37] o.type #[v, vx]).run Tryd.prog w = .ok v' w') : (execOp a.eval o).run Tryd.prog w = .ok (.value v') w' := by
  unfold execOp
  simp only [ho, resolve, invoke, builtin, Sem.run_bind, Sem.run_pure, Result.andThen_ok, List.map_toArray, List.map_cons, List.map_nil, hs, hx, hr]
/-- in a plain region -/
theorem wa8 (s x : Operand) {base B : Nat} {v vx : Value} {k m : List UInt8} (hown : OwnB w base v k) (hxl : SlB w B vx m) (hl : k.length ≤ 549755813888) (hm : m.length ≤ 549755813888) (hbase : base ≤ w.heap.size)
    (h : ∀ v' w', OwnB w' base v' (k ++ m) → w.grownBy w' v.ownBlock → wpList Tryd.prog ops Q rest (a.put o.dst v') w')
    (ho : o.op = .call { callee := .builtin .append, args := #[s, x], argTypes := #[37, 37] } := by kernel_rfl) (hs : a.eval s = v := by kernel_rfl) (hx : a.eval x = vx := by kernel_rfl)
    (hw : Region.wanted o (yielded ops a.tmps) = true := by kernel_rfl) : wpList Tryd.prog ops Q (o :: rest) a w := by
  obtain ⟨v', w', h1, h2, h3⟩ := run_app8 o.type hown hxl hl hm hbase
  exact wpList_w v' w' hw (exec_app8 ho hs hx h1) (h v' w' h2 h3)
/-- in a region that draws -/
theorem st_a8 (i : Nat) (d : Option Tmp) (s x : Operand) (l' : Array Bool) {base B : Nat} {v vx : Value} {k m : List UInt8} (hown : OwnB w base v k) (hxl : SlB w B vx m) (hl : k.length ≤ 549755813888) (hm : m.length ≤ 549755813888) (hbase : base ≤ w.heap.size)
    (h : ∀ v' w', OwnB w' base v' (k ++ m) → w.grownBy w' v.ownBlock → S w' ∧ AnyS Tryd.prog ops Q S n l' (a.put d v') w')
    (ho : (ops[i]?).map (·.op) = some (.call { callee := .builtin .append, args := #[s, x], argTypes := #[37, 37] }) := by kernel_rfl) (hs : a.eval s = v := by kernel_rfl) (hx : a.eval x = vx := by kernel_rfl)
    (hw : wantAt ops a i = some true := by kernel_rfl) (hd : dstAt ops i = some d := by kernel_rfl) (hl' : l.setIfInBounds i true = l' := by kernel_rfl) : StepS Tryd.prog ops Q S n l a w i := by
  cases hoi : ops[i]? with
  | none => rw [hoi] at ho; cases ho
  | some o =>
    unfold dstAt at hd; unfold wantAt at hw
    rw [hoi] at hd hw ho
    have hd : o.dst = d := Option.some.inj hd
    have hw : Region.wanted o (yielded ops a.tmps) = true := Option.some.inj hw
    have ho := Option.some.inj ho
    obtain ⟨v', w', h1, h2, h3⟩ := run_app8 o.type hown hxl hl hm hbase
    refine st_o hoi hw hl' fun K hK => ?_
    unfold Oper.wp; rw [exec_app8 ho hs hx h1, Oper.upon_value]
    have := h v' w' h2 h3
    exact hK _ _ this.1 (by rw [hd]; exact this.2)
end
theorem OwnB.mono {w : World} {b b' : Nat} {v : Value} {l : List UInt8} (h : OwnB w b v l) (hb : b' ≤ b) : OwnB w b' v l := by
  unfold OwnB World.ownsRow at *
  refine ⟨h.1, ?_⟩
  rcases h.2 with h1 | ⟨g, c, cs, h1, h2, h3⟩
  · exact Or.inl h1
  · exact Or.inr ⟨g, c, cs, h1, Nat.le_trans hb h2, h3⟩
theorem OwnB.nil {w : World} {b : Nat} : OwnB w b (.slice none 0 0) [] := World.ownsRow_nil _ _ _ _
/-- one byte that has just been built -/
theorem slOne {w : World} {g : Nat} {x : Int} {b : UInt8} (h : w.heap[g]? = some (.cells #[.int .u8 x] 5 (0, 0))) (hx : x = (b.toNat : Int)) : SlB w w.heap.size (.slice (some ⟨g, 0, none⟩) 1 1) [b] := by
  refine ⟨some ⟨g, 0, none⟩, 1, rfl, Nat.le_refl _, by simp [maxLen], fun h => (by cases h), ?_⟩
  intro j u hu
  have hg := (Array.getElem?_eq_some_iff.1 h).1
  match j, hu with
  | 0, hu => exact ⟨g, 0, rfl, hg, by rw [cell_of_row w g 0 _ _ _ h, hx]; exact hu⟩
theorem heapGrown {z z' : World} {base i : Nat} {v : Value} {l : List UInt8} {o : Obj} (ho : OwnB z base v l) (hg : z.grownBy z' v.ownBlock) (hi : i < base) (h : z.heap[i]? = some o) : z'.heap[i]? = some o :=
  (hg.block i (Array.getElem?_eq_some_iff.1 h).1 (fun e => by have := (ho.lt i e.symm).1; omega)).trans h
theorem heapKind {z z' : World} {base i : Nat} {v : Value} {l : List UInt8} {cs : Array Value} {t : TypeId} {m : Nat × Nat} (ho : OwnB z base v l) (hg : z.grownBy z' v.ownBlock) (hne : t ≠ 5) (h : z.heap[i]? = some (.cells cs t m)) : z'.heap[i]? = some (.cells cs t m) :=
  (hg.block i (Array.getElem?_eq_some_iff.1 h).1 (fun e => by
    obtain ⟨cs2, t2, e1⟩ := Lib.ownsRow_kind ho i e.symm
    rw [h] at e1
    injection e1 with e1; injection e1 with _ e3
    exact hne e3)).trans h
end Go.Proofs.YtjofjpmhokjhnaaDoor
