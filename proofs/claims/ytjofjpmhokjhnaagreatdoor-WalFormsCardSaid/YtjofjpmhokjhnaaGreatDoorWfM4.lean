import Derived.Test.YtjofjpmhokjhnaaGreatDoorWfM3
import Derived.LoopN
import Derived.Lib.OthersKept
import Derived.Deep.RegionHeld
import Derived.Test.YtjofjpmhokjhnaaGreatDoorWfM2
import Derived.Test.YtjofjpmhokjhnaaGreatDoorWfM1
import Derived.Laws.IdiomStrings
set_option linter.unusedSimpArgs false
set_option linter.unusedVariables false
namespace Go.Proofs.YtjofjpmhokjhnaaGreatDoor
set_option maxRecDepth 20000
section
variable {P : Program} {ops : Array Oper} {rest : List Oper} {o : Oper} {a : Act} {w : World} {Q : Exit → Act → World → Prop}
theorem wp_loop_st {c : Code} (N : Nat) (St : Nat → Act → World → Prop) (k0 : Nat) (hk : k0 ≤ N) (h0 : St k0 a w)
 (round : ∀ k a w, k ≤ N → St k a w → c.wp P (Exit.then (fun a' w' => k < N ∧ St (k + 1) a' w') Q) a w) : (Code.loop c).wp P Q a w := by
 have key : ∀ n k a w, n = N - k → k ≤ N → St k a w → Code.rounds P c Q (n + 1) a w := by
  intro n
  induction n with
  | zero =>
    intro k a w hn hk hs
    rw [rounds_succ]
    refine Code.wp_mono (fun e a w q => ?_) (round k a w hk hs)
    cases e with
    | normal => exact absurd q.1 (by omega)
    | _ => exact q
  | succ n ih =>
    intro k a w hn hk hs
    rw [rounds_succ]
    refine Code.wp_mono (fun e a w q => ?_) (round k a w hk hs)
    cases e with
    | normal => exact ih (k + 1) a w (by omega) q.1 q.2
    | _ => exact q
 exact wp_loop_rounds _ (key (N - k0) k0 a w rfl hk h0)
theorem then_normal {K : Act → World → Prop} (h : K a w) : Exit.then K Q .normal a w := h
end
end Go.Proofs.YtjofjpmhokjhnaaGreatDoor
namespace Go.Proofs.YtjofjpmhokjhnaaGreatDoor
set_option maxRecDepth 20001
section
theorem wp_loop_su {P : Program} {Q : Exit → Act → World → Prop} {a : Act} {w : World} {c : Code} (N : Nat) (St : Nat → (Nat → Value) → Act → World → Prop) (k0 : Nat) (hk : k0 ≤ N) (h0 : St k0 (fun i => a.tmps.getD i undef) a w)
 (round : ∀ k u a w, k ≤ N → St k u a w → c.wp P (Exit.then (fun a' w' => k < N ∧ St (k + 1) (fun i => a'.tmps.getD i undef) a' w') Q) a w) : (Code.loop c).wp P Q a w :=
 wp_loop_st N (fun k a w => St k (fun i => a.tmps.getD i undef) a w) k0 hk h0 fun k a w hk h => round k _ a w hk h
def PanicOk (Q : Exit → Act → World → Prop) : Prop := ∀ c a d v w, Q (.panic c) (Act.put a d v) w → Q (.panic c) a w
structure AnyS (P : Program) (ops : Array Oper) (Q : Exit → Act → World → Prop) (S : World → Prop) (n : Nat) (l : Array Bool) (a : Act) (w : World) : Prop where
 out : PanicOk Q → wpAnyH P .any ops Q S n l a w
structure StepS (P : Program) (ops : Array Oper) (Q : Exit → Act → World → Prop) (S : World → Prop) (n : Nat) (l : Array Bool) (a : Act) (w : World) (i : Nat) : Prop where
 out : PanicOk Q → wpOp P ops Q i (fun a' w' => S w' ∧ wpAnyH P .any ops Q S n (l.setIfInBounds i true) a' w') a w
theorem okIntA {k : IntKind} {x v : Int} {m : Option (Result Next)} {w : World} (he : x = v) (h : m = some (.ok (.value (.int k x)) w)) : m = some (.ok (.value (.int k v)) w) := he ▸ h
theorem okIntP {k : IntKind} {x v : Int} {m : Result Next} {w : World} (he : x = v) (h : m = .ok (.value (.int k x)) w) : m = .ok (.value (.int k v)) w := he ▸ h
variable {P : Program} {ops : Array Oper} {Q : Exit → Act → World → Prop} {S : World → Prop} {n : Nat} {l l' : Array Bool} {a : Act} {w : World}
def runAt (P : Program) (ops : Array Oper) (a : Act) (w : World) (i : Nat) : Option (Result Next) := (ops[i]?).map fun o => (execOp a.eval o).run P w
def wantAt (ops : Array Oper) (a : Act) (i : Nat) : Option Bool := (ops[i]?).map fun o => Region.wanted o (yielded ops a.tmps)
def dstAt (ops : Array Oper) (i : Nat) : Option (Option Tmp) := (ops[i]?).map (·.dst)
def freeAt' (ops : Array Oper) (l : Array Bool) (i : Nat) : Bool := Region.noSelect ops && Region.free .any ops l i && (Region.ready .any ops l).contains i
theorem any_begin {id : Nat} (S : World → Prop) (n : Nat) (l : Array Bool) (hS : S w.drew) (hQ : PanicOk Q) (h : AnyS P ops Q S n l a w.drew) (hm : P.follows .mixedOrders = true := by kernel_rfl)
 (hn : ops.size = n := by kernel_rfl) (hl : Array.replicate n false = l := by kernel_rfl) : (Code.region id ops true).wp P Q a w :=
 wp_region_held_drew hm hS fun _ => by rw [hn, hl]; exact h.out hQ
theorem any_end (h : Q .normal a w) (hr : Region.ready .any ops l = [] := by kernel_rfl) : AnyS P ops Q S n l a w := ⟨fun _ => wpAnyH_done hr h n⟩
theorem any_take {o : Oper} {v : Value} {i : Nat} (hi : ops[i]? = some o) (hf : freeAt' ops l i = true) (hy : YieldsIf P ops S o v a) (hS : S w) (hl : l.setIfInBounds i true = l') (h : AnyS P ops Q S n l' (a.put o.dst v) w) : AnyS P ops Q S (n + 1) l a w := by
 unfold freeAt' at hf
 simp only [Bool.and_eq_true] at hf
 exact ⟨fun hQ => wpAnyH_take hi hf.1.1 hf.1.2 hf.2 (fun c _ w hq => hQ c _ _ _ w hq) hy hS (by rw [hl]; exact h.out hQ)⟩
theorem ha (i : Nat) (d : Option Tmp) (v : Value) (l' : Array Bool) (hv : ∀ w, S w → runAt P ops a w i = some (.ok (.value v) w)) (hS : S w) (h : AnyS P ops Q S n l' (a.put d v) w)
 (hf : freeAt' ops l i = true := by kernel_rfl) (hw : wantAt ops a i = some true := by kernel_rfl) (hd : dstAt ops i = some d := by kernel_rfl) (hl : l.setIfInBounds i true = l' := by kernel_rfl) : AnyS P ops Q S (n + 1) l a w := by
 cases ho : ops[i]? with
 | none => unfold dstAt at hd; rw [ho] at hd; cases hd
 | some o =>
   unfold dstAt at hd; unfold wantAt at hw; unfold runAt at hv
   rw [ho] at hd hw; simp only [ho] at hv
   have hd : o.dst = d := Option.some.inj hd
   have hw : Region.wanted o (yielded ops a.tmps) = true := Option.some.inj hw
   exact any_take ho hf (Or.inl ⟨hw, fun w hs => by have := hv w hs; injection this⟩) hS hl (by rw [hd]; exact h)
theorem hk_ (i : Nat) (d : Option Tmp) (l' : Array Bool) (hS : S w) (h : AnyS P ops Q S n l' (a.put d undef) w)
 (hf : freeAt' ops l i = true := by kernel_rfl) (hw : wantAt ops a i = some false := by kernel_rfl) (hd : dstAt ops i = some d := by kernel_rfl) (hl : l.setIfInBounds i true = l' := by kernel_rfl) : AnyS P ops Q S (n + 1) l a w := by
 cases ho : ops[i]? with
 | none => unfold dstAt at hd; rw [ho] at hd; cases hd
 | some o =>
   unfold dstAt at hd; unfold wantAt at hw
   rw [ho] at hd hw
   have hd : o.dst = d := Option.some.inj hd
   have hw : Region.wanted o (yielded ops a.tmps) = false := Option.some.inj hw
   exact any_take ho hf (Or.inr ⟨hw, rfl⟩) hS hl (by rw [hd]; exact h)
def ldAt (ops : Array Oper) (a : Act) (i : Nat) : Option (TypeId × Value) := (ops[i]?).bind fun o => ldOf a o.op
theorem ldAt_eq {i : Nat} {ty : TypeId} {v : Value} (h : ldAt ops a i = some (ty, v)) : ∃ o x, ops[i]? = some o ∧ o.op = .load ty x ∧ a.eval x = v := by
 unfold ldAt at h
 cases ho : ops[i]? with
 | none => rw [ho] at h; cases h
 | some o => rw [ho] at h; obtain ⟨x, h1, h2⟩ := ldOf_eq (show ldOf a o.op = some (ty, v) from h); exact ⟨o, x, rfl, h1, h2⟩
theorem hl_ (i : Nat) (d : Option Tmp) (v : Value) (p : Addr) (l' : Array Bool) (hc : ∀ w, S w → w.cell? p = some v) {ty : TypeId} {dd : TypeDesc} (hu : P.underlying ty = some dd) (hS : S w) (h : AnyS P ops Q S n l' (a.put d v) w)
 (hld : ldAt ops a i = some (ty, .pointer (some p)) := by kernel_rfl) (hdd : dd.isRow = false := by rfl)
 (hf : freeAt' ops l i = true := by kernel_rfl) (hw : wantAt ops a i = some true := by kernel_rfl) (hd : dstAt ops i = some d := by kernel_rfl) (hl : l.setIfInBounds i true = l' := by kernel_rfl) : AnyS P ops Q S (n + 1) l a w := by
 obtain ⟨o, x, ho, h1, h2⟩ := ldAt_eq hld
 refine ha i d v l' (fun w hs => ?_) hS h hf hw hd hl
 unfold runAt; rw [ho]
 exact congrArg some (run_load1 ty x h1 p h2 v dd (hc w hs) hu hdd)
theorem run_loadG {o : Oper} (ty : TypeId) (x : Operand) (ho : o.op = .load ty x) (b f : Nat) (hx : a.eval x = .pointer (some ⟨b, f, none⟩)) (cs : List Value) (dd : TypeDesc) (hc : w.rangeAt b f cs) (hu : P.underlying ty = some dd) (hd : dd.isRow = true)
 (hi : (P.info? ty).map (·.size) = some cs.length) : (execOp a.eval o).run P w = .ok (.value (.agg cs.toArray)) w := by
 unfold execOp
 simp only [ho, hx, Instr.loadAt, Instr.sureAddr, Sem.run_bind, Sem.run_pure, Result.andThen_ok, run_loadVar_mid w b f ty cs dd hc hu hd hi]
theorem hg_ (i : Nat) (d : Option Tmp) (b f : Nat) (cs : List Value) (l' : Array Bool) (hc : ∀ w, S w → w.rangeAt b f cs) {ty : TypeId} {dd : TypeDesc} (hu : P.underlying ty = some dd) (hS : S w) (h : AnyS P ops Q S n l' (a.put d (.agg cs.toArray)) w)
 (hld : ldAt ops a i = some (ty, .pointer (some ⟨b, f, none⟩)) := by kernel_rfl) (hdd : dd.isRow = true := by rfl) (hi : (P.info? ty).map (·.size) = some cs.length := by kernel_rfl)
 (hf : freeAt' ops l i = true := by kernel_rfl) (hw : wantAt ops a i = some true := by kernel_rfl) (hd : dstAt ops i = some d := by kernel_rfl) (hl : l.setIfInBounds i true = l' := by kernel_rfl) : AnyS P ops Q S (n + 1) l a w := by
 obtain ⟨o, x, ho, h1, h2⟩ := ldAt_eq hld
 refine ha i d _ l' (fun w hs => ?_) hS h hf hw hd hl
 unfold runAt; rw [ho]
 exact congrArg some (run_loadG ty x h1 b f h2 cs dd (hc w hs) hu hdd hi)
theorem any1 (i : Nat) (h : StepS P ops Q S n l a w i) (hr : Region.ready .any ops l = [i] := by kernel_rfl) : AnyS P ops Q S (n + 1) l a w :=
 ⟨fun hQ => wpAnyH_all hr (by simp) fun j hj => by rw [List.mem_singleton.1 hj]; exact h.out hQ⟩
theorem any2 (i j : Nat) (h : StepS P ops Q S n l a w i) (g : StepS P ops Q S n l a w j) (hr : Region.ready .any ops l = [i, j] := by kernel_rfl) : AnyS P ops Q S (n + 1) l a w :=
 ⟨fun hQ => wpAnyH_all hr (by simp) fun k hk => by
  rcases List.mem_cons.1 hk with rfl | hk
  ·exact h.out hQ
  ·rw [List.mem_singleton.1 hk]; exact g.out hQ⟩
theorem st_o {i : Nat} {o : Oper} (ho : ops[i]? = some o) (hw : Region.wanted o (yielded ops a.tmps) = true) (hl : l.setIfInBounds i true = l')
 (h : ∀ K : Act → World → Prop, (∀ v w', S w' → AnyS P ops Q S n l' (a.put o.dst v) w' → K (a.put o.dst v) w') → Oper.wp P o a w K Q) : StepS P ops Q S n l a w i :=
 ⟨fun hQ => by
  unfold wpOp
  simp only [ho, hw, if_true]
  refine Or.inl (h _ fun v w' hs hA => ⟨hs, ?_⟩)
  rw [hl]; exact hA.out hQ⟩
theorem st_w (i : Nat) (d : Option Tmp) (v : Value) (w' : World) (l' : Array Bool) (h : S w' ∧ AnyS P ops Q S n l' (a.put d v) w') (hv : runAt P ops a w i = some (.ok (.value v) w') := by kernel_rfl)
 (hw : wantAt ops a i = some true := by kernel_rfl) (hd : dstAt ops i = some d := by kernel_rfl) (hl : l.setIfInBounds i true = l' := by kernel_rfl) : StepS P ops Q S n l a w i := by
 cases ho : ops[i]? with
 | none => unfold dstAt at hd; rw [ho] at hd; cases hd
 | some o =>
   unfold dstAt at hd; unfold wantAt at hw; unfold runAt at hv
   rw [ho] at hd hw hv
   have hd : o.dst = d := Option.some.inj hd
   have hw : Region.wanted o (yielded ops a.tmps) = true := Option.some.inj hw
   have hv : (execOp a.eval o).run P w = .ok (.value v) w' := Option.some.inj hv
   refine st_o ho hw hl fun K hK => ?_
   unfold Oper.wp; rw [hv, Oper.upon_value]
   exact hK _ _ h.1 (by rw [hd]; exact h.2)
theorem st_s (i : Nat) (w' : World) (l' : Array Bool) (hv : runAt P ops a w i = some (.ok .skip w')) (h : S w' ∧ AnyS P ops Q S n l' a w')
 (hw : wantAt ops a i = some true := by kernel_rfl) (hd : dstAt ops i = some none := by kernel_rfl) (hl : l.setIfInBounds i true = l' := by kernel_rfl) : StepS P ops Q S n l a w i := by
 cases ho : ops[i]? with
 | none => unfold dstAt at hd; rw [ho] at hd; cases hd
 | some o =>
   unfold dstAt at hd; unfold wantAt at hw; unfold runAt at hv
   rw [ho] at hd hw hv
   have hd : o.dst = none := Option.some.inj hd
   have hw : Region.wanted o (yielded ops a.tmps) = true := Option.some.inj hw
   have hv : (execOp a.eval o).run P w = .ok .skip w' := Option.some.inj hv
   refine st_o ho hw hl fun K hK => ?_
   unfold Oper.wp; rw [hv, Oper.upon_skip]
   have := hK undef w' h.1 (by rw [hd]; exact h.2)
   exact this
def stAt (ops : Array Oper) (a : Act) (i : Nat) : Option (TypeId × Value × Value) := (ops[i]?).bind fun o => match o.op with
 | .store ty x y => some (ty, a.eval x, a.eval y)
 | _ => none
theorem st_c (i : Nat) (ty : TypeId) (b f : Nat) (v : Value) (cs : List Value) (l' : Array Bool) (ht : w.there b f cs.length) (hcs : v.cells = cs.toArray) (hi : (P.info? ty).map (·.size) = some cs.length) (h1 : ∀ v ∈ cs, v.oneCell' = true)
 (h : S (w.setCells b f cs) ∧ AnyS P ops Q S n l' a (w.setCells b f cs)) (hs : stAt ops a i = some (ty, .pointer (some ⟨b, f, none⟩), v) := by kernel_rfl)
 (hw : wantAt ops a i = some true := by kernel_rfl) (hd : dstAt ops i = some none := by kernel_rfl) (hl : l.setIfInBounds i true = l' := by kernel_rfl) : StepS P ops Q S n l a w i := by
 refine st_s i _ l' ?_ h hw hd hl
 unfold stAt at hs
 unfold runAt
 cases ho : ops[i]? with
 | none => rw [ho] at hs; cases hs
 | some o =>
   rw [ho] at hs
   have hs : (match o.op with | .store ty x y => some (ty, a.eval x, a.eval y) | _ => none) = some (ty, .pointer (some ⟨b, f, none⟩), v) := hs
   refine congrArg some ?_
   cases hp : o.op with
   | store ty' x y =>
     rw [hp] at hs
     injection hs with hs; injection hs with e1 hs; injection hs with e2 e3
     subst e1
     unfold execOp
     simp only [hp, e2, e3, Instr.storeAt, Instr.sureAddr, Sem.run_bind, Sem.run_pure, Result.andThen_ok, run_storeC ty' b f v cs hcs ht hi h1]
   | _ => rw [hp] at hs; cases hs
theorem st_l (i : Nat) (d : Option Tmp) (v : Value) (p : Addr) (l' : Array Bool) (hc : w.cell? p = some v) {ty : TypeId} {dd : TypeDesc} (hu : P.underlying ty = some dd) (hS : S w) (h : AnyS P ops Q S n l' (a.put d v) w)
 (hld : ldAt ops a i = some (ty, .pointer (some p)) := by kernel_rfl) (hdd : dd.isRow = false := by rfl)
 (hw : wantAt ops a i = some true := by kernel_rfl) (hd : dstAt ops i = some d := by kernel_rfl) (hl : l.setIfInBounds i true = l' := by kernel_rfl) : StepS P ops Q S n l a w i := by
 obtain ⟨o, x, ho, h1, h2⟩ := ldAt_eq hld
 refine st_w i d v w l' ⟨hS, h⟩ ?_ hw hd hl
 unfold runAt; rw [ho]
 exact congrArg some (run_load1 ty x h1 p h2 v dd hc hu hdd)
theorem runBin (v va vb : Value) (t : TypeId) {op : BinOp} {i : Nat} (hr : (binOp op t va vb).run P w = .ok v w) (hb : (ops[i]?).bind (fun o => binOf a o.op) = some (op, t, va, vb) := by kernel_rfl)
 (hg : (ops[i]?).map (fun o => (match o.op with | .binOp op t x y _ => (eqGuard op t x y (a.eval x) (a.eval y)).run P w | _ => .ok () w)) = some (.ok () w) := by kernel_rfl) : runAt P ops a w i = some (.ok (.value v) w) := by
 unfold runAt
 cases ho : ops[i]? with
 | none => rw [ho] at hb; cases hb
 | some o =>
   rw [ho] at hb hg
   have hb : binOf a o.op = some (op, t, va, vb) := hb
   have hg : (match o.op with | .binOp op t x y _ => (eqGuard op t x y (a.eval x) (a.eval y)).run P w | _ => .ok () w) = .ok () w := by injection hg
   cases hp : o.op with
   | binOp op' t' x y t2 =>
     rw [hp] at hb hg
     cases hb
     exact congrArg some (run_bin op t t2 x y _ _ v hp rfl rfl hg hr)
   | _ => rw [hp] at hb; cases hb
theorem st_f (i : Nat) (d : Option Tmp) (f : FuncId) (args : Array Value) (l' : Array Bool) {R : Ending → World → Prop} (hc : Calls P f args w R) (h : ∀ e w', R e w' → ∃ v, e = .returned v ∧ S w' ∧ AnyS P ops Q S n l' (a.put d v) w')
 (he : runAt P ops a w i = some (.ok (.enter f args) w) := by kernel_rfl) (hw : wantAt ops a i = some true := by kernel_rfl) (hd : dstAt ops i = some d := by kernel_rfl) (hl : l.setIfInBounds i true = l' := by kernel_rfl) : StepS P ops Q S n l a w i := by
 cases ho : ops[i]? with
 | none => unfold dstAt at hd; rw [ho] at hd; cases hd
 | some o =>
   unfold dstAt at hd; unfold wantAt at hw; unfold runAt at he
   rw [ho] at hd hw he
   have hd : o.dst = d := Option.some.inj hd
   have hw : Region.wanted o (yielded ops a.tmps) = true := Option.some.inj hw
   have he : (execOp a.eval o).run P w = .ok (.enter f args) w := Option.some.inj he
   refine st_o ho hw hl fun K hK => ?_
   unfold Oper.wp; rw [he, Oper.upon_enter]
   refine hc.mono fun e w' hR => ?_
   obtain ⟨v, rfl, hs, hv⟩ := h e w' hR
   exact hK _ _ hs (by rw [hd]; exact hv)
end
end Go.Proofs.YtjofjpmhokjhnaaGreatDoor
namespace Go.Proofs.YtjofjpmhokjhnaaGreatDoor
set_option maxRecDepth 20001
open Go.RowKit
abbrev Bl2 := Nat × Nat
def B.take (s : C.St) : Bl2 × C.St :=
 if (C.take 1 (C.take 4 s).2).2.2 = true ∨ B.formed ((C.take 1 (C.take 4 s).2).1 : Int) = false then ((0, 0), ((C.take 1 (C.take 4 s).2).2.1, true)) else (((C.take 4 s).1, (C.take 1 (C.take 4 s).2).1), (C.take 1 (C.take 4 s).2).2)
set_option maxHeartbeats 1600000 in
theorem btake_any (B0 g : Nat) (s : C.St) (w : World) (h : RdrAt w B0 g s) :
 Calls Tryz.prog 40 #[.pointer (some ⟨g, 0, none⟩)] w fun e w' => e = .returned (bal (B.take s).1.1 (B.take s).1.2) ∧ RdrAt w' B0 g (B.take s).2 ∧ w.grownBy w' (some g) := by
 have l1 := take_lt 4 s (by omega)
 have l2 := take_lt 1 (C.take 4 s).2 (by omega)
 have HT : Hid (B.take s = if (C.take 1 (C.take 4 s).2).2.2 = true ∨ B.formed ((C.take 1 (C.take 4 s).2).1 : Int) = false then ((0, 0), ((C.take 1 (C.take 4 s).2).2.1, true)) else (((C.take 4 s).1, (C.take 1 (C.take 4 s).2).1), (C.take 1 (C.take 4 s).2).2)) := rfl
 have T4 := take_any B0 g 4 s _ (h.alloc (.cells #[.int .u32 0, .int .i64 0] 24))
 have hlt : g < w.heap.size := by obtain ⟨_, _, hb, _⟩ := h; exact ltAt hb
 have T1 := fun w1 => take_any B0 g 1 (C.take 4 s).2 w1
 generalize C.take 4 s = t1 at *
 obtain ⟨x1, s1⟩ := t1
 simp only at *
 generalize C.take 1 s1 = t2 at *
 obtain ⟨x2, l2', f2⟩ := t2
 simp only at *
 have l1 : x1 < 4294967296 := l1
 have l2 : x2 < 256 := l2
 have HW1 : Hid (IntKind.u32.wrap (x1 : Int) = (x1 : Int)) := by
  show _ = _
  have e : IntKind.u32.wrap (x1 : Int) = (x1 : Int) % 4294967296 := rfl
  rw [e]; omega
 have HW2 : Hid (IntKind.i64.wrap (x2 : Int) = (x2 : Int)) := by show _ = _; rw [IntKind.wrap_i64]; omega
 go_enter Tryz.func40, Tryz.ntmps40
 go_wp2_with fail
 refine T4.mono ?_
 rintro e w1 ⟨rfl, h1, g1⟩
 go_wp2_with fail
 refine (T1 _ h1).mono ?_
 rintro e w2 ⟨rfl, h2, g2⟩
 have hB : B0 ≤ w.heap.size := by obtain ⟨_, _, _, _, _, _, _, hB⟩ := h; omega
 have hne : w.heap.size ≠ g := by omega
 have Z1 := heapG (heap_alloc_new w _) g1 hne
 have Z2 := heapG Z1 g2 hne
 have G2 := grownTrans (grownTrans (World.grownBy_alloc w _ (some g)) g1) g2
 have hs2 : w.heap.size + 1 ≤ w2.heap.size := by have a := g1.size; have b := g2.size; simp at a; omega
 clear g1 g2 T1 T4 Z1 h1
 go_wp2_with fail
 have h3 := h2.alloc (.cells #[.int .u32 (IntKind.u32.wrap (x1 : Int)), .int .i64 (IntKind.i64.wrap (x2 : Int))] 24)
 have Z3 := heapA Z2 (.cells #[.int .u32 (IntKind.u32.wrap (x1 : Int)), .int .i64 (IntKind.i64.wrap (x2 : Int))] 24)
 have G3 := grownAllocR G2 (.cells #[.int .u32 (IntKind.u32.wrap (x1 : Int)), .int .i64 (IntKind.i64.wrap (x2 : Int))] 24)
 rw [HW1.out, HW2.out] at h3 Z3 G3
 clear Z2 G2 h2
 have z0 := cellAt Z3 0
 have z1 := cellAt Z3 1
 have y0 := freeAt Z3 0
 have y1 := freeAt Z3 1
 refine (ok_any B0 g _ _ h3).mono ?_
 rintro e w3 ⟨rfl, hw3⟩
 rw [← hw3]
 have hzne : w.heap.size < w2.heap.size := by omega
 cases f2 with
 | true =>
   have HT2 : Hid (B.take s = ((0, 0), (l2', true))) := by have := HT.out; rw [if_pos (Or.inl rfl)] at this; exact this
   clear HT hw3
   go_wp2_with fail
   refine (take_any B0 g 9 _ _ h3).mono ?_
   rw [take9]
   rintro e w4 ⟨rfl, h4, g4⟩
   have Z4 := heapG Z3 g4 hne
   have G4 := grownTrans G3 g4
   have a0 := cellAt Z4 0
   have a1 := cellAt Z4 1
   have c0 := freeAt Z4 0
   have c1 := freeAt Z4 1
   have Z5 := setAt (setAt Z4 0 (.int .u32 0)) 1 (.int .i64 0)
   have r0 := cellAt Z5 0
   have r1 := cellAt Z5 1
   simp only [zQ] at a0 a1
   simp at r0 r1
   go_wp2_with fail
   refine bodyPost_ret (v := bal 0 (0 : Nat)) (by simp [results, Tryz.results40, go_sem, r0, r1]) rfl ⟨by rw [HT2.out], by rw [HT2.out]; exact (h4.setNew hne hB _ _).setNew hne hB _ _, grownSetNew (grownSetNew G4 (Nat.le_refl _) _ _) (Nat.le_refl _) _ _⟩
 | false =>
   cases hf : B.formed (x2 : Int) with
   | false =>
     have HT2 : Hid (B.take s = ((0, 0), (l2', true))) := by have := HT.out; rw [if_pos (Or.inr hf)] at this; exact this
     have HF := Lib.hid hf
     clear HT hw3 hf
     have q0 : (w2.alloc (.cells #[.int .u32 (x1 : Int), .int .i64 (x2 : Int)] 24)).cell? ⟨w2.heap.size, 0, none⟩ = some (.int .u32 (x1 : Int)) := by simp
     have q1 : (w2.alloc (.cells #[.int .u32 (x1 : Int), .int .i64 (x2 : Int)] 24)).cell? ⟨w2.heap.size, 1, none⟩ = some (.int .i64 (x2 : Int)) := by simp
     go_wp2_with fail
     refine (bformed_any x1 x2 _).mono ?_
     rw [HF.out]
     rintro e w5 ⟨rfl, b5⟩
     have h5 := h3.below b5
     have Z5 := heapB Z3 b5
     have G5 := grownBelow G3 b5
     go_wp2_with fail
     refine (take_any B0 g 9 _ _ h5).mono ?_
     rw [take9]
     rintro e w4 ⟨rfl, h4, g4⟩
     have Z4 := heapG Z5 g4 hne
     have G4 := grownTrans G5 g4
     have a0 := cellAt Z4 0
     have a1 := cellAt Z4 1
     have c0 := freeAt Z4 0
     have c1 := freeAt Z4 1
     have Z6 := setAt (setAt Z4 0 (.int .u32 0)) 1 (.int .i64 0)
     have r0 := cellAt Z6 0
     have r1 := cellAt Z6 1
     simp only [zQ] at a0 a1
     simp at r0 r1
     go_wp2_with fail
     refine bodyPost_ret (v := bal 0 (0 : Nat)) (by simp [results, Tryz.results40, go_sem, r0, r1]) rfl ⟨by rw [HT2.out], by rw [HT2.out]; exact (h4.setNew hne hB _ _).setNew hne hB _ _, grownSetNew (grownSetNew G4 (Nat.le_refl _) _ _) (Nat.le_refl _) _ _⟩
   | true =>
     have HT2 : Hid (B.take s = ((x1, x2), (l2', false))) := by have := HT.out; rw [if_neg (by simp [hf])] at this; exact this
     have HF := Lib.hid hf
     clear HT hw3 hf
     have q0 : (w2.alloc (.cells #[.int .u32 (x1 : Int), .int .i64 (x2 : Int)] 24)).cell? ⟨w2.heap.size, 0, none⟩ = some (.int .u32 (x1 : Int)) := by simp
     have q1 : (w2.alloc (.cells #[.int .u32 (x1 : Int), .int .i64 (x2 : Int)] 24)).cell? ⟨w2.heap.size, 1, none⟩ = some (.int .i64 (x2 : Int)) := by simp
     go_wp2_with fail
     refine (bformed_any x1 x2 _).mono ?_
     rw [HF.out]
     rintro e w5 ⟨rfl, b5⟩
     have h5 := h3.below b5
     have Z5 := heapB Z3 b5
     have G5 := grownBelow G3 b5
     have q0 := cellB b5 q0
     have q1 := cellB b5 q1
     have a0 := cellAt Z5 0
     have a1 := cellAt Z5 1
     have c0 := freeAt Z5 0
     have c1 := freeAt Z5 1
     have Z6 := setAt (setAt Z5 0 (.int .u32 (x1 : Int))) 1 (.int .i64 (x2 : Int))
     have r0 := cellAt Z6 0
     have r1 := cellAt Z6 1
     simp only [zQ] at a0 a1
     simp at r0 r1
     go_wp2_with fail
     refine bodyPost_ret (v := bal x1 x2) (by simp [results, Tryz.results40, go_sem, r0, r1]) rfl ⟨by rw [HT2.out], by rw [HT2.out]; exact (h5.setNew hne hB _ _).setNew hne hB _ _, grownSetNew (grownSetNew G5 (Nat.le_refl _) _ _) (Nat.le_refl _) _ _⟩
theorem btake_lt (s : C.St) : (B.take s).1.1 < 4294967296 ∧ (B.take s).1.2 < 256 := by
 have l1 := take_lt 4 s (by omega)
 have l2 := take_lt 1 (C.take 4 s).2 (by omega)
 unfold B.take
 split
 ·exact ⟨(by show 0 < 4294967296; decide), (by show 0 < 256; decide)⟩
 ·exact ⟨l1, l2⟩
theorem btake_w (B0 g : Nat) (s : C.St) (w : World) (h : RdrAt w B0 g s) :
 Calls Tryz.prog 40 #[.pointer (some ⟨g, 0, none⟩)] w fun e w' => e = .returned (.agg [.int .u32 ((B.take s).1.1 : Int), .int .i64 ((B.take s).1.2 : Int)].toArray) ∧ RdrAt w' B0 g (B.take s).2 ∧ w.grownBy w' (some g) := btake_any B0 g s w h
end Go.Proofs.YtjofjpmhokjhnaaGreatDoor
namespace Go.Proofs.YtjofjpmhokjhnaaGreatDoor
set_option maxRecDepth 20001
namespace V
theorem bl_nil (x : List UInt8) : Op.bytesLess x [] = false := by unfold Op.bytesLess; rfl
theorem bl_cons (a b : UInt8) (x y : List UInt8) : Op.bytesLess (a :: x) (b :: y) = true ↔ a.toNat < b.toNat ∨ (a = b ∧ Op.bytesLess x y = true) := by
 rw [Op.bytesLess]
 simp [UInt8.lt_iff_toNat_lt]
theorem bl_irr : ∀ x : List UInt8, Op.bytesLess x x = false
 | [] => rfl
 | a :: x => by
   have ih := bl_irr x
   rw [← Bool.not_eq_true, bl_cons]
   rintro (h | ⟨_, h⟩)
   ·omega
   ·rw [ih] at h; exact Bool.noConfusion h
theorem bl_asym : ∀ x y : List UInt8, Op.bytesLess x y = true → Op.bytesLess y x = false
 | _, [], h => by rw [bl_nil] at h; exact Bool.noConfusion h
 | [], _ :: _, _ => bl_nil _
 | a :: x, b :: y, h => by
   rw [bl_cons] at h
   rw [← Bool.not_eq_true, bl_cons]
   rintro (g | ⟨g, g'⟩)
   ·rcases h with h | ⟨h, _⟩
    ·omega
    ·subst h; omega
   ·subst g
    rcases h with h | ⟨_, h⟩
    ·omega
    ·rw [bl_asym x y h] at g'; exact Bool.noConfusion g'
theorem bl_total : ∀ x y : List UInt8, Op.bytesLess x y = false → Op.bytesLess y x = false → x = y
 | [], [], _, _ => rfl
 | [], b :: y, h, _ => by exact Bool.noConfusion h
 | a :: x, [], _, h => by exact Bool.noConfusion h
 | a :: x, b :: y, h, g => by
   rw [← Bool.not_eq_true, bl_cons] at h g
   have hab : a.toNat = b.toNat := by
    have h1 : ¬ a.toNat < b.toNat := fun e => h (Or.inl e)
    have h2 : ¬ b.toNat < a.toNat := fun e => g (Or.inl e)
    omega
   have hab := UInt8.toNat_inj.1 hab
   subst hab
   have h1 : Op.bytesLess x y = false := by rw [← Bool.not_eq_true]; exact fun e => h (Or.inr ⟨rfl, e⟩)
   have h2 : Op.bytesLess y x = false := by rw [← Bool.not_eq_true]; exact fun e => g (Or.inr ⟨rfl, e⟩)
   rw [bl_total x y h1 h2]
end V
end Go.Proofs.YtjofjpmhokjhnaaGreatDoor
namespace Go.Proofs.YtjofjpmhokjhnaaGreatDoor
set_option maxRecDepth 20001
theorem run_ix {P : Program} {w : World} (t e : TypeId) (b off len cap sz : Nat) (k : IntKind) (i : Nat) (ht : P.underlying t = some (.slice e)) (hs : (sizeOf e).run P w = .ok sz w) (hi : i < len) :
 (Instr.indexAt t (.slice (some ⟨b, off, none⟩) len cap) (.int k (i : Int))).run P w = .ok (.pointer (some ⟨b, off + i * sz, none⟩)) w := by
 have h1 : (0 : Int) ≤ (i : Int) ∧ (i : Int) < (len : Int) := by omega
 simp only [Instr.indexAt, asIntOf, Sem.run_bind, Sem.run_pure, Result.andThen_ok, run_underlying ht, h1, and_self, if_true, hs, Int.toNat_natCast, Addr.add_lit]
theorem exec_ix {P : Program} {a : Act} {o : Oper} {w : World} (x ix : Operand) {t e : TypeId} {b off len cap : Nat} (sz : Nat) {k : IntKind} {i : Nat} (ho : o.op = .indexAddr t x ix) (hx : a.eval x = .slice (some ⟨b, off, none⟩) len cap) (hi : a.eval ix = .int k (i : Int))
 (ht : P.underlying t = some (.slice e)) (hlt : i < len) (hs : (sizeOf e).run P w = .ok sz w := by kernel_rfl) : (execOp a.eval o).run P w = .ok (.value (.pointer (some ⟨b, off + i * sz, none⟩))) w := by
 unfold execOp
 simp only [ho, hx, hi, Sem.run_bind, Sem.run_pure, Result.andThen_ok, run_ix t e b off len cap sz k i ht hs hlt]
theorem exec_ix1 {P : Program} {a : Act} {o : Oper} {w : World} (x ix : Operand) {t e : TypeId} {b len cap : Nat} {k : IntKind} {i : Nat} (ho : o.op = .indexAddr t x ix) (hx : a.eval x = .slice (some ⟨b, 0, none⟩) len cap) (hi : a.eval ix = .int k (i : Int))
 (ht : P.underlying t = some (.slice e)) (hlt : i < len) (hs : (sizeOf e).run P w = .ok 1 w := by kernel_rfl) : (execOp a.eval o).run P w = .ok (.value (.pointer (some ⟨b, i, none⟩))) w := by
 have := exec_ix (P := P) (a := a) (o := o) (w := w) x ix (t := t) (e := e) (b := b) (off := 0) (len := len) (cap := cap) 1 (k := k) (i := i) ho hx hi ht hlt hs
 rwa [Nat.mul_one, Nat.zero_add] at this
end Go.Proofs.YtjofjpmhokjhnaaGreatDoor
namespace Go.Proofs.YtjofjpmhokjhnaaGreatDoor
set_option maxRecDepth 20001
open Go.RowKit
def SlF (w : World) (B : Nat) (v : Value) (l : List UInt8) : Prop :=
 ∃ A c, v = .slice A l.length c ∧ l.length ≤ c ∧ c ≤ maxLen ∧ (A = none → l = [] ∧ c = 0) ∧ Rd w B A (bc l)
section
variable {w w' : World} {B B' : Nat} {v : Value} {l : List UInt8}
theorem SlF.keep (h : SlF w B v l) (hk : ∀ p : Addr, p.block < B → w'.cell? p = w.cell? p) : SlF w' B v l := by
 obtain ⟨A, c, h1, h2, h3, h4, h5⟩ := h
 exact ⟨A, c, h1, h2, h3, h4, h5.keep hk⟩
theorem SlF.more (h : SlF w B v l) (hB : B ≤ B') : SlF w B' v l := by
 obtain ⟨A, c, h1, h2, h3, h4, h5⟩ := h
 exact ⟨A, c, h1, h2, h3, h4, h5.more hB⟩
theorem SlF.below (h : SlF w B v l) (hb : Below B w w') : SlF w' B v l := h.keep fun _ hp => hb.cell hp
theorem SlF.belowM (h : SlF w B v l) (hb : Below B' w w') (hB : B ≤ B') : SlF w' B v l := h.keep fun _ hp => (hb.mono hB).cell hp
theorem SlF.ofOwn {base n : Nat} (h : w.ownsRow base 5 1 v n (bc l)) : SlF w w.heap.size v l := by
 obtain ⟨A, c, rfl, hc, hA, hm⟩ := ownShape h
 have hn : n = l.length := by have := h.1; rw [bc_len] at this; omega
 subst hn
 exact ⟨A, c, rfl, hc, hm, fun h => ⟨List.eq_nil_of_length_eq_zero (hA h).1, (hA h).2⟩, Rd.ofOwn h⟩
theorem SlF.nil : SlF w B (.slice none 0 0) [] := ⟨none, 0, rfl, Nat.zero_le _, by simp [maxLen], fun _ => ⟨rfl, rfl⟩, Rd.nil⟩
end
def SlBs (w : World) (B : Nat) (vs : List Value) (ls : List (List UInt8)) : Prop :=
 vs.length = ls.length ∧ ∀ (i : Nat) (v : Value) (l : List UInt8), vs[i]? = some v → ls[i]? = some l → SlF w B v l
section
variable {w w' : World} {B B' : Nat} {vs : List Value} {ls : List (List UInt8)}
theorem SlBs.keep (h : SlBs w B vs ls) (hk : ∀ p : Addr, p.block < B → w'.cell? p = w.cell? p) : SlBs w' B vs ls := ⟨h.1, fun i v l h1 h2 => (h.2 i v l h1 h2).keep hk⟩
theorem SlBs.more (h : SlBs w B vs ls) (hB : B ≤ B') : SlBs w B' vs ls := ⟨h.1, fun i v l h1 h2 => (h.2 i v l h1 h2).more hB⟩
theorem SlBs.below (h : SlBs w B vs ls) (hb : Below B w w') : SlBs w' B vs ls := h.keep fun _ hp => hb.cell hp
theorem SlBs.belowM (h : SlBs w B vs ls) (hb : Below B' w w') (hB : B ≤ B') : SlBs w' B vs ls := h.keep fun _ hp => (hb.mono hB).cell hp
theorem SlBs.nil : SlBs w B [] [] := ⟨rfl, fun i v l h => by simp at h⟩
theorem SlBs.one {v : Value} {l : List UInt8} (h : SlF w B v l) : SlBs w B [v] [l] := by
 refine ⟨rfl, fun i u m h1 h2 => ?_⟩
 match i, h1, h2 with
 | 0, h1, h2 => simp at h1 h2; subst h1; subst h2; exact h
 | i + 1, h1, h2 => simp at h1
theorem SlBs.take (h : SlBs w B vs ls) (k : Nat) : SlBs w B (vs.take k) (ls.take k) := by
 refine ⟨by simp [h.1], fun i v l h1 h2 => ?_⟩
 rw [List.getElem?_take] at h1 h2
 split at h1
 ·rename_i hi
  rw [if_pos hi] at h2
  exact h.2 i v l h1 h2
 ·cases h1
theorem SlBs.cell (h : SlBs w B vs ls) : ∀ u ∈ vs, u.oneCell' = true := by
 intro u hu
 obtain ⟨i, hi, rfl⟩ := List.getElem_of_mem hu
 obtain ⟨A, c, e, _⟩ := h.2 i vs[i] (ls[i]'(by rw [← h.1]; exact hi)) (List.getElem?_eq_getElem hi) (List.getElem?_eq_getElem _)
 rw [e]; rfl
end
end Go.Proofs.YtjofjpmhokjhnaaGreatDoor
