import Derived.Test.YthclniimhpmeoaaGreatDoorMrM5
import Derived.Laws.IdiomStrings
set_option maxRecDepth 20001
set_option linter.unusedSimpArgs false
set_option linter.unusedVariables false
namespace Go.Proofs.YthclniimhpmeoaaGreatDoor
set_option maxRecDepth 20000
namespace L
open Go.RowKit
section
structure AnyS (P : Program) (ops : Array Oper) (Q : Exit → Act → World → Prop) (S : World → Prop) (k n : Nat) (l : Array Bool) (a : Act) (w : World) : Prop where
 out : PanicOk Q → wpAnyL P ops Q S k n l a w
structure StepS (P : Program) (ops : Array Oper) (Q : Exit → Act → World → Prop) (S : World → Prop) (k n : Nat) (l : Array Bool) (a : Act) (w : World) (i : Nat) : Prop where
 out : PanicOk Q → wpOp P ops Q i (fun a' w' => ((l.setIfInBounds i true).getD k false = false → S w') ∧ wpAnyL P ops Q S k n (l.setIfInBounds i true) a' w') a w
theorem okIntA {k : IntKind} {x v : Int} {m : Option (Result Next)} {w : World} (he : x = v) (h : m = some (.ok (.value (.int k x)) w)) : m = some (.ok (.value (.int k v)) w) := he ▸ h
theorem okIntP {k : IntKind} {x v : Int} {m : Result Next} {w : World} (he : x = v) (h : m = .ok (.value (.int k x)) w) : m = .ok (.value (.int k v)) w := he ▸ h
variable {P : Program} {ops : Array Oper} {Q : Exit → Act → World → Prop} {S : World → Prop} {k n : Nat} {l l' : Array Bool} {a : Act} {w : World}
theorem any_begin {id : Nat} (S : World → Prop) (k n : Nat) (l : Array Bool) (hQ : PanicOk Q) (h : AnyS P ops Q S k n l a w.drew) (hm : P.follows .mixedOrders = true := by kernel_rfl)
 (hn : ops.size = n := by kernel_rfl) (hl : Array.replicate n false = l := by kernel_rfl) : (Code.region id ops true).wp P Q a w :=
 wp_region_L hm (by rw [hn, hl]; exact h.out hQ)
theorem any_end (h : Q .normal a w) (hr : Region.ready .any ops l = [] := by kernel_rfl) : AnyS P ops Q S k n l a w := ⟨fun _ => wpAnyL_done hr h n⟩
theorem any_take {o : Oper} {v : Value} {i : Nat} (hi : ops[i]? = some o) (hf : freeL k ops l i = true) (hy : YieldsIf P ops S o v a) (hS : S w) (hl : l.setIfInBounds i true = l') (h : AnyS P ops Q S k n l' (a.put o.dst v) w) : AnyS P ops Q S k (n + 1) l a w := by
 exact ⟨fun hQ => wpAnyL_take hi hf (fun c _ w hq => hQ c _ _ _ w hq) hy hS (by rw [hl]; exact h.out hQ)⟩
theorem ha (i : Nat) (d : Option Tmp) (v : Value) (l' : Array Bool) (hv : ∀ w, S w → runAt P ops a w i = some (.ok (.value v) w)) (hS : S w) (h : AnyS P ops Q S k n l' (a.put d v) w)
 (hf : freeL k ops l i = true := by kernel_rfl) (hw : wantAt ops a i = some true := by kernel_rfl) (hd : dstAt ops i = some d := by kernel_rfl) (hl : l.setIfInBounds i true = l' := by kernel_rfl) : AnyS P ops Q S k (n + 1) l a w := by
 cases ho : ops[i]? with
 | none => unfold dstAt at hd; rw [ho] at hd; cases hd
 | some o =>
   unfold dstAt at hd; unfold wantAt at hw; unfold runAt at hv;rw [ho] at hd hw; simp only [ho] at hv;have hd : o.dst = d := Option.some.inj hd;have hw : Region.wanted o (yielded ops a.tmps) = true := Option.some.inj hw;exact any_take ho hf (Or.inl ⟨hw, fun w hs => by have := hv w hs; injection this⟩) hS hl (by rw [hd]; exact h)
theorem hk_ (i : Nat) (d : Option Tmp) (l' : Array Bool) (hS : S w) (h : AnyS P ops Q S k n l' (a.put d undef) w)
 (hf : freeL k ops l i = true := by kernel_rfl) (hw : wantAt ops a i = some false := by kernel_rfl) (hd : dstAt ops i = some d := by kernel_rfl) (hl : l.setIfInBounds i true = l' := by kernel_rfl) : AnyS P ops Q S k (n + 1) l a w := by
 cases ho : ops[i]? with
 | none => unfold dstAt at hd; rw [ho] at hd; cases hd
 | some o =>
   unfold dstAt at hd; unfold wantAt at hw;rw [ho] at hd hw;have hd : o.dst = d := Option.some.inj hd;have hw : Region.wanted o (yielded ops a.tmps) = false := Option.some.inj hw;exact any_take ho hf (Or.inr ⟨hw, rfl⟩) hS hl (by rw [hd]; exact h)
theorem hl_ (i : Nat) (d : Option Tmp) (v : Value) (p : Addr) (l' : Array Bool) (hc : ∀ w, S w → w.cell? p = some v) {ty : TypeId} {dd : TypeDesc} (hu : P.underlying ty = some dd) (hS : S w) (h : AnyS P ops Q S k n l' (a.put d v) w)
 (hld : ldAt ops a i = some (ty, .pointer (some p)) := by kernel_rfl) (hdd : dd.isRow = false := by rfl)
 (hf : freeL k ops l i = true := by kernel_rfl) (hw : wantAt ops a i = some true := by kernel_rfl) (hd : dstAt ops i = some d := by kernel_rfl) (hl : l.setIfInBounds i true = l' := by kernel_rfl) : AnyS P ops Q S k (n + 1) l a w := by
 obtain ⟨o, x, ho, h1, h2⟩ := ldAt_eq hld;refine ha i d v l' (fun w hs => ?_) hS h hf hw hd hl;unfold runAt; rw [ho];exact congrArg some (run_load1 ty x h1 p h2 v dd (hc w hs) hu hdd)
theorem hg_ (i : Nat) (d : Option Tmp) (b f : Nat) (cs : List Value) (l' : Array Bool) (hc : ∀ w, S w → w.rangeAt b f cs) {ty : TypeId} {dd : TypeDesc} (hu : P.underlying ty = some dd) (hS : S w) (h : AnyS P ops Q S k n l' (a.put d (.agg cs.toArray)) w)
 (hld : ldAt ops a i = some (ty, .pointer (some ⟨b, f, none⟩)) := by kernel_rfl) (hdd : dd.isRow = true := by rfl) (hi : (P.info? ty).map (·.size) = some cs.length := by kernel_rfl)
 (hf : freeL k ops l i = true := by kernel_rfl) (hw : wantAt ops a i = some true := by kernel_rfl) (hd : dstAt ops i = some d := by kernel_rfl) (hl : l.setIfInBounds i true = l' := by kernel_rfl) : AnyS P ops Q S k (n + 1) l a w := by
 obtain ⟨o, x, ho, h1, h2⟩ := ldAt_eq hld;refine ha i d _ l' (fun w hs => ?_) hS h hf hw hd hl;unfold runAt; rw [ho];exact congrArg some (run_loadG ty x h1 b f h2 cs dd (hc w hs) hu hdd hi)
theorem any1 (i : Nat) (h : StepS P ops Q S k n l a w i) (hr : Region.ready .any ops l = [i] := by kernel_rfl) : AnyS P ops Q S k (n + 1) l a w :=
 ⟨fun hQ => wpAnyL_all hr (by simp) fun j hj => by rw [List.mem_singleton.1 hj]; exact h.out hQ⟩
theorem any2 (i j : Nat) (h : StepS P ops Q S k n l a w i) (g : StepS P ops Q S k n l a w j) (hr : Region.ready .any ops l = [i, j] := by kernel_rfl) : AnyS P ops Q S k (n + 1) l a w :=
 ⟨fun hQ => wpAnyL_all hr (by simp) fun q hk => by
  rcases List.mem_cons.1 hk with rfl | hk
  ·exact h.out hQ
  ·rw [List.mem_singleton.1 hk]; exact g.out hQ⟩
theorem st_o {i : Nat} {o : Oper} (ho : ops[i]? = some o) (hw : Region.wanted o (yielded ops a.tmps) = true) (hl : l.setIfInBounds i true = l')
 (h : ∀ K : Act → World → Prop, (∀ v w', S w' → AnyS P ops Q S k n l' (a.put o.dst v) w' → K (a.put o.dst v) w') → Oper.wp P o a w K Q) : StepS P ops Q S k n l a w i :=
 ⟨fun hQ => by
  unfold wpOp;simp only [ho, hw, if_true];refine Or.inl (h _ fun v w' hs hA => ⟨fun _ => hs, ?_⟩)
  rw [hl]; exact hA.out hQ⟩
theorem st_w (i : Nat) (d : Option Tmp) (v : Value) (w' : World) (l' : Array Bool) (h : S w' ∧ AnyS P ops Q S k n l' (a.put d v) w') (hv : runAt P ops a w i = some (.ok (.value v) w') := by kernel_rfl)
 (hw : wantAt ops a i = some true := by kernel_rfl) (hd : dstAt ops i = some d := by kernel_rfl) (hl : l.setIfInBounds i true = l' := by kernel_rfl) : StepS P ops Q S k n l a w i := by
 cases ho : ops[i]? with
 | none => unfold dstAt at hd; rw [ho] at hd; cases hd
 | some o =>
   unfold dstAt at hd; unfold wantAt at hw; unfold runAt at hv;rw [ho] at hd hw hv;have hd : o.dst = d := Option.some.inj hd;have hw : Region.wanted o (yielded ops a.tmps) = true := Option.some.inj hw;have hv : (execOp a.eval o).run P w = .ok (.value v) w' := Option.some.inj hv;refine st_o ho hw hl fun K hK => ?_;unfold Oper.wp; rw [hv, Oper.upon_value];exact hK _ _ h.1 (by rw [hd]; exact h.2)
theorem st_s (i : Nat) (w' : World) (l' : Array Bool) (hv : runAt P ops a w i = some (.ok .skip w')) (h : S w' ∧ AnyS P ops Q S k n l' a w')
 (hw : wantAt ops a i = some true := by kernel_rfl) (hd : dstAt ops i = some none := by kernel_rfl) (hl : l.setIfInBounds i true = l' := by kernel_rfl) : StepS P ops Q S k n l a w i := by
 cases ho : ops[i]? with
 | none => unfold dstAt at hd; rw [ho] at hd; cases hd
 | some o =>
   unfold dstAt at hd; unfold wantAt at hw; unfold runAt at hv;rw [ho] at hd hw hv;have hd : o.dst = none := Option.some.inj hd;have hw : Region.wanted o (yielded ops a.tmps) = true := Option.some.inj hw;have hv : (execOp a.eval o).run P w = .ok .skip w' := Option.some.inj hv;refine st_o ho hw hl fun K hK => ?_;unfold Oper.wp; rw [hv, Oper.upon_skip];have := hK undef w' h.1 (by rw [hd]; exact h.2);exact this
theorem st_c (i : Nat) (ty : TypeId) (b f : Nat) (v : Value) (cs : List Value) (l' : Array Bool) (ht : w.there b f cs.length) (hcs : v.cells = cs.toArray) (hi : (P.info? ty).map (·.size) = some cs.length) (h1 : ∀ v ∈ cs, v.oneCell' = true)
 (h : S (w.setCells b f cs) ∧ AnyS P ops Q S k n l' a (w.setCells b f cs)) (hs : stAt ops a i = some (ty, .pointer (some ⟨b, f, none⟩), v) := by kernel_rfl)
 (hw : wantAt ops a i = some true := by kernel_rfl) (hd : dstAt ops i = some none := by kernel_rfl) (hl : l.setIfInBounds i true = l' := by kernel_rfl) : StepS P ops Q S k n l a w i := by
 refine st_s i _ l' ?_ h hw hd hl;unfold stAt at hs;unfold runAt
 cases ho : ops[i]? with
 | none => rw [ho] at hs; cases hs
 | some o =>
   rw [ho] at hs
   have hs : (match o.op with | .store ty x y => some (ty, a.eval x, a.eval y) | _ => none) = some (ty, .pointer (some ⟨b, f, none⟩), v) := hs
   refine congrArg some ?_
   cases hp : o.op with
   | store ty' x y =>
     rw [hp] at hs;injection hs with hs; injection hs with e1 hs; injection hs with e2 e3;subst e1;unfold execOp;simp only [hp, e2, e3, Instr.storeAt, Instr.sureAddr, Sem.run_bind, Sem.run_pure, Result.andThen_ok, run_storeC ty' b f v cs hcs ht hi h1]
   | _ => rw [hp] at hs; cases hs
theorem st_l (i : Nat) (d : Option Tmp) (v : Value) (p : Addr) (l' : Array Bool) (hc : w.cell? p = some v) {ty : TypeId} {dd : TypeDesc} (hu : P.underlying ty = some dd) (hS : S w) (h : AnyS P ops Q S k n l' (a.put d v) w)
 (hld : ldAt ops a i = some (ty, .pointer (some p)) := by kernel_rfl) (hdd : dd.isRow = false := by rfl)
 (hw : wantAt ops a i = some true := by kernel_rfl) (hd : dstAt ops i = some d := by kernel_rfl) (hl : l.setIfInBounds i true = l' := by kernel_rfl) : StepS P ops Q S k n l a w i := by
 obtain ⟨o, x, ho, h1, h2⟩ := ldAt_eq hld;refine st_w i d v w l' ⟨hS, h⟩ ?_ hw hd hl;unfold runAt; rw [ho];exact congrArg some (run_load1 ty x h1 p h2 v dd hc hu hdd)
theorem runBin (v va vb : Value) (t : TypeId) {op : BinOp} {i : Nat} (hr : (binOp op t va vb).run P w = .ok v w) (hb : (ops[i]?).bind (fun o => binOf a o.op) = some (op, t, va, vb) := by kernel_rfl)
 (hg : (ops[i]?).map (fun o => (match o.op with | .binOp op t x y _ => (eqGuard op t x y (a.eval x) (a.eval y)).run P w | _ => .ok () w)) = some (.ok () w) := by kernel_rfl) : runAt P ops a w i = some (.ok (.value v) w) := by
 unfold runAt
 cases ho : ops[i]? with
 | none => rw [ho] at hb; cases hb
 | some o =>
   rw [ho] at hb hg;have hb : binOf a o.op = some (op, t, va, vb) := hb
   have hg : (match o.op with | .binOp op t x y _ => (eqGuard op t x y (a.eval x) (a.eval y)).run P w | _ => .ok () w) = .ok () w := by injection hg
   cases hp : o.op with
   | binOp op' t' x y t2 =>
     rw [hp] at hb hg;cases hb;exact congrArg some (run_bin op t t2 x y _ _ v hp rfl rfl hg hr)
   | _ => rw [hp] at hb; cases hb
theorem st_f (i : Nat) (d : Option Tmp) (f : FuncId) (args : Array Value) (l' : Array Bool) {R : Ending → World → Prop} (hc : Calls P f args w R) (h : ∀ e w', R e w' → ∃ v, e = .returned v ∧ S w' ∧ AnyS P ops Q S k n l' (a.put d v) w')
 (he : runAt P ops a w i = some (.ok (.enter f args) w) := by kernel_rfl) (hw : wantAt ops a i = some true := by kernel_rfl) (hd : dstAt ops i = some d := by kernel_rfl) (hl : l.setIfInBounds i true = l' := by kernel_rfl) : StepS P ops Q S k n l a w i := by
 cases ho : ops[i]? with
 | none => unfold dstAt at hd; rw [ho] at hd; cases hd
 | some o =>
   unfold dstAt at hd; unfold wantAt at hw; unfold runAt at he;rw [ho] at hd hw he;have hd : o.dst = d := Option.some.inj hd;have hw : Region.wanted o (yielded ops a.tmps) = true := Option.some.inj hw;have he : (execOp a.eval o).run P w = .ok (.enter f args) w := Option.some.inj he;refine st_o ho hw hl fun K hK => ?_;unfold Oper.wp; rw [he, Oper.upon_enter];refine hc.mono fun e w' hR => ?_;obtain ⟨v, rfl, hs, hv⟩ := h e w' hR;exact hK _ _ hs (by rw [hd]; exact hv)
theorem st_wS (i : Nat) (d : Option Tmp) (m : Nat) (ob : Obj) (l' : Array Bool) (h : ∀ g z, g = w.heap.size → Below w.heap.size w z → z.heap[g]? = some ob → S z ∧ AnyS P ops Q S k n l' (a.put d (.slice (some ⟨g, 0, none⟩) m m)) z) (hv : runAt P ops a w i = some (.ok (.value (.slice (some ⟨w.heap.size, 0, none⟩) m m)) (w.alloc ob)) := by kernel_rfl)
 (hw : wantAt ops a i = some true := by kernel_rfl) (hd : dstAt ops i = some d := by kernel_rfl) (hl : l.setIfInBounds i true = l' := by kernel_rfl) : StepS P ops Q S k n l a w i := st_w i d _ _ l' (h _ _ rfl (alB rfl) (alN rfl)) hv hw hd hl
theorem st_cN (i : Nat) (ty : TypeId) (b f : Nat) (v : Value) (cs new : List Value) (l' : Array Bool) {old : List Value} {t : TypeId} (hz : w.heap[b]? = some (.cells old.toArray t (0, 0))) (h : ∀ z, z = w.setCells b f cs → w.grownBy z (some b) → z.heap[b]? = some (.cells new.toArray t (0, 0)) → S z ∧ AnyS P ops Q S k n l' a z)
 (hi : (P.info? ty).map (·.size) = some cs.length := by kernel_rfl) (hf : Nat.ble (f + cs.length) old.length = true := by kernel_rfl) (hn : putAt old f cs = new := by kernel_rfl) (hcs : v.cells = cs.toArray := by kernel_rfl) (h1 : cs.all (·.oneCell') = true := by kernel_rfl) (hs : stAt ops a i = some (ty, .pointer (some ⟨b, f, none⟩), v) := by kernel_rfl)
 (hw : wantAt ops a i = some true := by kernel_rfl) (hd : dstAt ops i = some none := by kernel_rfl) (hl : l.setIfInBounds i true = l' := by kernel_rfl) : StepS P ops Q S k n l a w i :=
 st_c i ty b f v cs l' (rowThere hz (Nat.le_of_ble_eq_true hf)) hcs hi (allOf h1) (h _ rfl (stG rfl) (by rw [← hn]; exact stN rfl hz)) hs hw hd hl
theorem st_R (i : Nat) (d : Option Tmp) (l' : Array Bool) {f : FuncId} {args : Array Value} {v : Value} {R : World → Prop} (hc : Calls P f args w fun e w' => e = .returned v ∧ R w') (h : ∀ z, R z → S z ∧ AnyS P ops Q S k n l' (a.put d v) z)
 (he : runAt P ops a w i = some (.ok (.enter f args) w) := by kernel_rfl) (hw : wantAt ops a i = some true := by kernel_rfl) (hd : dstAt ops i = some d := by kernel_rfl) (hl : l.setIfInBounds i true = l' := by kernel_rfl) : StepS P ops Q S k n l a w i :=
 st_f i d f args l' hc (fun _ z q => ⟨v, q.1, h z q.2⟩) he hw hd hl
theorem wpAnyL_last : ∀ (n : Nat) (l : Array Bool) (a : Act) (w : World), l.getD k false = true → wpAnyL P ops Q (fun _ => True) k n l a w → wpAnyL P ops Q S k n l a w
 | 0, _, _, _, _, h => h
 | n + 1, l, _, _, hl, h => ⟨h.1, fun i hi => by
  have e : (l.setIfInBounds i true).getD k false = true := by
   by_cases hik : i = k
   ·subst hik
    have : i < l.size := by
     rcases Nat.lt_or_ge i l.size with h' | h'
     ·exact h'
     ·simp [Array.getElem?_eq_none h'] at hl
    simp [this]
   ·rw [getD_set_far hik]; exact hl
  exact wpOp_mono (fun a' w' h' => ⟨fun q => absurd (e.symm.trans q) (by decide), wpAnyL_last n _ a' w' e h'.2⟩) (h.2 i hi)⟩
theorem step_last (h : StepS P ops Q (fun _ => True) k n l a w k) (hk : decide (k < l.size) = true := by kernel_rfl) : StepS P ops Q S k n l a w k := ⟨fun hQ => by
 have e : (l.setIfInBounds k true).getD k false = true := by simp [of_decide_eq_true hk]
 exact wpOp_mono (fun a' w' h' => ⟨fun q => absurd (e.symm.trans q) (by decide), wpAnyL_last n _ a' w' e h'.2⟩) (h.out hQ)⟩
end
end L
end Go.Proofs.YthclniimhpmeoaaGreatDoor
namespace Go.Proofs.YthclniimhpmeoaaGreatDoor
namespace V
theorem bl_nil (x : List UInt8) : Op.bytesLess x [] = false := by unfold Op.bytesLess; rfl
theorem bl_cons (a b : UInt8) (x y : List UInt8) : Op.bytesLess (a :: x) (b :: y) = true ↔ a.toNat < b.toNat ∨ (a = b ∧ Op.bytesLess x y = true) := by
 rw [Op.bytesLess];simp [UInt8.lt_iff_toNat_lt]
theorem bl_irr : ∀ x : List UInt8, Op.bytesLess x x = false
 | [] => rfl
 | a :: x => by
   have ih := bl_irr x;rw [← Bool.not_eq_true, bl_cons];rintro (h | ⟨_, h⟩)
   ·omega
   ·rw [ih] at h; exact Bool.noConfusion h
theorem bl_asym : ∀ x y : List UInt8, Op.bytesLess x y = true → Op.bytesLess y x = false
 | _, [], h => by rw [bl_nil] at h; exact Bool.noConfusion h
 | [], _ :: _, _ => bl_nil _
 | a :: x, b :: y, h => by
   rw [bl_cons] at h;rw [← Bool.not_eq_true, bl_cons];rintro (g | ⟨g, g'⟩)
   ·rcases h with h | ⟨h, _⟩
    ·omega
    ·subst h; omega
   ·subst g;rcases h with h | ⟨_, h⟩
    ·omega
    ·rw [bl_asym x y h] at g'; exact Bool.noConfusion g'
theorem bl_total : ∀ x y : List UInt8, Op.bytesLess x y = false → Op.bytesLess y x = false → x = y
 | [], [], _, _ => rfl
 | [], b :: y, h, _ => by exact Bool.noConfusion h
 | a :: x, [], _, h => by exact Bool.noConfusion h
 | a :: x, b :: y, h, g => by
   rw [← Bool.not_eq_true, bl_cons] at h g
   have hab : a.toNat = b.toNat := by
    have h1 : ¬ a.toNat < b.toNat := fun e => h (Or.inl e);have h2 : ¬ b.toNat < a.toNat := fun e => g (Or.inl e);omega
   have hab := UInt8.toNat_inj.1 hab;subst hab;(have h1 : Op.bytesLess x y = false := by rw [← Bool.not_eq_true]; exact fun e => h (Or.inr ⟨rfl, e⟩));(have h2 : Op.bytesLess y x = false := by rw [← Bool.not_eq_true]; exact fun e => g (Or.inr ⟨rfl, e⟩));rw [bl_total x y h1 h2]
end V
end Go.Proofs.YthclniimhpmeoaaGreatDoor
namespace Go.Proofs.YthclniimhpmeoaaGreatDoor
open Go.RowKit
def SlF (w : World) (B : Nat) (v : Value) (l : List UInt8) : Prop :=
 ∃ A c, v = .slice A l.length c ∧ l.length ≤ c ∧ c ≤ maxLen ∧ (A = none → l = [] ∧ c = 0) ∧ Rd w B A (bc l)
section
variable {w w' : World} {B B' : Nat} {v : Value} {l : List UInt8}
theorem SlF.keep (h : SlF w B v l) (hk : ∀ p : Addr, p.block < B → w'.cell? p = w.cell? p) : SlF w' B v l := by
 obtain ⟨A, c, h1, h2, h3, h4, h5⟩ := h;exact ⟨A, c, h1, h2, h3, h4, h5.keep hk⟩
theorem SlF.more (h : SlF w B v l) (hB : B ≤ B') : SlF w B' v l := by
 obtain ⟨A, c, h1, h2, h3, h4, h5⟩ := h;exact ⟨A, c, h1, h2, h3, h4, h5.more hB⟩
theorem SlF.below (h : SlF w B v l) (hb : Below B w w') : SlF w' B v l := h.keep fun _ hp => hb.cell hp
theorem SlF.belowM (h : SlF w B v l) (hb : Below B' w w') (hB : B ≤ B') : SlF w' B v l := h.keep fun _ hp => (hb.mono hB).cell hp
theorem SlF.ofOwn {base n : Nat} (h : w.ownsRow base 5 1 v n (bc l)) : SlF w w.heap.size v l := by
 obtain ⟨A, c, rfl, hc, hA, hm⟩ := ownShape h;(have hn : n = l.length := by have := h.1; rw [bc_len] at this; omega);subst hn;exact ⟨A, c, rfl, hc, hm, fun h => ⟨List.eq_nil_of_length_eq_zero (hA h).1, (hA h).2⟩, Rd.ofOwn h⟩
theorem SlF.nil : SlF w B (.slice none 0 0) [] := ⟨none, 0, rfl, Nat.zero_le _, by simp [maxLen], fun _ => ⟨rfl, rfl⟩, Rd.nil⟩
end
def SlBs (w : World) (B : Nat) (vs : List Value) (ls : List (List UInt8)) : Prop :=
 vs.length = ls.length ∧ ∀ (i : Nat) (v : Value) (l : List UInt8), vs[i]? = some v → ls[i]? = some l → SlF w B v l
section
variable {w w' : World} {B B' : Nat} {vs : List Value} {ls : List (List UInt8)}
theorem SlBs.keep (h : SlBs w B vs ls) (hk : ∀ p : Addr, p.block < B → w'.cell? p = w.cell? p) : SlBs w' B vs ls := ⟨h.1, fun i v l h1 h2 => (h.2 i v l h1 h2).keep hk⟩
theorem SlBs.more (h : SlBs w B vs ls) (hB : B ≤ B') : SlBs w B' vs ls := ⟨h.1, fun i v l h1 h2 => (h.2 i v l h1 h2).more hB⟩
theorem SlBs.below (h : SlBs w B vs ls) (hb : Below B w w') : SlBs w' B vs ls := h.keep fun _ hp => hb.cell hp
theorem SlBs.belowM (h : SlBs w B vs ls) (hb : Below B' w w') (hB : B ≤ B') : SlBs w' B vs ls := h.keep fun _ hp => (hb.mono hB).cell hp
theorem SlBs.nil : SlBs w B [] [] := ⟨rfl, fun i v l h => by simp at h⟩
theorem SlBs.one {v : Value} {l : List UInt8} (h : SlF w B v l) : SlBs w B [v] [l] := by
 refine ⟨rfl, fun i u m h1 h2 => ?_⟩
 match i, h1, h2 with
 | 0, h1, h2 => simp at h1 h2; subst h1; subst h2; exact h
 | i + 1, h1, h2 => simp at h1
theorem SlBs.take (h : SlBs w B vs ls) (k : Nat) : SlBs w B (vs.take k) (ls.take k) := by
 refine ⟨by simp [h.1], fun i v l h1 h2 => ?_⟩;rw [List.getElem?_take] at h1 h2
 split at h1
 ·rename_i hi
  rw [if_pos hi] at h2;exact h.2 i v l h1 h2
 ·cases h1
theorem SlBs.cell (h : SlBs w B vs ls) : ∀ u ∈ vs, u.oneCell' = true := by
 intro u hu;obtain ⟨i, hi, rfl⟩ := List.getElem_of_mem hu;obtain ⟨A, c, e, _⟩ := h.2 i vs[i] (ls[i]'(by rw [← h.1]; exact hi)) (List.getElem?_eq_getElem hi) (List.getElem?_eq_getElem _);rw [e]; rfl
end
end Go.Proofs.YthclniimhpmeoaaGreatDoor
namespace Go.Proofs.YthclniimhpmeoaaGreatDoor
open Go.RowKit
section
variable {P : Program} (w : World)
end
def Apart (u v : Value) : Prop := ∀ k, u.ownBlock = some k → v.ownBlock ≠ some k
theorem Apart.symm {u v : Value} (h : Apart u v) : Apart v u := fun k hv hu => h k hu hv
theorem Apart.nil {v : Value} : Apart (.slice none 0 0) v := fun k h => by cases h
theorem Apart.fresh {w w' : World} {u v : Value} {base e e' n m B : Nat} {xs ys : List Value} (hu : w.ownsRow base e 1 u n xs) (hv : w'.ownsRow B e' 1 v m ys) (hB : w.heap.size ≤ B) : Apart u v := fun k hk hv' => by
 have h1 := (hu.lt k hk).2;have h2 := (hv.lt k hv').1;omega
def grown2 (w w' : World) (g : Nat) (o : Option Nat) : Prop :=
 w'.os = w.os ∧ w'.tape = w.tape ∧ w'.output = w.output ∧ w.heap.size ≤ w'.heap.size ∧ ∀ k, k < w.heap.size → k ≠ g → some k ≠ o → w'.heap[k]? = w.heap[k]?
theorem grown2.refl (w : World) (g : Nat) (o : Option Nat) : grown2 w w g o := ⟨rfl, rfl, rfl, Nat.le_refl _, fun _ _ _ _ => rfl⟩
theorem grown2.drewN {w w' : World} {g : Nat} {o : Option Nat} (h : grown2 w w' g o) (n : Nat) : grown2 w (w'.drewN n) g o := h
theorem grown2.ofBelow {w w' : World} (g : Nat) (o : Option Nat) (h : Below w.heap.size w w') : grown2 w w' g o := ⟨h.os, h.tape, h.output, h.size, fun k hk _ _ => h.block k hk⟩
theorem grown2.trans {a b c : World} {g : Nat} {o o' : Option Nat} (h : grown2 a b g o) (k : grown2 b c g o') (ho : ∀ x, x < a.heap.size → some x ≠ o → some x ≠ o') : grown2 a c g o := by
 obtain ⟨h1, h2, h3, h4, h5⟩ := h;obtain ⟨k1, k2, k3, k4, k5⟩ := k;exact ⟨k1.trans h1, k2.trans h2, k3.trans h3, Nat.le_trans h4 k4, fun x hx hg hxo => (k5 x (by omega) hg (ho x hx hxo)).trans (h5 x hx hg hxo)⟩
theorem grown2.below {w w' : World} {g B : Nat} {o : Option Nat} (h : grown2 w w' g o) (hg : B ≤ g) (ho : ∀ k, o = some k → B ≤ k) (hB : B ≤ w.heap.size) : Below B w w' := by
 obtain ⟨h1, h2, h3, h4, h5⟩ := h;exact ⟨h1, h2, h3, h4, fun k hk => h5 k (by omega) (by omega) (fun e => by have := ho k e.symm; omega)⟩
theorem grown2.row {w w' : World} {g : Nat} {o : Option Nat} (h : grown2 w w' g o) {base e n : Nat} {v : Value} {xs : List Value} (hv : w.ownsRow base e 1 v n xs) (hg : v.ownBlock ≠ some g) (ho : ∀ k, v.ownBlock = some k → o ≠ some k) : w'.ownsRow base e 1 v n xs := by
 refine ⟨hv.1, ?_⟩;rcases hv.2 with h2 | ⟨b, cap, cur, rfl, hb, hh, r⟩
 ·exact .inl h2
 ·refine .inr ⟨b, cap, cur, rfl, hb, ?_, r⟩;rw [h.2.2.2.2 b (ltAt hh) (fun e => hg (by subst e; rfl)) (fun e => ho b rfl e.symm)];exact hh
theorem rowNe {w : World} {g base e n t : Nat} {v : Value} {xs : List Value} {cs : Array Value} (hv : w.ownsRow base e 1 v n xs) (hg : w.heap[g]? = some (.cells cs t (0, 0))) (hne : e ≠ t) : v.ownBlock ≠ some g := fun h => by
 obtain ⟨c, fz, hk⟩ := Lib.ownsRow_kind hv g h;rw [hg] at hk;injection hk with hk;injection hk with _ h2;exact hne h2.symm
structure Dk where
 size : Nat
 b : List UInt8
 lasts : Nat
 fuse : Int
 down : Bool
 within : Bool
 rep : List UInt8
namespace D
def new (n : Int) : Dk := ⟨(max n 0).toNat, [], 0, -1, false, false, []⟩
def act (d : Dk) : Bool × Dk := if d.fuse = 0 then (false, { d with down := true }) else if 0 < d.fuse then (true, { d with fuse := d.fuse - 1 }) else (true, d)
def append (d : Dk) (l : List UInt8) : Nat × Dk :=
 if d.down = true then (8, d) else if d.size - d.b.length < l.length then (7, d)
 else (if (act d).1 = true then 0 else 8, { (act d).2 with b := d.b ++ l })
def replace (d : Dk) (l : List UInt8) : Nat × Dk :=
 if d.down = true then (8, d) else if d.size < l.length then (7, d)
 else if (act d).1 = true then (0, { (act d).2 with b := l, lasts := l.length }) else (8, { (act d).2 with within := true, rep := l })
def cutB (d : Dk) (n : Int) : List UInt8 := if d.within = true then (if 0 < n then d.rep else d.b.take d.lasts) else d.b.take (d.lasts + (min (max n 0) ((d.b.length : Int) - d.lasts)).toNat)
def cut (d : Dk) (n : Int) : Dk := { new d.size with b := cutB d n, lasts := (cutB d n).length }
end D
def DkAt (w : World) (base g : Nat) (bv rv : Value) (d : Dk) : Prop :=
 w.heap[g]? = some (.cells #[.int .i64 (d.size : Int), bv, .int .i64 (d.lasts : Int), .int .i64 d.fuse, .bool d.down, .bool d.within, rv] 114 (0, 0)) ∧ base ≤ g
 ∧ w.ownsRow base 5 1 bv d.b.length (bc d.b) ∧ w.ownsRow base 5 1 rv d.rep.length (bc d.rep) ∧ Apart bv rv
 ∧ d.lasts ≤ d.b.length ∧ d.b.length ≤ d.size ∧ d.rep.length ≤ d.size ∧ d.size ≤ 1000000000 ∧ -1 ≤ d.fuse ∧ d.fuse ≤ 9223372036854775807 ∧ (d.within = true → d.down = true)
theorem DkAt.other {w w' : World} {base g : Nat} {bv rv : Value} {d : Dk} (h : DkAt w base g bv rv d) (hk : ∀ k, k < w.heap.size → k = g ∨ bv.ownBlock = some k ∨ rv.ownBlock = some k → w'.heap[k]? = w.heap[k]?) : DkAt w' base g bv rv d := by
 obtain ⟨h0, h1, h2, h3, h4⟩ := h
 have row : ∀ (v : Value) (n : Nat) (xs : List Value), w.ownsRow base 5 1 v n xs → (∀ k, v.ownBlock = some k → w'.heap[k]? = w.heap[k]?) → w'.ownsRow base 5 1 v n xs := fun v n xs hv hh => by
  refine ⟨hv.1, ?_⟩;rcases hv.2 with h2 | ⟨b, cap, cur, rfl, hb, hc, r⟩
  ·exact .inl h2
  ·exact .inr ⟨b, cap, cur, rfl, hb, by rw [hh b rfl]; exact hc, r⟩
 exact ⟨by rw [hk g (ltAt h0) (.inl rfl)]; exact h0, h1, row _ _ _ h2 (fun k e => hk k (h2.lt k e).2 (.inr (.inl e))), row _ _ _ h3 (fun k e => hk k (h3.lt k e).2 (.inr (.inr e))), h4⟩
theorem DkAt.drewN {w : World} {base g : Nat} {bv rv : Value} {d : Dk} (h : DkAt w base g bv rv d) (n : Nat) : DkAt (w.drewN n) base g bv rv d := h
theorem DkAt.below {w w' : World} {base g : Nat} {bv rv : Value} {d : Dk} (h : DkAt w base g bv rv d) (hb : Below w.heap.size w w') : DkAt w' base g bv rv d := h.other fun k hk _ => hb.block k hk
theorem DkAt.grown {w w' : World} {base g : Nat} {bv rv : Value} {d : Dk} {o : Option Nat} (h : DkAt w base g bv rv d) (hg : w.grownBy w' o) (h1 : o ≠ some g) (h2 : ∀ k, o = some k → bv.ownBlock ≠ some k) (h3 : ∀ k, o = some k → rv.ownBlock ≠ some k) : DkAt w' base g bv rv d :=
 h.other fun k hk e => hg.block k hk (fun e2 => by
  subst e2;rcases e with rfl | e | e
  ·exact h1 rfl
  ·exact h2 _ rfl e
  ·exact h3 _ rfl e)
def Acted (w : World) (base g : Nat) (bv rv : Value) (p : Nat × Dk) (e : Ending) (w' : World) : Prop :=
 ∃ bv' rv', e = .returned (.int .i64 (p.1 : Int)) ∧ DkAt w' base g bv' rv' p.2 ∧ grown2 w w' g bv.ownBlock ∧ (bv'.ownBlock = none ∨ bv'.ownBlock = bv.ownBlock ∨ ∃ k, bv'.ownBlock = some k ∧ w.heap.size ≤ k) ∧ (rv' = rv ∨ ∀ k, rv'.ownBlock = some k → w.heap.size ≤ k)
theorem DkAt.bytes {w : World} {base g : Nat} {bv rv : Value} {d : Dk} (h : DkAt w base g bv rv d) : SlF w w.heap.size bv d.b := SlF.ofOwn h.2.2.1
theorem belowRow {w w' : World} {base e n : Nat} {v : Value} {xs : List Value} (h : w.ownsRow base e 1 v n xs) (hb : Below w.heap.size w w') : w'.ownsRow base e 1 v n xs :=
 h.kept ⟨hb.os, hb.tape, hb.output, hb.size, fun k hk _ => hb.block k hk⟩ (by cases hv : v.ownBlock with
  | none => exact .inl rfl
  | some g => exact .inr (by simp) : v.ownBlock = none ∨ v.ownBlock ≠ none)
theorem DkAt.laid {w w1 : World} {base g : Nat} {bv rv v : Value} {d : Dk} {l : List UInt8} (h : DkAt w base g bv rv d) (hb : Below w.heap.size w w1) (hbw : base ≤ w.heap.size) (hv : w1.ownsRow w.heap.size 5 1 v l.length (bc l)) (hl : l.length ≤ d.size) :
 DkAt ((w1.setCell ⟨g, 1, none⟩ v).setCell ⟨g, 2, none⟩ (.int .i64 (l.length : Int))) base g v rv { d with b := l, lasts := l.length } ∧ w.grownBy ((w1.setCell ⟨g, 1, none⟩ v).setCell ⟨g, 2, none⟩ (.int .i64 (l.length : Int))) (some g) := by
 obtain ⟨h0, hbg, rowb, rowr, hap, hlb, hbs, hrs, hs, hf1, hf2, hdw⟩ := h;have e1 : w1.heap[g]? = _ := (hb.block g (ltAt h0)).trans h0;have rowr1 := belowRow rowr hb;have e2 := setAt e1 1 v;have e3 := setAt e2 2 (.int .i64 (l.length : Int));have g2 := grownSet w1 g 1 v;have g3 := grownSet (w1.setCell ⟨g, 1, none⟩ v) g 2 (.int .i64 (l.length : Int));have g23 := g2.trans g3;refine ⟨⟨e3, hbg, (ownMore hv hbw).kept g23 (.inr (rowNe hv e1 (by decide))), rowr1.kept g23 (.inr (rowNe rowr1 e1 (by decide))), (Apart.fresh rowr hv (Nat.le_refl _)).symm, Nat.le_refl _, hl, hrs, hs, hf1, hf2, hdw⟩, ?_⟩;exact World.grownBy.trans ⟨hb.os, hb.tape, hb.output, hb.size, fun k hk _ => hb.block k hk⟩ g23
end Go.Proofs.YthclniimhpmeoaaGreatDoor
namespace Go.Proofs.YthclniimhpmeoaaGreatDoor
open Go.RowKit
structure Fr (w w' : World) (D : Nat → Prop) : Prop where
 os : w'.os = w.os
 tape : w'.tape = w.tape
 output : w'.output = w.output
 size : w.heap.size ≤ w'.heap.size
 block : ∀ k, k < w.heap.size → ¬ D k → w'.heap[k]? = w.heap[k]?
structure Mv (w w' : World) (D D' : Nat → Prop) : Prop where
 fr : Fr w w' D
 sub : ∀ k, D' k → D k ∨ w.heap.size ≤ k
section
variable {w w' w'' : World} {D D' D'' : Nat → Prop} {B : Nat} {P : World → Prop}
theorem Fr.refl : Fr w w D := ⟨rfl, rfl, rfl, Nat.le_refl _, fun _ _ _ => rfl⟩
theorem Fr.drew : Fr w w.drew D := ⟨rfl, rfl, rfl, Nat.le_refl _, fun _ _ _ => rfl⟩
theorem Mv.refl : Mv w w D D := ⟨Fr.refl, fun _ h => Or.inl h⟩
theorem Fr.ofBelow (h : Below w.heap.size w w') : Fr w w' D := ⟨h.os, h.tape, h.output, h.size, fun k hk _ => h.block k hk⟩
theorem Mv.ofBelow (h : Below w.heap.size w w') : Mv w w' D D := ⟨Fr.ofBelow h, fun _ h => Or.inl h⟩
theorem Mv.trans (h : Mv w w' D D') (g : Mv w' w'' D' D'') : Mv w w'' D D'' :=
 ⟨⟨g.fr.os.trans h.fr.os, g.fr.tape.trans h.fr.tape, g.fr.output.trans h.fr.output, Nat.le_trans h.fr.size g.fr.size, fun k hk hd =>
   (g.fr.block k (Nat.lt_of_lt_of_le hk h.fr.size) (fun e => by rcases h.sub k e with q | q; exact hd q; omega)).trans (h.fr.block k hk hd)⟩,
  fun k hk => by
   rcases g.sub k hk with q | q
   ·exact h.sub k q
   ·exact Or.inr (Nat.le_trans h.fr.size q)⟩
theorem Fr.below (h : Fr w w' D) (hD : ∀ k, D k → B ≤ k) (hB : B ≤ w.heap.size) : Below B w w' :=
 ⟨h.os, h.tape, h.output, h.size, fun k hk => h.block k (by omega) (fun e => by have := hD k e; omega)⟩
def Kp (w : World) (D : Nat → Prop) (P : World → Prop) : Prop := ∀ z, Fr w z D → P z
theorem Kp.out (h : Kp w D P) : P w := h w Fr.refl
theorem Kp.mv (h : Kp w D P) (m : Mv w w' D D') : Kp w' D' P := fun z hz => h z (m.trans ⟨hz, fun k hk => Or.inl hk⟩).fr
theorem Kp.below (h : Kp w D P) (m : Below w.heap.size w w') : Kp w' D P := h.mv (Mv.ofBelow m)
def Ft (g : Nat) (bv rv : Value) : Nat → Prop := fun k => k = g ∨ bv.ownBlock = some k ∨ rv.ownBlock = some k
theorem DkAt.ft {base g k : Nat} {bv rv : Value} {d : Dk} (h : DkAt w base g bv rv d) (hk : Ft g bv rv k) : base ≤ k ∧ k < w.heap.size := by
 rcases hk with rfl | e | e
 ·exact ⟨h.2.1, ltAt h.1⟩
 ·exact h.2.2.1.lt k e
 ·exact h.2.2.2.1.lt k e
def DkP (w : World) (base g : Nat) (bv rv : Value) (p : Nat × Dk) (e : Ending) (w' : World) : Prop :=
 ∃ bv' rv', e = .returned (.int .i64 (p.1 : Int)) ∧ DkAt w' base g bv' rv' p.2 ∧ Mv w w' (Ft g bv rv) (Ft g bv' rv')
theorem Acted.mv {base g : Nat} {bv rv : Value} {p : Nat × Dk} {e : Ending} (h : Acted w base g bv rv p e w') : DkP w base g bv rv p e w' := by
 obtain ⟨bv', rv', h1, h2, h3, h4, h5⟩ := h;refine ⟨bv', rv', h1, h2, ⟨⟨h3.1, h3.2.1, h3.2.2.1, h3.2.2.2.1, fun k hk hd => h3.2.2.2.2 k hk (fun q => hd (Or.inl q)) (fun q => hd (Or.inr (Or.inl q.symm)))⟩, fun k hk => ?_⟩⟩;rcases hk with e | e | e
 ·exact Or.inl (Or.inl e)
 ·rcases h4 with q | q | ⟨j, q1, q2⟩
  ·rw [q] at e; cases e
  ·exact Or.inl (Or.inr (Or.inl (q ▸ e)))
  ·rw [q1] at e; cases e; exact Or.inr q2
 ·rcases h5 with q | q
  ·exact Or.inl (Or.inr (Or.inr (q ▸ e)))
  ·exact Or.inr (q k e)
theorem DkAt.mono {base base' g : Nat} {bv rv : Value} {d : Dk} (h : DkAt w base g bv rv d) (hb : base' ≤ base) : DkAt w base' g bv rv d :=
 ⟨h.1, Nat.le_trans hb h.2.1, ownMore h.2.2.1 hb, ownMore h.2.2.2.1 hb, h.2.2.2.2⟩
end
end Go.Proofs.YthclniimhpmeoaaGreatDoor
namespace Go.Proofs.YthclniimhpmeoaaGreatDoor.F
def poly : Nat := 3988292384
def step (s : Nat) : Nat := if s % 2 = 1 then (s / 2) ^^^ poly else s / 2
def steps : Nat → Nat → Nat
 | 0, s => s
 | n + 1, s => steps n (step s)
def upd (s : Nat) (b : UInt8) : Nat := steps 8 (s ^^^ b.toNat)
def run (s : Nat) (l : List UInt8) : Nat := l.foldl upd s
def sum (l : List UInt8) : Nat := 4294967295 - run 4294967295 l
end Go.Proofs.YthclniimhpmeoaaGreatDoor.F
namespace Go.Proofs.YthclniimhpmeoaaGreatDoor.F
def wrap (b : List UInt8) : List UInt8 × Nat := if 60000 < b.length then ([], 3) else (C.be b.length 4 ++ C.be (sum b) 4 ++ b, 0)
def unwrap (b : List UInt8) : List UInt8 × Nat × Nat :=
 if b.length < 8 then ([], 0, 4)
 else if 60000 < C.val 0 (b.take 4) then ([], 0, 3)
 else if b.length - 8 < C.val 0 (b.take 4) then ([], 0, 4)
 else if sum ((b.drop 8).take (C.val 0 (b.take 4))) = C.val 0 ((b.drop 4).take 4) then ((b.drop 8).take (C.val 0 (b.take 4)), 8 + C.val 0 (b.take 4), 0)
 else ([], 0, 5)
def allF : Nat → List UInt8 → List (List UInt8) × Nat
 | 0, _ => ([], 0)
 | k + 1, b => if (unwrap b).2.2 = 0 then ((unwrap b).1 :: (allF k (b.drop (unwrap b).2.1)).1, (unwrap b).2.1 + (allF k (b.drop (unwrap b).2.1)).2) else ([], 0)
def all (b : List UInt8) : List (List UInt8) × Nat := allF b.length b
end Go.Proofs.YthclniimhpmeoaaGreatDoor.F
namespace Go.Proofs.YthclniimhpmeoaaGreatDoor
def tls : Nat → Code → Code
 | 0, c => c
 | n + 1, .seq _ y => tls n y
 | _ + 1, c => c
theorem wp_tail {P : Program} {Q : Exit → Act → World → Prop} {a : Act} {w : World} (n : Nat) {c : Code} (h : ∀ K : Act → World → Prop, (∀ a w, (tls n c).wp P Q a w → K a w) → (∀ a w, K a w → (tls n c).wp P Q a w) → c.wp P Q a w) : c.wp P Q a w := h _ (fun _ _ h => h) (fun _ _ h => h)
end Go.Proofs.YthclniimhpmeoaaGreatDoor
namespace Go.Proofs.YthclniimhpmeoaaGreatDoor
theorem wp_tail2 {P : Program} {Q : Exit → Act → World → Prop} {a : Act} {w : World} (n : Nat) {c r d b : Code} (_ : tls n c = .seq (.seq r d) b)
 (h : ∀ K : Act → World → Prop, (∀ a w, (∀ K1 K2 : Act → World → Prop, (∀ a w, b.wp P Q a w → K1 a w) → (∀ a w, d.wp P (Exit.then K1 Q) a w → K2 a w) → r.wp P (Exit.then K2 (Exit.then K1 Q)) a w) → K a w) →
  (∀ a w, K a w → ∀ K1 K2 : Act → World → Prop, (∀ a w, b.wp P Q a w → K1 a w) → (∀ a w, d.wp P (Exit.then K1 Q) a w → K2 a w) → r.wp P (Exit.then K2 (Exit.then K1 Q)) a w) → c.wp P Q a w) : c.wp P Q a w :=
 h (fun a w => ∀ K1 K2 : Act → World → Prop, (∀ a w, b.wp P Q a w → K1 a w) → (∀ a w, d.wp P (Exit.then K1 Q) a w → K2 a w) → r.wp P (Exit.then K2 (Exit.then K1 Q)) a w) (fun _ _ h => h) (fun _ _ h => h)
end Go.Proofs.YthclniimhpmeoaaGreatDoor
