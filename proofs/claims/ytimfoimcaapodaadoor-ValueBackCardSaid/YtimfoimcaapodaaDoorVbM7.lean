import Derived.Test.YtimfoimcaapodaaDoorVbM4
import Derived.Laws.BitsAllLaws
import GoSem.Op.String
set_option maxRecDepth 20001
set_option linter.unusedSimpArgs false
set_option linter.unusedVariables false
namespace Go.Proofs.YtimfoimcaapodaaDoor
set_option maxRecDepth 20000
open Go
variable {P : Program} {ops : Array Oper} {Q : Exit → Act → World → Prop} {S : World → Prop} {k : Nat}
def wpAnyL (P : Program) (ops : Array Oper) (Q : Exit → Act → World → Prop) (S : World → Prop) (k : Nat) : Nat → Array Bool → Act → World → Prop
 | 0, l, a, w => Region.ready .any ops l = [] ∧ Q .normal a w
 | n + 1, l, a, w => (Region.ready .any ops l = [] → Q .normal a w) ∧ ∀ i ∈ Region.ready .any ops l, wpOp P ops Q i (fun a' w' => ((l.setIfInBounds i true).getD k false = false → S w') ∧ wpAnyL P ops Q S k n (l.setIfInBounds i true) a' w') a w
theorem wpAny_of_L : ∀ (n : Nat) (l : Array Bool) (a : Act) (w : World), wpAnyL P ops Q S k n l a w → wpAny P .any ops Q n l a w
 | 0, _, _, _, h => h
 | n + 1, _, _, _, h => ⟨h.1, fun i hi => wpOp_mono (fun a' w' h' => wpAny_of_L n _ a' w' h'.2) (h.2 i hi)⟩
theorem getD_set_far {l : Array Bool} {i k : Nat} (h : i ≠ k) : (l.setIfInBounds i true).getD k false = l.getD k false := by
 simp [Array.getD_eq_getD_getElem?, Array.getElem?_setIfInBounds, h]
theorem wpAnyL_first {i : Nat} {oi : Oper} {v : Value} (hi : ops[i]? = some oi) (hsel : ∀ (j : Nat) (o : Oper) cs b, ops[j]? = some o → o.op ≠ .select cs b)
 (hQ : ∀ c a w, Q (.panic c) (a.put oi.dst v) w → Q (.panic c) a w) (hik : i ≠ k) (hk : ∀ ok, ops[k]? = some ok → ∃ e ∈ ok.after, Region.binds .any e = true ∧ e.on = i) :
 ∀ (n : Nat) (l : Array Bool) (a : Act) (w : World),
  (∀ j oj, ops[j]? = some oj → j ≠ i → l.getD j true = false → (∀ e ∈ oj.after, Region.binds .any e = true → e.on ≠ i) → oi.apart ops oj = true) →
  i ∈ Region.ready .any ops l → YieldsIf P ops S oi v a → S w → l.getD k false = false →
  wpAnyL P ops Q S k n (l.setIfInBounds i true) (a.put oi.dst v) w → wpAnyL P ops Q S k (n + 1) l a w := by
 intro n
 induction n with
 | zero =>
   intro l a w _ hr hy hS hlk H;refine ⟨fun h => (by rw [h] at hr; cases hr), fun j hj => ?_⟩
   by_cases hji : j = i
   ·subst hji; exact hy.wpOp hi hS ⟨fun _ => hS, H⟩
   ·have := ready_mono hj hji;rw [H.1] at this;cases this
 | succ n ih =>
   intro l a w hfree hr hy hS hlk H;refine ⟨fun h => (by rw [h] at hr; cases hr), fun j hj => ?_⟩
   by_cases hji : j = i
   ·subst hji; exact hy.wpOp hi hS ⟨fun _ => hS, H⟩
   ·have h1 := H.2 j (ready_mono hj hji);obtain ⟨hjun, oj, hoj, hall⟩ := mem_ready.1 hj
    have hnot : ∀ e ∈ oj.after, Region.binds .any e = true → e.on ≠ i := fun e he hb heq => by
     have h1 := hall e he hb;have h0 := (mem_ready.1 hr).1;rw [heq] at h1;rcases Nat.lt_or_ge i l.size with h' | h'
     ·simp [h'] at h0 h1; rw [h0] at h1; cases h1
     ·simp [Array.getElem?_eq_none h'] at h1
    have hjk : j ≠ k := by
     rintro rfl;obtain ⟨e, he, hb, hei⟩ := hk oj hoj;exact hnot e he hb hei
    (have hlj : (l.setIfInBounds j true).getD k false = false := by rw [getD_set_far hjk]; exact hlk);have h2 := wpOp_putIf hoj (hfree j oj hoj hji hjun hnot) (fun cs b => hsel i oi cs b hi) (fun cs b => hsel j oj cs b hoj) hQ hy h1
    have hfree' : ∀ m om, ops[m]? = some om → m ≠ i → (l.setIfInBounds j true).getD m true = false →
     (∀ e ∈ om.after, Region.binds .any e = true → e.on ≠ i) → oi.apart ops om = true := fun m om hm hmi hun hno => by
     refine hfree m om hm hmi ?_ hno
     by_cases hjm : j = m
     ·subst hjm; exact hjun
     ·rw [getD_set_ne true hjm] at hun; exact hun
    have hq : ∀ w', (((l.setIfInBounds i true).setIfInBounds j true).getD k false = false → S w') → S w' := fun w' h => h (by rw [getD_set_far hjk, getD_set_far hik]; exact hlk);refine wpOp_mono (fun a' w' h3 => ⟨fun _ => hq w' h3.2.1, ih (l.setIfInBounds j true) a' w' hfree' (ready_mono hr (Ne.symm hji)) h3.1 (hq w' h3.2.1) hlj ?_⟩) h2;rw [Array.setIfInBounds_comm _ _ hji];exact h3.2.2
theorem wpAnyL_done {l : Array Bool} {a : Act} {w : World} (hr : Region.ready .any ops l = []) (h : Q .normal a w) : ∀ n, wpAnyL P ops Q S k n l a w
 | 0 => ⟨hr, h⟩
 | _ + 1 => ⟨fun _ => h, by rw [hr]; simp⟩
theorem wpAnyL_all {rs : List Nat} {n : Nat} {l : Array Bool} {a : Act} {w : World} (hr : Region.ready .any ops l = rs) (hne : rs ≠ [])
 (h : ∀ i ∈ rs, wpOp P ops Q i (fun a' w' => ((l.setIfInBounds i true).getD k false = false → S w') ∧ wpAnyL P ops Q S k n (l.setIfInBounds i true) a' w') a w) : wpAnyL P ops Q S k (n + 1) l a w :=
 ⟨fun h0 => absurd (hr ▸ h0) hne, hr ▸ h⟩
def waits (ops : Array Oper) (k i : Nat) : Bool := match ops[k]? with
 | some o => o.after.any fun e => Region.binds .any e && e.on == i
 | none => true
def freeL (k : Nat) (ops : Array Oper) (l : Array Bool) (i : Nat) : Bool := freeAt' ops l i && (!(i == k) && (!(l.getD k false) && waits ops k i))
theorem wpAnyL_take {i : Nat} {oi : Oper} {v : Value} {n : Nat} {l : Array Bool} {a : Act} {w : World} (hi : ops[i]? = some oi) (hf : freeL k ops l i = true)
 (hQ : ∀ c a w, Q (.panic c) (a.put oi.dst v) w → Q (.panic c) a w) (hy : YieldsIf P ops S oi v a) (hS : S w)
 (h : wpAnyL P ops Q S k n (l.setIfInBounds i true) (a.put oi.dst v) w) : wpAnyL P ops Q S k (n + 1) l a w := by
 unfold freeL freeAt' at hf;simp only [Bool.and_eq_true, Bool.not_eq_true', beq_eq_false_iff_ne, ne_eq] at hf;obtain ⟨⟨⟨h1, h2⟩, h3⟩, h4, h5, h6⟩ := hf;refine wpAnyL_first hi (Region.noSelect_spec h1) hQ h4 (fun ok hok => ?_) n l a w (Region.free_spec hi h2) (by simpa using h3) hy hS h5 h;unfold waits at h6; rw [hok] at h6;obtain ⟨x, hx, hy'⟩ := Array.any_eq_true.1 h6;rw [Bool.and_eq_true, beq_iff_eq] at hy';exact ⟨_, Array.getElem_mem hx, hy'.1, hy'.2⟩
theorem wp_region_L {id : Nat} {a : Act} {w : World} (hm : P.follows .mixedOrders = true) (h : wpAnyL P ops Q S k ops.size (Array.replicate ops.size false) a w.drew) : (Code.region id ops true).wp P Q a w :=
 wp_region_any hm (wpAny_of_L _ _ _ _ h)
end Go.Proofs.YtimfoimcaapodaaDoor
namespace Go.Proofs.YtimfoimcaapodaaDoor
namespace L
open Go.RowKit
section
structure AnyS (P : Program) (ops : Array Oper) (Q : Exit → Act → World → Prop) (S : World → Prop) (k n : Nat) (l : Array Bool) (a : Act) (w : World) : Prop where
 out : PanicOk Q → wpAnyL P ops Q S k n l a w
structure StepS (P : Program) (ops : Array Oper) (Q : Exit → Act → World → Prop) (S : World → Prop) (k n : Nat) (l : Array Bool) (a : Act) (w : World) (i : Nat) : Prop where
 out : PanicOk Q → wpOp P ops Q i (fun a' w' => ((l.setIfInBounds i true).getD k false = false → S w') ∧ wpAnyL P ops Q S k n (l.setIfInBounds i true) a' w') a w
theorem okIntP {k : IntKind} {x v : Int} {m : Result Next} {w : World} (he : x = v) (h : m = .ok (.value (.int k x)) w) : m = .ok (.value (.int k v)) w := he ▸ h
variable {P : Program} {ops : Array Oper} {Q : Exit → Act → World → Prop} {S : World → Prop} {k n : Nat} {l l' : Array Bool} {a : Act} {w : World}
theorem any_begin {id : Nat} (S : World → Prop) (k n : Nat) (l : Array Bool) (hQ : PanicOk Q) (h : AnyS P ops Q S k n l a w.drew) (hm : P.follows .mixedOrders = true := by kernel_rfl)
 (hn : ops.size = n := by kernel_rfl) (hl : Array.replicate n false = l := by kernel_rfl) : (Code.region id ops true).wp P Q a w :=
 wp_region_L hm (by rw [hn, hl]; exact h.out hQ)
theorem any_end (h : Q .normal a w) (hr : Region.ready .any ops l = [] := by kernel_rfl) : AnyS P ops Q S k n l a w := ⟨fun _ => wpAnyL_done hr h n⟩
theorem any_take {o : Oper} {v : Value} {i : Nat} (hi : ops[i]? = some o) (hf : freeL k ops l i = true) (hy : YieldsIf P ops S o v a) (hS : S w) (hl : l.setIfInBounds i true = l') (h : AnyS P ops Q S k n l' (a.put o.dst v) w) : AnyS P ops Q S k (n + 1) l a w := by
 exact ⟨fun hQ => wpAnyL_take hi hf (fun c _ w hq => hQ c _ _ _ w hq) hy hS (by rw [hl]; exact h.out hQ)⟩
theorem ha (i : Nat) (d : Option Tmp) (v : Value) (l' : Array Bool) (hv : ∀ w, S w → runAt P ops a w i = some (.ok (.value v) w)) (hS : S w) (h : AnyS P ops Q S k n l' (a.put d v) w)
 (hf : freeL k ops l i = true := by kernel_rfl) (hw : wantAt ops a i = some true := by kernel_rfl) (hd : dstAt ops i = some d := by kernel_rfl) (hl : l.setIfInBounds i true = l' := by kernel_rfl) : AnyS P ops Q S k (n + 1) l a w := by
 cases ho : ops[i]? with
 | none => unfold dstAt at hd; rw [ho] at hd; cases hd
 | some o =>
   unfold dstAt at hd; unfold wantAt at hw; unfold runAt at hv;rw [ho] at hd hw; simp only [ho] at hv;have hd : o.dst = d := Option.some.inj hd;have hw : Region.wanted o (yielded ops a.tmps) = true := Option.some.inj hw;exact any_take ho hf (Or.inl ⟨hw, fun w hs => by have := hv w hs; injection this⟩) hS hl (by rw [hd]; exact h)
theorem hl_ (i : Nat) (d : Option Tmp) (v : Value) (p : Addr) (l' : Array Bool) (hc : ∀ w, S w → w.cell? p = some v) {ty : TypeId} {dd : TypeDesc} (hu : P.underlying ty = some dd) (hS : S w) (h : AnyS P ops Q S k n l' (a.put d v) w)
 (hld : ldAt ops a i = some (ty, .pointer (some p)) := by kernel_rfl) (hdd : dd.isRow = false := by rfl)
 (hf : freeL k ops l i = true := by kernel_rfl) (hw : wantAt ops a i = some true := by kernel_rfl) (hd : dstAt ops i = some d := by kernel_rfl) (hl : l.setIfInBounds i true = l' := by kernel_rfl) : AnyS P ops Q S k (n + 1) l a w := by
 obtain ⟨o, x, ho, h1, h2⟩ := ldAt_eq hld;refine ha i d v l' (fun w hs => ?_) hS h hf hw hd hl;unfold runAt; rw [ho];exact congrArg some (run_load1 ty x h1 p h2 v dd (hc w hs) hu hdd)
theorem hg_ (i : Nat) (d : Option Tmp) (b f : Nat) (cs : List Value) (l' : Array Bool) (hc : ∀ w, S w → w.rangeAt b f cs) {ty : TypeId} {dd : TypeDesc} (hu : P.underlying ty = some dd) (hS : S w) (h : AnyS P ops Q S k n l' (a.put d (.agg cs.toArray)) w)
 (hld : ldAt ops a i = some (ty, .pointer (some ⟨b, f, none⟩)) := by kernel_rfl) (hdd : dd.isRow = true := by rfl) (hi : (P.info? ty).map (·.size) = some cs.length := by kernel_rfl)
 (hf : freeL k ops l i = true := by kernel_rfl) (hw : wantAt ops a i = some true := by kernel_rfl) (hd : dstAt ops i = some d := by kernel_rfl) (hl : l.setIfInBounds i true = l' := by kernel_rfl) : AnyS P ops Q S k (n + 1) l a w := by
 obtain ⟨o, x, ho, h1, h2⟩ := ldAt_eq hld;refine ha i d _ l' (fun w hs => ?_) hS h hf hw hd hl;unfold runAt; rw [ho];exact congrArg some (run_loadG ty x h1 b f h2 cs dd (hc w hs) hu hdd hi)
theorem any1 (i : Nat) (h : StepS P ops Q S k n l a w i) (hr : Region.ready .any ops l = [i] := by kernel_rfl) : AnyS P ops Q S k (n + 1) l a w :=
 ⟨fun hQ => wpAnyL_all hr (by simp) fun j hj => by rw [List.mem_singleton.1 hj]; exact h.out hQ⟩
theorem st_o {i : Nat} {o : Oper} (ho : ops[i]? = some o) (hw : Region.wanted o (yielded ops a.tmps) = true) (hl : l.setIfInBounds i true = l')
 (h : ∀ K : Act → World → Prop, (∀ v w', S w' → AnyS P ops Q S k n l' (a.put o.dst v) w' → K (a.put o.dst v) w') → Oper.wp P o a w K Q) : StepS P ops Q S k n l a w i :=
 ⟨fun hQ => by
  unfold wpOp;simp only [ho, hw, if_true];refine Or.inl (h _ fun v w' hs hA => ⟨fun _ => hs, ?_⟩)
  rw [hl]; exact hA.out hQ⟩
theorem st_w (i : Nat) (d : Option Tmp) (v : Value) (w' : World) (l' : Array Bool) (h : S w' ∧ AnyS P ops Q S k n l' (a.put d v) w') (hv : runAt P ops a w i = some (.ok (.value v) w') := by kernel_rfl)
 (hw : wantAt ops a i = some true := by kernel_rfl) (hd : dstAt ops i = some d := by kernel_rfl) (hl : l.setIfInBounds i true = l' := by kernel_rfl) : StepS P ops Q S k n l a w i := by
 cases ho : ops[i]? with
 | none => unfold dstAt at hd; rw [ho] at hd; cases hd
 | some o =>
   unfold dstAt at hd; unfold wantAt at hw; unfold runAt at hv;rw [ho] at hd hw hv;have hd : o.dst = d := Option.some.inj hd;have hw : Region.wanted o (yielded ops a.tmps) = true := Option.some.inj hw;have hv : (execOp a.eval o).run P w = .ok (.value v) w' := Option.some.inj hv;refine st_o ho hw hl fun K hK => ?_;unfold Oper.wp; rw [hv, Oper.upon_value];exact hK _ _ h.1 (by rw [hd]; exact h.2)
theorem runBin (v va vb : Value) (t : TypeId) {op : BinOp} {i : Nat} (hr : (binOp op t va vb).run P w = .ok v w) (hb : (ops[i]?).bind (fun o => binOf a o.op) = some (op, t, va, vb) := by kernel_rfl)
 (hg : (ops[i]?).map (fun o => (match o.op with | .binOp op t x y _ => (eqGuard op t x y (a.eval x) (a.eval y)).run P w | _ => .ok () w)) = some (.ok () w) := by kernel_rfl) : runAt P ops a w i = some (.ok (.value v) w) := by
 unfold runAt
 cases ho : ops[i]? with
 | none => rw [ho] at hb; cases hb
 | some o =>
   rw [ho] at hb hg;have hb : binOf a o.op = some (op, t, va, vb) := hb
   have hg : (match o.op with | .binOp op t x y _ => (eqGuard op t x y (a.eval x) (a.eval y)).run P w | _ => .ok () w) = .ok () w := by injection hg
   cases hp : o.op with
   | binOp op' t' x y t2 =>
     rw [hp] at hb hg;cases hb;exact congrArg some (run_bin op t t2 x y _ _ v hp rfl rfl hg hr)
   | _ => rw [hp] at hb; cases hb
theorem st_f (i : Nat) (d : Option Tmp) (f : FuncId) (args : Array Value) (l' : Array Bool) {R : Ending → World → Prop} (hc : Calls P f args w R) (h : ∀ e w', R e w' → ∃ v, e = .returned v ∧ S w' ∧ AnyS P ops Q S k n l' (a.put d v) w')
 (he : runAt P ops a w i = some (.ok (.enter f args) w) := by kernel_rfl) (hw : wantAt ops a i = some true := by kernel_rfl) (hd : dstAt ops i = some d := by kernel_rfl) (hl : l.setIfInBounds i true = l' := by kernel_rfl) : StepS P ops Q S k n l a w i := by
 cases ho : ops[i]? with
 | none => unfold dstAt at hd; rw [ho] at hd; cases hd
 | some o =>
   unfold dstAt at hd; unfold wantAt at hw; unfold runAt at he;rw [ho] at hd hw he;have hd : o.dst = d := Option.some.inj hd;have hw : Region.wanted o (yielded ops a.tmps) = true := Option.some.inj hw;have he : (execOp a.eval o).run P w = .ok (.enter f args) w := Option.some.inj he;refine st_o ho hw hl fun K hK => ?_;unfold Oper.wp; rw [he, Oper.upon_enter];refine hc.mono fun e w' hR => ?_;obtain ⟨v, rfl, hs, hv⟩ := h e w' hR;exact hK _ _ hs (by rw [hd]; exact hv)
theorem st_wP (i : Nat) (d : Option Tmp) (ob : Obj) (l' : Array Bool) (h : ∀ g z, g = w.heap.size → Below w.heap.size w z → z.heap[g]? = some ob → S z ∧ AnyS P ops Q S k n l' (a.put d (.pointer (some ⟨g, 0, none⟩))) z) (hv : runAt P ops a w i = some (.ok (.value (.pointer (some ⟨w.heap.size, 0, none⟩))) (w.alloc ob)) := by kernel_rfl)
 (hw : wantAt ops a i = some true := by kernel_rfl) (hd : dstAt ops i = some d := by kernel_rfl) (hl : l.setIfInBounds i true = l' := by kernel_rfl) : StepS P ops Q S k n l a w i := st_w i d _ _ l' (h _ _ rfl (alB rfl) (alN rfl)) hv hw hd hl
theorem st_R (i : Nat) (d : Option Tmp) (l' : Array Bool) {f : FuncId} {args : Array Value} {v : Value} {R : World → Prop} (hc : Calls P f args w fun e w' => e = .returned v ∧ R w') (h : ∀ z, R z → S z ∧ AnyS P ops Q S k n l' (a.put d v) z)
 (he : runAt P ops a w i = some (.ok (.enter f args) w) := by kernel_rfl) (hw : wantAt ops a i = some true := by kernel_rfl) (hd : dstAt ops i = some d := by kernel_rfl) (hl : l.setIfInBounds i true = l' := by kernel_rfl) : StepS P ops Q S k n l a w i :=
 st_f i d f args l' hc (fun _ z q => ⟨v, q.1, h z q.2⟩) he hw hd hl
end
end L
end Go.Proofs.YtimfoimcaapodaaDoor
namespace Go.Proofs.YtimfoimcaapodaaDoor.C
def be (x : Nat) : Nat → List UInt8
 | 0 => []
 | k + 1 => UInt8.ofNat (x / 256 ^ k) :: be x k
theorem be_len (x k : Nat) : (be x k).length = k := by
 induction k with
 | zero => rfl
 | succ k ih => simp [be, ih]
def val (a : Nat) (l : List UInt8) : Nat := l.foldl (fun a b => a * 256 + b.toNat) a
theorem val_app (a : Nat) (l m : List UInt8) : val a (l ++ m) = val (val a l) m := by simp [val]
theorem val_shift (a : Nat) (l : List UInt8) : val a l = a * 256 ^ l.length + val 0 l := by
 induction l generalizing a with
 | nil => simp [val]
 | cons b l ih =>
   show val (a * 256 + b.toNat) l = a * 256 ^ (l.length + 1) + val (0 * 256 + b.toNat) l;rw [ih, ih (0 * 256 + b.toNat), Nat.pow_succ];simp only [Nat.zero_mul, Nat.zero_add, Nat.add_mul, Nat.mul_assoc];rw [Nat.mul_comm (256 ^ l.length) 256];omega
theorem val_lt (l : List UInt8) : val 0 l < 256 ^ l.length := by
 induction l with
 | nil => simp [val]
 | cons b l ih =>
   show val (0 * 256 + b.toNat) l < 256 ^ (l.length + 1);rw [val_shift];have := b.toNat_lt;have h1 : (b.toNat + 1) * 256 ^ l.length ≤ 256 * 256 ^ l.length := Nat.mul_le_mul_right _ (by omega);rw [Nat.pow_succ, Nat.mul_comm (256 ^ l.length) 256];simp only [Nat.zero_mul, Nat.zero_add];rw [Nat.add_mul] at h1;omega
theorem val_be (x k : Nat) : val 0 (be x k) = x % 256 ^ k := by
 induction k with
 | zero => simp [val, be, Nat.mod_one]
 | succ k ih =>
   show val (0 * 256 + (UInt8.ofNat (x / 256 ^ k)).toNat) (be x k) = _;rw [val_shift, ih, be_len, UInt8.toNat_ofNat'];simp only [Nat.zero_mul, Nat.zero_add];rw [show (2 : Nat) ^ 8 = 256 from rfl, Nat.pow_succ, Nat.mod_mul, Nat.mul_comm (x / 256 ^ k % 256), Nat.add_comm]
def clamp8 (n : Int) : Nat := (min (max n 0) 8).toNat
theorem clamp8_le (n : Int) : clamp8 n ≤ 8 := by unfold clamp8; omega
def put (l : List UInt8) (x : Nat) (n : Int) : List UInt8 := l ++ be x (clamp8 n)
def putText (l : List UInt8) (s : List UInt8) : List UInt8 := l ++ be (min s.length 65535) 2 ++ s.take (min s.length 65535)
end Go.Proofs.YtimfoimcaapodaaDoor.C
