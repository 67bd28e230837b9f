import Derived.Test.YthclniimhpmeoaaGreatDoorMrM17
set_option maxHeartbeats 25600000
set_option maxRecDepth 20001
set_option linter.unusedSimpArgs false
set_option linter.unusedVariables false
namespace Go.Proofs.YthclniimhpmeoaaGreatDoor
set_option maxRecDepth 20000
section
open Go.RowKit T
def T.Rc.same (a b : Rc) : Bool := ((((decide (a.kd = b.kd) && decide (a.br = b.br ∧ a.bn = b.bn)) && decide (a.sl = b.sl)) && SameC a.c b.c) && decide (a.dt = b.dt))
end
section
open Go.RowKit T
namespace T
def Rc.only (x : Rc) : Rc := if x.kd = 1 then ({ Rc.zero with kd := 1, br := x.br, bn := x.bn } : Rc) else if x.kd = 2 then ({ Rc.zero with kd := 2, br := x.br, bn := x.bn, sl := x.sl, c := x.c } : Rc) else if x.kd = 3 then ({ Rc.zero with kd := 3, sl := x.sl, c := x.c } : Rc) else if x.kd = 4 then ({ Rc.zero with kd := 4, sl := x.sl, dt := x.dt, D := x.D, dc := x.dc } : Rc) else Rc.zero
def Rc.formed (x : Rc) : Bool := decide (x.only.kd > 0) && T.Rc.same x x.only && B.formed x.bn && x.c.formed && decide (x.sl ≥ 0) && decide (x.sl ≤ 1000000) && decide ((x.dt.length : Int) ≤ 59900)
end T
end
section
open Go.RowKit T
abbrev OwnB (w : World) (base : Nat) (v : Value) (l : List UInt8) : Prop := w.ownsRow base 5 1 v l.length (bc l)
theorem run_app8 {w : World} {base B : Nat} {v vx : Value} {l m : List UInt8} (ty : TypeId) (hown : OwnB w base v l) (hx : SlB w B vx m) (hl : l.length ≤ 549755813888) (hm : m.length ≤ 549755813888) (hbase : base ≤ w.heap.size) :
 ∃ v' w', (Builtin.append_ #[34, 34] ty #[v, vx]).run Tryz.prog w = .ok v' w' ∧ OwnB w' base v' (l ++ m) ∧ w.grownBy w' v.ownBlock := by
 obtain ⟨i0, hi, hz0, hz1, hz2⟩ := info_parts info_u8;obtain ⟨A, c, rfl, hc, hcm, hA, hr⟩ := hx;obtain ⟨v', w', h1, h2, h3⟩ := run_append_rd (P := Tryz.prog) w base 34 ty 5 i0 (.int .u8 0) 1 Tryz.underlying34 hi hz0 hz1 hz2 rfl v l.length (bc l) hown B A m.length c (bc m) (bc_len m) (fun h => (hA h).2) hr (bc_one m) (by unfold maxLen; omega) (by omega) hbase;refine ⟨v', w', h1, ?_, h3⟩;unfold OwnB;rw [bc_app, List.length_append]; exact h2
section
variable {ops : Array Oper} {rest : List Oper} {o : Oper} {a : Act} {Q : Exit → Act → World → Prop} {S : World → Prop} {n : Nat} {l l' : Array Bool} {w : World}
theorem exec_app8 {o : Oper} {s x : Operand} {v vx v' : Value} {w' : World} (ho : o.op = .call { callee := .builtin .append, args := #[s, x], argTypes := #[34, 34] }) (hs : a.eval s = v) (hx : a.eval x = vx)
 (hr : (Builtin.append_ #[34, 34] o.type #[v, vx]).run Tryz.prog w = .ok v' w') : (execOp a.eval o).run Tryz.prog w = .ok (.value v') w' := by
 unfold execOp;simp only [ho, resolve, invoke, builtin, Sem.run_bind, Sem.run_pure, Result.andThen_ok, List.map_toArray, List.map_cons, List.map_nil, hs, hx, hr]
theorem wa8 (s x : Operand) {base B : Nat} {v vx : Value} {k m : List UInt8} (hown : OwnB w base v k) (hxl : SlB w B vx m) (hl : k.length ≤ 549755813888) (hm : m.length ≤ 549755813888) (hbase : base ≤ w.heap.size)
 (h : ∀ v' w', OwnB w' base v' (k ++ m) → w.grownBy w' v.ownBlock → wpList Tryz.prog ops Q rest (a.put o.dst v') w')
 (ho : o.op = .call { callee := .builtin .append, args := #[s, x], argTypes := #[34, 34] } := by kernel_rfl) (hs : a.eval s = v := by kernel_rfl) (hx : a.eval x = vx := by kernel_rfl)
 (hw : Region.wanted o (yielded ops a.tmps) = true := by kernel_rfl) : wpList Tryz.prog ops Q (o :: rest) a w := by
 obtain ⟨v', w', h1, h2, h3⟩ := run_app8 o.type hown hxl hl hm hbase;exact wpList_w v' w' hw (exec_app8 ho hs hx h1) (h v' w' h2 h3)
theorem st_a8 (i : Nat) (d : Option Tmp) (s x : Operand) (l' : Array Bool) {base B : Nat} {v vx : Value} {k m : List UInt8} (hown : OwnB w base v k) (hxl : SlB w B vx m) (hl : k.length ≤ 549755813888) (hm : m.length ≤ 549755813888) (hbase : base ≤ w.heap.size)
 (h : ∀ v' w', OwnB w' base v' (k ++ m) → w.grownBy w' v.ownBlock → S w' ∧ AnyS Tryz.prog ops Q S n l' (a.put d v') w')
 (ho : (ops[i]?).map (·.op) = some (.call { callee := .builtin .append, args := #[s, x], argTypes := #[34, 34] }) := by kernel_rfl) (hs : a.eval s = v := by kernel_rfl) (hx : a.eval x = vx := by kernel_rfl)
 (hw : wantAt ops a i = some true := by kernel_rfl) (hd : dstAt ops i = some d := by kernel_rfl) (hl' : l.setIfInBounds i true = l' := by kernel_rfl) : StepS Tryz.prog ops Q S n l a w i := by
 cases hoi : ops[i]? with
 | none => rw [hoi] at ho; cases ho
 | some o =>
   unfold dstAt at hd; unfold wantAt at hw;rw [hoi] at hd hw ho;have hd : o.dst = d := Option.some.inj hd;have hw : Region.wanted o (yielded ops a.tmps) = true := Option.some.inj hw;have ho := Option.some.inj ho;obtain ⟨v', w', h1, h2, h3⟩ := run_app8 o.type hown hxl hl hm hbase;refine st_o hoi hw hl' fun K hK => ?_;unfold Oper.wp; rw [exec_app8 ho hs hx h1, Oper.upon_value];have := h v' w' h2 h3;exact hK _ _ this.1 (by rw [hd]; exact this.2)
end
theorem OwnB.mono {w : World} {b b' : Nat} {v : Value} {l : List UInt8} (h : OwnB w b v l) (hb : b' ≤ b) : OwnB w b' v l := by
 unfold OwnB World.ownsRow at *;refine ⟨h.1, ?_⟩;rcases h.2 with h1 | ⟨g, c, cs, h1, h2, h3⟩
 ·exact Or.inl h1
 ·exact Or.inr ⟨g, c, cs, h1, Nat.le_trans hb h2, h3⟩
theorem OwnB.nil {w : World} {b : Nat} : OwnB w b (.slice none 0 0) [] := World.ownsRow_nil _ _ _ _
theorem slOne {w : World} {g : Nat} {x : Int} {b : UInt8} (h : w.heap[g]? = some (.cells #[.int .u8 x] 5 (0, 0))) (hx : x = (b.toNat : Int)) : SlB w w.heap.size (.slice (some ⟨g, 0, none⟩) 1 1) [b] := by
 refine ⟨some ⟨g, 0, none⟩, 1, rfl, Nat.le_refl _, by simp [maxLen], fun h => (by cases h), ?_⟩;intro j u hu;have hg := (Array.getElem?_eq_some_iff.1 h).1
 match j, hu with
 | 0, hu => exact ⟨g, 0, rfl, hg, by rw [cell_of_row w g 0 _ _ _ h, hx]; exact hu⟩
theorem ownOne {w : World} {g base : Nat} {x : Int} {b : UInt8} (h : w.heap[g]? = some (.cells #[.int .u8 x] 5 (0, 0))) (hx : x = (b.toNat : Int)) (hb : base ≤ g) : OwnB w base (.slice (some ⟨g, 0, none⟩) 1 1) [b] := by
 subst hx;exact ⟨rfl, Or.inr ⟨g, 1, #[.int .u8 (b.toNat : Int)], rfl, hb, h, Nat.le_refl _, by simp [maxLen], rfl, rfl⟩⟩
theorem heapGrown {z z' : World} {base i : Nat} {v : Value} {l : List UInt8} {o : Obj} (ho : OwnB z base v l) (hg : z.grownBy z' v.ownBlock) (hi : i < base) (h : z.heap[i]? = some o) : z'.heap[i]? = some o :=
 (hg.block i (Array.getElem?_eq_some_iff.1 h).1 (fun e => by have := (ho.lt i e.symm).1; omega)).trans h
theorem heapKind {z z' : World} {base i : Nat} {v : Value} {l : List UInt8} {cs : Array Value} {t : TypeId} {m : Nat × Nat} (ho : OwnB z base v l) (hg : z.grownBy z' v.ownBlock) (hne : t ≠ 5) (h : z.heap[i]? = some (.cells cs t m)) : z'.heap[i]? = some (.cells cs t m) :=
 (hg.block i (Array.getElem?_eq_some_iff.1 h).1 (fun e => by
  obtain ⟨cs2, t2, e1⟩ := Lib.ownsRow_kind ho i e.symm;rw [h] at e1;injection e1 with e1; injection e1 with _ e3
  exact hne e3)).trans h
end
section
open Go.RowKit T
theorem slIter {z : World} {g : Nat} {st : ByteArray} {p : Nat} (hk : z.heap[g]? = some (.stringIter st p)) (q : Nat) {B : Nat} {v : Value} {l : List UInt8} (h : SlB z B v l) : SlB (z.iterAt g st q) (z.iterAt g st q).heap.size v l := by
 obtain ⟨A, c, h1, h2, h3, h4, h5⟩ := h;refine ⟨A, c, h1, h2, h3, h4, fun j u hu => ?_⟩;obtain ⟨b, off, e1, e2, e3⟩ := h5 j u hu;have hb : b < z.heap.size := World.block_lt_of_cell? z ⟨b, off + j, none⟩ (by exact e3);refine ⟨b, off, e1, by rw [Lib.iterAt_size]; exact hb, ?_⟩
 have hne : b ≠ g := by
  intro e;subst e;unfold World.cell? at e3;simp [hk] at e3
 unfold World.cell? at e3 ⊢;simp only [Lib.iterAt_other z g b st q hne] at e3 ⊢;exact e3
namespace T
def nz (x : Int) : Nat := (x % 18446744073709551616).toNat
end T
theorem nz_lt (x : Int) : T.nz x < 18446744073709551616 := by unfold T.nz; omega
theorem wrapU (x : Int) : IntKind.u64.wrap x = (T.nz x : Int) := by
 show x % 18446744073709551616 = _;unfold T.nz; omega
theorem nz_of {x : Int} (h : 0 ≤ x) (g : x < 18446744073709551616) : (T.nz x : Int) = x := by unfold T.nz; omega
def B.put (l : List UInt8) (r : Nat) (n : Int) : List UInt8 := C.put (C.put l r 4) (T.nz n) 1
theorem B.put_len (l : List UInt8) (r : Nat) (n : Int) : (B.put l r n).length ≤ l.length + 16 := by
 unfold B.put;have h1 := put_len2 (C.put l r 4) (T.nz n) 1;have h2 := put_len2 l r 4;omega
theorem bput_s {w : World} {v : Value} {l : List UInt8} (hs : SlB w w.heap.size v l) (hl : l.length ≤ 274877906944) (r : Nat) (n : Int) (hx : r < 4294967296) :
 Calls Tryz.prog 33 #[v, .agg #[.int .u32 (r : Int), .int .i64 n]] w fun e w' => GotB w (B.put l r n) e w' := by
 have ee : Below w.heap.size w w := Below.refl _ _
 go_enter Tryz.func33, Tryz.ntmps33
 refine wp_seq_k fun K1 hK1 => wp_region_lit ?_;(with_reducible refine wwP (.cells ([.int .u32 (r : Int), .int .i64 n]).toArray 24) fun g2 z1 hq_ t Zb3 => ?_);have hB_g2 := szG hq_ ee;have hs := (hs.belowM t (Nat.le_refl _)).more t.size;have ee := bU ee t;(try simp only [zP]);(with_reducible refine wv (.slice none 0 0) ?_);(try simp only [zP]);refine wpList_nil (hK1 _ _ (wp_seq_k fun K3 hK3 => ?_));(with_reducible refine any_begin (fun z' => z'.heap[g2]? = some (.cells ([.int .u32 (r : Int), .int .i64 n]).toArray 24 (0, 0))) 10 (bm 10 0) (hD Zb3) ?_ ?_)
 ·intro c_ a_ d_ v_ w_ h_; cases d_ <;> exact h_
 obtain ⟨z2, hz_⟩ : ∃ z_ : World, z_ = z1.drew := ⟨_, rfl⟩;rw [← hz_];have t := drB hz_;have hs := (hs.belowM t (Nat.le_refl _)).more t.size;have Zb3 := hpB Zb3 t;have ee := bU ee t;(with_reducible refine ha 0 (some 5) (v) (bm 10 1) (fun w_ _ => by kernel_rfl) Zb3 ?_;(try simp only [zP]);refine ha 1 (some 6) (.pointer (some ⟨g2, 0, none⟩)) (bm 10 3) (fun w_ _ => by kernel_rfl) Zb3 ?_;(try simp only [zP]);refine hl_ 2 (some 7) (.int .u32 (r : Int)) ⟨g2, 0, none⟩ (bm 10 7) (fun _ h_ => (rowCell h_ (0) rfl)) Tryz.underlying22 Zb3 ?_;(try simp only [zP]);refine ha 3 (some 8) (.int .u64 (r : Int)) (bm 10 15) (fun w_ _ => (okIntA (wrapOf (by omega) : IntKind.u64.wrap (r : Int) = (r : Int)) (by kernel_rfl))) Zb3 ?_;(try simp only [zP]);refine ha 5 (some 10) (.pointer (some ⟨g2, 1, none⟩)) (bm 10 47) (fun w_ _ => by kernel_rfl) Zb3 ?_;(try simp only [zP]);refine hl_ 6 (some 11) (.int .i64 n) ⟨g2, 1, none⟩ (bm 10 111) (fun _ h_ => (rowCell h_ (1) rfl)) Tryz.underlying3 Zb3 ?_;(try simp only [zP]);refine ha 7 (some 12) (.int .u64 (T.nz n : Int)) (bm 10 239) (fun w_ _ => (okIntA (wrapU n : IntKind.u64.wrap n = (T.nz n : Int)) (by kernel_rfl))) Zb3 ?_;(try simp only [zP]);refine any1 4 (st_f 4 (some 9) 32 #[v, .int .u64 (r : Int), .int .i64 4] (bm 10 255) (put_s hs (by omega) (Nat.le_refl _) r (by omega) 4) ?_));rintro e z3 ⟨v1, rfl, h1, t, hf_h1⟩;refine ⟨_, rfl, ?_⟩;have hf_h1 := hf_h1.mono ee.size;have Zb3 := hpB Zb3 t;have ee := bU ee t;refine ⟨Zb3, ?_⟩;(try simp only [zP]);(with_reducible refine any1 8 (st_f 8 (some 13) 32 #[v1, .int .u64 (T.nz n : Int), .int .i64 1] (bm 10 511) (put_s h1 (by have := put_len2 l r 4; omega) (Nat.le_refl _) (T.nz n) (nz_lt n) 1) ?_));rintro e z4 ⟨v2, rfl, h2, t, hf_h2⟩;refine ⟨_, rfl, ?_⟩;have hf_h2 := hf_h2.mono ee.size;have Zb3 := hpB Zb3 t;have ee := bU ee t;refine ⟨Zb3, ?_⟩;(try simp only [zP]);(with_reducible refine ha 9 (some 4) (v2) (bm 10 1023) (fun w_ _ => by kernel_rfl) Zb3 ?_;(try simp only [zP]);refine any_end ?_);refine hK3 _ _ (wp_ret ?_);exact bodyPost_ret (v := v2) (by kernel_rfl) rfl ⟨v2, rfl, h2, ee, hf_h2⟩
def T.bit (x : Bool) : Nat := if x = true then 1 else 0
theorem bit_any (x : Bool) (w : World) :
 Calls Tryz.prog 110 #[.bool x] w fun e w' => e = .returned (.int .u64 (T.bit x : Int)) ∧ w = w' := by
 have ee : Below w.heap.size w w := Below.refl _ _
 go_enter Tryz.func110, Tryz.ntmps110
 refine wp_seq_k fun K1 hK1 => wp_region_lit ?_;(with_reducible refine wv (.int .u64 0) ?_);(try simp only [zP]);refine wpList_nil (hK1 _ _ (wp_seq_k fun K2 hK2 => wp_seq_k fun K3 hK3 => wp_region_lit ?_));(with_reducible refine wv (.bool x) ?_);(try simp only [zP]);refine wpList_nil (hK3 _ _ ?_);cases x
 ·refine wdF ?_;refine wp_skip (hK2 _ _ (wp_seq_k fun K4 hK4 => wp_region_lit ?_));(with_reducible refine wv (.int .u64 0) ?_);(try simp only [zP]);refine wpList_nil (hK4 _ _ (wp_ret ?_));exact bodyPost_ret (v := .int .u64 0) (by kernel_rfl) rfl ⟨by rfl, rfl⟩
 refine wdT (wp_seq_k fun K5 hK5 => wp_region_lit ?_);(with_reducible refine wv (.int .u64 1) ?_);(try simp only [zP]);refine wpList_nil (hK5 _ _ (wp_ret (then_ret ?_)));exact bodyPost_ret (v := .int .u64 1) (by kernel_rfl) rfl ⟨by rfl, rfl⟩
end
end Go.Proofs.YthclniimhpmeoaaGreatDoor
