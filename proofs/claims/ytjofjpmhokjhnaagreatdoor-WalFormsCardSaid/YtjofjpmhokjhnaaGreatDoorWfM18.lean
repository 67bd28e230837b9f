import Derived.Test.YtjofjpmhokjhnaaGreatDoorWfM4
import Derived.Test.YtjofjpmhokjhnaaGreatDoorWfM9
import Derived.Test.YtjofjpmhokjhnaaGreatDoorWfM13
set_option linter.unusedSimpArgs false
set_option linter.unusedVariables false
namespace Go.Proofs.YtjofjpmhokjhnaaGreatDoor
set_option maxRecDepth 20000
open Go.RowKit T
abbrev OwnB (w : World) (base : Nat) (v : Value) (l : List UInt8) : Prop := w.ownsRow base 5 1 v l.length (bc l)
theorem run_app8 {w : World} {base B : Nat} {v vx : Value} {l m : List UInt8} (ty : TypeId) (hown : OwnB w base v l) (hx : SlB w B vx m) (hl : l.length ≤ 549755813888) (hm : m.length ≤ 549755813888) (hbase : base ≤ w.heap.size) :
 ∃ v' w', (Builtin.append_ #[34, 34] ty #[v, vx]).run Tryz.prog w = .ok v' w' ∧ OwnB w' base v' (l ++ m) ∧ w.grownBy w' v.ownBlock := by
 obtain ⟨i0, hi, hz0, hz1, hz2⟩ := info_parts info_u8
 obtain ⟨A, c, rfl, hc, hcm, hA, hr⟩ := hx
 obtain ⟨v', w', h1, h2, h3⟩ := run_append_rd (P := Tryz.prog) w base 34 ty 5 i0 (.int .u8 0) 1 Tryz.underlying34 hi hz0 hz1 hz2 rfl v l.length (bc l) hown B A m.length c (bc m) (bc_len m) (fun h => (hA h).2) hr (bc_one m) (by unfold maxLen; omega) (by omega) hbase
 refine ⟨v', w', h1, ?_, h3⟩
 unfold OwnB
 rw [bc_app, List.length_append]; exact h2
section
variable {ops : Array Oper} {rest : List Oper} {o : Oper} {a : Act} {Q : Exit → Act → World → Prop} {S : World → Prop} {n : Nat} {l l' : Array Bool} {w : World}
theorem exec_app8 {o : Oper} {s x : Operand} {v vx v' : Value} {w' : World} (ho : o.op = .call { callee := .builtin .append, args := #[s, x], argTypes := #[34, 34] }) (hs : a.eval s = v) (hx : a.eval x = vx)
 (hr : (Builtin.append_ #[34, 34] o.type #[v, vx]).run Tryz.prog w = .ok v' w') : (execOp a.eval o).run Tryz.prog w = .ok (.value v') w' := by
 unfold execOp
 simp only [ho, resolve, invoke, builtin, Sem.run_bind, Sem.run_pure, Result.andThen_ok, List.map_toArray, List.map_cons, List.map_nil, hs, hx, hr]
theorem wa8 (s x : Operand) {base B : Nat} {v vx : Value} {k m : List UInt8} (hown : OwnB w base v k) (hxl : SlB w B vx m) (hl : k.length ≤ 549755813888) (hm : m.length ≤ 549755813888) (hbase : base ≤ w.heap.size)
 (h : ∀ v' w', OwnB w' base v' (k ++ m) → w.grownBy w' v.ownBlock → wpList Tryz.prog ops Q rest (a.put o.dst v') w')
 (ho : o.op = .call { callee := .builtin .append, args := #[s, x], argTypes := #[34, 34] } := by kernel_rfl) (hs : a.eval s = v := by kernel_rfl) (hx : a.eval x = vx := by kernel_rfl)
 (hw : Region.wanted o (yielded ops a.tmps) = true := by kernel_rfl) : wpList Tryz.prog ops Q (o :: rest) a w := by
 obtain ⟨v', w', h1, h2, h3⟩ := run_app8 o.type hown hxl hl hm hbase
 exact wpList_w v' w' hw (exec_app8 ho hs hx h1) (h v' w' h2 h3)
theorem st_a8 (i : Nat) (d : Option Tmp) (s x : Operand) (l' : Array Bool) {base B : Nat} {v vx : Value} {k m : List UInt8} (hown : OwnB w base v k) (hxl : SlB w B vx m) (hl : k.length ≤ 549755813888) (hm : m.length ≤ 549755813888) (hbase : base ≤ w.heap.size)
 (h : ∀ v' w', OwnB w' base v' (k ++ m) → w.grownBy w' v.ownBlock → S w' ∧ AnyS Tryz.prog ops Q S n l' (a.put d v') w')
 (ho : (ops[i]?).map (·.op) = some (.call { callee := .builtin .append, args := #[s, x], argTypes := #[34, 34] }) := by kernel_rfl) (hs : a.eval s = v := by kernel_rfl) (hx : a.eval x = vx := by kernel_rfl)
 (hw : wantAt ops a i = some true := by kernel_rfl) (hd : dstAt ops i = some d := by kernel_rfl) (hl' : l.setIfInBounds i true = l' := by kernel_rfl) : StepS Tryz.prog ops Q S n l a w i := by
 cases hoi : ops[i]? with
 | none => rw [hoi] at ho; cases ho
 | some o =>
   unfold dstAt at hd; unfold wantAt at hw
   rw [hoi] at hd hw ho
   have hd : o.dst = d := Option.some.inj hd
   have hw : Region.wanted o (yielded ops a.tmps) = true := Option.some.inj hw
   have ho := Option.some.inj ho
   obtain ⟨v', w', h1, h2, h3⟩ := run_app8 o.type hown hxl hl hm hbase
   refine st_o hoi hw hl' fun K hK => ?_
   unfold Oper.wp; rw [exec_app8 ho hs hx h1, Oper.upon_value]
   have := h v' w' h2 h3
   exact hK _ _ this.1 (by rw [hd]; exact this.2)
end
theorem OwnB.mono {w : World} {b b' : Nat} {v : Value} {l : List UInt8} (h : OwnB w b v l) (hb : b' ≤ b) : OwnB w b' v l := by
 unfold OwnB World.ownsRow at *
 refine ⟨h.1, ?_⟩
 rcases h.2 with h1 | ⟨g, c, cs, h1, h2, h3⟩
 ·exact Or.inl h1
 ·exact Or.inr ⟨g, c, cs, h1, Nat.le_trans hb h2, h3⟩
theorem OwnB.nil {w : World} {b : Nat} : OwnB w b (.slice none 0 0) [] := World.ownsRow_nil _ _ _ _
theorem slOne {w : World} {g : Nat} {x : Int} {b : UInt8} (h : w.heap[g]? = some (.cells #[.int .u8 x] 5 (0, 0))) (hx : x = (b.toNat : Int)) : SlB w w.heap.size (.slice (some ⟨g, 0, none⟩) 1 1) [b] := by
 refine ⟨some ⟨g, 0, none⟩, 1, rfl, Nat.le_refl _, by simp [maxLen], fun h => (by cases h), ?_⟩
 intro j u hu
 have hg := (Array.getElem?_eq_some_iff.1 h).1
 match j, hu with
 | 0, hu => exact ⟨g, 0, rfl, hg, by rw [cell_of_row w g 0 _ _ _ h, hx]; exact hu⟩
theorem ownOne {w : World} {g base : Nat} {x : Int} {b : UInt8} (h : w.heap[g]? = some (.cells #[.int .u8 x] 5 (0, 0))) (hx : x = (b.toNat : Int)) (hb : base ≤ g) : OwnB w base (.slice (some ⟨g, 0, none⟩) 1 1) [b] := by
 subst hx
 exact ⟨rfl, Or.inr ⟨g, 1, #[.int .u8 (b.toNat : Int)], rfl, hb, h, Nat.le_refl _, by simp [maxLen], rfl, rfl⟩⟩
theorem heapGrown {z z' : World} {base i : Nat} {v : Value} {l : List UInt8} {o : Obj} (ho : OwnB z base v l) (hg : z.grownBy z' v.ownBlock) (hi : i < base) (h : z.heap[i]? = some o) : z'.heap[i]? = some o :=
 (hg.block i (Array.getElem?_eq_some_iff.1 h).1 (fun e => by have := (ho.lt i e.symm).1; omega)).trans h
theorem heapKind {z z' : World} {base i : Nat} {v : Value} {l : List UInt8} {cs : Array Value} {t : TypeId} {m : Nat × Nat} (ho : OwnB z base v l) (hg : z.grownBy z' v.ownBlock) (hne : t ≠ 5) (h : z.heap[i]? = some (.cells cs t m)) : z'.heap[i]? = some (.cells cs t m) :=
 (hg.block i (Array.getElem?_eq_some_iff.1 h).1 (fun e => by
  obtain ⟨cs2, t2, e1⟩ := Lib.ownsRow_kind ho i e.symm
  rw [h] at e1
  injection e1 with e1; injection e1 with _ e3
  exact hne e3)).trans h
end Go.Proofs.YtjofjpmhokjhnaaGreatDoor
namespace Go.Proofs.YtjofjpmhokjhnaaGreatDoor
set_option maxRecDepth 20001
open Go.RowKit T
namespace T
def nz (x : Int) : Nat := (x % 18446744073709551616).toNat
end T
theorem nz_lt (x : Int) : T.nz x < 18446744073709551616 := by unfold T.nz; omega
theorem wrapU (x : Int) : IntKind.u64.wrap x = (T.nz x : Int) := by
 show x % 18446744073709551616 = _
 unfold T.nz; omega
def B.put (l : List UInt8) (r : Nat) (n : Int) : List UInt8 := C.put (C.put l r 4) (T.nz n) 1
theorem B.put_len (l : List UInt8) (r : Nat) (n : Int) : (B.put l r n).length ≤ l.length + 16 := by
 unfold B.put
 have h1 := put_len2 (C.put l r 4) (T.nz n) 1
 have h2 := put_len2 l r 4
 omega
set_option maxHeartbeats 25600000 in
theorem bput_s {w : World} {v : Value} {l : List UInt8} (hs : SlB w w.heap.size v l) (hl : l.length ≤ 274877906944) (r : Nat) (n : Int) (hx : r < 4294967296) :
 Calls Tryz.prog 33 #[v, .agg #[.int .u32 (r : Int), .int .i64 n]] w fun e w' => GotB w (B.put l r n) e w' := by
 have ee : Below w.heap.size w w := Below.refl _ _
 go_enter Tryz.func33, Tryz.ntmps33
 refine wp_seq_k fun K1 hK1 => ?_
 refine wp_region_lit ?_
 with_reducible refine ww (.pointer (some ⟨w.heap.size, 0, none⟩)) (w.alloc (.cells ([.int .u32 (r : Int), .int .i64 n]).toArray 24)) ?_
 try simp only [zP]
 have sz_g2 := ee.size
 have hs := (hs.belowM ((Below.refl _ w).alloc (Nat.le_refl _) (.cells ([.int .u32 (r : Int), .int .i64 n]).toArray 24)) (Nat.le_refl _)).more (((Below.refl _ w).alloc (Nat.le_refl _) (.cells ([.int .u32 (r : Int), .int .i64 n]).toArray 24)).size)
 have sz_ := ee.size
 have ee := ee.alloc ee.size (.cells ([.int .u32 (r : Int), .int .i64 n]).toArray 24)
 have Zb3 := hpN w (.cells ([.int .u32 (r : Int), .int .i64 n]).toArray 24) rfl
 generalize w.alloc (.cells ([.int .u32 (r : Int), .int .i64 n]).toArray 24) = z1 at Zb3 ee hs ⊢
 obtain ⟨g2, hg_g2⟩ : ∃ g_, g_ = w.heap.size := ⟨_, rfl⟩
 have hB_g2 : w.heap.size ≤ g2 := by rw [hg_g2]; exact sz_g2
 rw [← hg_g2] at Zb3 ⊢
 clear hg_g2
 with_reducible refine wv (.slice none 0 0) ?_
 try simp only [zP]
 refine wpList_nil ?_
 refine hK1 _ _ ?_
 refine wp_seq_k fun K3 hK3 => ?_
 have hs : SlB z1.drew z1.drew.heap.size _ _ := SlB.drew hs
 have Zb3 : z1.drew.heap[g2]? = some (.cells ([.int .u32 (r : Int), .int .i64 n]).toArray 24) := Zb3
 have ee := belowDrewS ee
 with_reducible refine any_begin (fun z' => z'.heap[g2]? = some (.cells ([.int .u32 (r : Int), .int .i64 n]).toArray 24 (0, 0))) 10 #[false, false, false, false, false, false, false, false, false, false] Zb3 ?_ ?_
 ·intro c_ a_ d_ v_ w_ h_; cases d_ <;> exact h_
 generalize z1.drew = z2 at Zb3 ee hs ⊢
 with_reducible
  refine ha 0 (some 5) (v) #[true, false, false, false, false, false, false, false, false, false] (fun _ _ => by kernel_rfl) Zb3 ?_
  try simp only [zP]
  refine ha 1 (some 6) (.pointer (some ⟨g2, 0, none⟩)) #[true, true, false, false, false, false, false, false, false, false] (fun _ _ => by kernel_rfl) Zb3 ?_
  try simp only [zP]
  refine hl_ 2 (some 7) (.int .u32 ((r : Int))) ⟨g2, 0, none⟩ #[true, true, true, false, false, false, false, false, false, false] (fun _ h_ => (rowCell h_ (0) rfl)) Tryz.underlying22 Zb3 ?_
  try simp only [zP]
  refine ha 3 (some 8) (.int .u64 ((r : Int))) #[true, true, true, true, false, false, false, false, false, false] (fun _ _ => (okIntA (wrapOf (by omega) : IntKind.u64.wrap ((r : Int)) = (r : Int)) (by kernel_rfl))) Zb3 ?_
  try simp only [zP]
  refine ha 5 (some 10) (.pointer (some ⟨g2, 1, none⟩)) #[true, true, true, true, false, true, false, false, false, false] (fun _ _ => by kernel_rfl) Zb3 ?_
  try simp only [zP]
  refine hl_ 6 (some 11) (.int .i64 n) ⟨g2, 1, none⟩ #[true, true, true, true, false, true, true, false, false, false] (fun _ h_ => (rowCell h_ (1) rfl)) Tryz.underlying3 Zb3 ?_
  try simp only [zP]
  refine ha 7 (some 12) (.int .u64 ((T.nz n : Int))) #[true, true, true, true, false, true, true, true, false, false] (fun _ _ => (okIntA (wrapU n : IntKind.u64.wrap n = (T.nz n : Int)) (by kernel_rfl))) Zb3 ?_
  try simp only [zP]
  refine any1 4 ?_
  refine st_f 4 (some 9) 32 #[v, .int .u64 ((r : Int)), .int .i64 4] #[true, true, true, true, true, true, true, true, false, false] (put_s hs (by omega) (Nat.le_refl _) r (by omega) 4) ?_
 rintro e z3 ⟨v1, rfl, h1, t, hf_h1⟩
 refine ⟨_, rfl, ?_⟩
 have hf_h1 := hf_h1.mono ee.size
 have hs := (hs.belowM t (Nat.le_refl _)).more t.size
 have Zb3 := hpB Zb3 t
 have ee := ee.trans (t.mono ee.size)
 clear t
 refine ⟨Zb3, ?_⟩
 try simp only [zP]
 with_reducible
  refine any1 8 ?_
  refine st_f 8 (some 13) 32 #[v1, .int .u64 ((T.nz n : Int)), .int .i64 1] #[true, true, true, true, true, true, true, true, true, false] (put_s h1 (by have := put_len2 l r 4; omega) (Nat.le_refl _) (T.nz n) (nz_lt n) 1) ?_
 rintro e z4 ⟨v2, rfl, h2, t, hf_h2⟩
 refine ⟨_, rfl, ?_⟩
 have hf_h2 := hf_h2.mono ee.size
 have hs := (hs.belowM t (Nat.le_refl _)).more t.size
 have h1 := (h1.belowM t (Nat.le_refl _)).more t.size
 have Zb3 := hpB Zb3 t
 have ee := ee.trans (t.mono ee.size)
 clear t
 refine ⟨Zb3, ?_⟩
 try simp only [zP]
 with_reducible
  refine ha 9 (some 4) (v2) #[true, true, true, true, true, true, true, true, true, true] (fun _ _ => by kernel_rfl) Zb3 ?_
  try simp only [zP]
  refine any_end ?_
 refine hK3 _ _ ?_
 refine wp_ret ?_
 exact bodyPost_ret (v := v2) (by kernel_rfl) rfl ⟨v2, rfl, h2, ee, hf_h2⟩
def T.bit (x : Bool) : Nat := if x = true then 1 else 0
end Go.Proofs.YtjofjpmhokjhnaaGreatDoor
