/- The law WalTorn. Conditions: what lies, lies below. (Printed by gen_msg.py.) -/
import Derived.Test.YtjofjpmhokjhnaaDoorWlM45
namespace Go.Proofs.YtjofjpmhokjhnaaDoor
set_option maxRecDepth 20000
open Go.RowKit T
set_option linter.unusedSimpArgs false
set_option linter.unusedVariables false

theorem exec_minR {P : Program} {a : Act} {o : Oper} {w : World} (x y : Operand) {ts : Array TypeId} {p q : Nat} (ho : o.op = .call { callee := .builtin .min, args := #[x, y], argTypes := ts }) (hx : a.eval x = .int .i64 (p : Int)) (hy : a.eval y = .int .i64 (q : Int)) (h : q ≤ p) :
  (execOp a.eval o).run P w = .ok (.value (.int .i64 (q : Int))) w := by
 have h2 : (if (q : Int) < (p : Int) then (q : Int) else (p : Int)) = (q : Int) := by split <;> omega
 unfold execOp
 simp only [ho, resolve, invoke, builtin, Sem.run_bind, Sem.run_pure, Result.andThen_ok, List.map_toArray, List.map_cons, List.map_nil, hx, hy, run_min_int2, h2]
theorem exec_slice_hR {a : Act} {o : Oper} {w : World} (x hi : Operand) {A : Option Addr} {len cap : Nat} {h : Nat} (ho : o.op = .slice 57 x none (some hi) none) (hx : a.eval x = .slice A len cap) (hh : a.eval hi = .int .i64 (h : Int)) (h2 : h ≤ cap) :
  (execOp a.eval o).run Tryd.prog w = .ok (.value (.slice A h cap)) w := by
 have q := run_slice_h (P := Tryd.prog) (w := w) 57 A len cap (by kernel_rfl) .i64 (h : Int) (by omega) (by omega)
 have hz : (sizeOf (Tryd.prog.elem 57)).run Tryd.prog w = .ok 15 w := by kernel_rfl
 rw [hz] at q
 simp only [Result.andThen_ok, sliced, Nat.zero_mul, Int.toNat_natCast, Nat.sub_zero] at q
 have hA : (if cap = 0 then A else A.map (·.add 0)) = A := by
  split
  ·rfl
  ·cases A with
   | none => rfl
   | some p => exact congrArg some (by cases p; simp [Addr.add])
 rw [hA] at q
 unfold execOp
 simp only [ho, hx, hh, Option.map_some, Option.map_none, Sem.run_bind, Sem.run_pure, Result.andThen_ok, run_sliceAt_slice (P := Tryd.prog) (w := w) 57 _ _ _ _ (by kernel_rfl), q]
theorem few_one (y : Rc) (g : Nat) (w : World) (hz : w.heap[g]? = some (.cells y.cells.toArray 65 (0, 0))) (ok : RcOk w w.heap.size y) : Calls Tryd.prog 24 #[.slice (some ⟨g, 0, none⟩) 1 1, .int .i64 1] w fun e w' => FewIs (y.dt.length ≤ 200000) e ∧ Below w.heap.size w w' :=
 (few13_any (some ⟨g, 0, none⟩) 1 [y] 1 w (by decide) (Nat.le_refl _) (by unfold maxLen; decide) (rcRow hz) (fun x hx => by rw [List.mem_singleton.1 hx]; exact ok)).mono fun e w' q => by
  obtain ⟨⟨r, h1, h2⟩, h3⟩ := q
  exact ⟨⟨r, h1, fun hr => by have := (h2 hr).2; unfold dsum at this; simpa using this⟩, h3⟩
theorem added_lost {d : Dk} {s : Nat} {ys : List Rc} {x : Rc} (h1 : d.size = s) (h2 : d.b = cats ys) (h3 : d.fuse = 0) (h4 : d.down = false) (hx : x.formed = true) (hs : (cats (ys ++ [x])).length ≤ s) : added d x = (8, { d with down := true, b := cats (ys ++ [x]) }) := by
 have ha : D.act d = (false, { d with down := true }) := by unfold D.act; rw [if_pos h3]
 rw [cats_snoc] at hs ⊢
 unfold T.added
 rw [if_pos hx]
 unfold D.append
 rw [if_neg (by rw [h4]; decide), if_neg (by rw [h1, h2]; rw [List.length_append] at hs; omega), ha, if_neg (fun h => Bool.noConfusion h), h2]
theorem dcut_b {d : Dk} {s : Nat} {b : List UInt8} (h1 : d.size = s) (h2 : d.b = b) (h5 : d.within = false) (n : Int) : (D.cut d n).b = b.take (d.lasts + (min (max n 0) ((b.length : Int) - d.lasts)).toNat) ∧ (D.cut d n).size = s ∧ (D.cut d n).fuse = -1 ∧ (D.cut d n).down = false ∧ (D.cut d n).within = false := by
 refine ⟨?_, ?_, rfl, rfl, rfl⟩
 ·show D.cutB d n = _
  unfold D.cutB
  rw [if_neg (by rw [h5]; decide), h2]
 ·show ((max (d.size : Int) 0).toNat) = s
  omega
theorem rowsTake {w : World} {B k : Nat} {A : Option Addr} {ls : List Rc} (h : RowsAt w B A 15 (ls.map Rc.cells)) : RowsAt w B A 15 ((ls.take k).map Rc.cells) := fun i cs hi => by
 rw [List.map_take, List.getElem?_take] at hi
 split at hi
 ·exact h i cs hi
 ·cases hi
set_option maxHeartbeats 25600000 in
theorem wtorn_any (A : Option Addr) (c : Nat) (xs : List Rc) (y : Rc) (u0 : Nat) (w : World) (hu0 : u0 < 65536) (hc1 : xs.length ≤ c) (hm1 : c ≤ maxLen) (hR1 : RowsAt w w.heap.size A 15 (xs.map Rc.cells)) (hO1 : ∀ x ∈ xs, RcOk w w.heap.size x) (oky : RcOk w w.heap.size y) (hT : Tabs w) :
  Calls Tryd.prog 7 #[.slice A xs.length c, .agg y.cells.toArray, .int .u16 (u0 : Int)] w fun e w' => e = .returned (.bool true) ∧ Below w.heap.size w w' := by
 have ee : Below w.heap.size w w := Below.refl _ _
 go_enter Tryd.func7, Tryd.ntmps7
 refine wp_seq_k fun K1 hK1 => ?_
 refine wp_region_lit ?_
 with_reducible refine ww (.pointer (some ⟨w.heap.size, 0, none⟩)) (w.alloc (.cells (y.cells).toArray 65)) ?_
 try simp only [nP, nN, nA, n0, nS]
 have sz_g2 := ee.size
 have sz_ := ee.size
 have ee := ee.alloc ee.size (.cells (y.cells).toArray 65)
 have Zb4 := hpN w (.cells (y.cells).toArray 65) rfl
 obtain ⟨z1, hz_⟩ : ∃ z_ : World, z_ = w.alloc (.cells (y.cells).toArray 65) := ⟨_, rfl⟩
 rw [← hz_] at Zb4 ee ⊢
 clear hz_
 obtain ⟨g2, hg_g2⟩ : ∃ g_, g_ = w.heap.size := ⟨_, rfl⟩
 have hB_g2 : w.heap.size ≤ g2 := by rw [hg_g2]; exact sz_g2
 rw [← hg_g2] at Zb4 ⊢
 clear hg_g2
 with_reducible refine wv (.bool false) ?_
 try simp only [nP, nN, nA, n0, nS]
 refine wpList_nil ?_
 refine hK1 _ _ ?_
 refine wp_seq_k fun K3 hK3 => ?_
 refine wp_seq_k fun K4 hK4 => ?_
 refine wp_region_lit ?_
 with_reducible refine wc 23 #[] (awake13_any z1 (hT.below ee)) ?_
 rintro e z2 ⟨rfl, t⟩
 refine ⟨_, rfl, ?_⟩
 have Zb4 := hpB Zb4 t
 have ee := ee.trans (t.mono ee.size)
 clear t
 try simp only [nP, nN, nA, n0, nS]
 with_reducible refine wv (.bool false) ?_
 try simp only [nP, nN, nA, n0, nS]
 with_reducible refine wv (.bool false) ?_
 try simp only [nP, nN, nA, n0, nS]
 with_reducible refine wv (.slice A xs.length c) ?_
 try simp only [nP, nN, nA, n0, nS]
 with_reducible refine wc 24 #[.slice A xs.length c, .int .i64 30] (few13_any A c xs 30 z2 (by decide) hc1 hm1 ((hR1.below ee (Nat.le_refl _)).more ee.size) (fun x_ hx_ => ((hO1 x_ hx_).below ee (Nat.le_refl _)).more ee.size)) ?_
 rintro e z3 ⟨⟨rf1, rfl, hfw1⟩, t⟩
 refine ⟨_, rfl, ?_⟩
 have Zb4 := hpB Zb4 t
 have ee := ee.trans (t.mono ee.size)
 clear t
 try simp only [nP, nN, nA, n0, nS]
 cases rf1
 ·with_reducible refine wv (.bool true) ?_
  try simp only [nP, nN, nA, n0, nS]
  with_reducible refine wv (.bool true) ?_
  try simp only [nP, nN, nA, n0, nS]
  with_reducible refine wv (.bool true) ?_
  try simp only [nP, nN, nA, n0, nS]
  with_reducible refine wk ?_
  try simp only [nP, nN, nA, n0, nS]
  with_reducible refine wk ?_
  try simp only [nP, nN, nA, n0, nS]
  with_reducible refine wk ?_
  try simp only [nP, nN, nA, n0, nS]
  with_reducible refine wk ?_
  try simp only [nP, nN, nA, n0, nS]
  with_reducible refine wv (.bool true) ?_
  try simp only [nP, nN, nA, n0, nS]
  with_reducible refine wv (.bool true) ?_
  try simp only [nP, nN, nA, n0, nS]
  with_reducible refine wk ?_
  try simp only [nP, nN, nA, n0, nS]
  with_reducible refine wk ?_
  try simp only [nP, nN, nA, n0, nS]
  with_reducible refine wk ?_
  try simp only [nP, nN, nA, n0, nS]
  with_reducible refine wv (.bool true) ?_
  try simp only [nP, nN, nA, n0, nS]
  refine wpList_nil ?_
  refine hK4 _ _ ?_
  refine wp_cond_true (by kernel_rfl) ?_
  refine wp_seq_k fun K5 hK5 => ?_
  refine wp_region_lit ?_
  with_reducible refine wc 23 #[] (awake13_any z3 (hT.below ee)) ?_
  rintro e z4 ⟨rfl, t⟩
  refine ⟨_, rfl, ?_⟩
  have Zb4 := hpB Zb4 t
  have ee := ee.trans (t.mono ee.size)
  clear t
  try simp only [nP, nN, nA, n0, nS]
  with_reducible refine wv (.bool true) ?_
  try simp only [nP, nN, nA, n0, nS]
  refine wpList_nil ?_
  refine hK5 _ _ ?_
  refine wp_ret ?_
  refine then_ret ?_
  exact bodyPost_ret (v := .bool true) (by kernel_rfl) rfl ⟨rfl, ee⟩
 with_reducible refine wv (.bool false) ?_
 try simp only [nP, nN, nA, n0, nS]
 with_reducible refine wv (.bool false) ?_
 try simp only [nP, nN, nA, n0, nS]
 with_reducible refine wv (.bool false) ?_
 try simp only [nP, nN, nA, n0, nS]
 with_reducible refine wg (g2) (0) (y.cells) (rowAt Zb4) Tryd.underlying65 ?_
 try simp only [nP, nN, nA, n0, nS]
 with_reducible refine ww (.slice (some ⟨z3.heap.size, 0, none⟩) 1 1) (z3.alloc (.cells (y.cells).toArray 65)) ?_
 try simp only [nP, nN, nA, n0, nS]
 have sz_g6 := ee.size
 have lZb4 := (Array.getElem?_eq_some_iff.1 Zb4).1
 have sz_ := ee.size
 have Zb4 := hpA Zb4 (.cells (y.cells).toArray 65)
 have ee := ee.alloc ee.size (.cells (y.cells).toArray 65)
 have Zs22 := hpN z3 (.cells (y.cells).toArray 65) rfl
 obtain ⟨z4, hz_⟩ : ∃ z_ : World, z_ = z3.alloc (.cells (y.cells).toArray 65) := ⟨_, rfl⟩
 rw [← hz_] at Zb4 Zs22 ee ⊢
 clear hz_
 obtain ⟨g6, hg_g6⟩ : ∃ g_, g_ = z3.heap.size := ⟨_, rfl⟩
 have n_g6_Zb4 : g2 < g6 := by rw [hg_g6]; exact lZb4
 have hB_g6 : w.heap.size ≤ g6 := by rw [hg_g6]; exact sz_g6
 rw [← hg_g6] at Zs22 ⊢
 clear hg_g6 lZb4
 with_reducible refine wc 24 #[.slice (some ⟨g6, 0, none⟩) 1 1, .int .i64 1] (few_one y g6 z4 Zs22 ((oky.below ee (Nat.le_refl _)).more ee.size)) ?_
 rintro e z5 ⟨⟨rf2, rfl, hfw2⟩, t⟩
 refine ⟨_, rfl, ?_⟩
 have Zb4 := hpB Zb4 t
 have Zs22 := hpB Zs22 t
 have ee := ee.trans (t.mono ee.size)
 clear t
 try simp only [nP, nN, nA, n0, nS]
 cases rf2
 ·with_reducible refine wv (.bool true) ?_
  try simp only [nP, nN, nA, n0, nS]
  with_reducible refine wv (.bool true) ?_
  try simp only [nP, nN, nA, n0, nS]
  with_reducible refine wv (.bool true) ?_
  try simp only [nP, nN, nA, n0, nS]
  with_reducible refine wk ?_
  try simp only [nP, nN, nA, n0, nS]
  with_reducible refine wk ?_
  try simp only [nP, nN, nA, n0, nS]
  with_reducible refine wk ?_
  try simp only [nP, nN, nA, n0, nS]
  with_reducible refine wv (.bool true) ?_
  try simp only [nP, nN, nA, n0, nS]
  refine wpList_nil ?_
  refine hK4 _ _ ?_
  refine wp_cond_true (by kernel_rfl) ?_
  refine wp_seq_k fun K7 hK7 => ?_
  refine wp_region_lit ?_
  with_reducible refine wc 23 #[] (awake13_any z5 (hT.below ee)) ?_
  rintro e z6 ⟨rfl, t⟩
  refine ⟨_, rfl, ?_⟩
  have Zb4 := hpB Zb4 t
  have Zs22 := hpB Zs22 t
  have ee := ee.trans (t.mono ee.size)
  clear t
  try simp only [nP, nN, nA, n0, nS]
  with_reducible refine wv (.bool true) ?_
  try simp only [nP, nN, nA, n0, nS]
  refine wpList_nil ?_
  refine hK7 _ _ ?_
  refine wp_ret ?_
  refine then_ret ?_
  exact bodyPost_ret (v := .bool true) (by kernel_rfl) rfl ⟨rfl, ee⟩
 with_reducible refine wv (.bool false) ?_
 try simp only [nP, nN, nA, n0, nS]
 with_reducible refine wv (.bool false) ?_
 try simp only [nP, nN, nA, n0, nS]
 with_reducible refine wv (.bool false) ?_
 try simp only [nP, nN, nA, n0, nS]
 with_reducible refine wg (g2) (0) (y.cells) (rowAt Zb4) Tryd.underlying65 ?_
 try simp only [nP, nN, nA, n0, nS]
 with_reducible refine wc 26 #[.agg (y.cells).toArray] (wformed_any y z5 w.heap.size ee.size (oky.below ee (Nat.le_refl _)) (hT.below ee)) ?_
 rintro e z6 ⟨rfl, t⟩
 refine ⟨_, rfl, ?_⟩
 have Zb4 := hpB Zb4 t
 have Zs22 := hpB Zs22 t
 have ee := ee.trans (t.mono ee.size)
 clear t
 generalize hb8 : y.formed = b8
 try simp only [nP, nN, nA, n0, nS]
 cases b8
 ·with_reducible refine wv (.bool true) ?_
  try simp only [nP, nN, nA, n0, nS]
  with_reducible refine wv (.bool true) ?_
  try simp only [nP, nN, nA, n0, nS]
  refine wpList_nil ?_
  refine hK4 _ _ ?_
  refine wp_cond_true (by kernel_rfl) ?_
  refine wp_seq_k fun K9 hK9 => ?_
  refine wp_region_lit ?_
  with_reducible refine wc 23 #[] (awake13_any z6 (hT.below ee)) ?_
  rintro e z7 ⟨rfl, t⟩
  refine ⟨_, rfl, ?_⟩
  have Zb4 := hpB Zb4 t
  have Zs22 := hpB Zs22 t
  have ee := ee.trans (t.mono ee.size)
  clear t
  try simp only [nP, nN, nA, n0, nS]
  with_reducible refine wv (.bool true) ?_
  try simp only [nP, nN, nA, n0, nS]
  refine wpList_nil ?_
  refine hK9 _ _ ?_
  refine wp_ret ?_
  refine then_ret ?_
  exact bodyPost_ret (v := .bool true) (by kernel_rfl) rfl ⟨rfl, ee⟩
 with_reducible refine wv (.bool false) ?_
 try simp only [nP, nN, nA, n0, nS]
 with_reducible refine wv (.bool false) ?_
 try simp only [nP, nN, nA, n0, nS]
 refine wpList_nil ?_
 refine hK4 _ _ ?_
 refine wp_cond_false (by kernel_rfl) ?_
 refine wp_skip ?_
 refine hK3 _ _ ?_
 have hfy : y.formed = true := hb8
 obtain ⟨hx30, hxd⟩ := hfw1 rfl
 have hy7 := (rc_sound hfy).2.2.2.2.2
 refine wp_seq_k fun K10 hK10 => ?_
 refine wp_region_lit ?_
 with_reducible refine wc 25 #[.int .i64 1000000] (dnew_any 1000000 z6 (by omega)) ?_
 rintro e z7 ⟨rfl, dk, t, hsz_⟩
 refine ⟨_, rfl, ?_⟩
 obtain ⟨gd, hgd⟩ : ∃ q, q = z6.heap.size := ⟨_, rfl⟩
 have hle_ : w.heap.size ≤ gd := by rw [hgd]; exact ee.size
 rw [← hgd] at dk ⊢
 have dk := dk.mono hle_
 clear hgd hsz_ hle_
 have Zb4 := hpB Zb4 t
 have Zs22 := hpB Zs22 t
 have ee := ee.trans (t.mono ee.size)
 clear t
 try simp only [nP, nN, nA, n0, nS]
 with_reducible refine wv (.pointer (some ⟨gd, 0, none⟩)) ?_
 try simp only [nP, nN, nA, n0, nS]
 refine wpList_nil ?_
 refine hK10 _ _ ?_
 refine wp_seq_k fun K11 hK11 => ?_
 refine wp_seq_k fun K12 hK12 => ?_
 refine wp_region_lit ?_
 with_reducible refine wv (.int .i64 0) ?_
 try simp only [nP, nN, nA, n0, nS]
 refine wpList_nil ?_
 refine hK12 _ _ ?_
 refine wp_block ?_
 with_reducible refine wp_loop_su (xs.length) (fun k u_ alzl12 zl12 => ∃ (bv : Value) (rv : Value) (d : Dk), alzl12 = ⟨#[.slice A xs.length c, .agg (y.cells).toArray, .int .u16 ((u0 : Int)), undef, .pointer (some ⟨g2, 0, none⟩), undef, u_ 6, .pointer (some ⟨gd, 0, none⟩), .int .i64 (((k : Nat) : Int)), undef, undef, undef, undef, .bool true, .bool false, .bool false, .slice A xs.length c, .bool true, .bool false, .bool false, .bool false, .agg (y.cells).toArray, .slice (some ⟨g6, 0, none⟩) 1 1, .bool true, .bool false, .bool false, .bool false, .agg (y.cells).toArray, .bool true, .bool false, .bool false, undef, .pointer (some ⟨gd, 0, none⟩), u_ 33, u_ 34, u_ 35, u_ 36, u_ 37, u_ 38, u_ 39, u_ 40, u_ 41, u_ 42, u_ 43, u_ 44, u_ 45, u_ 46, u_ 47, u_ 48, u_ 49, u_ 50, u_ 51, undef, undef, undef, undef, undef, undef, undef, undef, undef, undef, undef, undef, undef, undef, undef, undef, undef, undef, undef, undef, undef, undef, undef, undef, undef, undef, undef, undef, undef, undef, undef, undef, undef, undef, undef, undef, undef, undef, undef, undef, undef, undef, undef, undef, undef, undef, undef, undef, undef, undef, undef, undef, undef, undef, undef, undef, undef, undef, undef, undef, undef, undef, undef, undef, undef, undef, undef], []⟩ ∧ Hid (zl12.heap[g2]? = some (.cells (y.cells).toArray 65 (0, 0))) ∧ Hid (zl12.heap[g6]? = some (.cells (y.cells).toArray 65 (0, 0))) ∧ Hid (Below w.heap.size w zl12) ∧ Hid (DkAt zl12 w.heap.size gd bv rv d) ∧ Hid (DInv d 1000000 (cats (xs.take (k)))) ∧ Hid (∀ x ∈ xs.take (k), x.good)) 0 (Nat.zero_le _) ?_ ?_
 ·exact ⟨(.slice none 0 0), (.slice none 0 0), (D.new 1000000), by kernel_rfl, Zb4, Zs22, ee, dk, ⟨rfl, rfl, rfl, rfl, rfl⟩, (fun x hx => by cases hx)⟩
 clear Zb4 Zs22 ee
 intro k u_ alzl12 zl12 hkzl12 hszl12
 obtain ⟨bv, rv, d, rfl, Zb4, Zs22, ee, dk, hd, hgo⟩ := hszl12
 have Zb4 := Zb4.out
 have Zs22 := Zs22.out
 have ee := ee.out
 have dk := dk.out
 have hd := hd.out
 have hgo := hgo.out
 refine wp_seq_k fun K14 hK14 => ?_
 refine wp_seq_k fun K15 hK15 => ?_
 refine wp_region_lit ?_
 with_reducible refine wv (.int .i64 ((k : Int))) ?_
 try simp only [nP, nN, nA, n0, nS]
 with_reducible refine wv (.slice A xs.length c) ?_
 try simp only [nP, nN, nA, n0, nS]
 with_reducible refine wv (.int .i64 ((xs.length : Int))) ?_
 try simp only [nP, nN, nA, n0, nS]
 obtain ⟨b16, hb16⟩ : ∃ d_ : Bool, (decide ((k : Int) < (xs.length : Int))) = d_ := ⟨_, rfl⟩
 with_reducible refine wb (.bool b16) (.int .i64 ((k : Int))) (.int .i64 ((xs.length : Int))) 3 (run_lssI hb16) ?_
 try simp only [nP, nN, nA, n0, nS]
 refine wpList_nil ?_
 refine hK15 _ _ ?_
 cases b16
 ·have pb16 : ¬ ((k : Int) < (xs.length : Int)) := of_decide_eq_false hb16
  refine wp_cond_false (by kernel_rfl) ?_
  refine wp_exit ?_
  refine then_exit ?_
  refine then_exit ?_
  refine inBlock_here ?_
  refine hK11 _ _ ?_
  refine wp_seq_k fun K17 hK17 => ?_
  refine wp_seq_k fun K18 hK18 => ?_
  refine wp_region_lit ?_
  with_reducible refine wv (.pointer (some ⟨gd, 0, none⟩)) ?_
  try simp only [nP, nN, nA, n0, nS]
  have hkx : k = xs.length := by omega
  rw [hkx, List.take_length] at hd hgo
  have hgx := hgo
  have hdb0 := hd.2.1
  with_reducible refine wc 27 #[.pointer (some ⟨gd, 0, none⟩)] (dsync_ok dk hd) ?_
  rintro e z8 ⟨rfl, dk_, mv_⟩
  refine ⟨_, rfl, ?_⟩
  have Zb4 := mvHeap mv_ dk Zb4 (by decide) (by decide)
  have Zs22 := mvHeap mv_ dk Zs22 (by decide) (by decide)
  have ee := ee.trans (mv_.fr.below (fun k_ h_ => Nat.le_trans (Nat.le_refl _) (dk.ft h_).1) ee.size)
  clear dk mv_
  have dk := dk_
  clear dk_
  have hd := T.DInv.lasts (n := (d).b.length) hd
  have hsy_ : ({ d with lasts := (d).b.length } : Dk).lasts = (d).b.length := rfl
  obtain ⟨d19, hd19⟩ : ∃ q_ : Dk, q_ = { d with lasts := (d).b.length } := ⟨_, rfl⟩
  rw [← hd19] at dk hd hsy_
  clear hd19
  have hla : (d19).lasts = (cats xs).length := by rw [hsy_, hdb0]
  obtain ⟨hsz, hbb, hfu, hdn, hwi⟩ := hd
  try simp only [nP, nN, nA, n0, nS]
  with_reducible refine wb (.bool false) (.int .i64 0) (.int .i64 0) 36 (run_neqI (show (decide (0 = 0)) = true from by decide)) ?_
  try simp only [nP, nN, nA, n0, nS]
  refine wpList_nil ?_
  refine hK18 _ _ ?_
  refine wp_cond_false (by kernel_rfl) ?_
  refine wp_skip ?_
  refine hK17 _ _ ?_
  refine wp_seq_k fun K20 hK20 => ?_
  refine wp_region_lit ?_
  with_reducible refine wv (.pointer (some ⟨gd, 0, none⟩)) ?_
  try simp only [nP, nN, nA, n0, nS]
  with_reducible refine wc 32 #[.pointer (some ⟨gd, 0, none⟩)] (dbytes_any w.heap.size gd bv rv d19 z8 dk) ?_
  rintro e z9 ⟨v4, rfl, OB, t⟩
  refine ⟨_, rfl, ?_⟩
  have dk := dk.below t
  have Zb4 := hpB Zb4 t
  have Zs22 := hpB Zs22 t
  have ee := ee.trans (t.mono ee.size)
  clear t
  rw [hbb] at OB
  obtain ⟨cl1, hcl1⟩ : ∃ q, q = (cats xs).length := ⟨_, rfl⟩
  rw [← hcl1] at OB
  obtain ⟨A4, c4, e4, _⟩ := ownShape OB
  subst e4
  try simp only [nP, nN, nA, n0, nS]
  with_reducible refine wv (.int .i64 ((cl1 : Int))) ?_
  try simp only [nP, nN, nA, n0, nS]
  with_reducible refine wv (.int .i64 ((cl1 : Int))) ?_
  try simp only [nP, nN, nA, n0, nS]
  refine wpList_nil ?_
  refine hK20 _ _ ?_
  refine wp_seq_k fun K21 hK21 => ?_
  refine wp_region_lit ?_
  with_reducible refine wv (.pointer (some ⟨gd, 0, none⟩)) ?_
  try simp only [nP, nN, nA, n0, nS]
  with_reducible refine wc 33 #[.pointer (some ⟨gd, 0, none⟩), .int .i64 0] (dfuse_any w.heap.size gd bv rv d19 0 z9 (by decide) dk) ?_
  rintro e z10 ⟨rfl, dk_, g_⟩
  refine ⟨_, rfl, ?_⟩
  have mv_ := grownMv (base := w.heap.size) (bv := bv) (rv := rv) g_
  have Zb4 := mvHeap mv_ dk Zb4 (by decide) (by decide)
  have Zs22 := mvHeap mv_ dk Zs22 (by decide) (by decide)
  have ee := ee.trans (mv_.fr.below (fun k_ h_ => Nat.le_trans (Nat.le_refl _) (dk.ft h_).1) ee.size)
  clear dk mv_
  have dk := dk_
  clear dk_
  obtain ⟨d1, hd1⟩ : ∃ q : Dk, q = D.setFuse d19 0 := ⟨_, rfl⟩
  rw [← hd1] at dk
  have hbb : d1.b = cats xs := by rw [hd1]; exact hbb
  have hsz : d1.size = 1000000 := by rw [hd1]; exact hsz
  have hwi : d1.within = false := by rw [hd1]; exact hwi
  have hdn : d1.down = false := by rw [hd1]; exact hdn
  have hfu : d1.fuse = 0 := by rw [hd1]; rfl
  have hla : d1.lasts = (cats xs).length := by rw [hd1]; exact hla
  clear hd1
  try simp only [nP, nN, nA, n0, nS]
  refine wpList_nil ?_
  refine hK21 _ _ ?_
  refine wp_seq_k fun K22 hK22 => ?_
  refine wp_seq_k fun K23 hK23 => ?_
  refine wp_region_lit ?_
  with_reducible refine wv (.pointer (some ⟨gd, 0, none⟩)) ?_
  try simp only [nP, nN, nA, n0, nS]
  with_reducible refine wg (g2) (0) (y.cells) (rowAt Zb4) Tryd.underlying65 ?_
  try simp only [nP, nN, nA, n0, nS]
  have hgz : ∀ x ∈ xs ++ [y], x.good := fun x_ hx_ => by
   rcases List.mem_append.1 hx_ with q | q
   ·exact hgx x_ q
   ·rw [List.mem_singleton.1 q]; exact good_of oky hfy
  have hcy := (rcwr_len hfy)
  have hcz : (cats (xs ++ [y])).length = (cats xs).length + (8 + y.wr.length) := by rw [cats_snoc, List.length_append, F.wrap_len hcy.2]
  have hcx := cats_small hgx (by omega) hxd
  have hadd : added d1 y = (8, { d1 with down := true, b := cats (xs ++ [y]) }) := added_lost hsz hbb hfu hdn hfy (by omega)
  with_reducible refine wc 28 #[.pointer (some ⟨gd, 0, none⟩), .agg (y.cells).toArray] (wadd_any y z10 w.heap.size ee.size (oky.below ee (Nat.le_refl _)) (by have := (rc_sound hfy).2.2.2.2.2; omega) (hT.below ee) w.heap.size gd bv rv d1 ee.size dk) ?_
  rintro e z11 ⟨bv1, rv1, rfl, dk_, mv_⟩
  refine ⟨_, rfl, ?_⟩
  rw [hadd] at dk_ ⊢
  have Zb4 := mvHeap mv_ dk Zb4 (by decide) (by decide)
  have Zs22 := mvHeap mv_ dk Zs22 (by decide) (by decide)
  have ee := ee.trans (mv_.fr.below (fun k_ h_ => Nat.le_trans (Nat.le_refl _) (dk.ft h_).1) ee.size)
  clear dk mv_
  have dk := dk_
  clear dk_
  obtain ⟨d2, hd2⟩ : ∃ q : Dk, q = { d1 with down := true, b := cats (xs ++ [y]) } := ⟨_, rfl⟩
  rw [← hd2] at dk
  have hbb : d2.b = cats (xs ++ [y]) := by rw [hd2]
  have hsz : d2.size = 1000000 := by rw [hd2]; exact hsz
  have hwi : d2.within = false := by rw [hd2]; exact hwi
  have hla : d2.lasts = (cats xs).length := by rw [hd2]; exact hla
  clear hd2 hadd hfu hdn
  try simp only [nP, nN, nA, n0, nS]
  with_reducible refine wb (.bool false) (.int .i64 8) (.int .i64 8) 36 (run_neqI (show (decide (8 = 8)) = true from by decide)) ?_
  try simp only [nP, nN, nA, n0, nS]
  refine wpList_nil ?_
  refine hK23 _ _ ?_
  refine wp_cond_false (by kernel_rfl) ?_
  refine wp_skip ?_
  refine hK22 _ _ ?_
  refine wp_seq_k fun K24 hK24 => ?_
  refine wp_region_lit ?_
  with_reducible refine wv (.pointer (some ⟨gd, 0, none⟩)) ?_
  try simp only [nP, nN, nA, n0, nS]
  with_reducible refine wc 32 #[.pointer (some ⟨gd, 0, none⟩)] (dbytes_any w.heap.size gd bv1 rv1 d2 z11 dk) ?_
  rintro e z12 ⟨v4, rfl, OB, t⟩
  refine ⟨_, rfl, ?_⟩
  have dk := dk.below t
  have Zb4 := hpB Zb4 t
  have Zs22 := hpB Zs22 t
  have ee := ee.trans (t.mono ee.size)
  clear t
  rw [hbb] at OB
  obtain ⟨cl2, hcl2⟩ : ∃ q, q = (cats (xs ++ [y])).length := ⟨_, rfl⟩
  rw [← hcl2] at OB
  obtain ⟨A4, c4, e4, _⟩ := ownShape OB
  subst e4
  try simp only [nP, nN, nA, n0, nS]
  with_reducible refine wv (.int .i64 ((cl2 : Int))) ?_
  try simp only [nP, nN, nA, n0, nS]
  with_reducible refine wv (.int .i64 ((cl1 : Int))) ?_
  try simp only [nP, nN, nA, n0, nS]
  with_reducible refine wq (.int .i64 (((8 + y.wr.length : Nat) : Int))) (okIntP ((by rw [IntKind.wrap_i64, hcl2, hcl1, hcz]; omega) : IntKind.i64.wrap ((cl2 : Int) - (cl1 : Int)) = ((8 + y.wr.length : Nat) : Int)) (by kernel_rfl)) ?_
  try simp only [nP, nN, nA, n0, nS]
  with_reducible refine wv (.int .i64 (((8 + y.wr.length : Nat) : Int))) ?_
  try simp only [nP, nN, nA, n0, nS]
  refine wpList_nil ?_
  refine hK24 _ _ ?_
  refine wp_seq_k fun K25 hK25 => ?_
  refine wp_region_lit ?_
  with_reducible refine wv (.pointer (some ⟨gd, 0, none⟩)) ?_
  try simp only [nP, nN, nA, n0, nS]
  with_reducible refine wv (.int .u16 ((u0 : Int))) ?_
  try simp only [nP, nN, nA, n0, nS]
  with_reducible refine wq (.int .i64 ((u0 : Int))) (okIntP ((by rw [IntKind.wrap_i64]; omega) : IntKind.i64.wrap ((u0 : Int)) = (u0 : Int)) (by kernel_rfl)) ?_
  try simp only [nP, nN, nA, n0, nS]
  with_reducible refine wc 29 #[.pointer (some ⟨gd, 0, none⟩), .int .i64 ((u0 : Int))] (dcut_any w.heap.size gd bv1 rv1 d2 ((u0 : Int)) z12 ee.size dk) ?_
  rintro e z13 ⟨gx, bvx, rfl, _, dkx, _, g_⟩
  refine ⟨_, rfl, ?_⟩
  have mv_ := grownMv (base := w.heap.size) (bv := bv1) (rv := rv1) g_
  have dkx := dkx.mono ee.size
  have Zb4 := mvHeap mv_ dk Zb4 (by decide) (by decide)
  have Zs22 := mvHeap mv_ dk Zs22 (by decide) (by decide)
  have ee := ee.trans (mv_.fr.below (fun k_ h_ => (dk.ft h_).1) ee.size)
  clear dk mv_ g_
  have dk := dkx
  clear dkx
  obtain ⟨hb1, hb2, hb3, hb4, hb5⟩ := dcut_b hsz hbb hwi ((u0 : Int))
  obtain ⟨dc, hdc⟩ : ∃ q : Dk, q = D.cut d2 ((u0 : Int)) := ⟨_, rfl⟩
  rw [← hdc] at dk hb1 hb2 hb3 hb4 hb5
  clear hdc
  obtain ⟨j, dj, hj1, hj2, hj3, hop, hj4, hj5, hj6, hj7, hj8⟩ := opened_cut hgz dc _ hb1 hb4 (by omega) (dk.2.2.2.2.2.2.1)
  rw [hla, hcz] at hj2 hj3
  rw [List.length_append] at hj1 hj2
  have hjx : xs.length ≤ j := hj2 xs.length (by omega) (by rw [List.take_left']; exact Nat.le_add_right _ _; rfl)
  have hjl : j ≤ xs.length + 1 := hj1
  have hj_yes : 8 + y.wr.length ≤ u0 → j = xs.length + 1 := fun q => by
   have := hj2 (xs.length + 1) (Nat.le_refl _) (by rw [List.take_of_length_le (by rw [List.length_append]; exact Nat.le_refl _), hcz]; omega)
   omega
  have hj_no : u0 < 8 + y.wr.length → j = xs.length := fun q => by
   rcases Nat.lt_or_ge j (xs.length + 1) with h | h
   ·omega
   ·have e : j = xs.length + 1 := by omega
    rw [e, List.take_of_length_le (by rw [List.length_append]; exact Nat.le_refl _), hcz] at hj3
    omega
  try simp only [nP, nN, nA, n0, nS]
  with_reducible refine wc 30 #[.pointer (some ⟨gx, 0, none⟩)] (wopen_any w.heap.size gx bvx (.slice none 0 0) dc z13 ee.size dk (hT.below ee)) ?_
  rintro e z14 ⟨v1_, ns1, bo1, ro1, rfl, hlk1, dk_, mv_, OX1, kx1⟩
  refine ⟨_, rfl, ?_⟩
  rw [hop] at hlk1 dk_ ⊢
  have OX1 := OwnR.mono OX1 ee.size
  have Zb4 := mvHeap mv_ dk Zb4 (by decide) (by decide)
  have Zs22 := mvHeap mv_ dk Zs22 (by decide) (by decide)
  have ee := ee.trans (mv_.fr.below (fun k_ h_ => Nat.le_trans (Nat.le_refl _) (dk.ft h_).1) ee.size)
  clear dk mv_
  have dk := dk_
  clear dk_
  obtain ⟨A1, c1, e1_, hcc1, _, _⟩ := OX1.rows
  subst e1_
  have hcm1 := (ownRows OX1).2.2.1
  obtain ⟨hln1, hli1⟩ := like_take hgz (by rw [List.length_append]; exact hj1) hlk1
  obtain ⟨ts, hts⟩ : ∃ q, q = ns1.take xs.length := ⟨_, rfl⟩
  have htl : ts.length = xs.length := by rw [hts, List.length_take]; omega
  try simp only [nP, nN, nA, n0, nS]
  with_reducible refine wv (.tuple #[.slice A1 ns1.length c1, .int .i64 0]) ?_
  try simp only [nP, nN, nA, n0, nS]
  with_reducible refine wv (.slice A1 ns1.length c1) ?_
  try simp only [nP, nN, nA, n0, nS]
  with_reducible refine wv (.int .i64 0) ?_
  try simp only [nP, nN, nA, n0, nS]
  with_reducible refine wv (.slice A1 ns1.length c1) ?_
  try simp only [nP, nN, nA, n0, nS]
  with_reducible refine wv (.int .i64 0) ?_
  try simp only [nP, nN, nA, n0, nS]
  refine wpList_nil ?_
  refine hK25 _ _ ?_
  refine wp_seq_k fun K26 hK26 => ?_
  refine wp_seq_k fun K27 hK27 => ?_
  refine wp_region_lit ?_
  with_reducible refine wv (.int .i64 0) ?_
  try simp only [nP, nN, nA, n0, nS]
  with_reducible refine wb (.bool false) (.int .i64 0) (.int .i64 0) 36 (run_neqI (show (decide (0 = 0)) = true from by decide)) ?_
  try simp only [nP, nN, nA, n0, nS]
  with_reducible refine wv (.bool false) ?_
  try simp only [nP, nN, nA, n0, nS]
  with_reducible refine wv (.slice A1 ns1.length c1) ?_
  try simp only [nP, nN, nA, n0, nS]
  with_reducible refine wv (.slice A1 ns1.length c1) ?_
  try simp only [nP, nN, nA, n0, nS]
  with_reducible refine wv (.int .i64 ((ns1.length : Int))) ?_
  try simp only [nP, nN, nA, n0, nS]
  with_reducible refine wv (.slice A xs.length c) ?_
  try simp only [nP, nN, nA, n0, nS]
  with_reducible refine wv (.int .i64 ((xs.length : Int))) ?_
  try simp only [nP, nN, nA, n0, nS]
  with_reducible refine wq (.int .i64 ((ts.length : Int))) (by rw [htl]; exact exec_minR (.tmp 82) (.tmp 84) (p := ns1.length) (q := xs.length) rfl rfl rfl (by omega)) ?_
  try simp only [nP, nN, nA, n0, nS]
  with_reducible refine wq (.slice A1 ts.length c1) (exec_slice_hR (.tmp 80) (.tmp 85) (A := A1) (len := ns1.length) (cap := c1) (h := ts.length) rfl rfl rfl (by omega)) ?_
  try simp only [nP, nN, nA, n0, nS]
  with_reducible refine wv (.slice A xs.length c) ?_
  try simp only [nP, nN, nA, n0, nS]
  with_reducible refine wv (.slice A xs.length c) ?_
  try simp only [nP, nN, nA, n0, nS]
  with_reducible refine wv (.int .i64 ((xs.length : Int))) ?_
  try simp only [nP, nN, nA, n0, nS]
  have hrt : RowsAt z14 z14.heap.size A1 15 (ts.map Rc.cells) := by rw [hts]; exact rowsTake (ownRows OX1).1
  have hot : ∀ x ∈ ts, RcOk z14 z14.heap.size x := fun x_ hx_ => kx1.out x_ (List.mem_of_mem_take (hts ▸ hx_))
  have hlt : ∀ (i : Nat) (a b : Rc), ts[i]? = some a → xs[i]? = some b → LikeR a b := fun i_ a_ b_ h1_ h2_ => by
   have hi := (List.getElem?_eq_some_iff.1 h2_).1
   rw [hts, List.getElem?_take, if_pos hi] at h1_
   exact hli1 i_ a_ b_ h1_ (by rw [List.getElem?_append_left hi]; exact h2_)
  with_reducible refine wc 31 #[.slice A1 ts.length c1, .slice A xs.length c, .int .i64 ((xs.length : Int))] (front_t A1 A c1 c ts xs (xs.length : Int) z14 (by omega) hcm1 hrt hot ((hR1.below ee (Nat.le_refl _)).more ee.size) (fun x_ hx_ => ((hO1 x_ hx_).below ee (Nat.le_refl _)).more ee.size) (by omega) (by omega) (good_dt hgx) hlt) ?_
  rintro e z15 ⟨rfl, t⟩
  refine ⟨_, rfl, ?_⟩
  have dk := dk.below t
  have kx1 := kx1.below t
  have Zb4 := hpB Zb4 t
  have Zs22 := hpB Zs22 t
  have OX1 := ownBelow OX1 t
  have ee := ee.trans (t.mono ee.size)
  clear t
  try simp only [nP, nN, nA, n0, nS]
  with_reducible refine wv (.bool false) ?_
  try simp only [nP, nN, nA, n0, nS]
  with_reducible refine wv (.bool false) ?_
  try simp only [nP, nN, nA, n0, nS]
  refine wpList_nil ?_
  refine hK27 _ _ ?_
  refine wp_cond_false (by kernel_rfl) ?_
  refine wp_skip ?_
  refine hK26 _ _ ?_
  refine wp_seq_k fun K28 hK28 => ?_
  refine wp_seq_k fun K29 hK29 => ?_
  refine wp_region_lit ?_
  with_reducible refine wv (.int .u16 ((u0 : Int))) ?_
  try simp only [nP, nN, nA, n0, nS]
  with_reducible refine wq (.int .i64 ((u0 : Int))) (okIntP ((by rw [IntKind.wrap_i64]; omega) : IntKind.i64.wrap ((u0 : Int)) = (u0 : Int)) (by kernel_rfl)) ?_
  try simp only [nP, nN, nA, n0, nS]
  with_reducible refine wv (.int .i64 (((8 + y.wr.length : Nat) : Int))) ?_
  try simp only [nP, nN, nA, n0, nS]
  obtain ⟨b30, hb30⟩ : ∃ d_ : Bool, (decide ((u0 : Int) ≥ ((8 + y.wr.length : Nat) : Int))) = d_ := ⟨_, rfl⟩
  with_reducible refine wb (.bool b30) (.int .i64 ((u0 : Int))) (.int .i64 (((8 + y.wr.length : Nat) : Int))) 3 (run_geqI hb30) ?_
  try simp only [nP, nN, nA, n0, nS]
  refine wpList_nil ?_
  refine hK29 _ _ ?_
  cases b30
  ·have pb30 : ¬ ((u0 : Int) ≥ ((8 + y.wr.length : Nat) : Int)) := of_decide_eq_false hb30
   refine wp_cond_false (by kernel_rfl) ?_
   refine wp_skip ?_
   refine hK28 _ _ ?_
   refine wp_seq_k fun K31 hK31 => ?_
   refine wp_region_lit ?_
   with_reducible refine wv (.slice A1 ns1.length c1) ?_
   try simp only [nP, nN, nA, n0, nS]
   with_reducible refine wv (.int .i64 ((ns1.length : Int))) ?_
   try simp only [nP, nN, nA, n0, nS]
   with_reducible refine wv (.slice A xs.length c) ?_
   try simp only [nP, nN, nA, n0, nS]
   with_reducible refine wv (.int .i64 ((xs.length : Int))) ?_
   try simp only [nP, nN, nA, n0, nS]
   with_reducible refine wb (.bool true) (.int .i64 ((ns1.length : Int))) (.int .i64 ((xs.length : Int))) 3 (run_eqlI ((decide_eq_true (by have := hj_no (by omega); omega)) : (decide ((ns1.length : Int) = (xs.length : Int))) = true)) ?_
   try simp only [nP, nN, nA, n0, nS]
   with_reducible refine wv (.bool true) ?_
   try simp only [nP, nN, nA, n0, nS]
   refine wpList_nil ?_
   refine hK31 _ _ ?_
   refine wp_ret ?_
   exact bodyPost_ret (v := .bool true) (by kernel_rfl) rfl ⟨rfl, ee⟩
  have pb30 : (u0 : Int) ≥ ((8 + y.wr.length : Nat) : Int) := of_decide_eq_true hb30
  refine wp_cond_true (by kernel_rfl) ?_
  have hjy := hj_yes (by omega)
  have hl1 : xs.length < ns1.length := by omega
  obtain ⟨x, hx⟩ : ∃ q, ns1[xs.length]? = some q := ⟨_, List.getElem?_eq_getElem hl1⟩
  obtain ⟨bx, ox, hAx, hrx, hbd_x⟩ := rowPtr (ownRows OX1).1 hx (Nat.le_refl _)
  have okx := kx1.out x (List.mem_of_getElem? hx)
  refine wp_seq_k fun K32 hK32 => ?_
  have dk := dkDrew dk
  have kx1 := Kp.drew kx1
  have hrx := rngDrew hrx
  have Zb4 : z15.drew.heap[g2]? = some (.cells (y.cells).toArray 65) := Zb4
  have Zs22 : z15.drew.heap[g6]? = some (.cells (y.cells).toArray 65) := Zs22
  have OX1 := World.ownsRow.drew OX1
  have ee := belowDrewS ee
  -- region 22
  with_reducible refine any_begin (fun z' => z'.heap[g2]? = some (.cells (y.cells).toArray 65 (0, 0)) ∧ z'.heap[g6]? = some (.cells (y.cells).toArray 65 (0, 0)) ∧ Rng z' bx (ox + xs.length * 15) x.cells) 18 #[false, false, false, false, false, false, false, false, false, false, false, false, false, false, false, false, false, false] ⟨Zb4, Zs22, hrx⟩ ?_ ?_
  ·intro c_ a_ d_ v_ w_ h_; cases d_ <;> exact h_
  obtain ⟨z16, hz_⟩ : ∃ z_ : World, z_ = z15.drew := ⟨_, rfl⟩
  rw [← hz_] at Zb4 Zs22 OX1 ee dk kx1 hrx ⊢
  clear hz_
  with_reducible refine ha 0 (some 97) (.slice A1 ns1.length c1) #[true, false, false, false, false, false, false, false, false, false, false, false, false, false, false, false, false, false] (fun w_ _ => by kernel_rfl) ⟨Zb4, Zs22, hrx⟩ ?_
  try simp only [nP, nN, nA, n0, nS]
  with_reducible refine ha 1 (some 98) (.int .i64 ((ns1.length : Int))) #[true, true, false, false, false, false, false, false, false, false, false, false, false, false, false, false, false, false] (fun w_ _ => by kernel_rfl) ⟨Zb4, Zs22, hrx⟩ ?_
  try simp only [nP, nN, nA, n0, nS]
  with_reducible refine ha 2 (some 99) (.slice A xs.length c) #[true, true, true, false, false, false, false, false, false, false, false, false, false, false, false, false, false, false] (fun w_ _ => by kernel_rfl) ⟨Zb4, Zs22, hrx⟩ ?_
  try simp only [nP, nN, nA, n0, nS]
  with_reducible refine ha 3 (some 100) (.int .i64 ((xs.length : Int))) #[true, true, true, true, false, false, false, false, false, false, false, false, false, false, false, false, false, false] (fun w_ _ => by kernel_rfl) ⟨Zb4, Zs22, hrx⟩ ?_
  try simp only [nP, nN, nA, n0, nS]
  with_reducible refine ha 4 (some 101) (.int .i64 (((xs.length + 1 : Nat) : Int))) #[true, true, true, true, true, false, false, false, false, false, false, false, false, false, false, false, false, false] (fun w_ _ => (okIntA ((by rw [IntKind.wrap_i64]; omega) : IntKind.i64.wrap ((xs.length : Int) + 1) = ((xs.length + 1 : Nat) : Int)) (by kernel_rfl))) ⟨Zb4, Zs22, hrx⟩ ?_
  try simp only [nP, nN, nA, n0, nS]
  with_reducible refine ha 5 (some 102) (.bool true) #[true, true, true, true, true, true, false, false, false, false, false, false, false, false, false, false, false, false] (fun w_ _ => runBin (.bool true) (.int .i64 ((ns1.length : Int))) (.int .i64 (((xs.length + 1 : Nat) : Int))) 3 (run_eqlI ((decide_eq_true (by have := hj_yes (by omega); omega)) : (decide ((ns1.length : Int) = ((xs.length + 1 : Nat) : Int))) = true))) ⟨Zb4, Zs22, hrx⟩ ?_
  try simp only [nP, nN, nA, n0, nS]
  with_reducible refine ha 6 (some 103) (.bool true) #[true, true, true, true, true, true, true, false, false, false, false, false, false, false, false, false, false, false] (fun w_ _ => by kernel_rfl) ⟨Zb4, Zs22, hrx⟩ ?_
  try simp only [nP, nN, nA, n0, nS]
  with_reducible refine ha 7 (some 104) (.slice A1 ns1.length c1) #[true, true, true, true, true, true, true, true, false, false, false, false, false, false, false, false, false, false] (fun w_ _ => by kernel_rfl) ⟨Zb4, Zs22, hrx⟩ ?_
  try simp only [nP, nN, nA, n0, nS]
  with_reducible refine ha 8 (some 105) (.slice A xs.length c) #[true, true, true, true, true, true, true, true, true, false, false, false, false, false, false, false, false, false] (fun w_ _ => by kernel_rfl) ⟨Zb4, Zs22, hrx⟩ ?_
  try simp only [nP, nN, nA, n0, nS]
  with_reducible refine ha 9 (some 106) (.int .i64 ((xs.length : Int))) #[true, true, true, true, true, true, true, true, true, true, false, false, false, false, false, false, false, false] (fun w_ _ => by kernel_rfl) ⟨Zb4, Zs22, hrx⟩ ?_
  try simp only [nP, nN, nA, n0, nS]
  with_reducible refine ha 10 (some 107) (.pointer (some ⟨bx, ox + xs.length * 15, none⟩)) #[true, true, true, true, true, true, true, true, true, true, true, false, false, false, false, false, false, false] (fun w_ _ => (runAt_of rfl (exec_ixA (.tmp 104) (.tmp 106) (A := A1) (b := bx) (off := ox) (len := ns1.length) (cap := c1) (i := xs.length) 15 rfl rfl rfl Tryd.underlying57 hAx hl1))) ⟨Zb4, Zs22, hrx⟩ ?_
  try simp only [nP, nN, nA, n0, nS]
  with_reducible refine hg_ 11 (some 108) (bx) (ox + xs.length * 15) (x.cells) #[true, true, true, true, true, true, true, true, true, true, true, true, false, false, false, false, false, false] (fun _ h_ => (h_.2.2).rg) Tryd.underlying65 ⟨Zb4, Zs22, hrx⟩ ?_
  try simp only [nP, nN, nA, n0, nS]
  with_reducible refine hg_ 13 (some 110) (g2) (0) (y.cells) #[true, true, true, true, true, true, true, true, true, true, true, true, false, true, false, false, false, false] (fun _ h_ => (rowAt h_.1)) Tryd.underlying65 ⟨Zb4, Zs22, hrx⟩ ?_
  try simp only [nP, nN, nA, n0, nS]
  with_reducible refine any1 12 ?_
  with_reducible refine st_f 12 (some 109) 35 #[.agg (x.cells).toArray] #[true, true, true, true, true, true, true, true, true, true, true, true, true, true, false, false, false, false] (rplain_any x z16) ?_
  rintro e z17 ⟨rfl, t⟩
  refine ⟨_, rfl, ?_⟩
  have dk := dk.below t
  have kx1 := kx1.below t
  have hrx := rngBelow hrx t
  have Zb4 := hpB Zb4 t
  have Zs22 := hpB Zs22 t
  have OX1 := ownBelow OX1 t
  have ee := ee.trans (t.mono ee.size)
  clear t
  refine ⟨⟨Zb4, Zs22, hrx⟩, ?_⟩
  try simp only [nP, nN, nA, n0, nS]
  with_reducible refine any1 14 ?_
  with_reducible refine st_f 14 (some 111) 35 #[.agg (y.cells).toArray] #[true, true, true, true, true, true, true, true, true, true, true, true, true, true, true, false, false, false] (rplain_any y z17) ?_
  rintro e z18 ⟨rfl, t⟩
  refine ⟨_, rfl, ?_⟩
  have dk := dk.below t
  have kx1 := kx1.below t
  have hrx := rngBelow hrx t
  have Zb4 := hpB Zb4 t
  have Zs22 := hpB Zs22 t
  have OX1 := ownBelow OX1 t
  have ee := ee.trans (t.mono ee.size)
  clear t
  refine ⟨⟨Zb4, Zs22, hrx⟩, ?_⟩
  try simp only [nP, nN, nA, n0, nS]
  with_reducible refine any1 15 ?_
  with_reducible refine st_f 15 (some 112) 34 #[.agg (x.cells).toArray, .agg (y.cells).toArray] #[true, true, true, true, true, true, true, true, true, true, true, true, true, true, true, true, false, false] (rrsame_t x y z18 z18.heap.size (Nat.le_refl _) (kx1.out x (List.mem_of_getElem? hx)) ((oky.below ee (Nat.le_refl _)).more ee.size) (by have := good_dt hgz y (by simp); omega) (hli1 xs.length x y hx (by rw [List.getElem?_append_right (Nat.le_refl _)]; simp))) ?_
  rintro e z19 ⟨rfl, t⟩
  refine ⟨_, rfl, ?_⟩
  have dk := dk.below t
  have kx1 := kx1.below t
  have hrx := rngBelow hrx t
  have Zb4 := hpB Zb4 t
  have Zs22 := hpB Zs22 t
  have OX1 := ownBelow OX1 t
  have ee := ee.trans (t.mono ee.size)
  clear t
  refine ⟨⟨Zb4, Zs22, hrx⟩, ?_⟩
  try simp only [nP, nN, nA, n0, nS]
  with_reducible refine ha 16 (some 113) (.bool true) #[true, true, true, true, true, true, true, true, true, true, true, true, true, true, true, true, true, false] (fun w_ _ => by kernel_rfl) ⟨Zb4, Zs22, hrx⟩ ?_
  try simp only [nP, nN, nA, n0, nS]
  with_reducible refine ha 17 (some 6) (.bool true) #[true, true, true, true, true, true, true, true, true, true, true, true, true, true, true, true, true, true] (fun w_ _ => by kernel_rfl) ⟨Zb4, Zs22, hrx⟩ ?_
  try simp only [nP, nN, nA, n0, nS]
  with_reducible refine any_end ?_
  refine hK32 _ _ ?_
  refine wp_ret ?_
  refine then_ret ?_
  exact bodyPost_ret (v := .bool true) (by kernel_rfl) rfl ⟨rfl, ee⟩
 have pb16 : (k : Int) < (xs.length : Int) := of_decide_eq_true hb16
 refine wp_cond_true (by kernel_rfl) ?_
 refine wp_skip ?_
 refine hK14 _ _ ?_
 refine wp_seq_k fun K33 hK33 => ?_
 refine wp_block ?_
 refine wp_seq_k fun K34 hK34 => ?_
 have hkl : k < xs.length := by omega
 obtain ⟨x, hx⟩ : ∃ q, xs[k]? = some q := ⟨_, List.getElem?_eq_getElem hkl⟩
 obtain ⟨bx, ox, hAx, hrx, hbd_x⟩ := rowPtr (hR1.below ee (Nat.le_refl _)) hx ee.size
 have okx := (fun x_ hx_ => (hO1 x_ hx_).below ee (Nat.le_refl _)) x (List.mem_of_getElem? hx)
 have hbx : bx < w.heap.size := hbd_x
 refine wp_seq_k fun K35 hK35 => ?_
 refine wp_region_lit ?_
 with_reducible refine wv (.slice A xs.length c) ?_
 try simp only [nP, nN, nA, n0, nS]
 with_reducible refine wv (.int .i64 ((k : Int))) ?_
 try simp only [nP, nN, nA, n0, nS]
 with_reducible refine wq (.pointer (some ⟨bx, ox + k * 15, none⟩)) (exec_ixA (.tmp 39) (.tmp 40) (A := A) (b := bx) (off := ox) (len := xs.length) (cap := c) (i := k) 15 rfl rfl rfl Tryd.underlying57 hAx hkl) ?_
 try simp only [nP, nN, nA, n0, nS]
 with_reducible refine wg (bx) (ox + k * 15) (x.cells) hrx.rg Tryd.underlying65 ?_
 try simp only [nP, nN, nA, n0, nS]
 with_reducible refine wc 26 #[.agg (x.cells).toArray] (wformed_any x zl12 w.heap.size ee.size okx (hT.below ee)) ?_
 rintro e z8 ⟨rfl, t⟩
 refine ⟨_, rfl, ?_⟩
 have dk := dk.below t
 have hrx := rngBelow hrx t
 have Zb4 := hpB Zb4 t
 have Zs22 := hpB Zs22 t
 have ee := ee.trans (t.mono ee.size)
 clear t
 generalize hb36 : x.formed = b36
 try simp only [nP, nN, nA, n0, nS]
 cases b36
 ·with_reducible refine wv (.bool true) ?_
  try simp only [nP, nN, nA, n0, nS]
  refine wpList_nil ?_
  refine hK35 _ _ ?_
  refine wp_cond_true (by kernel_rfl) ?_
  refine wp_seq_k fun K37 hK37 => ?_
  refine wp_region_lit ?_
  with_reducible refine wv (.bool true) ?_
  try simp only [nP, nN, nA, n0, nS]
  refine wpList_nil ?_
  refine hK37 _ _ ?_
  refine wp_ret ?_
  refine then_ret ?_
  refine inBlock_ret ?_
  refine then_ret ?_
  refine then_ret ?_
  refine inBlock_ret ?_
  refine then_ret ?_
  exact bodyPost_ret (v := .bool true) (by kernel_rfl) rfl ⟨rfl, ee⟩
 with_reducible refine wv (.bool false) ?_
 try simp only [nP, nN, nA, n0, nS]
 refine wpList_nil ?_
 refine hK35 _ _ ?_
 refine wp_cond_false (by kernel_rfl) ?_
 refine wp_skip ?_
 refine hK34 _ _ ?_
 have hfo : x.formed = true := hb36
 refine wp_seq_k fun K38 hK38 => ?_
 refine wp_region_lit ?_
 with_reducible refine wv (.pointer (some ⟨gd, 0, none⟩)) ?_
 try simp only [nP, nN, nA, n0, nS]
 with_reducible refine wv (.slice A xs.length c) ?_
 try simp only [nP, nN, nA, n0, nS]
 with_reducible refine wv (.int .i64 ((k : Int))) ?_
 try simp only [nP, nN, nA, n0, nS]
 with_reducible refine wq (.pointer (some ⟨bx, ox + k * 15, none⟩)) (exec_ixA (.tmp 46) (.tmp 47) (A := A) (b := bx) (off := ox) (len := xs.length) (cap := c) (i := k) 15 rfl rfl rfl Tryd.underlying57 hAx hkl) ?_
 try simp only [nP, nN, nA, n0, nS]
 with_reducible refine wg (bx) (ox + k * 15) (x.cells) hrx.rg Tryd.underlying65 ?_
 try simp only [nP, nN, nA, n0, nS]
 have hg0 := good_of okx hfo
 have hg1 := all_snoc xs k x hx (fun y => y.good) hgo hg0
 have hds := dsum_le xs (k + 1)
 have hc1_ := cats_small hg1 (by rw [List.length_take]; omega) (by omega)
 have hadd : added d x = (0, { d with b := cats (xs.take (k + 1)) }) := by
  have q := added_ok (x := x) hd hfo (by rw [← take_snoc hx]; omega)
  rw [← take_snoc hx] at q
  exact q
 with_reducible refine wc 28 #[.pointer (some ⟨gd, 0, none⟩), .agg (x.cells).toArray] (wadd_any x z8 w.heap.size ee.size ((hO1 x (List.mem_of_getElem? hx)).below ee (Nat.le_refl _)) (by have := (rc_sound hfo).2.2.2.2.2; omega) (hT.below ee) w.heap.size gd bv rv d ee.size dk) ?_
 rintro e z9 ⟨bv1, rv1, rfl, dk_, mv_⟩
 refine ⟨_, rfl, ?_⟩
 rw [hadd] at dk_ ⊢
 have Zb4 := mvHeap mv_ dk Zb4 (by decide) (by decide)
 have Zs22 := mvHeap mv_ dk Zs22 (by decide) (by decide)
 have ee := ee.trans (mv_.fr.below (fun k_ h_ => Nat.le_trans (Nat.le_refl _) (dk.ft h_).1) ee.size)
 have hrx := rngMv hrx mv_ dk hbx
 clear dk mv_
 have dk := dk_
 clear dk_
 try simp only [nP, nN, nA, n0, nS]
 with_reducible refine wb (.bool false) (.int .i64 0) (.int .i64 0) 36 (run_neqI (show (decide (0 = 0)) = true from by decide)) ?_
 try simp only [nP, nN, nA, n0, nS]
 refine wpList_nil ?_
 refine hK38 _ _ ?_
 refine wp_cond_false (by kernel_rfl) ?_
 refine wp_skip ?_
 refine inBlock_normal ?_
 refine hK33 _ _ ?_
 refine wp_region_lit ?_
 with_reducible refine wv (.int .i64 ((k : Int))) ?_
 try simp only [nP, nN, nA, n0, nS]
 with_reducible refine wq (.int .i64 (((k + 1 : Nat) : Int))) (okIntP ((by rw [IntKind.wrap_i64]; omega) : IntKind.i64.wrap ((k : Int) + 1) = ((k + 1 : Nat) : Int)) (by kernel_rfl)) ?_
 try simp only [nP, nN, nA, n0, nS]
 with_reducible refine wv (.int .i64 (((k + 1 : Nat) : Int))) ?_
 try simp only [nP, nN, nA, n0, nS]
 refine wpList_nil ?_
 refine then_normal ?_
 have hd_ : DInv { d with b := cats (xs.take (k + 1)) } 1000000 (cats (xs.take (k + 1))) := T.DInv.bytes hd
 exact ⟨hkl, bv1, rv1, { d with b := cats (xs.take (k + 1)) }, by kernel_rfl, Zb4, Zs22, ee, dk, hd_, hg1⟩
theorem walTorn_walk (W : World) (hT : Tabs W) (v0 v1 v2 : Value) (h0 : Arg W 57 v0) (h1 : Arg W 65 v1) (h2 : Arg W 58 v2) :
  Calls Tryd.prog 7 #[v0, v1, v2] W fun e W' => e = .returned (.bool true) ∧ Below W.heap.size W W' := by
 obtain ⟨A, c, xs, rfl, a1, a2, a3, a4, _⟩ := h0.rcsn
 obtain ⟨y, rfl, oky⟩ := h1.rc
 obtain ⟨u, rfl, hu⟩ := h2.u16x Tryd.underlying58
 exact wtorn_any A c xs y u W hu a1 a2 a3 a4 oky hT
end Go.Proofs.YtjofjpmhokjhnaaDoor
