import Derived.Test.YthclniimhpmeoaaGreatDoorMrM23
set_option maxHeartbeats 12800000
set_option maxRecDepth 20001
set_option linter.unusedSimpArgs false
set_option linter.unusedVariables false
namespace Go.Proofs.YthclniimhpmeoaaGreatDoor
set_option maxRecDepth 20000
section
open Go.RowKit T
theorem SameC_iff (x y : Cm) : SameC x y = true ↔ x.k = y.k ∧ x.s = y.s ∧ x.q = y.q ∧ x.rs = y.rs ∧ x.ws = y.ws ∧ x.i = y.i ∧ x.j = y.j ∧ x.g = y.g ∧ x.st = y.st ∧ x.y = y.y := by
 unfold SameC;rw [decide_eq_true_eq];constructor
 ·rintro ⟨h1, ⟨h2, h3⟩, h4, h5, h6, h7, h8, h9, h10⟩; exact ⟨h1, h7, h8, h9, h10, h2, h3, h4, h5, h6⟩
 ·rintro ⟨h1, h7, h8, h9, h10, h2, h3, h4, h5, h6⟩; exact ⟨h1, ⟨h2, h3⟩, h4, h5, h6, h7, h8, h9, h10⟩
theorem SameC.symm {x y : Cm} (h : SameC x y = true) : SameC y x = true := by
 rw [SameC_iff] at h ⊢;obtain ⟨h1, h2, h3, h4, h5, h6, h7, h8, h9, h10⟩ := h;exact ⟨h1.symm, h2.symm, h3.symm, h4.symm, h5.symm, h6.symm, h7.symm, h8.symm, h9.symm, h10.symm⟩
theorem SameC.trans {x y z : Cm} (h : SameC x y = true) (g : SameC y z = true) : SameC x z = true := by
 rw [SameC_iff] at h g ⊢;obtain ⟨h1, h2, h3, h4, h5, h6, h7, h8, h9, h10⟩ := h;obtain ⟨g1, g2, g3, g4, g5, g6, g7, g8, g9, g10⟩ := g;exact ⟨h1.trans g1, h2.trans g2, h3.trans g3, h4.trans g4, h5.trans g5, h6.trans g6, h7.trans g7, h8.trans g8, h9.trans g9, h10.trans g10⟩
theorem SameC.formed {x y : Cm} (h : SameC x y = true) : x.formed = y.formed := by
 rw [SameC_iff] at h;obtain ⟨h1, h2, h3, h4, h5, h6, h7, h8, h9, h10⟩ := h;unfold Cm.formed;rw [h1, h2, h3, h4, h5, h6, h7, h8, h9, h10]
theorem SameC.put {x y : Cm} (h : SameC x y = true) (l : List UInt8) : cput l x = cput l y := by
 have hf := SameC.formed h;rw [SameC_iff] at h;obtain ⟨h1, h2, h3, h4, h5, h6, h7, h8, h9, h10⟩ := h;unfold cput;rw [hf, h1, h2, h3, h4, h5, h6, h7, h8, h9, h10]
namespace T
def Cm.of (k s q : Int) (rs : List Rd1) (ws : List Wr1) (i j g : Int) (st : Nat) (y : Bool) : Cm := ⟨k, s, q, rs, ws, none, 0, none, 0, i, j, g, st, y⟩
def ctake0 (s : C.St) : Cm × C.St :=
 let k := C.take 1 s
 if k.1 = 1 then let t := ttake k.2; (Cm.of 1 t.1.1.1 t.1.1.2 t.1.2.1 t.1.2.2 0 0 0 0 false, t.2)
 else if k.1 = 2 then let i := idtake k.2; let g := C.take 1 i.2; let st := C.take 8 g.2; (Cm.of 2 0 0 [] [] i.1.1 i.1.2 g.1 st.1 false, st.2)
 else if k.1 = 3 then let i := idtake k.2; let g := C.take 1 i.2; let y := C.take 1 g.2; (Cm.of 3 0 0 [] [] i.1.1 i.1.2 g.1 0 (decide (y.1 = 1)), bif decide (1 < y.1) then (y.2.1, true) else y.2)
 else (Cm.of k.1 0 0 [] [] 0 0 0 0 false, k.2)
def ctake (s : C.St) : Cm × C.St := bif (ctake0 s).2.2 || !(ctake0 s).1.formed then (Cm.zero, ((ctake0 s).2.1, true)) else ctake0 s
end T
def Fits (x : Cm) : Prop := (∀ r ∈ x.rs, okR r) ∧ ∀ r ∈ x.ws, okW r
theorem tput_app (l : List UInt8) (s q : Int) (rs : List Rd1) (ws : List Wr1) : tput l s q rs ws = l ++ tput [] s q rs ws := by
 unfold tput
 cases formed s q rs ws with
 | false => simp
 | true =>
   simp only [cond_true];rw [fold_app wput wput_app, fold_app wput wput_app ws (C.put _ ws.length 1), put1, put1, fold_app rput rput_app, fold_app rput rput_app rs (C.put _ rs.length 1), put1, put1, idput_app l];simp only [List.append_assoc, List.nil_append]
theorem cback0 (x : Cm) (r : List UInt8) (hf : x.formed = true) (hx : Fits x) : ∃ y, ctake0 (cput [] x ++ r, false) = (y, (r, false)) ∧ SameC y x = true := by
 unfold cput;rw [hf, cond_true];rcases cformed_k hf with hk | hk | hk | hk
 ·rw [if_neg (by omega), if_neg (by omega), if_neg (by omega)];refine ⟨Cm.of 0 0 0 [] [] 0 0 0 0 false, ?_, SameC.symm (cformed_0 hf hk)⟩;unfold ctake0;rw [show C.put [] 0 1 = C.be 0 1 from rfl, take1 0 (by omega)];rfl
 ·rw [if_pos hk];obtain ⟨h1, h2, h3, h4, h5, h6⟩ := cformed_1 hf hk;obtain ⟨a, b, ha, hb, _⟩ := idb_nat (formed_few h1).1;refine ⟨Cm.of 1 x.s x.q x.rs x.ws 0 0 0 0 false, ?_, (SameC_iff _ _).2 ⟨hk.symm, rfl, rfl, rfl, rfl, h2.symm, h3.symm, h4.symm, h5.symm, h6.symm⟩⟩;rw [ha, hb] at h1 ⊢;have := tback a b x.rs x.ws r h1 hx.1 hx.2;unfold ctake0;rw [tput_app, put1, List.nil_append, List.append_assoc, take1 1 (by omega)];simp only [if_pos, this]
 ·rw [if_neg (by omega), if_pos hk];obtain ⟨⟨g1, g2, g3, g4, g5⟩, h1, h2, h3, h4, h5⟩ := cformed_2 hf hk;obtain ⟨a, b, ha, hb, _⟩ := idb_nat h1;obtain ⟨g, hg⟩ : ∃ g : Nat, x.g = (g : Int) := ⟨x.g.toNat, by omega⟩;refine ⟨Cm.of 2 0 0 [] [] x.i x.j x.g x.st false, ?_, (SameC_iff _ _).2 ⟨hk.symm, g1.symm, g2.symm, g3.symm, g4.symm, rfl, rfl, rfl, rfl, g5.symm⟩⟩;rw [ha, hb] at h1 ⊢;rw [hg];unfold ctake0;rw [idput_app, put8, put1, put1, List.nil_append, Int.toNat_natCast];simp only [List.append_assoc, take1 2 (by omega), idback a b h1, take1 g (by omega), take8 x.st (by omega)];rfl
 ·rw [if_neg (by omega), if_neg (by omega), if_pos hk];obtain ⟨⟨g1, g2, g3, g4, g5⟩, h1, h2, h3⟩ := cformed_3 hf hk;obtain ⟨a, b, ha, hb, _⟩ := idb_nat h1;obtain ⟨g, hg⟩ : ∃ g : Nat, x.g = (g : Int) := ⟨x.g.toNat, by omega⟩;refine ⟨Cm.of 3 0 0 [] [] x.i x.j x.g 0 x.y, ?_, (SameC_iff _ _).2 ⟨hk.symm, g1.symm, g2.symm, g3.symm, g4.symm, rfl, rfl, rfl, g5.symm, rfl⟩⟩;rw [ha, hb] at h1 ⊢;rw [hg];unfold ctake0;rw [idput_app, put1, put1, put1, List.nil_append, Int.toNat_natCast]
  cases hy : x.y with
  | false =>
    simp only [List.append_assoc, take1 3 (by omega), idback a b h1, take1 g (by omega), Bool.false_eq_true, if_false, take1 0 (by omega)];rfl
  | true =>
    simp only [List.append_assoc, take1 3 (by omega), idback a b h1, take1 g (by omega), if_true, take1 1 (by omega)];rfl
theorem cback (x : Cm) (r : List UInt8) (hf : x.formed = true) (hx : Fits x) : ∃ y, ctake (cput [] x ++ r, false) = (y, (r, false)) ∧ SameC y x = true := by
 obtain ⟨y, h1, h2⟩ := cback0 x r hf hx;refine ⟨y, ?_, h2⟩;unfold ctake;rw [h1];simp only;rw [SameC.formed h2, hf];rfl
theorem CmOk.fits {w : World} {B : Nat} {x : Cm} (h : CmOk w B x) : Fits x := ⟨h.ro, h.wo⟩
end
section
open Go.RowKit T
theorem setCells_size {k : Nat} : ∀ (vs : List Value) (i : Nat) (w : World), (w.setCells k i vs).heap.size = w.heap.size
 | [], _, _ => rfl
 | v :: r, i, w => by
   show ((w.setCell ⟨k, i, none⟩ v).setCells k (i + 1) r).heap.size = _;rw [setCells_size r]; simp [World.setCell]
theorem setCells_heap {k j : Nat} (h : j ≠ k) : ∀ (vs : List Value) (i : Nat) (w : World), (w.setCells k i vs).heap[j]? = w.heap[j]?
 | [], _, _ => rfl
 | v :: r, i, w => (setCells_heap h r (i + 1) (w.setCell ⟨k, i, none⟩ v)).trans (Below.heap_setCell w ⟨k, i, none⟩ v j h)
theorem takec_fresh (B g : Nat) (w : World) (s : C.St) (h : RdrAt w B g s) (hT : TabsAt B w) :
 Calls Tryz.prog 41 #[.pointer (some ⟨g, 0, none⟩)] w fun e w' => (∃ y : Cm, e = .returned (.agg y.cells.toArray) ∧ SameC y (ctake s).1 = true ∧ ∀ z : World, (∀ i, w.heap.size ≤ i → i < w'.heap.size → z.heap[i]? = w'.heap[i]?) → CmOk z z.heap.size y) ∧ RdrAt w' B g (ctake s).2 ∧ w.grownBy w' (some g) := by
 obtain ⟨R, hR⟩ : ∃ R, R = ctake s := ⟨_, rfl⟩
 have HU : Hid (R = bif (ctake0 s).2.2 || !(ctake0 s).1.formed then (Cm.zero, ((ctake0 s).2.1, true)) else ctake0 s) := by
  show _ = _;rw [hR]; rfl
 rw [← hR];clear hR;have hx := take_bound 1 s (by omega);have T1 := Lib.hid (fun z (hz : RdrAt z B g s) => take_any B g 1 s z hz)
 have HC0 : Hid (ctake0 s = (if (C.take 1 s).1 = 1 then (Cm.of 1 (ttake (C.take 1 s).2).1.1.1 (ttake (C.take 1 s).2).1.1.2 (ttake (C.take 1 s).2).1.2.1 (ttake (C.take 1 s).2).1.2.2 0 0 0 0 false, (ttake (C.take 1 s).2).2)
  else if (C.take 1 s).1 = 2 then (Cm.of 2 0 0 [] [] (idtake (C.take 1 s).2).1.1 (idtake (C.take 1 s).2).1.2 (C.take 1 (idtake (C.take 1 s).2).2).1 (C.take 8 (C.take 1 (idtake (C.take 1 s).2).2).2).1 false, (C.take 8 (C.take 1 (idtake (C.take 1 s).2).2).2).2)
  else if (C.take 1 s).1 = 3 then (Cm.of 3 0 0 [] [] (idtake (C.take 1 s).2).1.1 (idtake (C.take 1 s).2).1.2 (C.take 1 (idtake (C.take 1 s).2).2).1 0 (decide ((C.take 1 (C.take 1 (idtake (C.take 1 s).2).2).2).1 = 1)), bif decide (1 < (C.take 1 (C.take 1 (idtake (C.take 1 s).2).2).2).1) then ((C.take 1 (C.take 1 (idtake (C.take 1 s).2).2).2).2.1, true) else (C.take 1 (C.take 1 (idtake (C.take 1 s).2).2).2).2)
  else (Cm.of (C.take 1 s).1 0 0 [] [] 0 0 0 0 false, (C.take 1 s).2))) := rfl
 generalize C.take 1 s = r1 at hx HC0 T1;obtain ⟨x, s1⟩ := r1;simp only at hx HC0 T1;have hx := show x < 256 from hx;have kx : IntKind.i64.wrap (x : Int) = (x : Int) := wrapI (by omega);generalize ctake0 s = c0 at HU HC0;have tt := hT;clear hT;have tt := TabsAt.alloc tt (.cells #[.int .i64 0, .int .i64 0, .int .i64 0, .slice none 0 0, .slice none 0 0, .int .i64 0, .int .i64 0, .int .i64 0, .int .u64 0, .bool false] 33);have hg : g < w.heap.size := h.lt.1;have hBg : B ≤ g := h.lt.2;have ee : w.grownBy w (some g) := ⟨rfl, rfl, rfl, Nat.le_refl _, fun _ _ _ => rfl⟩;have rr := h;clear h;have ee := grownAllocR ee (.cells #[.int .i64 0, .int .i64 0, .int .i64 0, .slice none 0 0, .slice none 0 0, .int .i64 0, .int .i64 0, .int .i64 0, .int .u64 0, .bool false] 33);have rr := RdrAt.alloc rr (.cells #[.int .i64 0, .int .i64 0, .int .i64 0, .slice none 0 0, .slice none 0 0, .int .i64 0, .int .i64 0, .int .i64 0, .int .u64 0, .bool false] 33);have Zr := hpN w (.cells #[.int .i64 0, .int .i64 0, .int .i64 0, .slice none 0 0, .slice none 0 0, .int .i64 0, .int .i64 0, .int .i64 0, .int .u64 0, .bool false] 33) rfl
 go_enter Tryz.func41, Tryz.ntmps41
 go_upto_region 1 with fail
 generalize w.alloc (.cells #[.int .i64 0, .int .i64 0, .int .i64 0, .slice none 0 0, .slice none 0 0, .int .i64 0, .int .i64 0, .int .i64 0, .int .u64 0, .bool false] 33) = w0 at Zr ee rr tt ⊢
 skip
 refine wp_region_lit ?_
 go_wp2_with fail
 refine (T1.out w0 rr).mono ?_;rintro e z1 ⟨rfl, rr, t⟩;have Zr := heapG Zr t (by omega);have tt := TabsAt.grown tt t hBg;have ee := grownTrans ee t;clear t;clear T1
 dsimp only
 rename_i hK
 refine hK _ _ ?_;clear hK;(iterate 9 go_step);have lZr := (Array.getElem?_eq_some_iff.1 Zr).1;have sz1 := ee.size;have Zr := hpA Zr (.cells #[.int .i64 0, .int .i64 0, .int .i64 0, .slice none 0 0, .slice none 0 0, .int .i64 0, .int .i64 0, .int .i64 0, .int .u64 0, .bool false] 33);have ee := grownAllocR ee (.cells #[.int .i64 0, .int .i64 0, .int .i64 0, .slice none 0 0, .slice none 0 0, .int .i64 0, .int .i64 0, .int .i64 0, .int .u64 0, .bool false] 33);have rr := RdrAt.alloc rr (.cells #[.int .i64 0, .int .i64 0, .int .i64 0, .slice none 0 0, .slice none 0 0, .int .i64 0, .int .i64 0, .int .i64 0, .int .u64 0, .bool false] 33);have tt := TabsAt.alloc tt (.cells #[.int .i64 0, .int .i64 0, .int .i64 0, .slice none 0 0, .slice none 0 0, .int .i64 0, .int .i64 0, .int .i64 0, .int .u64 0, .bool false] 33);have Zt := hpN z1 (.cells #[.int .i64 0, .int .i64 0, .int .i64 0, .slice none 0 0, .slice none 0 0, .int .i64 0, .int .i64 0, .int .i64 0, .int .u64 0, .bool false] 33) rfl;generalize z1.alloc (.cells #[.int .i64 0, .int .i64 0, .int .i64 0, .slice none 0 0, .slice none 0 0, .int .i64 0, .int .i64 0, .int .i64 0, .int .u64 0, .bool false] 33) = z2 at Zr Zt tt ee rr ⊢
 iterate 27 (first | with_reducible refine isStore (ty := 33) rfl ?_ | go_step)
 refine wpList_store_row rfl 33 _ _ rfl (z1.heap.size) ((T.Cm.of (x : Int) 0 0 [] [] 0 0 0 0 false).cells).toArray rfl rfl 33 _ Zt sizeCm (by rfl) (Cm.one _) ?_;have N_ := setRow_heap z2 (z1.heap.size) _ ((T.Cm.of (x : Int) 0 0 [] [] 0 0 0 0 false).cells).toArray _ _ Zt;have ee := grownRowNew (cs := ((T.Cm.of (x : Int) 0 0 [] [] 0 0 0 0 false).cells).toArray) ee (show w.heap.size ≤ z1.heap.size by omega) Zt;have rr := RdrAt.row (cs := ((T.Cm.of (x : Int) 0 0 [] [] 0 0 0 0 false).cells).toArray) rr (show z1.heap.size ≠ g by omega) (by omega);have Zr := hpR Zr (g' := z1.heap.size) (by omega) ((T.Cm.of (x : Int) 0 0 [] [] 0 0 0 0 false).cells).toArray;have tt := TabsAt.row (cs := ((T.Cm.of (x : Int) 0 0 [] [] 0 0 0 0 false).cells).toArray) tt (show B ≤ z1.heap.size by omega);clear Zt;have Zt := N_;clear N_;generalize z2.setRow (z1.heap.size) ((T.Cm.of (x : Int) 0 0 [] [] 0 0 0 0 false).cells).toArray = z3 at Zr Zt tt ee rr ⊢;obtain ⟨gt, hgt⟩ : ∃ g_, g_ = z1.heap.size := ⟨_, rfl⟩;(have lgt : w.heap.size < gt := by rw [hgt]; exact lZr);rw [← hgt] at Zt ⊢;clear hgt kx;have x0 := rowCell Zt 0 (v := .int .i64 (x : Int)) rfl;(iterate 4 go_step);simp only [Act.put, List.setIfInBounds_toArray, List.set_cons_zero, List.set_cons_succ]
 go_cut [4] (fun u4 wx => ∃ y : Cm, SameC y c0.1 = true ∧ Hid (∀ z : World, (∀ i, gt < i → i < wx.heap.size → z.heap[i]? = wx.heap[i]?) → CmOk z z.heap.size y) ∧ Hid (wx.heap[gt]? = some (.cells y.cells.toArray 33)) ∧ Hid (wx.heap[w.heap.size]? = some (.cells #[.int .i64 0, .int .i64 0, .int .i64 0, .slice none 0 0, .slice none 0 0, .int .i64 0, .int .i64 0, .int .i64 0, .int .u64 0, .bool false] 33)) ∧ RdrAt wx B g c0.2 ∧ TabsAt B wx ∧ w.grownBy wx (some g))
 case first =>
  have HC := HC0;clear HC0
  by_cases h1 : x = 1
  ·subst h1;have HC2 : Hid (c0 = (Cm.of 1 (ttake s1).1.1.1 (ttake s1).1.1.2 (ttake s1).1.2.1 (ttake s1).1.2.2 0 0 0 0 false, (ttake s1).2)) := HC.out;clear HC;have T2 := Lib.hid (fun z (hz : RdrAt z B g s1) (hq : TabsAt B z) => ttake_any B g z s1 hz hq);generalize ttake s1 = tr at HC2 T2;obtain ⟨⟨⟨ts, tq⟩, trs, tws⟩, t2⟩ := tr;simp only at HC2 T2
   go_upto_region 4 with fail
   clear x0;refine wp_region_lit ?_;have lgz := (Array.getElem?_eq_some_iff.1 Zt).1
   go_wp2_with fail
   refine (T2.out z3 rr tt).mono ?_;rintro e z4 ⟨⟨A1, c1, A2, c2, rfl, okt⟩, rr, t⟩;have Zr := heapG Zr t (by omega);have Zt := heapG Zt t (by omega);have tt := TabsAt.grown tt t hBg;have ee := grownTrans ee t;clear t
   dsimp only
   rename_i hK
   refine hK _ _ ?_;clear hK;have okt : Hid (∀ z : World, (∀ i, gt < i → i < z4.heap.size → z.heap[i]? = z4.heap[i]?) → TxOk z z.heap.size trs tws A1 c1 A2 c2) := fun z hz => okt z (fun i h1 h2 => hz i (by omega) h2);clear T2 lgz
   iterate 27 (first | with_reducible refine isStore (ty := 30) rfl ?_ | go_step)
   refine wpList_store_mid rfl 30 _ _ rfl (gt) 1 ([.int .i64 (ts : Int), .int .i64 (tq : Int), .slice A1 trs.length c1, .slice A2 tws.length c2]).toArray rfl rfl (rowThere Zt (by simp [T.Cm.cells])) sizeTx (by simp [Value.oneCell']) ?_;have N_ : (z4.setCells (gt) 1 ([.int .i64 (ts : Int), .int .i64 (tq : Int), .slice A1 trs.length c1, .slice A2 tws.length c2])).heap[gt]? = some (.cells (T.Cm.cells (T.Cm.mk 1 (ts : Int) (tq : Int) trs tws A1 c1 A2 c2 0 0 0 0 false)).toArray 33) := hpC ([.int .i64 (ts : Int), .int .i64 (tq : Int), .slice A1 trs.length c1, .slice A2 tws.length c2]) 1 _ z4 Zt;have Zr := hpCo (g' := gt) (by omega) ([.int .i64 (ts : Int), .int .i64 (tq : Int), .slice A1 trs.length c1, .slice A2 tws.length c2]) 1 z4 Zr;have tt := TabsAt.setN (show B ≤ gt by omega) ([.int .i64 (ts : Int), .int .i64 (tq : Int), .slice A1 trs.length c1, .slice A2 tws.length c2]) 1 z4 tt;have ee := grownSetN (show w.heap.size ≤ gt by omega) ([.int .i64 (ts : Int), .int .i64 (tq : Int), .slice A1 trs.length c1, .slice A2 tws.length c2]) 1 z4 ee;have rr := RdrAt.setN (show gt ≠ g by omega) (show B ≤ gt by omega) ([.int .i64 (ts : Int), .int .i64 (tq : Int), .slice A1 trs.length c1, .slice A2 tws.length c2]) 1 z4 rr;clear Zt;have Zt := N_;clear N_;have okt : Hid (∀ z : World, (∀ i, gt < i → i < (z4.setCells (gt) 1 ([.int .i64 (ts : Int), .int .i64 (tq : Int), .slice A1 trs.length c1, .slice A2 tws.length c2])).heap.size → z.heap[i]? = (z4.setCells (gt) 1 ([.int .i64 (ts : Int), .int .i64 (tq : Int), .slice A1 trs.length c1, .slice A2 tws.length c2])).heap[i]?) → TxOk z z.heap.size trs tws A1 c1 A2 c2) := fun z hz => okt.out z (fun i h1 h2 => (hz i h1 (by rw [setCells_size]; exact h2)).trans (setCells_heap (by omega) _ _ _));change wpList _ _ _ _ _ (z4.setCells (gt) 1 ([.int .i64 (ts : Int), .int .i64 (tq : Int), .slice A1 trs.length c1, .slice A2 tws.length c2]));generalize z4.setCells (gt) 1 ([.int .i64 (ts : Int), .int .i64 (tq : Int), .slice A1 trs.length c1, .slice A2 tws.length c2]) = z5 at Zr Zt okt tt ee rr ⊢;(have HR1 : c0.2 = t2 := by rw [HC2.out]);(have rr : RdrAt z5 B g c0.2 := by rw [HR1]; exact rr)
   go_wp2_with fail
   go_meet
   exact ⟨(T.Cm.mk 1 (ts : Int) (tq : Int) trs tws A1 c1 A2 c2 0 0 0 0 false), by rw [HC2.out]; exact (SameC_iff _ _).2 ⟨rfl, rfl, rfl, rfl, rfl, rfl, rfl, rfl, rfl, rfl⟩, okt, Zt, Zr, rr, tt, ee⟩
  ·have f1 : ((x : Int) == 1) = false := by rw [beq_eq_false_iff_ne]; omega
   by_cases h2 : x = 2
   ·subst h2;have HC2 : Hid (c0 = (Cm.of 2 0 0 [] [] (idtake s1).1.1 (idtake s1).1.2 (C.take 1 (idtake s1).2).1 (C.take 8 (C.take 1 (idtake s1).2).2).1 false, (C.take 8 (C.take 1 (idtake s1).2).2).2)) := HC.out;clear HC f1 h1;have b1 := take_bound 1 (idtake s1).2 (by omega);have T2 := Lib.hid (fun z (hz : RdrAt z B g s1) => takeid_any B g z s1 hz);generalize idtake s1 = tr at HC2 T2 b1;obtain ⟨⟨ti, tj⟩, t2⟩ := tr;simp only at HC2 T2 b1;have T3 := Lib.hid (fun z (hz : RdrAt z B g t2) => take_any B g 1 t2 z hz);generalize C.take 1 t2 = tr at HC2 T3 b1;obtain ⟨tg, t3⟩ := tr;simp only at HC2 T3 b1;have b1 := show tg < 256 from b1;have kg : IntKind.i64.wrap (tg : Int) = (tg : Int) := wrapI (by omega);have T4 := Lib.hid (fun z (hz : RdrAt z B g t3) => take_any B g 8 t3 z hz);generalize C.take 8 t3 = tr at HC2 T4;obtain ⟨ts, t4⟩ := tr;simp only at HC2 T4
    go_upto_region 6 with fail
    clear x0;refine wp_region_lit ?_
    go_wp2_with fail
    refine (T2.out z3 rr).mono ?_;rintro e z4 ⟨rfl, rr, t⟩;have Zr := heapG Zr t (by omega);have Zt := heapG Zt t (by omega);have tt := TabsAt.grown tt t hBg;have ee := grownTrans ee t;clear t
    go_wp2_with fail
    refine (T3.out z4 rr).mono ?_;rintro e z5 ⟨rfl, rr, t⟩;have Zr := heapG Zr t (by omega);have Zt := heapG Zt t (by omega);have tt := TabsAt.grown tt t hBg;have ee := grownTrans ee t;clear t
    go_wp2_with fail
    refine (T4.out z5 rr).mono ?_;rintro e z6 ⟨rfl, rr, t⟩;have Zr := heapG Zr t (by omega);have Zt := heapG Zt t (by omega);have tt := TabsAt.grown tt t hBg;have ee := grownTrans ee t;clear t
    dsimp only
    rename_i hK
    refine hK _ _ ?_;clear hK;clear T2 T3 T4 kg
    iterate 27 (first | with_reducible refine isStore (ty := 26) rfl ?_ | go_step)
    refine wpList_store_mid rfl 26 _ _ rfl (gt) 5 ([.int .i64 (ti : Int), .int .i64 (tj : Int)]).toArray rfl rfl (rowThere Zt (by simp [T.Cm.cells])) sizeId (by simp [Value.oneCell']) ?_;have N_ : (z6.setCells (gt) 5 ([.int .i64 (ti : Int), .int .i64 (tj : Int)])).heap[gt]? = some (.cells (T.Cm.cells (T.Cm.of 2 0 0 [] [] (ti : Int) (tj : Int) 0 0 false)).toArray 33) := hpC ([.int .i64 (ti : Int), .int .i64 (tj : Int)]) 5 _ z6 Zt;have Zr := hpCo (g' := gt) (by omega) ([.int .i64 (ti : Int), .int .i64 (tj : Int)]) 5 z6 Zr;have tt := TabsAt.setN (show B ≤ gt by omega) ([.int .i64 (ti : Int), .int .i64 (tj : Int)]) 5 z6 tt;have ee := grownSetN (show w.heap.size ≤ gt by omega) ([.int .i64 (ti : Int), .int .i64 (tj : Int)]) 5 z6 ee;have rr := RdrAt.setN (show gt ≠ g by omega) (show B ≤ gt by omega) ([.int .i64 (ti : Int), .int .i64 (tj : Int)]) 5 z6 rr;clear Zt;have Zt := N_;clear N_;change wpList _ _ _ _ _ (z6.setCells (gt) 5 ([.int .i64 (ti : Int), .int .i64 (tj : Int)]));generalize z6.setCells (gt) 5 ([.int .i64 (ti : Int), .int .i64 (tj : Int)]) = z7 at Zr Zt tt ee rr ⊢
    iterate 27 (first | with_reducible refine isStore (ty := 3) rfl ?_ | go_step)
    have f_ : z7.frozen? ⟨gt, 7, none⟩ = false := freeAt Zt 7;have c_ := rowCell Zt 7 rfl;(iterate 3 go_step);clear f_ c_;have N_ : (z7.setCells (gt) 7 ([.int .i64 (tg : Int)])).heap[gt]? = some (.cells (T.Cm.cells (T.Cm.of 2 0 0 [] [] (ti : Int) (tj : Int) (tg : Int) 0 false)).toArray 33) := hpC ([.int .i64 (tg : Int)]) 7 _ z7 Zt;have Zr := hpCo (g' := gt) (by omega) ([.int .i64 (tg : Int)]) 7 z7 Zr;have tt := TabsAt.setN (show B ≤ gt by omega) ([.int .i64 (tg : Int)]) 7 z7 tt;have ee := grownSetN (show w.heap.size ≤ gt by omega) ([.int .i64 (tg : Int)]) 7 z7 ee;have rr := RdrAt.setN (show gt ≠ g by omega) (show B ≤ gt by omega) ([.int .i64 (tg : Int)]) 7 z7 rr;clear Zt;have Zt := N_;clear N_;change wpList _ _ _ _ _ (z7.setCells (gt) 7 [.int .i64 (tg : Int)]);generalize z7.setCells (gt) 7 [.int .i64 (tg : Int)] = z8 at Zr Zt tt ee rr ⊢
    iterate 27 (first | with_reducible refine isStore (ty := 31) rfl ?_ | go_step)
    have f_ : z8.frozen? ⟨gt, 8, none⟩ = false := freeAt Zt 8;have c_ := rowCell Zt 8 rfl;(iterate 3 go_step);clear f_ c_;have N_ : (z8.setCells (gt) 8 ([.int .u64 (ts : Int)])).heap[gt]? = some (.cells (T.Cm.cells (T.Cm.of 2 0 0 [] [] (ti : Int) (tj : Int) (tg : Int) ts false)).toArray 33) := hpC ([.int .u64 (ts : Int)]) 8 _ z8 Zt;have Zr := hpCo (g' := gt) (by omega) ([.int .u64 (ts : Int)]) 8 z8 Zr;have tt := TabsAt.setN (show B ≤ gt by omega) ([.int .u64 (ts : Int)]) 8 z8 tt;have ee := grownSetN (show w.heap.size ≤ gt by omega) ([.int .u64 (ts : Int)]) 8 z8 ee;have rr := RdrAt.setN (show gt ≠ g by omega) (show B ≤ gt by omega) ([.int .u64 (ts : Int)]) 8 z8 rr;clear Zt;have Zt := N_;clear N_;change wpList _ _ _ _ _ (z8.setCells (gt) 8 [.int .u64 (ts : Int)]);generalize z8.setCells (gt) 8 [.int .u64 (ts : Int)] = z9 at Zr Zt tt ee rr ⊢;(have HR1 : c0.2 = t4 := by rw [HC2.out]);(have rr : RdrAt z9 B g c0.2 := by rw [HR1]; exact rr)
    go_wp2_with fail
    go_meet
    exact ⟨T.Cm.of 2 0 0 [] [] (ti : Int) (tj : Int) (tg : Int) ts false, by rw [HC2.out]; exact SameC.refl _, (fun z hz => CmOk.zero), Zt, Zr, rr, tt, ee⟩
   ·have f2 : ((x : Int) == 2) = false := by rw [beq_eq_false_iff_ne]; omega
    by_cases h3 : x = 3
    ·subst h3;have HC2 : Hid (c0 = (Cm.of 3 0 0 [] [] (idtake s1).1.1 (idtake s1).1.2 (C.take 1 (idtake s1).2).1 0 (decide ((C.take 1 (C.take 1 (idtake s1).2).2).1 = 1)), bif decide (1 < (C.take 1 (C.take 1 (idtake s1).2).2).1) then ((C.take 1 (C.take 1 (idtake s1).2).2).2.1, true) else (C.take 1 (C.take 1 (idtake s1).2).2).2)) := HC.out;clear HC f1 f2 h1 h2;have b1 := take_bound 1 (idtake s1).2 (by omega);have T2 := Lib.hid (fun z (hz : RdrAt z B g s1) => takeid_any B g z s1 hz);generalize idtake s1 = tr at HC2 T2 b1;obtain ⟨⟨ti, tj⟩, t2⟩ := tr;simp only at HC2 T2 b1;have T3 := Lib.hid (fun z (hz : RdrAt z B g t2) => take_any B g 1 t2 z hz);generalize C.take 1 t2 = tr at HC2 T3 b1;obtain ⟨tg, t3⟩ := tr;simp only at HC2 T3 b1;have b1 := show tg < 256 from b1;have kg : IntKind.i64.wrap (tg : Int) = (tg : Int) := wrapI (by omega);have T4 := Lib.hid (fun z (hz : RdrAt z B g t3) => take_any B g 1 t3 z hz);generalize C.take 1 t3 = tr at HC2 T4;obtain ⟨ty, ls, tf⟩ := tr;simp only at HC2 T4
     go_upto_region 8 with fail
     clear x0;refine wp_region_lit ?_
     go_wp2_with fail
     refine (T2.out z3 rr).mono ?_;rintro e z4 ⟨rfl, rr, t⟩;have Zr := heapG Zr t (by omega);have Zt := heapG Zt t (by omega);have tt := TabsAt.grown tt t hBg;have ee := grownTrans ee t;clear t
     go_wp2_with fail
     refine (T3.out z4 rr).mono ?_;rintro e z5 ⟨rfl, rr, t⟩;have Zr := heapG Zr t (by omega);have Zt := heapG Zt t (by omega);have tt := TabsAt.grown tt t hBg;have ee := grownTrans ee t;clear t
     dsimp only
     rename_i hK
     refine hK _ _ ?_;clear hK;clear T2 T3
     iterate 27 (first | with_reducible refine isStore (ty := 26) rfl ?_ | go_step)
     refine wpList_store_mid rfl 26 _ _ rfl (gt) 5 ([.int .i64 (ti : Int), .int .i64 (tj : Int)]).toArray rfl rfl (rowThere Zt (by simp [T.Cm.cells])) sizeId (by simp [Value.oneCell']) ?_;have N_ : (z5.setCells (gt) 5 ([.int .i64 (ti : Int), .int .i64 (tj : Int)])).heap[gt]? = some (.cells (T.Cm.cells (T.Cm.of 3 0 0 [] [] (ti : Int) (tj : Int) 0 0 false)).toArray 33) := hpC ([.int .i64 (ti : Int), .int .i64 (tj : Int)]) 5 _ z5 Zt;have Zr := hpCo (g' := gt) (by omega) ([.int .i64 (ti : Int), .int .i64 (tj : Int)]) 5 z5 Zr;have tt := TabsAt.setN (show B ≤ gt by omega) ([.int .i64 (ti : Int), .int .i64 (tj : Int)]) 5 z5 tt;have ee := grownSetN (show w.heap.size ≤ gt by omega) ([.int .i64 (ti : Int), .int .i64 (tj : Int)]) 5 z5 ee;have rr := RdrAt.setN (show gt ≠ g by omega) (show B ≤ gt by omega) ([.int .i64 (ti : Int), .int .i64 (tj : Int)]) 5 z5 rr;clear Zt;have Zt := N_;clear N_;change wpList _ _ _ _ _ (z5.setCells (gt) 5 ([.int .i64 (ti : Int), .int .i64 (tj : Int)]));generalize z5.setCells (gt) 5 ([.int .i64 (ti : Int), .int .i64 (tj : Int)]) = z6 at Zr Zt tt ee rr ⊢
     iterate 27 (first | with_reducible refine isStore (ty := 3) rfl ?_ | go_step)
     have f_ : z6.frozen? ⟨gt, 7, none⟩ = false := freeAt Zt 7;have c_ := rowCell Zt 7 rfl;(iterate 3 go_step);clear f_ c_;have N_ : (z6.setCells (gt) 7 ([.int .i64 (tg : Int)])).heap[gt]? = some (.cells (T.Cm.cells (T.Cm.of 3 0 0 [] [] (ti : Int) (tj : Int) (tg : Int) 0 false)).toArray 33) := hpC ([.int .i64 (tg : Int)]) 7 _ z6 Zt;have Zr := hpCo (g' := gt) (by omega) ([.int .i64 (tg : Int)]) 7 z6 Zr;have tt := TabsAt.setN (show B ≤ gt by omega) ([.int .i64 (tg : Int)]) 7 z6 tt;have ee := grownSetN (show w.heap.size ≤ gt by omega) ([.int .i64 (tg : Int)]) 7 z6 ee;have rr := RdrAt.setN (show gt ≠ g by omega) (show B ≤ gt by omega) ([.int .i64 (tg : Int)]) 7 z6 rr;clear Zt;have Zt := N_;clear N_;change wpList _ _ _ _ _ (z6.setCells (gt) 7 [.int .i64 (tg : Int)]);generalize z6.setCells (gt) 7 [.int .i64 (tg : Int)] = z7 at Zr Zt tt ee rr ⊢
     go_wp2_with fail
     refine (T4.out z7 rr).mono ?_;rintro e z8 ⟨rfl, rr, t⟩;have Zr := heapG Zr t (by omega);have Zt := heapG Zt t (by omega);have tt := TabsAt.grown tt t hBg;have ee := grownTrans ee t;clear t;clear T4 kg
     go_upto_region 10 with fail
     by_cases hy : ty = 1
     ·subst hy;have g1 : ((1 : Int) == 1) = true := rfl;have g2 : decide ((1 : Int) < (1 : Int)) = false := rfl;refine wp_region_lit ?_
      iterate 27 (first | with_reducible refine isStore (ty := 4) rfl ?_ | go_step)
      have f_ : z8.frozen? ⟨gt, 9, none⟩ = false := freeAt Zt 9;have c_ := rowCell Zt 9 rfl;(iterate 3 go_step);clear f_ c_;have N_ : (z8.setCells (gt) 9 ([.bool true])).heap[gt]? = some (.cells (T.Cm.cells (T.Cm.of 3 0 0 [] [] (ti : Int) (tj : Int) (tg : Int) 0 true)).toArray 33) := hpC ([.bool true]) 9 _ z8 Zt;have Zr := hpCo (g' := gt) (by omega) ([.bool true]) 9 z8 Zr;have tt := TabsAt.setN (show B ≤ gt by omega) ([.bool true]) 9 z8 tt;have ee := grownSetN (show w.heap.size ≤ gt by omega) ([.bool true]) 9 z8 ee;have rr := RdrAt.setN (show gt ≠ g by omega) (show B ≤ gt by omega) ([.bool true]) 9 z8 rr;clear Zt;have Zt := N_;clear N_;change wpList _ _ _ _ _ (z8.setCells (gt) 9 [.bool true]);generalize z8.setCells (gt) 9 [.bool true] = z9 at Zr Zt tt ee rr ⊢;(have HR1 : c0.2 = (ls, tf) := by rw [HC2.out]; rfl);(have rr : RdrAt z9 B g c0.2 := by rw [HR1]; exact rr)
      go_wp2_with fail
      go_meet
      exact ⟨T.Cm.of 3 0 0 [] [] (ti : Int) (tj : Int) (tg : Int) 0 true, by rw [HC2.out]; exact SameC.refl _, (fun z hz => CmOk.zero), Zt, Zr, rr, tt, ee⟩
     ·(have g1 : ((ty : Int) == 1) = false := by rw [beq_eq_false_iff_ne]; omega);refine wp_region_lit ?_
      iterate 27 (first | with_reducible refine isStore (ty := 4) rfl ?_ | go_step)
      have f_ : z8.frozen? ⟨gt, 9, none⟩ = false := freeAt Zt 9;have c_ := rowCell Zt 9 rfl;(iterate 3 go_step);clear f_ c_;have N_ : (z8.setCells (gt) 9 ([.bool false])).heap[gt]? = some (.cells (T.Cm.cells (T.Cm.of 3 0 0 [] [] (ti : Int) (tj : Int) (tg : Int) 0 false)).toArray 33) := hpC ([.bool false]) 9 _ z8 Zt;have Zr := hpCo (g' := gt) (by omega) ([.bool false]) 9 z8 Zr;have tt := TabsAt.setN (show B ≤ gt by omega) ([.bool false]) 9 z8 tt;have ee := grownSetN (show w.heap.size ≤ gt by omega) ([.bool false]) 9 z8 ee;have rr := RdrAt.setN (show gt ≠ g by omega) (show B ≤ gt by omega) ([.bool false]) 9 z8 rr;clear Zt;have Zt := N_;clear N_;change wpList _ _ _ _ _ (z8.setCells (gt) 9 [.bool false]);generalize z8.setCells (gt) 9 [.bool false] = z9 at Zr Zt tt ee rr ⊢
      by_cases hy1 : 1 < ty
      ·have g2 : decide ((1 : Int) < (ty : Int)) = true := by simp; omega
       go_wp2_with fail
       refine (take_any B g 9 (ls, tf) z9 rr).mono ?_;rintro e z10 ⟨rfl, rr, t⟩;have Zr := heapG Zr t (by omega);have Zt := heapG Zt t (by omega);have tt := TabsAt.grown tt t hBg;have ee := grownTrans ee t;clear t;rw [take9] at rr;(have HR1 : c0.2 = (ls, true) := by rw [HC2.out]; simp [hy1]);(have rr : RdrAt z10 B g c0.2 := by rw [HR1]; exact rr)
       go_wp2_with fail
       go_meet
       exact ⟨T.Cm.of 3 0 0 [] [] (ti : Int) (tj : Int) (tg : Int) 0 false, by rw [HC2.out]; exact (SameC_iff _ _).2 ⟨rfl, rfl, rfl, rfl, rfl, rfl, rfl, rfl, rfl, (decide_eq_false hy).symm⟩, (fun z hz => CmOk.zero), Zt, Zr, rr, tt, ee⟩
      ·(have g2 : decide ((1 : Int) < (ty : Int)) = false := by simp; omega);(have HR1 : c0.2 = (ls, tf) := by rw [HC2.out]; simp [hy1]);(have rr : RdrAt z9 B g c0.2 := by rw [HR1]; exact rr)
       go_wp2_with fail
       go_meet
       exact ⟨T.Cm.of 3 0 0 [] [] (ti : Int) (tj : Int) (tg : Int) 0 false, by rw [HC2.out]; exact (SameC_iff _ _).2 ⟨rfl, rfl, rfl, rfl, rfl, rfl, rfl, rfl, rfl, (decide_eq_false hy).symm⟩, (fun z hz => CmOk.zero), Zt, Zr, rr, tt, ee⟩
    ·(have f3 : ((x : Int) == 3) = false := by rw [beq_eq_false_iff_ne]; omega);(have HC2 : Hid (c0 = (Cm.of x 0 0 [] [] 0 0 0 0 false, s1)) := by show _ = _; rw [HC.out, if_neg h1, if_neg h2, if_neg h3]);(have HR1 : c0.2 = s1 := by rw [HC2.out]);(have rr : RdrAt z3 B g c0.2 := by rw [HR1]; exact rr);clear h1 h2 h3 HC
     go_wp2_with fail
     go_meet
     exact ⟨T.Cm.of (x : Int) 0 0 [] [] 0 0 0 0 false, by rw [HC2.out]; exact SameC.refl _, (fun z hz => CmOk.zero), Zt, Zr, rr, tt, ee⟩
 case rest =>
  clear x0 Zt Zr rr tt ee;obtain ⟨y, hsy, HK, Zt, Zr, rr, tt, ee⟩ := hcut;have nm : ∀ z : World, w.grownBy z (some g) → ∃ z', z' = z := fun z _ => ⟨z, rfl⟩;obtain ⟨y3, hzn⟩ := nm _ ee;subst hzn;clear nm HC0;have Zt := Zt.out;have Zr := Zr.out;have okx := HK.out y3 (fun i _ _ => rfl);have HFE : c0.1.formed = y.formed := (SameC.formed hsy).symm;rw [HFE] at HU;have HFM : Hid (∀ z, Below y3.heap.size y3 z → Tabs z → Calls Tryz.prog 48 #[.agg y.cells.toArray] z fun e w' => e = .returned (.bool y.formed) ∧ Below z.heap.size z w') := fun z hz hq => cformed_any y.k y.s y.q y.rs y.ws y.A1 y.c1 y.A2 y.c2 y.i y.j y.g y.st y.y z y3.heap.size hz.size (okx.below hz (Nat.le_refl _)) hq;generalize y.formed = fm at HU HFM;obtain ⟨cm, ls, f⟩ := c0;simp only at HU hsy rr;clear okx HFE
  go_wp2_with fail
  refine (ok_any B g (ls, f) y3 rr).mono ?_;rintro e z301 ⟨rfl, hw_⟩;rw [← hw_];clear hw_ z301
  dsimp only
  rename_i hK
  refine hK _ _ ?_;clear hK
  cases f with
  | true =>
    have HR : Hid (R = (Cm.zero, (ls, true))) := HU.out;clear HU;clear HFM HK
    go_wp2_with fail
    refine (take_any B g 9 (ls, true) y3 rr).mono ?_;rintro e z302 ⟨rfl, rr, t⟩;have Zr := heapG Zr t (by omega);have Zt := heapG Zt t (by omega);have tt := TabsAt.grown tt t hBg;have ee := grownTrans ee t;clear t;rw [take9] at rr
    go_upto_region 15 with fail
    refine wp_region_lit ?_
    iterate 27 (first | with_reducible refine isStore (ty := 33) rfl ?_ | go_step)
    refine wpList_store_row rfl 33 _ _ rfl (w.heap.size) (Cm.zero.cells).toArray rfl rfl 33 _ Zr sizeCm (by rfl) (Cm.one _) ?_;have N_ := setRow_heap z302 (w.heap.size) _ (Cm.zero.cells).toArray _ _ Zr;have ee := grownRowNew (cs := (Cm.zero.cells).toArray) ee (show w.heap.size ≤ w.heap.size by omega) Zr;have rr := RdrAt.row (cs := (Cm.zero.cells).toArray) rr (show w.heap.size ≠ g by omega) (by omega);have Zt := hpR Zt (g' := w.heap.size) (by omega) (Cm.zero.cells).toArray;have tt := TabsAt.row (cs := (Cm.zero.cells).toArray) tt (show B ≤ w.heap.size by omega);clear Zr;have Zr := N_;clear N_;generalize z302.setRow (w.heap.size) (Cm.zero.cells).toArray = z303 at Zr Zt tt ee rr ⊢
    go_wp2_with fail
    refine bodyPost_ret (v := .agg Cm.zero.cells.toArray) (results_cell_row rfl _ _ (w.heap.size) 33 _ (0, 0) _ rfl Zr Tryz.underlying33 rfl sizeCm) rfl ⟨⟨Cm.zero, rfl, by rw [HR.out]; exact SameC.refl _, fun _ _ => CmOk.zero⟩, by rw [HR.out]; exact rr, ee⟩
  | false =>
    iterate 27 (first | with_reducible refine isLoad (ty := 33) rfl ?_ | go_step)
    refine wpList_load_g (by rfl) 33 _ rfl (gt) 0 rfl (y.cells) _ (rowAt Zt) Tryz.underlying33 rfl sizeCm ?_
    go_wp2_with fail
    refine (HFM.out y3 (Below.refl _ _) tt.tabs).mono ?_;rintro e y4 ⟨rfl, t⟩;have HK : Hid (∀ z : World, (∀ i, gt < i → i < y4.heap.size → z.heap[i]? = y4.heap[i]?) → CmOk z z.heap.size y) := fun z hz => HK.out z (fun i h1 h2 => (hz i h1 (Nat.lt_of_lt_of_le h2 t.size)).trans (t.block i h2));have Zr := hpB Zr t;have Zt := hpB Zt t;have tt := TabsAt.belowS tt t;have ee := grownBelow ee t;have rr := RdrAt.below rr t;clear t
    cases fm with
    | false =>
      have HR : Hid (R = (Cm.zero, (ls, true))) := HU.out;clear HU;clear HFM HK
      go_wp2_with fail
      refine (take_any B g 9 (ls, false) y4 rr).mono ?_;rintro e z302 ⟨rfl, rr, t⟩;have Zr := heapG Zr t (by omega);have Zt := heapG Zt t (by omega);have tt := TabsAt.grown tt t hBg;have ee := grownTrans ee t;clear t;rw [take9] at rr
      go_upto_region 15 with fail
      refine wp_region_lit ?_
      iterate 27 (first | with_reducible refine isStore (ty := 33) rfl ?_ | go_step)
      refine wpList_store_row rfl 33 _ _ rfl (w.heap.size) (Cm.zero.cells).toArray rfl rfl 33 _ Zr sizeCm (by rfl) (Cm.one _) ?_;have N_ := setRow_heap z302 (w.heap.size) _ (Cm.zero.cells).toArray _ _ Zr;have ee := grownRowNew (cs := (Cm.zero.cells).toArray) ee (show w.heap.size ≤ w.heap.size by omega) Zr;have rr := RdrAt.row (cs := (Cm.zero.cells).toArray) rr (show w.heap.size ≠ g by omega) (by omega);have Zt := hpR Zt (g' := w.heap.size) (by omega) (Cm.zero.cells).toArray;have tt := TabsAt.row (cs := (Cm.zero.cells).toArray) tt (show B ≤ w.heap.size by omega);clear Zr;have Zr := N_;clear N_;generalize z302.setRow (w.heap.size) (Cm.zero.cells).toArray = z303 at Zr Zt tt ee rr ⊢
      go_wp2_with fail
      refine bodyPost_ret (v := .agg Cm.zero.cells.toArray) (results_cell_row rfl _ _ (w.heap.size) 33 _ (0, 0) _ rfl Zr Tryz.underlying33 rfl sizeCm) rfl ⟨⟨Cm.zero, rfl, by rw [HR.out]; exact SameC.refl _, fun _ _ => CmOk.zero⟩, by rw [HR.out]; exact rr, ee⟩
    | true =>
      have HR : Hid (R = (cm, (ls, false))) := HU.out;clear HU HFM
      go_upto_region 16 with fail
      refine wp_region_lit ?_
      iterate 27 (first | with_reducible refine isLoad (ty := 33) rfl ?_ | go_step)
      refine wpList_load_mid rfl 33 _ rfl (gt) 0 rfl (y.cells) _ (rowAt Zt) Tryz.underlying33 rfl sizeCm ?_;have HK2 : Hid (∀ z : World, (∀ i, w.heap.size ≤ i → i < (y4.setRow w.heap.size y.cells.toArray).heap.size → z.heap[i]? = (y4.setRow w.heap.size y.cells.toArray).heap[i]?) → CmOk z z.heap.size y) := fun z hz => HK.out z (fun i h1 h2 => (hz i (by omega) (by rw [setRow_size]; exact h2)).trans (setRow_other y4 w.heap.size i _ (by omega)))
      iterate 27 (first | with_reducible refine isStore (ty := 33) rfl ?_ | go_step)
      refine wpList_store_row rfl 33 _ _ rfl (w.heap.size) y.cells.toArray rfl rfl 33 _ Zr sizeCm (by rfl) (Cm.one _) ?_;have N_ := setRow_heap y4 (w.heap.size) _ y.cells.toArray _ _ Zr;have ee := grownRowNew (cs := y.cells.toArray) ee (show w.heap.size ≤ w.heap.size by omega) Zr;have rr := RdrAt.row (cs := y.cells.toArray) rr (show w.heap.size ≠ g by omega) (by omega);have Zt := hpR Zt (g' := w.heap.size) (by omega) y.cells.toArray;have tt := TabsAt.row (cs := y.cells.toArray) tt (show B ≤ w.heap.size by omega);clear Zr;have Zr := N_;clear N_;generalize y4.setRow (w.heap.size) (y.cells).toArray = z302 at Zr Zt HK2 tt ee rr ⊢
      go_wp2_with fail
      refine bodyPost_ret (v := .agg y.cells.toArray) (results_cell_row rfl _ _ (w.heap.size) 33 _ (0, 0) _ rfl Zr Tryz.underlying33 rfl sizeCm) rfl ⟨⟨y, rfl, by rw [HR.out]; exact hsy, HK2.out⟩, by rw [HR.out]; exact rr, ee⟩
end
end Go.Proofs.YthclniimhpmeoaaGreatDoor
