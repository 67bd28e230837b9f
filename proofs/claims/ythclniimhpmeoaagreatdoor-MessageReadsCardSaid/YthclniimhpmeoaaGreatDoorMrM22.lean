import Derived.Test.YthclniimhpmeoaaGreatDoorMrM21
set_option maxHeartbeats 3200000
set_option maxRecDepth 20001
set_option linter.unusedSimpArgs false
set_option linter.unusedVariables false
namespace Go.Proofs.YthclniimhpmeoaaGreatDoor
set_option maxRecDepth 20000
section
open Go.RowKit T
namespace T
def Rc.wr (x : Rc) : List UInt8 := if x.kd = 1 then B.put (C.put [] (T.nz x.kd) 1) x.br x.bn else if x.kd = 2 then cput (C.put (B.put (C.put [] (T.nz x.kd) 1) x.br x.bn) (T.nz x.sl) 4) x.c else if x.kd = 3 then cput (C.put (C.put [] (T.nz x.kd) 1) (T.nz x.sl) 4) x.c else C.put (C.put (C.put [] (T.nz x.kd) 1) (T.nz x.sl) 4) x.dt.length 4 ++ x.dt
end T
end
section
open Go.RowKit T
theorem takeid_any (B g : Nat) (w : World) (s : C.St) (h : RdrAt w B g s) :
 Calls Tryz.prog 70 #[.pointer (some ⟨g, 0, none⟩)] w fun e w' => e = .returned (.agg [.int .i64 ((idtake s).1.1 : Int), .int .i64 ((idtake s).1.2 : Int)].toArray) ∧ RdrAt w' B g (idtake s).2 ∧ w.grownBy w' (some g) := by
 have hx := take_bound 1 s (by omega);have hy := take_bound 4 (C.take 1 s).2 (by omega)
 have HU : Hid (idtake s = bif (C.take 4 (C.take 1 s).2).2.2 || !idb ((C.take 1 s).1 : Int) ((C.take 4 (C.take 1 s).2).1 : Int) then ((0, 0), ((C.take 4 (C.take 1 s).2).2.1, true))
  else (((C.take 1 s).1, (C.take 4 (C.take 1 s).2).1), (C.take 4 (C.take 1 s).2).2)) := rfl
 obtain ⟨R, hR⟩ : ∃ R, R = idtake s := ⟨_, rfl⟩;rw [← hR] at HU ⊢;clear hR;have T1 := Lib.hid (fun z (hz : RdrAt z B g s) => take_any B g 1 s z hz);have e1 : C.take 1 s = ((C.take 1 s).1, (C.take 1 s).2) := rfl;generalize C.take 1 s = r1 at hx hy HU T1;obtain ⟨x, s1⟩ := r1;simp only at hx hy HU T1;have T2 := Lib.hid (fun z (hz : RdrAt z B g s1) => take_any B g 4 s1 z hz);generalize C.take 4 s1 = r2 at hy HU T2;obtain ⟨y, ls, f⟩ := r2;simp only at hy HU T2;clear e1;have kx : IntKind.i64.wrap (x : Int) = (x : Int) := wrapI (by omega);have ky : IntKind.i64.wrap (y : Int) = (y : Int) := wrapI (by omega);have hx := show x < 256 from hx;have HI := Lib.hid (fun z => tid_any (x : Int) (y : Int) z);generalize idb (x : Int) (y : Int) = b at HI HU;have hg : g < w.heap.size := h.lt.1;have hBg : B ≤ g := h.lt.2;have ee : w.grownBy w (some g) := ⟨rfl, rfl, rfl, Nat.le_refl _, fun _ _ _ => rfl⟩;have rr := h;clear h;have ee := grownAllocR ee (.cells #[.int .i64 0, .int .i64 0] 26);have rr := RdrAt.alloc rr (.cells #[.int .i64 0, .int .i64 0] 26);have Zr := hpN w (.cells #[.int .i64 0, .int .i64 0] 26) rfl
 go_enter Tryz.func70, Tryz.ntmps70
 go_upto_region 1 with fail
 generalize w.alloc (.cells #[.int .i64 0, .int .i64 0] 26) = w0 at Zr ee rr ⊢;refine wp_region_lit ?_
 go_wp2_with fail
 refine (T1.out w0 rr).mono ?_;rintro e z1 ⟨rfl, rr, t⟩;have Zr := heapG Zr t (by omega);have ee := grownTrans ee t;clear t
 go_wp2_with fail
 refine (T2.out z1 rr).mono ?_;rintro e z2 ⟨rfl, rr, t⟩;have Zr := heapG Zr t (by omega);have ee := grownTrans ee t;clear t;clear T1 T2
 dsimp only
 rename_i hK
 refine hK _ _ ?_;clear hK;(iterate 3 go_step);(iterate 6 go_step);have lZr := (Array.getElem?_eq_some_iff.1 Zr).1;have sz2 := ee.size;have Zr := hpA Zr (.cells #[.int .i64 0, .int .i64 0] 26);have ee := grownAllocR ee (.cells #[.int .i64 0, .int .i64 0] 26);have rr := RdrAt.alloc rr (.cells #[.int .i64 0, .int .i64 0] 26);have Zt := hpN z2 (.cells #[.int .i64 0, .int .i64 0] 26) rfl;generalize z2.alloc (.cells #[.int .i64 0, .int .i64 0] 26) = z3 at Zr Zt ee rr ⊢
 iterate 27 (first | with_reducible refine isStore (ty := 26) rfl ?_ | go_step)
 refine wpList_store_row rfl 26 _ _ rfl (z2.heap.size) ([.int .i64 (x : Int), .int .i64 (y : Int)]).toArray rfl rfl 26 _ Zt sizeId (by rfl) (by simp [Value.oneCell']) ?_;have N_ := setRow_heap z3 (z2.heap.size) _ ([.int .i64 (x : Int), .int .i64 (y : Int)]).toArray _ _ Zt;have ee := grownRowNew (cs := ([.int .i64 (x : Int), .int .i64 (y : Int)]).toArray) ee (show w.heap.size ≤ z2.heap.size by omega) Zt;have rr := RdrAt.row (cs := ([.int .i64 (x : Int), .int .i64 (y : Int)]).toArray) rr (show z2.heap.size ≠ g by omega) (by omega);have Zr := hpR Zr (g' := z2.heap.size) (by omega) ([.int .i64 (x : Int), .int .i64 (y : Int)]).toArray;clear Zt;have Zt := N_;clear N_;generalize z3.setRow (z2.heap.size) ([.int .i64 (x : Int), .int .i64 (y : Int)]).toArray = z4 at Zr Zt ee rr ⊢;clear kx ky
 go_wp2_with fail
 refine (ok_any B g (ls, f) z4 rr).mono ?_;rintro e z5 ⟨rfl, hw_⟩;rw [← hw_];clear hw_ z5
 dsimp only
 rename_i hK
 refine hK _ _ ?_;clear hK
 cases f with
 | true =>
   have HR : Hid (R = ((0, 0), (ls, true))) := HU.out;clear HU;have HR2 : Hid (R = ((0, 0), (ls, true))) := HR.out;clear HR HI
   go_wp2_with fail
   refine (take_any B g 9 (ls, true) z4 rr).mono ?_;rintro e z6 ⟨rfl, rr, t⟩;have Zr := heapG Zr t (by omega);have Zt := heapG Zt t (by omega);have ee := grownTrans ee t;clear t;rw [take9] at rr
   go_upto_region 4 with fail
   refine wp_region_lit ?_
   iterate 27 (first | with_reducible refine isStore (ty := 26) rfl ?_ | go_step)
   refine wpList_store_row rfl 26 _ _ rfl (w.heap.size) ([.int .i64 0, .int .i64 0]).toArray rfl rfl 26 _ Zr sizeId (by rfl) (by simp [Value.oneCell']) ?_;have N_ := setRow_heap z6 (w.heap.size) _ ([.int .i64 0, .int .i64 0]).toArray _ _ Zr;have ee := grownRowNew (cs := ([.int .i64 0, .int .i64 0]).toArray) ee (show w.heap.size ≤ w.heap.size by omega) Zr;have rr := RdrAt.row (cs := ([.int .i64 0, .int .i64 0]).toArray) rr (show w.heap.size ≠ g by omega) (by omega);have Zt := hpR Zt (g' := w.heap.size) (by omega) ([.int .i64 0, .int .i64 0]).toArray;clear Zr;have Zr := N_;clear N_;generalize z6.setRow (w.heap.size) ([.int .i64 0, .int .i64 0]).toArray = z7 at Zr Zt ee rr ⊢
   go_wp2_with fail
   refine bodyPost_ret (v := .agg [.int .i64 0, .int .i64 0].toArray) (results_cell_row rfl _ _ (w.heap.size) 26 _ (0, 0) _ rfl Zr Tryz.underlying26 rfl sizeId) rfl ⟨by rw [HR2.out]; rfl, by rw [HR2.out]; exact rr, ee⟩
 | false =>
   iterate 27 (first | with_reducible refine isLoad (ty := 26) rfl ?_ | go_step)
   refine wpList_load_g (by rfl) 26 _ rfl (z2.heap.size) 0 rfl (([.int .i64 (x : Int), .int .i64 (y : Int)])) _ (rowAt Zt) Tryz.underlying26 rfl sizeId ?_
   go_wp2_with fail
   refine (HI.out z4).mono ?_;rintro e z6 ⟨rfl, t⟩;have Zr := hpB Zr t;have Zt := hpB Zt t;have ee := grownBelow ee t;have rr := RdrAt.below rr t;clear t
   cases b with
   | false =>
     have HR : Hid (R = ((0, 0), (ls, true))) := HU.out;clear HU;have HR2 : Hid (R = ((0, 0), (ls, true))) := HR.out;clear HR HI
     go_wp2_with fail
     refine (take_any B g 9 (ls, false) z6 rr).mono ?_;rintro e z7 ⟨rfl, rr, t⟩;have Zr := heapG Zr t (by omega);have Zt := heapG Zt t (by omega);have ee := grownTrans ee t;clear t;rw [take9] at rr
     go_upto_region 4 with fail
     refine wp_region_lit ?_
     iterate 27 (first | with_reducible refine isStore (ty := 26) rfl ?_ | go_step)
     refine wpList_store_row rfl 26 _ _ rfl (w.heap.size) ([.int .i64 0, .int .i64 0]).toArray rfl rfl 26 _ Zr sizeId (by rfl) (by simp [Value.oneCell']) ?_;have N_ := setRow_heap z7 (w.heap.size) _ ([.int .i64 0, .int .i64 0]).toArray _ _ Zr;have ee := grownRowNew (cs := ([.int .i64 0, .int .i64 0]).toArray) ee (show w.heap.size ≤ w.heap.size by omega) Zr;have rr := RdrAt.row (cs := ([.int .i64 0, .int .i64 0]).toArray) rr (show w.heap.size ≠ g by omega) (by omega);have Zt := hpR Zt (g' := w.heap.size) (by omega) ([.int .i64 0, .int .i64 0]).toArray;clear Zr;have Zr := N_;clear N_;generalize z7.setRow (w.heap.size) ([.int .i64 0, .int .i64 0]).toArray = z8 at Zr Zt ee rr ⊢
     go_wp2_with fail
     refine bodyPost_ret (v := .agg [.int .i64 0, .int .i64 0].toArray) (results_cell_row rfl _ _ (w.heap.size) 26 _ (0, 0) _ rfl Zr Tryz.underlying26 rfl sizeId) rfl ⟨by rw [HR2.out]; rfl, by rw [HR2.out]; exact rr, ee⟩
   | true =>
     have HR : Hid (R = ((x, y), (ls, false))) := HU.out;clear HU HI
     go_upto_region 5 with fail
     refine wp_region_lit ?_
     iterate 27 (first | with_reducible refine isLoad (ty := 26) rfl ?_ | go_step)
     refine wpList_load_mid rfl 26 _ rfl (z2.heap.size) 0 rfl (([.int .i64 (x : Int), .int .i64 (y : Int)])) _ (rowAt Zt) Tryz.underlying26 rfl sizeId ?_
     iterate 27 (first | with_reducible refine isStore (ty := 26) rfl ?_ | go_step)
     refine wpList_store_row rfl 26 _ _ rfl (w.heap.size) ([.int .i64 (x : Int), .int .i64 (y : Int)]).toArray rfl rfl 26 _ Zr sizeId (by rfl) (by simp [Value.oneCell']) ?_;have N_ := setRow_heap z6 (w.heap.size) _ ([.int .i64 (x : Int), .int .i64 (y : Int)]).toArray _ _ Zr;have ee := grownRowNew (cs := ([.int .i64 (x : Int), .int .i64 (y : Int)]).toArray) ee (show w.heap.size ≤ w.heap.size by omega) Zr;have rr := RdrAt.row (cs := ([.int .i64 (x : Int), .int .i64 (y : Int)]).toArray) rr (show w.heap.size ≠ g by omega) (by omega);have Zt := hpR Zt (g' := w.heap.size) (by omega) ([.int .i64 (x : Int), .int .i64 (y : Int)]).toArray;clear Zr;have Zr := N_;clear N_;generalize z6.setRow (w.heap.size) ([.int .i64 (x : Int), .int .i64 (y : Int)]).toArray = z7 at Zr Zt ee rr ⊢
     go_wp2_with fail
     refine bodyPost_ret (v := .agg [.int .i64 (x : Int), .int .i64 (y : Int)].toArray) (results_cell_row rfl _ _ (w.heap.size) 26 _ (0, 0) _ rfl Zr Tryz.underlying26 rfl sizeId) rfl ⟨by rw [HR.out], by rw [HR.out]; exact rr, ee⟩
end
end Go.Proofs.YthclniimhpmeoaaGreatDoor
