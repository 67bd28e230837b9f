import Derived.Test.YthclniimhpmeoaaGreatDoorMrM36
set_option maxHeartbeats 25600000
set_option maxRecDepth 20001
set_option linter.unusedSimpArgs false
set_option linter.unusedVariables false
namespace Go.Proofs.YthclniimhpmeoaaGreatDoor
set_option maxRecDepth 20000
section
open Go.RowKit T
theorem wrap8nz (x : Int) : IntKind.u8.wrap x = ((UInt8.ofNat (T.nz x)).toNat : Int) := by
 show x % 256 = _;rw [UInt8.toNat_ofNat'];unfold T.nz; omega
theorem put_oneN (l : List UInt8) (x : Nat) : l ++ [UInt8.ofNat x] = C.put l x 1 := (put_one l x).symm
def GotW (w : World) (B : Nat) (l : List UInt8) (e : Ending) (w' : World) : Prop := ∃ v, e = .returned v ∧ OwnB w' B v l ∧ Below w.heap.size w w'
theorem GotW.of {w : World} {B : Nat} {l : List UInt8} {e : Ending} {w' : World} (h : MadeB w l e w') (hB : B ≤ w.heap.size) : GotW w B l e w' := by
 obtain ⟨v, h1, h2, h3⟩ := h;exact ⟨v, h1, OwnB.mono h2 hB, h3⟩
section
variable {z : World} {base B : Nat} {v : Value} {l : List UInt8}
theorem rp_put (h : OwnB z base v l) (hl : l.length ≤ 549755813888) (hB : B ≤ z.heap.size) (x : Nat) (hx : x < 18446744073709551616) (n : Int) (hn1 : -1000 ≤ n) (hn2 : n ≤ 1000) : Calls Tryz.prog 36 #[v, .int .u64 (x : Int), .int .i64 n] z (GotW z B (C.put l x n)) :=
 (rput_o h hl x hx n hn1 hn2).mono fun _ _ h => GotW.of h hB
theorem rp_text (h : OwnB z base v l) (hl : l.length ≤ 274877906944) (hB : B ≤ z.heap.size) (s : ByteArray) (hs : s.size ≤ 9223372036854775807) : Calls Tryz.prog 116 #[v, .string s] z (GotW z B (C.putText l s.data.toList)) :=
 (rputtext_o h hl s hs).mono fun _ _ h => GotW.of h hB
theorem rp_val (h : OwnB z base v l) (hl : l.length ≤ 137438953472) (hB : B ≤ z.heap.size) (k : Int) (b : Nat) (t : ByteArray) (bb : b < 18446744073709551616) (hs : t.size ≤ 9223372036854775807) : Calls Tryz.prog 117 #[v, .agg #[.int .i64 k, .int .u64 (b : Int), .string t]] z (GotW z B (V.put l k b t.data.toList)) :=
 (rvput_o h hl k b t bb hs).mono fun _ _ h => GotW.of h hB
theorem rp_cmd (h : OwnB z base v l) (hl : l.length ≤ 2147483648) (hB : B ≤ z.heap.size) (x : Cm) (ok : CmOk z z.heap.size x) : Calls Tryz.prog 37 #[v, .agg x.cells.toArray] z (GotW z B (cput l x)) :=
 (rcput_s (SlB.ofOwn h) hl (Nat.le_refl _) x ok).mono fun _ _ h => GotW.of h hB
theorem rp_txn (h : OwnB z base v l) (hl : l.length ≤ 4294967296) (hB : B ≤ z.heap.size) (x : Tn) (ok : TxOk z z.heap.size x.rs x.ws x.A1 x.c1 x.A2 x.c2) : Calls Tryz.prog 88 #[v, .agg x.cells.toArray] z (GotW z B (tput l x.s x.q x.rs x.ws)) :=
 (rtput_s (SlB.ofOwn h) hl (Nat.le_refl _) x.s x.q x.rs x.ws x.A1 x.c1 x.A2 x.c2 ok).mono fun _ _ h => GotW.of h hB
theorem rp_id (h : OwnB z base v l) (hl : l.length ≤ 4294967296) (hB : B ≤ z.heap.size) (s q : Int) : Calls Tryz.prog 89 #[v, .agg #[.int .i64 s, .int .i64 q]] z (GotW z B (idput l s q)) :=
 (rputid_s (SlB.ofOwn h) hl (Nat.le_refl _) s q).mono fun _ _ h => GotW.of h hB
end
theorem rbput_o {w : World} {base : Nat} {v : Value} {l : List UInt8} (O : OwnB w base v l) (hl : l.length ≤ 274877906944) (r : Nat) (n : Int) (hx : r < 4294967296) :
 Calls Tryz.prog 35 #[v, .agg #[.int .u32 (r : Int), .int .i64 n]] w fun e w' => GotW w w.heap.size (B.put l r n) e w' := by
 have ee : Below w.heap.size w w := Below.refl _ _
 go_enter Tryz.func35, Tryz.ntmps35
 refine wp_seq_k fun K1 hK1 => wp_region_lit ?_;(with_reducible refine wwP (.cells ([.int .u32 (r : Int), .int .i64 n]).toArray 44) fun g2 z1 hq_ t Zb3 => ?_);have hB_g2 := szG hq_ ee;have O := ownBelow O t;have ee := bU ee t;(try simp only [zP]);(with_reducible refine wv (.slice none 0 0) ?_);(try simp only [zP]);refine wpList_nil (hK1 _ _ (wp_seq_k fun K3 hK3 => wp_region_lit ?_));(with_reducible refine wv (v) (wv (.pointer (some ⟨g2, 0, none⟩)) (wl (.int .u32 (r : Int)) ⟨g2, 0, none⟩ (rowCell Zb3 (0) rfl) Tryz.underlying22 ?_));(try simp only [zP]);refine wq (.int .u64 (r : Int)) (okIntP ((wrapOf (by omega)) : IntKind.u64.wrap (r : Int) = (r : Int)) (by kernel_rfl)) ?_;(try simp only [zP]);refine wc 36 #[v, .int .u64 (r : Int), .int .i64 4] (rp_put O (by omega) (B := w.heap.size) ee.size r (by omega) 4 (by omega) (by omega)) ?_);rintro e z2 ⟨r1, rfl, O_, t⟩;refine ⟨_, rfl, ?_⟩;have Zb3 := hpB Zb3 t;have ee := bU ee t;have O := O_;(try simp only [zP]);(with_reducible refine wv (r1) ?_);(try simp only [zP]);refine wpList_nil (hK3 _ _ (wp_seq_k fun K4 hK4 => wp_region_lit ?_));(with_reducible refine wv (r1) (wv (.pointer (some ⟨g2, 1, none⟩)) (wl (.int .i64 n) ⟨g2, 1, none⟩ (rowCell Zb3 (1) rfl) Tryz.underlying3 ?_));(try simp only [zP]);refine wq (.int .u8 (((UInt8.ofNat (T.nz n)).toNat : Int))) (okIntP ((wrap8nz n) : IntKind.u8.wrap n = ((UInt8.ofNat (T.nz n)).toNat : Int)) (by kernel_rfl)) (wwS 1 (.cells #[.int .u8 (((UInt8.ofNat (T.nz n)).toNat : Int))] 5) fun g5 z3 hq_ t Zs15 => ?_));have n_g5_Zb3 := ltG hq_ Zb3;have hB_g5 := szG hq_ ee;have ne_O_Zs15 := oN hq_ O;have O := ownBelow O t;have ee := bU ee t;(try simp only [zP]);(with_reducible refine wa8 (.tmp 11) (.tmp 15) O (slOne Zs15 rfl) (by have := put_len2 l r 4; omega) (by simp) ee.size ?_);intro v_ z4 O_ g_;have ee := ee.grown g_ ee.size (fun i_ h_ => by have := (O.lt i_ h_).1; omega);have O := O_;obtain ⟨a6, e_a6⟩ : ∃ q_, q_ = v_ := ⟨_, rfl⟩;subst e_a6;(with_reducible refine wv (a6) ?_);(try simp only [zP]);refine wpList_nil (hK4 _ _ (wp_ret ?_));exact bodyPost_ret (v := a6) (by kernel_rfl) rfl ⟨_, rfl, by unfold B.put; rw [← put_oneN]; exact O, ee⟩
theorem rp_bal {z : World} {base B1 : Nat} {v : Value} {l : List UInt8} (h : OwnB z base v l) (hl : l.length ≤ 274877906944) (hB : B1 ≤ z.heap.size) (r : Nat) (n : Int) (hx : r < 4294967296) : Calls Tryz.prog 35 #[v, .agg #[.int .u32 (r : Int), .int .i64 n]] z (GotW z B1 (B.put l r n)) :=
 (rbput_o h hl r n hx).mono fun _ _ ⟨v, h1, h2, h3⟩ => ⟨v, h1, h2.mono hB, h3⟩
theorem grownAny {w w' : World} (hb : Below w.heap.size w w') (r : Option Nat) : w.grownBy w' r := ⟨hb.os, hb.tape, hb.output, hb.size, fun k hk _ => hb.block k hk⟩
def GrewW (w : World) (B : Nat) (u : Value) (l : List UInt8) (e : Ending) (w' : World) : Prop := ∃ v, e = .returned v ∧ OwnB w' B v l ∧ w.grownBy w' u.ownBlock
theorem flag_o {w : World} {base : Nat} {v : Value} {l : List UInt8} (O : OwnB w base v l) (hb : base ≤ w.heap.size) (hl : l.length ≤ 274877906944) (x : Bool) :
 Calls Tryz.prog 115 #[v, .bool x] w fun e w' => GrewW w base v (C.put l (T.bit x) 1) e w' := by
 have e2 : Below w.heap.size w w := Below.refl _ _;have ee : Below base w w := Below.refl _ _
 go_enter Tryz.func115, Tryz.ntmps115
 refine wp_seq_k fun K1 hK1 => wp_region_lit ?_;(with_reducible refine wv (.slice none 0 0) ?_);(try simp only [zP]);refine wpList_nil (hK1 _ _ (wp_seq_k fun K2 hK2 => wp_seq_k fun K3 hK3 => wp_region_lit ?_));(with_reducible refine wv (.bool x) ?_);(try simp only [zP]);refine wpList_nil (hK3 _ _ ?_);cases x
 ·refine wdF ?_;refine wp_skip (hK2 _ _ (wp_seq_k fun K4 hK4 => wp_region_lit ?_));(with_reducible refine wv (v) (wwS 1 (.cells #[.int .u8 0] 5) fun g5 z1 hq_ t Zs10 => ?_));have hB_g5 := szG hq_ ee;have ne_O_Zs10 := oN hq_ O;have O := ownBelow O t;have ee := ee.trans (t.mono (Nat.le_trans hb ee.size));have e2 := bU e2 t;(try simp only [zP]);(with_reducible refine wa8 (.tmp 9) (.tmp 10) O (slOne (b := 0) Zs10 rfl) (by omega) (by simp) (Nat.le_trans hb ee.size) ?_);intro v_ z2 O_ g_;have hgr := grownTrans (grownAny e2 _) g_;have O := O_;obtain ⟨a6, e_a6⟩ : ∃ q_, q_ = v_ := ⟨_, rfl⟩;subst e_a6;(with_reducible refine wv (a6) ?_);(try simp only [zP]);refine wpList_nil (hK4 _ _ (wp_ret ?_));exact bodyPost_ret (v := a6) (by kernel_rfl) rfl ⟨_, rfl, by rw [put_one]; exact O, hgr⟩
 refine wdT (wp_seq_k fun K7 hK7 => wp_region_lit ?_);(with_reducible refine wv (v) (wwS 1 (.cells #[.int .u8 1] 5) fun g8 z1 hq_ t Zs7 => ?_));have hB_g8 := szG hq_ ee;have ne_O_Zs7 := oN hq_ O;have O := ownBelow O t;have ee := ee.trans (t.mono (Nat.le_trans hb ee.size));have e2 := bU e2 t;(try simp only [zP]);(with_reducible refine wa8 (.tmp 6) (.tmp 7) O (slOne (b := 1) Zs7 rfl) (by omega) (by simp) (Nat.le_trans hb ee.size) ?_);intro v_ z2 O_ g_;have hgr := grownTrans (grownAny e2 _) g_;have O := O_;obtain ⟨a9, e_a9⟩ : ∃ q_, q_ = v_ := ⟨_, rfl⟩;subst e_a9;(with_reducible refine wv (a9) ?_);(try simp only [zP]);refine wpList_nil (hK7 _ _ (wp_ret (then_ret ?_)));exact bodyPost_ret (v := a9) (by kernel_rfl) rfl ⟨_, rfl, by rw [put_one]; exact O, hgr⟩
end
section
open Go.RowKit T
namespace T
def told : List (List UInt8) → List Rc
 | [] => []
 | b :: bs => bif rcok b then rcm b :: told bs else []
def Rc.frame (x : Rc) : List UInt8 × Nat := if x.formed = true then F.wrap x.wr else ([], 2)
def Rc.good (x : Rc) : Prop := x.formed = true ∧ x.br < 4294967296 ∧ Fits x.c
def reads (xs : List Rc) : List Rc := xs.map fun x => rcm x.wr
end T
end
section
open Go.RowKit T
theorem rtakeid_any (B g : Nat) (w : World) (s : C.St) (h : RefAt w B g s) :
 Calls Tryz.prog 76 #[.pointer (some ⟨g, 0, none⟩)] w fun e w' => e = .returned (.agg [.int .i64 ((idtake s).1.1 : Int), .int .i64 ((idtake s).1.2 : Int)].toArray) ∧ RefAt w' B g (idtake s).2 ∧ w.grownBy w' (some g) := by
 have hx := take_bound 1 s (by omega);have hy := take_bound 4 (C.take 1 s).2 (by omega)
 have HU : Hid (idtake s = bif (C.take 4 (C.take 1 s).2).2.2 || !idb ((C.take 1 s).1 : Int) ((C.take 4 (C.take 1 s).2).1 : Int) then ((0, 0), ((C.take 4 (C.take 1 s).2).2.1, true))
  else (((C.take 1 s).1, (C.take 4 (C.take 1 s).2).1), (C.take 4 (C.take 1 s).2).2)) := rfl
 obtain ⟨R, hR⟩ : ∃ R, R = idtake s := ⟨_, rfl⟩;rw [← hR] at HU ⊢;clear hR;have T1 := Lib.hid (fun z (hz : RefAt z B g s) => rtake_any B g 1 s z hz);generalize C.take 1 s = r1 at hx hy HU T1;obtain ⟨x, s1⟩ := r1;simp only at hx hy HU T1;have T2 := Lib.hid (fun z (hz : RefAt z B g s1) => rtake_any B g 4 s1 z hz);generalize C.take 4 s1 = r2 at hy HU T2;obtain ⟨y, ls, f⟩ := r2;simp only at hy HU T2;have kx : IntKind.i64.wrap (x : Int) = (x : Int) := wrapI (by omega);have ky : IntKind.i64.wrap (y : Int) = (y : Int) := wrapI (by omega);have hx := show x < 256 from hx;have HI := Lib.hid (fun z => rtid_any (x : Int) (y : Int) z);generalize idb (x : Int) (y : Int) = b at HI HU;have hg : g < w.heap.size := h.lt.1;have hBg : B ≤ g := h.lt.2;have ee : w.grownBy w (some g) := ⟨rfl, rfl, rfl, Nat.le_refl _, fun _ _ _ => rfl⟩;have rr := h;clear h;have ee := grownAllocR ee (.cells #[.int .i64 0, .int .i64 0] 26);have rr := RefAt.alloc rr (.cells #[.int .i64 0, .int .i64 0] 26);have Zr := hpN w (.cells #[.int .i64 0, .int .i64 0] 26) rfl
 go_enter Tryz.func76, Tryz.ntmps76
 go_upto_region 1 with fail
 generalize w.alloc (.cells #[.int .i64 0, .int .i64 0] 26) = w0 at Zr ee rr ⊢
 go_wp2_with fail
 refine (T1.out w0 rr).mono ?_;rintro e z1 ⟨rfl, rr, t⟩;have Zr := heapG Zr t (by omega);have ee := grownTrans ee t;clear t;clear T1
 go_wp2_with fail
 refine (T2.out z1 rr).mono ?_;rintro e z2 ⟨rfl, rr, t⟩;have Zr := heapG Zr t (by omega);have ee := grownTrans ee t;clear t;clear T2
 dsimp only
 rename_i hK
 refine hK _ _ ?_;clear hK;(iterate 9 go_step);have lZr := (Array.getElem?_eq_some_iff.1 Zr).1;have sz2 := ee.size;have Zr := hpA Zr (.cells #[.int .i64 0, .int .i64 0] 26);have ee := grownAllocR ee (.cells #[.int .i64 0, .int .i64 0] 26);have rr := RefAt.alloc rr (.cells #[.int .i64 0, .int .i64 0] 26);have Zt := hpN z2 (.cells #[.int .i64 0, .int .i64 0] 26) rfl;generalize z2.alloc (.cells #[.int .i64 0, .int .i64 0] 26) = z3 at Zr Zt ee rr ⊢
 iterate 27 (first | with_reducible refine isStore (ty := 26) rfl ?_ | go_step)
 refine wpList_store_row rfl 26 _ _ rfl (z2.heap.size) ([.int .i64 (x : Int), .int .i64 (y : Int)]).toArray rfl rfl 26 _ Zt sizeId (by rfl) (by simp [Value.oneCell']) ?_;have N_ := setRow_heap z3 (z2.heap.size) _ ([.int .i64 (x : Int), .int .i64 (y : Int)]).toArray _ _ Zt;have ee := grownRowNew (cs := ([.int .i64 (x : Int), .int .i64 (y : Int)]).toArray) ee (show w.heap.size ≤ z2.heap.size by omega) Zt;have rr := RefAt.row (cs := ([.int .i64 (x : Int), .int .i64 (y : Int)]).toArray) rr (show z2.heap.size ≠ g by omega) (by omega);have Zr := hpR Zr (g' := z2.heap.size) (by omega) ([.int .i64 (x : Int), .int .i64 (y : Int)]).toArray;clear Zt;have Zt := N_;clear N_;generalize z3.setRow (z2.heap.size) ([.int .i64 (x : Int), .int .i64 (y : Int)]).toArray = z4 at Zr Zt ee rr ⊢;clear kx ky
 go_upto_region 3 with fail
 have cc := RefAt.cell rr
 cases f with
 | true =>
   have HR : Hid (R = ((0, 0), (ls, true))) := HU.out;clear HU;have HR2 : Hid (R = ((0, 0), (ls, true))) := HR.out;clear HR HI;have cc0 := cc
   go_upto_region 4 with fail
   clear cc cc0;have fr_ := RefAt.free rr;have cc_ := RefAt.cell rr
   go_upto_region 5 with fail
   clear fr_ cc_;have Zr := hpS Zr (p := ⟨g, 2, none⟩) (by show _ ≠ g; omega) (.bool true);have Zt := hpS Zt (p := ⟨g, 2, none⟩) (by show _ ≠ g; omega) (.bool true);have rr := RefAt.fails rr;have ee := grownFail ee (.bool true);generalize z4.setCell ⟨g, 2, none⟩ (.bool true) = z5 at Zr Zt ee rr ⊢;refine wp_region_lit ?_
   iterate 27 (first | with_reducible refine isStore (ty := 26) rfl ?_ | go_step)
   refine wpList_store_row rfl 26 _ _ rfl (w.heap.size) ([.int .i64 0, .int .i64 0]).toArray rfl rfl 26 _ Zr sizeId (by rfl) (by simp [Value.oneCell']) ?_;have N_ := setRow_heap z5 (w.heap.size) _ ([.int .i64 0, .int .i64 0]).toArray _ _ Zr;have ee := grownRowNew (cs := ([.int .i64 0, .int .i64 0]).toArray) ee (show w.heap.size ≤ w.heap.size by omega) Zr;have rr := RefAt.row (cs := ([.int .i64 0, .int .i64 0]).toArray) rr (show w.heap.size ≠ g by omega) (by omega);have Zt := hpR Zt (g' := w.heap.size) (by omega) ([.int .i64 0, .int .i64 0]).toArray;clear Zr;have Zr := N_;clear N_;generalize z5.setRow (w.heap.size) ([.int .i64 0, .int .i64 0]).toArray = z6 at Zr Zt ee rr ⊢
   go_wp2_with fail
   refine bodyPost_ret (v := .agg [.int .i64 0, .int .i64 0].toArray) (results_cell_row rfl _ _ (w.heap.size) 26 _ (0, 0) _ rfl Zr Tryz.underlying26 rfl sizeId) rfl ⟨by rw [HR2.out]; rfl, by rw [HR2.out]; exact rr, ee⟩
 | false =>
   refine wp_region_lit ?_
   iterate 27 (first | with_reducible refine isLoad (ty := 26) rfl ?_ | go_step)
   refine wpList_load_g (by rfl) 26 _ rfl (z2.heap.size) 0 rfl (([.int .i64 (x : Int), .int .i64 (y : Int)])) _ (rowAt Zt) Tryz.underlying26 rfl sizeId ?_;clear cc
   go_wp2_with fail
   refine (HI.out z4).mono ?_;rintro e z5 ⟨rfl, t⟩;have Zr := hpB Zr t;have Zt := hpB Zt t;have ee := grownBelow ee t;have rr := RefAt.below rr t;clear t
   cases b with
   | false =>
     have HR2 : Hid (R = ((0, 0), (ls, true))) := HU.out;clear HU HI
     go_upto_region 4 with fail
     have fr_ := RefAt.free rr;have cc_ := RefAt.cell rr
     go_upto_region 5 with fail
     clear fr_ cc_;have Zr := hpS Zr (p := ⟨g, 2, none⟩) (by show _ ≠ g; omega) (.bool true);have Zt := hpS Zt (p := ⟨g, 2, none⟩) (by show _ ≠ g; omega) (.bool true);have rr := RefAt.fails rr;have ee := grownFail ee (.bool true);generalize z5.setCell ⟨g, 2, none⟩ (.bool true) = z6 at Zr Zt ee rr ⊢;refine wp_region_lit ?_
     iterate 27 (first | with_reducible refine isStore (ty := 26) rfl ?_ | go_step)
     refine wpList_store_row rfl 26 _ _ rfl (w.heap.size) ([.int .i64 0, .int .i64 0]).toArray rfl rfl 26 _ Zr sizeId (by rfl) (by simp [Value.oneCell']) ?_;have N_ := setRow_heap z6 (w.heap.size) _ ([.int .i64 0, .int .i64 0]).toArray _ _ Zr;have ee := grownRowNew (cs := ([.int .i64 0, .int .i64 0]).toArray) ee (show w.heap.size ≤ w.heap.size by omega) Zr;have rr := RefAt.row (cs := ([.int .i64 0, .int .i64 0]).toArray) rr (show w.heap.size ≠ g by omega) (by omega);have Zt := hpR Zt (g' := w.heap.size) (by omega) ([.int .i64 0, .int .i64 0]).toArray;clear Zr;have Zr := N_;clear N_;generalize z6.setRow (w.heap.size) ([.int .i64 0, .int .i64 0]).toArray = z7 at Zr Zt ee rr ⊢
     go_wp2_with fail
     refine bodyPost_ret (v := .agg [.int .i64 0, .int .i64 0].toArray) (results_cell_row rfl _ _ (w.heap.size) 26 _ (0, 0) _ rfl Zr Tryz.underlying26 rfl sizeId) rfl ⟨by rw [HR2.out]; rfl, by rw [HR2.out]; exact rr, ee⟩
   | true =>
     have HR : Hid (R = ((x, y), (ls, false))) := HU.out;clear HU HI
     go_upto_region 6 with fail
     refine wp_region_lit ?_
     iterate 27 (first | with_reducible refine isLoad (ty := 26) rfl ?_ | go_step)
     refine wpList_load_mid rfl 26 _ rfl (z2.heap.size) 0 rfl (([.int .i64 (x : Int), .int .i64 (y : Int)])) _ (rowAt Zt) Tryz.underlying26 rfl sizeId ?_
     iterate 27 (first | with_reducible refine isStore (ty := 26) rfl ?_ | go_step)
     refine wpList_store_row rfl 26 _ _ rfl (w.heap.size) ([.int .i64 (x : Int), .int .i64 (y : Int)]).toArray rfl rfl 26 _ Zr sizeId (by rfl) (by simp [Value.oneCell']) ?_;have N_ := setRow_heap z5 (w.heap.size) _ ([.int .i64 (x : Int), .int .i64 (y : Int)]).toArray _ _ Zr;have ee := grownRowNew (cs := ([.int .i64 (x : Int), .int .i64 (y : Int)]).toArray) ee (show w.heap.size ≤ w.heap.size by omega) Zr;have rr := RefAt.row (cs := ([.int .i64 (x : Int), .int .i64 (y : Int)]).toArray) rr (show w.heap.size ≠ g by omega) (by omega);have Zt := hpR Zt (g' := w.heap.size) (by omega) ([.int .i64 (x : Int), .int .i64 (y : Int)]).toArray;clear Zr;have Zr := N_;clear N_;generalize z5.setRow (w.heap.size) ([.int .i64 (x : Int), .int .i64 (y : Int)]).toArray = z6 at Zr Zt ee rr ⊢
     go_wp2_with fail
     refine bodyPost_ret (v := .agg [.int .i64 (x : Int), .int .i64 (y : Int)].toArray) (results_cell_row rfl _ _ (w.heap.size) 26 _ (0, 0) _ rfl Zr Tryz.underlying26 rfl sizeId) rfl ⟨by rw [HR.out], by rw [HR.out]; exact rr, ee⟩
end
end Go.Proofs.YthclniimhpmeoaaGreatDoor
