import Derived.Test.YtjofjpmhokjhnaaGreatDoorWfM33
import Derived.Test.YtjofjpmhokjhnaaGreatDoorWfM25
set_option linter.unusedSimpArgs false
set_option linter.unusedVariables false
namespace Go.Proofs.YtjofjpmhokjhnaaGreatDoor
set_option maxRecDepth 20000
open Go.RowKit T
theorem untl_step {α : Type} (f : C.St → α × C.St) (m : Nat) (a : List α) (st : C.St) (h : st.2 = false) : untl f (m + 1) (a, st) = untl f m (a ++ [(f st).1], (f st).2) := by
 show (bif st.2 then _ else _) = _
 rw [h]; rfl
theorem untl_stop {α : Type} (f : C.St → α × C.St) (m : Nat) (a : List α) (st : C.St) (h : st.2 = true) : untl f m (a, st) = (a, st) := by
 cases m with
 | zero => rfl
 | succ m =>
   show (bif st.2 then _ else _) = _
   rw [h]; rfl
set_option maxHeartbeats 12800000 in
theorem rttake_any (B g : Nat) (w : World) (s : C.St) (h : RefAt w B g s) :
 Calls Tryz.prog 92 #[.pointer (some ⟨g, 0, none⟩)] w fun e w' => (∃ (A1 : Option Addr) (c1 : Nat) (A2 : Option Addr) (c2 : Nat), e = .returned (.agg [.int .i64 ((rttake s).1.1.1 : Int), .int .i64 ((rttake s).1.1.2 : Int), .slice A1 (rttake s).1.2.1.length c1, .slice A2 (rttake s).1.2.2.length c2].toArray) ∧ ∀ z : World, (∀ i, w.heap.size ≤ i → i < w'.heap.size → z.heap[i]? = w'.heap[i]?) → TxOk z z.heap.size (rttake s).1.2.1 (rttake s).1.2.2 A1 c1 A2 c2) ∧ RefAt w' B g (rttake s).2 ∧ w.grownBy w' (some g) := by
 obtain ⟨i1, hi1, hz10, hz11, hz12⟩ := info_parts info_rd
 obtain ⟨i2, hi2, hz20, hz21, hz22⟩ := info_parts info_wr
 obtain ⟨R, hR⟩ : ∃ R, R = rttake s := ⟨_, rfl⟩
 have HU : Hid (R = bif (rttake0 s).2.2 || !formed (rttake0 s).1.1.1 (rttake0 s).1.1.2 (rttake0 s).1.2.1 (rttake0 s).1.2.2 then (((0, 0), [], []), ((rttake0 s).2.1, true)) else rttake0 s) := by
  show _ = _
  rw [hR]; rfl
 rw [← hR]
 clear hR
 have hn1 := take_bound 1 (idtake s).2 (by omega)
 have hn2 := take_bound 1 (untl rtake (C.take 1 (idtake s).2).1 ([], (C.take 1 (idtake s).2).2)).2 (by omega)
 have HZ : Hid (rttake0 s = (((idtake s).1, (untl rtake (C.take 1 (idtake s).2).1 ([], (C.take 1 (idtake s).2).2)).1, (untl wtake (C.take 1 (untl rtake (C.take 1 (idtake s).2).1 ([], (C.take 1 (idtake s).2).2)).2).1 ([], (C.take 1 (untl rtake (C.take 1 (idtake s).2).1 ([], (C.take 1 (idtake s).2).2)).2).2)).1), (untl wtake (C.take 1 (untl rtake (C.take 1 (idtake s).2).1 ([], (C.take 1 (idtake s).2).2)).2).1 ([], (C.take 1 (untl rtake (C.take 1 (idtake s).2).1 ([], (C.take 1 (idtake s).2).2)).2).2)).2)) := rfl
 have T0 := Lib.hid (fun z (hz : RefAt z B g s) => rtakeid_any B g z s hz)
 generalize idtake s = r0 at hn1 hn2 HZ T0
 obtain ⟨⟨qs, qq⟩, s0⟩ := r0
 simp only at hn1 hn2 HZ T0
 have T1 := Lib.hid (fun z (hz : RefAt z B g s0) => rtake_any B g 1 s0 z hz)
 generalize C.take 1 s0 = r1 at hn1 hn2 HZ T1
 obtain ⟨n, s1⟩ := r1
 simp only at hn1 hn2 HZ T1
 have kn : IntKind.i64.wrap (n : Int) = (n : Int) := wrapI (by omega)
 have hn1 := show n < 256 from hn1
 obtain ⟨RS, hRS⟩ : ∃ RS, RS = untl rtake n ([], s1) := ⟨_, rfl⟩
 have HRS := Lib.hid hRS
 rw [← hRS] at hn2 HZ
 clear hRS
 have T2 := Lib.hid (fun z (hz : RefAt z B g RS.2) => rtake_any B g 1 RS.2 z hz)
 generalize C.take 1 RS.2 = r2 at hn2 HZ T2
 obtain ⟨m, s2⟩ := r2
 simp only at hn2 HZ T2
 have km : IntKind.i64.wrap (m : Int) = (m : Int) := wrapI (by omega)
 have hn2 := show m < 256 from hn2
 obtain ⟨WS, hWS⟩ : ∃ WS, WS = untl wtake m ([], s2) := ⟨_, rfl⟩
 have HWS := Lib.hid hWS
 rw [← hWS] at HZ
 clear hWS
 have hg : g < w.heap.size := h.lt.1
 have hBg : B ≤ g := h.lt.2
 have ee : w.grownBy w (some g) := ⟨rfl, rfl, rfl, Nat.le_refl _, fun _ _ _ => rfl⟩
 have rr := h
 clear h
 have ee := grownAllocR ee (.cells #[.int .i64 0, .int .i64 0, .slice none 0 0, .slice none 0 0] 30)
 have rr := RefAt.alloc rr (.cells #[.int .i64 0, .int .i64 0, .slice none 0 0, .slice none 0 0] 30)
 have Zr := hpN w (.cells #[.int .i64 0, .int .i64 0, .slice none 0 0, .slice none 0 0] 30) rfl
 go_enter Tryz.func92, Tryz.ntmps92
 go_upto_region 1 with fail
 generalize w.alloc (.cells #[.int .i64 0, .int .i64 0, .slice none 0 0, .slice none 0 0] 30) = w0 at Zr ee rr ⊢
 refine wp_region_lit ?_
 go_wp2_with fail
 refine (T0.out w0 rr).mono ?_
 rintro e z1 ⟨rfl, rr, t⟩
 have Zr := heapG Zr t (by omega)
 have ee := grownTrans ee t
 clear t
 clear T0
 dsimp only
 rename_i hK
 refine hK _ _ ?_
 clear hK
 iterate 6 go_step
 have lZr := (Array.getElem?_eq_some_iff.1 Zr).1
 have sz1 := ee.size
 have Zr := hpA Zr (.cells #[.int .i64 0, .int .i64 0, .slice none 0 0, .slice none 0 0] 30)
 have ee := grownAllocR ee (.cells #[.int .i64 0, .int .i64 0, .slice none 0 0, .slice none 0 0] 30)
 have rr := RefAt.alloc rr (.cells #[.int .i64 0, .int .i64 0, .slice none 0 0, .slice none 0 0] 30)
 have Zt := hpN z1 (.cells #[.int .i64 0, .int .i64 0, .slice none 0 0, .slice none 0 0] 30) rfl
 generalize z1.alloc (.cells #[.int .i64 0, .int .i64 0, .slice none 0 0, .slice none 0 0] 30) = z2 at Zr Zt ee rr ⊢
 iterate 27 (first | with_reducible refine isStore (ty := 30) rfl ?_ | go_step)
 refine wpList_store_row rfl 30 _ _ rfl (z1.heap.size) ([.int .i64 (qs : Int), .int .i64 (qq : Int), .slice none 0 0, .slice none 0 0]).toArray rfl rfl 30 _ Zt sizeTx (by rfl) (by simp [Value.oneCell']) ?_
 have N_ := setRow_heap z2 (z1.heap.size) _ ([.int .i64 (qs : Int), .int .i64 (qq : Int), .slice none 0 0, .slice none 0 0]).toArray _ _ Zt
 have ee := grownRowNew (cs := ([.int .i64 (qs : Int), .int .i64 (qq : Int), .slice none 0 0, .slice none 0 0]).toArray) ee (show w.heap.size ≤ z1.heap.size by omega) Zt
 have rr := RefAt.row (cs := ([.int .i64 (qs : Int), .int .i64 (qq : Int), .slice none 0 0, .slice none 0 0]).toArray) rr (show z1.heap.size ≠ g by omega) (by omega)
 have Zr := hpR Zr (g' := z1.heap.size) (by omega) ([.int .i64 (qs : Int), .int .i64 (qq : Int), .slice none 0 0, .slice none 0 0]).toArray
 clear Zt
 have Zt := N_
 clear N_
 generalize z2.setRow (z1.heap.size) ([.int .i64 (qs : Int), .int .i64 (qq : Int), .slice none 0 0, .slice none 0 0]).toArray = z3 at Zr Zt ee rr ⊢
 obtain ⟨gt, hgt⟩ : ∃ g_, g_ = z1.heap.size := ⟨_, rfl⟩
 have lgt : w.heap.size < gt := by rw [hgt]; exact lZr
 rw [← hgt] at Zt ⊢
 clear hgt
 go_wp2_with fail
 refine (T1.out z3 rr).mono ?_
 rintro e z4 ⟨rfl, rr, t⟩
 have Zr := heapG Zr t (by omega)
 have Zt := heapG Zt t (by omega)
 have ee := grownTrans ee t
 clear t
 clear T1
 go_wp2_with fail
 clear kn
 go_loopw [5] (fun iv wr => ∃ (k : Nat) (u : Value) (st : C.St) (rs : List Rd1), iv = .int .i64 (k : Int) ∧ k ≤ n ∧ rs.length = k ∧ Hid (RS = untl rtake (n - k) (rs, st)) ∧ Hid (∀ x ∈ rs, okR x) ∧ wr.ownsRow w.heap.size 161 2 u k (rs.flatMap encR) ∧ Hid (wr.heap[gt]? = some (.cells [.int .i64 (qs : Int), .int .i64 (qq : Int), u, .slice none 0 0].toArray 30)) ∧ Hid (wr.heap[w.heap.size]? = some (.cells #[.int .i64 0, .int .i64 0, .slice none 0 0, .slice none 0 0] 30)) ∧ RefAt wr B g st ∧ w.grownBy wr (some g)) (fun iv _ => n - (intOf iv).toNat)
 case atStart => exact ⟨0, .slice none 0 0, s1, [], rfl, Nat.zero_le _, rfl, HRS.out, fun x hx => by simp at hx, World.ownsRow_nil _ _ _ _, Zt, Zr, rr, ee⟩
 case round =>
  clear Zt Zr rr ee
  obtain ⟨k, u, st, rs, rfl, hk, hrl, HMY, HOK, hu, Zt, Zr, rr, ee⟩ := hrel
  have Zt := Zt.out
  have Zr := Zr.out
  obtain ⟨A1, c1, hu1, hc1, hm1, hB1⟩ := rowsOwn (enc := encR) (sz := 2) (fun _ => rfl) hu hrl.symm
  rw [hrl] at hu1 hc1
  subst hu1
  have cc := RefAt.cell rr
  by_cases hlt : k < n ∧ st.2 = false
  ·have f1 : decide ((k : Int) < (n : Int)) = true := by simp; omega
   rw [hlt.2] at cc
   have hk1 : k + 1 ≤ n := hlt.1
   have HS2 : Hid (RS = untl rtake (n - (k + 1)) (rs ++ [(rtake st).1], (rtake st).2)) := by
    show _ = _
    rw [HMY.out, show n - k = n - (k + 1) + 1 by omega, untl_step _ _ _ _ hlt.2]
   clear hlt hk
   have hv8 := take_bound 8 (C.text 12 st).2 (by omega)
   have HRT : Hid (rtake st = (((C.text 12 st).1, (C.take 8 (C.text 12 st).2).1), (C.take 8 (C.text 12 st).2).2)) := rfl
   have U1 := Lib.hid (fun z (hz : RefAt z B g st) => rtext_any B g 12 st z hz)
   have ht := text_len 12 st
   generalize C.text 12 st = r3 at hv8 HRT U1 ht
   obtain ⟨tx, t1⟩ := r3
   simp only at hv8 HRT U1 ht
   have U2 := Lib.hid (fun z (hz : RefAt z B g t1) => rtake_any B g 8 t1 z hz)
   generalize C.take 8 t1 = r4 at hv8 HRT U2
   obtain ⟨vx, t2⟩ := r4
   simp only at hv8 HRT U2
   have hv8 := show vx < 18446744073709551616 from hv8
   rw [HRT.out] at HS2
   clear HRT HMY
   go_wp2_with fail
   refine (U1.out wr rr).mono ?_
   rintro e z5 ⟨rfl, rr, t⟩
   have Zr := heapG Zr t (by omega)
   have Zt := heapG Zt t (by omega)
   have hu := hu.kept t (ownNe hu hg)
   have ee := grownTrans ee t
   clear t
   go_upto_region 7 with fail
   clear f1 U1
   have Zr : z5.drew.heap[w.heap.size]? = some (.cells #[.int .i64 0, .int .i64 0, .slice none 0 0, .slice none 0 0] 30) := Zr
   have Zt : z5.drew.heap[gt]? = some (.cells [.int .i64 (qs : Int), .int .i64 (qq : Int), .slice A1 k c1, .slice none 0 0].toArray 30) := Zt
   have hu := World.ownsRow.drew hu
   have ee := grownDrewS ee
   have rr := RefAt.drewS rr
   refine wp_region_held_drew (S := fun _ => True) (by kernel_rfl) trivial (fun hH => ?_)
   clear hH
   generalize z5.drew = z6 at Zr Zt hu ee rr ⊢
   refine zU 0 (.pointer (some ⟨gt, 2, none⟩)) rfl trivial ?_
   try simp only [Act.put, zL]
   refine zU 2 (.string ⟨tx.toArray⟩) rfl trivial ?_
   try simp only [Act.put, zL]
   refine zU 3 (.pointer (some ⟨g, 0, none⟩)) rfl trivial ?_
   try simp only [Act.put, zL]
   refine wpAnyH_ready (rs := [1, 4]) (by kernel_rfl) (by simp) ?_
   refine AllReadyH.cons rfl (fun K hK => ?_) (AllReadyH.cons rfl (fun K hK => ?_) AllReadyH.nil)
   ·rw [if_pos (by rfl)]
    have c_ := rowCell Zt 2 (v := .slice A1 k c1) rfl
    go_simp
    clear c_
    refine hK.out _ _ trivial (fun hH => ?_)
    clear hK K hH
    try simp only [Act.put, zL]
    refine wpAnyH_ready (rs := [4]) (by kernel_rfl) (by simp) ?_
    refine AllReadyH.cons rfl (fun K hK => ?_) AllReadyH.nil
    rw [if_pos (by rfl)]
    go_simp
    go_wp2_with (go_at_call 44; refine (U2.out z6 rr).mono ?_; rintro e z7 ⟨rfl, rr, t⟩)
    have Zr := heapG Zr t (by omega)
    have Zt := heapG Zt t (by omega)
    have hu := hu.kept t (ownNe hu hg)
    have ee := grownTrans ee t
    clear t
    refine hK.out _ _ trivial (fun hH => ?_)
    clear hK K hH
    try simp only [Act.put, zL]
    refine zU 5 (.agg (encR (tx, vx)).toArray) rfl trivial ?_
    try simp only [Act.put, zL]
    refine wpAnyH_ready (rs := [6]) (by kernel_rfl) (by simp) ?_
    refine AllReadyH.cons rfl (fun K hK => ?_) AllReadyH.nil
    rw [if_pos (by rfl)]
    refine wp_buildSlice 27 161 1 #[(0, .tmp 35)] rfl (encR (tx, vx)).toArray i1 (.agg #[.string ⟨#[]⟩, .int .u64 0]) Tryz.underlying27 hi1 hz10 (by rw [hz11]; decide) (by rw [hz11]; decide) (by rw [hz11]; simp only [List.map_toArray, List.map_cons, List.map_nil]; exact fillR _ _ (by simp)) ?_
    have lZr := (Array.getElem?_eq_some_iff.1 Zr).1
    have lZt := (Array.getElem?_eq_some_iff.1 Zt).1
    have sz7 := ee.size
    have Zr := hpA Zr (.cells (encR (tx, vx)).toArray 161)
    have Zt := hpA Zt (.cells (encR (tx, vx)).toArray 161)
    have hu := hu.alloc (.cells (encR (tx, vx)).toArray 161)
    have ee := grownAllocR ee (.cells (encR (tx, vx)).toArray 161)
    have rr := RefAt.alloc rr (.cells (encR (tx, vx)).toArray 161)
    have Zi := hpN z7 (.cells (encR (tx, vx)).toArray 161) rfl
    generalize z7.alloc (.cells (encR (tx, vx)).toArray 161) = z8 at Zr Zt Zi hu ee rr ⊢
    refine hK.out _ _ trivial (fun hH => ?_)
    clear hK K hH
    try simp only [Act.put, zL]
    refine wpAnyH_ready (rs := [7]) (by kernel_rfl) (by simp) ?_
    refine AllReadyH.cons rfl (fun K hK => ?_) AllReadyH.nil
    rw [if_pos (by rfl)]
    refine wp_append_own _ (.tmp 31) (.tmp 36) 27 rfl w.heap.size 161 i1 (.agg #[.string ⟨#[]⟩, .int .u64 0]) 2 24 Tryz.underlying27 hi1 hz10 hz11 hz12 rfl (by decide) _ _ _ rfl hu ⟨z7.heap.size, 0, none⟩ 1 1 (encR (tx, vx)) rfl rfl (rowAdd Zi) (encR_mem _) (by unfold maxLen; omega) (by omega) ee.size ?_
    intro u_ z9 ho_ hg_ _
    clear Zi
    obtain ⟨A9, c9, hu9, _, _, _⟩ := ownShape ho_
    subst hu9
    have Zr := heapOwn Zr hu (by decide) hg_
    have Zt := heapOwn Zt hu (by decide) hg_
    have rr := RefAt.own rr hu hg_ hg
    have ee := grownOwn ee hu hg_
    clear hg_ hu
    have hu := ho_
    clear ho_
    refine hK.out _ _ trivial (fun hH => ?_)
    clear hK K hH
    try simp only [Act.put, zL]
    refine zU 8 (.pointer (some ⟨gt, 2, none⟩)) rfl trivial ?_
    try simp only [Act.put, zL]
    refine wpAnyH_ready (rs := [9]) (by kernel_rfl) (by simp) ?_
    refine AllReadyH.cons rfl (fun K hK => ?_) AllReadyH.nil
    rw [if_pos (by rfl)]
    have f_ : z9.frozen? ⟨gt, 2, none⟩ = false := freeAt Zt 2
    have c_ := rowCell Zt 2 rfl
    go_simp
    clear f_ c_
    have hu := ownSet1 hu (ownKind hu Zt (by decide)) 2 (.slice A9 (k + 1) c9)
    have N_ : (z9.setCells (gt) 2 [(.slice A9 (k + 1) c9)]).heap[gt]? = some (.cells ([.int .i64 (qs : Int), .int .i64 (qq : Int), .slice A9 (k + 1) c9, .slice none 0 0]).toArray 30) := hpC [(.slice A9 (k + 1) c9)] 2 _ z9 Zt
    have Zr := hpCo (g' := gt) (by omega) [(.slice A9 (k + 1) c9)] 2 z9 Zr
    have ee := grownSet1 ee (show w.heap.size ≤ gt by omega) 2 (.slice A9 (k + 1) c9)
    have rr := RefAt.set1 rr (show gt ≠ g by omega) (by omega) 2 (.slice A9 (k + 1) c9)
    clear Zt
    have Zt := N_
    clear N_
    change K _ (z9.setCells (gt) 2 [(.slice A9 (k + 1) c9)])
    generalize z9.setCells (gt) 2 [(.slice A9 (k + 1) c9)] = z10 at Zr Zt hu ee rr ⊢
    refine hK.out _ _ trivial (fun hH => ?_)
    clear hK K hH
    try simp only [Act.put, zL]
    refine wpAnyH_done (by kernel_rfl) ?_ _
    clear U2
    go_wp2_with fail
    go_roundw
    case rel => exact ⟨k + 1, .slice A9 (k + 1) c9, _, _, by go_num, hk1, by rw [List.length_append, hrl]; rfl, HS2, okR_snoc HOK.out ht hv8, by rw [List.flatMap_append]; simpa using hu, Zt, Zr, rr, ee⟩
    case measure => simp [intOf]; omega
   ·rw [if_pos (by rfl)]
    go_simp
    go_wp2_with (go_at_call 44; refine (U2.out z6 rr).mono ?_; rintro e z7 ⟨rfl, rr, t⟩)
    have Zr := heapG Zr t (by omega)
    have Zt := heapG Zt t (by omega)
    have hu := hu.kept t (ownNe hu hg)
    have ee := grownTrans ee t
    clear t
    refine hK.out _ _ trivial (fun hH => ?_)
    clear hK K hH
    try simp only [Act.put, zL]
    refine zU 5 (.agg (encR (tx, vx)).toArray) rfl trivial ?_
    try simp only [Act.put, zL]
    refine wpAnyH_ready (rs := [1, 6]) (by kernel_rfl) (by simp) ?_
    refine AllReadyH.cons rfl (fun K hK => ?_) (AllReadyH.cons rfl (fun K hK => ?_) AllReadyH.nil)
    ·rw [if_pos (by rfl)]
     have c_ := rowCell Zt 2 (v := .slice A1 k c1) rfl
     go_simp
     clear c_
     refine hK.out _ _ trivial (fun hH => ?_)
     clear hK K hH
     try simp only [Act.put, zL]
     refine wpAnyH_ready (rs := [6]) (by kernel_rfl) (by simp) ?_
     refine AllReadyH.cons rfl (fun K hK => ?_) AllReadyH.nil
     rw [if_pos (by rfl)]
     refine wp_buildSlice 27 161 1 #[(0, .tmp 35)] rfl (encR (tx, vx)).toArray i1 (.agg #[.string ⟨#[]⟩, .int .u64 0]) Tryz.underlying27 hi1 hz10 (by rw [hz11]; decide) (by rw [hz11]; decide) (by rw [hz11]; simp only [List.map_toArray, List.map_cons, List.map_nil]; exact fillR _ _ (by simp)) ?_
     have lZr := (Array.getElem?_eq_some_iff.1 Zr).1
     have lZt := (Array.getElem?_eq_some_iff.1 Zt).1
     have sz7 := ee.size
     have Zr := hpA Zr (.cells (encR (tx, vx)).toArray 161)
     have Zt := hpA Zt (.cells (encR (tx, vx)).toArray 161)
     have hu := hu.alloc (.cells (encR (tx, vx)).toArray 161)
     have ee := grownAllocR ee (.cells (encR (tx, vx)).toArray 161)
     have rr := RefAt.alloc rr (.cells (encR (tx, vx)).toArray 161)
     have Zi := hpN z7 (.cells (encR (tx, vx)).toArray 161) rfl
     generalize z7.alloc (.cells (encR (tx, vx)).toArray 161) = z8 at Zr Zt Zi hu ee rr ⊢
     refine hK.out _ _ trivial (fun hH => ?_)
     clear hK K hH
     try simp only [Act.put, zL]
     refine wpAnyH_ready (rs := [7]) (by kernel_rfl) (by simp) ?_
     refine AllReadyH.cons rfl (fun K hK => ?_) AllReadyH.nil
     rw [if_pos (by rfl)]
     refine wp_append_own _ (.tmp 31) (.tmp 36) 27 rfl w.heap.size 161 i1 (.agg #[.string ⟨#[]⟩, .int .u64 0]) 2 24 Tryz.underlying27 hi1 hz10 hz11 hz12 rfl (by decide) _ _ _ rfl hu ⟨z7.heap.size, 0, none⟩ 1 1 (encR (tx, vx)) rfl rfl (rowAdd Zi) (encR_mem _) (by unfold maxLen; omega) (by omega) ee.size ?_
     intro u_ z9 ho_ hg_ _
     clear Zi
     obtain ⟨A9, c9, hu9, _, _, _⟩ := ownShape ho_
     subst hu9
     have Zr := heapOwn Zr hu (by decide) hg_
     have Zt := heapOwn Zt hu (by decide) hg_
     have rr := RefAt.own rr hu hg_ hg
     have ee := grownOwn ee hu hg_
     clear hg_ hu
     have hu := ho_
     clear ho_
     refine hK.out _ _ trivial (fun hH => ?_)
     clear hK K hH
     try simp only [Act.put, zL]
     refine zU 8 (.pointer (some ⟨gt, 2, none⟩)) rfl trivial ?_
     try simp only [Act.put, zL]
     refine wpAnyH_ready (rs := [9]) (by kernel_rfl) (by simp) ?_
     refine AllReadyH.cons rfl (fun K hK => ?_) AllReadyH.nil
     rw [if_pos (by rfl)]
     have f_ : z9.frozen? ⟨gt, 2, none⟩ = false := freeAt Zt 2
     have c_ := rowCell Zt 2 rfl
     go_simp
     clear f_ c_
     have hu := ownSet1 hu (ownKind hu Zt (by decide)) 2 (.slice A9 (k + 1) c9)
     have N_ : (z9.setCells (gt) 2 [(.slice A9 (k + 1) c9)]).heap[gt]? = some (.cells ([.int .i64 (qs : Int), .int .i64 (qq : Int), .slice A9 (k + 1) c9, .slice none 0 0]).toArray 30) := hpC [(.slice A9 (k + 1) c9)] 2 _ z9 Zt
     have Zr := hpCo (g' := gt) (by omega) [(.slice A9 (k + 1) c9)] 2 z9 Zr
     have ee := grownSet1 ee (show w.heap.size ≤ gt by omega) 2 (.slice A9 (k + 1) c9)
     have rr := RefAt.set1 rr (show gt ≠ g by omega) (by omega) 2 (.slice A9 (k + 1) c9)
     clear Zt
     have Zt := N_
     clear N_
     change K _ (z9.setCells (gt) 2 [(.slice A9 (k + 1) c9)])
     generalize z9.setCells (gt) 2 [(.slice A9 (k + 1) c9)] = z10 at Zr Zt hu ee rr ⊢
     refine hK.out _ _ trivial (fun hH => ?_)
     clear hK K hH
     try simp only [Act.put, zL]
     refine wpAnyH_done (by kernel_rfl) ?_ _
     clear U2
     go_wp2_with fail
     go_roundw
     case rel => exact ⟨k + 1, .slice A9 (k + 1) c9, _, _, by go_num, hk1, by rw [List.length_append, hrl]; rfl, HS2, okR_snoc HOK.out ht hv8, by rw [List.flatMap_append]; simpa using hu, Zt, Zr, rr, ee⟩
     case measure => simp [intOf]; omega
    ·rw [if_pos (by rfl)]
     refine wp_buildSlice 27 161 1 #[(0, .tmp 35)] rfl (encR (tx, vx)).toArray i1 (.agg #[.string ⟨#[]⟩, .int .u64 0]) Tryz.underlying27 hi1 hz10 (by rw [hz11]; decide) (by rw [hz11]; decide) (by rw [hz11]; simp only [List.map_toArray, List.map_cons, List.map_nil]; exact fillR _ _ (by simp)) ?_
     have lZr := (Array.getElem?_eq_some_iff.1 Zr).1
     have lZt := (Array.getElem?_eq_some_iff.1 Zt).1
     have sz7 := ee.size
     have Zr := hpA Zr (.cells (encR (tx, vx)).toArray 161)
     have Zt := hpA Zt (.cells (encR (tx, vx)).toArray 161)
     have hu := hu.alloc (.cells (encR (tx, vx)).toArray 161)
     have ee := grownAllocR ee (.cells (encR (tx, vx)).toArray 161)
     have rr := RefAt.alloc rr (.cells (encR (tx, vx)).toArray 161)
     have Zi := hpN z7 (.cells (encR (tx, vx)).toArray 161) rfl
     generalize z7.alloc (.cells (encR (tx, vx)).toArray 161) = z8 at Zr Zt Zi hu ee rr ⊢
     refine hK.out _ _ trivial (fun hH => ?_)
     clear hK K hH
     try simp only [Act.put, zL]
     refine wpAnyH_ready (rs := [1]) (by kernel_rfl) (by simp) ?_
     refine AllReadyH.cons rfl (fun K hK => ?_) AllReadyH.nil
     rw [if_pos (by rfl)]
     have c_ := rowCell Zt 2 (v := .slice A1 k c1) rfl
     go_simp
     clear c_
     refine hK.out _ _ trivial (fun hH => ?_)
     clear hK K hH
     try simp only [Act.put, zL]
     refine wpAnyH_ready (rs := [7]) (by kernel_rfl) (by simp) ?_
     refine AllReadyH.cons rfl (fun K hK => ?_) AllReadyH.nil
     rw [if_pos (by rfl)]
     refine wp_append_own _ (.tmp 31) (.tmp 36) 27 rfl w.heap.size 161 i1 (.agg #[.string ⟨#[]⟩, .int .u64 0]) 2 24 Tryz.underlying27 hi1 hz10 hz11 hz12 rfl (by decide) _ _ _ rfl hu ⟨z7.heap.size, 0, none⟩ 1 1 (encR (tx, vx)) rfl rfl (rowAdd Zi) (encR_mem _) (by unfold maxLen; omega) (by omega) ee.size ?_
     intro u_ z9 ho_ hg_ _
     clear Zi
     obtain ⟨A9, c9, hu9, _, _, _⟩ := ownShape ho_
     subst hu9
     have Zr := heapOwn Zr hu (by decide) hg_
     have Zt := heapOwn Zt hu (by decide) hg_
     have rr := RefAt.own rr hu hg_ hg
     have ee := grownOwn ee hu hg_
     clear hg_ hu
     have hu := ho_
     clear ho_
     refine hK.out _ _ trivial (fun hH => ?_)
     clear hK K hH
     try simp only [Act.put, zL]
     refine zU 8 (.pointer (some ⟨gt, 2, none⟩)) rfl trivial ?_
     try simp only [Act.put, zL]
     refine wpAnyH_ready (rs := [9]) (by kernel_rfl) (by simp) ?_
     refine AllReadyH.cons rfl (fun K hK => ?_) AllReadyH.nil
     rw [if_pos (by rfl)]
     have f_ : z9.frozen? ⟨gt, 2, none⟩ = false := freeAt Zt 2
     have c_ := rowCell Zt 2 rfl
     go_simp
     clear f_ c_
     have hu := ownSet1 hu (ownKind hu Zt (by decide)) 2 (.slice A9 (k + 1) c9)
     have N_ : (z9.setCells (gt) 2 [(.slice A9 (k + 1) c9)]).heap[gt]? = some (.cells ([.int .i64 (qs : Int), .int .i64 (qq : Int), .slice A9 (k + 1) c9, .slice none 0 0]).toArray 30) := hpC [(.slice A9 (k + 1) c9)] 2 _ z9 Zt
     have Zr := hpCo (g' := gt) (by omega) [(.slice A9 (k + 1) c9)] 2 z9 Zr
     have ee := grownSet1 ee (show w.heap.size ≤ gt by omega) 2 (.slice A9 (k + 1) c9)
     have rr := RefAt.set1 rr (show gt ≠ g by omega) (by omega) 2 (.slice A9 (k + 1) c9)
     clear Zt
     have Zt := N_
     clear N_
     change K _ (z9.setCells (gt) 2 [(.slice A9 (k + 1) c9)])
     generalize z9.setCells (gt) 2 [(.slice A9 (k + 1) c9)] = z10 at Zr Zt hu ee rr ⊢
     refine hK.out _ _ trivial (fun hH => ?_)
     clear hK K hH
     try simp only [Act.put, zL]
     refine wpAnyH_done (by kernel_rfl) ?_ _
     clear U2
     go_wp2_with fail
     go_roundw
     case rel => exact ⟨k + 1, .slice A9 (k + 1) c9, _, _, by go_num, hk1, by rw [List.length_append, hrl]; rfl, HS2, okR_snoc HOK.out ht hv8, by rw [List.flatMap_append]; simpa using hu, Zt, Zr, rr, ee⟩
     case measure => simp [intOf]; omega
  ·have HRS2 : Hid (RS = (rs, st)) := by
    show _ = _
    rw [HMY.out]
    cases hs : st.2 with
    | true => exact untl_stop _ _ _ _ hs
    | false =>
      have e : n - k = 0 := by
       have : ¬ k < n := fun h => hlt ⟨h, hs⟩
       omega
      rw [e]; rfl
   have hlt2 : k < n → st.2 = true := fun h => by
    cases hs : st.2 with
    | true => rfl
    | false => exact absurd ⟨h, hs⟩ hlt
   clear hk HMY hlt
   go_upto_region 4 with fail
   go_cut [25] (fun u25 wx => u25 = .bool false ∧ RefAt wx B g st ∧ wx.ownsRow w.heap.size 161 2 (.slice A1 k c1) k (rs.flatMap encR) ∧ Hid (wx.heap[gt]? = some (.cells [.int .i64 (qs : Int), .int .i64 (qq : Int), .slice A1 k c1, .slice none 0 0].toArray 30)) ∧ Hid (wx.heap[w.heap.size]? = some (.cells #[.int .i64 0, .int .i64 0, .slice none 0 0, .slice none 0 0] 30)) ∧ w.grownBy wx (some g))
   case first =>
    by_cases hkn : k < n
    ·have f1 : decide ((k : Int) < (n : Int)) = true := by simp; omega
     rw [hlt2 hkn] at cc
     go_wp2_with fail
     go_meet
     exact ⟨rfl, rr, hu, Zt, Zr, ee⟩
    ·have f1 : decide ((k : Int) < (n : Int)) = false := by simp; omega
     go_wp2_with fail
     go_meet
     exact ⟨rfl, rr, hu, Zt, Zr, ee⟩
   case rest =>
    clear cc Zt Zr rr ee hu hlt2
    obtain ⟨rfl, rr, hu, Zt, Zr, ee⟩ := hcut
    have nm : ∀ z : World, w.grownBy z (some g) → ∃ z', z' = z := fun z _ => ⟨z, rfl⟩
    obtain ⟨y2, hzn⟩ := nm _ ee
    subst hzn
    clear nm
    have Zt := Zt.out
    have Zr := Zr.out
    have rr : RefAt y2 B g RS.2 := by rw [HRS2.out]; exact rr
    go_wp2_with fail
    refine (T2.out y2 rr).mono ?_
    rintro e z201 ⟨rfl, rr, t⟩
    have Zr := heapG Zr t (by omega)
    have Zt := heapG Zt t (by omega)
    have hu := hu.kept t (ownNe hu hg)
    have ee := grownTrans ee t
    clear t
    clear T2
    go_wp2_with fail
    clear km
    go_loopw [8] (fun iv wr => ∃ (j : Nat) (v : Value) (st2 : C.St) (ws : List Wr1), iv = .int .i64 (j : Int) ∧ j ≤ m ∧ ws.length = j ∧ Hid (WS = untl wtake (m - j) (ws, st2)) ∧ Hid (∀ x ∈ ws, okW x) ∧ wr.ownsRow w.heap.size 163 4 v j (ws.flatMap encW) ∧ wr.ownsRow w.heap.size 161 2 (.slice A1 k c1) k (rs.flatMap encR) ∧ Hid (wr.heap[gt]? = some (.cells [.int .i64 (qs : Int), .int .i64 (qq : Int), .slice A1 k c1, v].toArray 30)) ∧ Hid (wr.heap[w.heap.size]? = some (.cells #[.int .i64 0, .int .i64 0, .slice none 0 0, .slice none 0 0] 30)) ∧ RefAt wr B g st2 ∧ w.grownBy wr (some g)) (fun iv _ => m - (intOf iv).toNat)
    case atStart => exact ⟨0, .slice none 0 0, s2, [], rfl, Nat.zero_le _, rfl, HWS.out, fun x hx => by simp at hx, World.ownsRow_nil _ _ _ _, hu, Zt, Zr, rr, ee⟩
    case round =>
     clear Zt Zr rr ee hu
     obtain ⟨j, v, st2, ws, rfl, hj, hwl, HMY, HOW, hv, hu, Zt, Zr, rr, ee⟩ := hrel
     have Zt := Zt.out
     have Zr := Zr.out
     obtain ⟨A2, c2, hv1, hc2, hm2, hB2⟩ := rowsOwn (enc := encW) (sz := 4) (fun _ => rfl) hv hwl.symm
     rw [hwl] at hv1 hc2
     subst hv1
     have cc := RefAt.cell rr
     by_cases hlt : j < m ∧ st2.2 = false
     ·have f1 : decide ((j : Int) < (m : Int)) = true := by simp; omega
      rw [hlt.2] at cc
      have hk1 : j + 1 ≤ m := hlt.1
      have HS2 : Hid (WS = untl wtake (m - (j + 1)) (ws ++ [(wtake st2).1], (wtake st2).2)) := by
       show _ = _
       rw [HMY.out, show m - j = m - (j + 1) + 1 by omega, untl_step _ _ _ _ hlt.2]
      clear hlt hj
      have HRT : Hid (wtake st2 = (((C.text 12 st2).1, ((V.take (C.text 12 st2).2).1.1 : Int), (V.take (C.text 12 st2).2).1.2.1, (V.take (C.text 12 st2).2).1.2.2), (V.take (C.text 12 st2).2).2)) := rfl
      have U1 := Lib.hid (fun z (hz : RefAt z B g st2) => rtext_any B g 12 st2 z hz)
      have ht := text_len 12 st2
      generalize C.text 12 st2 = r3 at HRT U1 ht
      obtain ⟨tx, t1⟩ := r3
      simp only at HRT U1 ht
      have U2 := Lib.hid (fun z (hz : RefAt z B g t1) => rvtake_any B g z t1 hz)
      have hvo := vtake_ok t1
      simp only [V.val] at U2
      generalize V.take t1 = r4 at hvo HRT U2
      obtain ⟨⟨vk, vb, vt⟩, t2⟩ := r4
      simp only at hvo HRT U2
      rw [HRT.out] at HS2
      clear HRT HMY
      go_wp2_with fail
      refine (U1.out wr rr).mono ?_
      rintro e z202 ⟨rfl, rr, t⟩
      have Zr := heapG Zr t (by omega)
      have Zt := heapG Zt t (by omega)
      have hv := hv.kept t (ownNe hv hg)
      have hu := hu.kept t (ownNe hu hg)
      have ee := grownTrans ee t
      clear t
      go_upto_region 13 with fail
      clear f1 U1
      have Zr : z202.drew.heap[w.heap.size]? = some (.cells #[.int .i64 0, .int .i64 0, .slice none 0 0, .slice none 0 0] 30) := Zr
      have Zt : z202.drew.heap[gt]? = some (.cells [.int .i64 (qs : Int), .int .i64 (qq : Int), .slice A1 k c1, .slice A2 j c2].toArray 30) := Zt
      have hv := World.ownsRow.drew hv
      have hu := World.ownsRow.drew hu
      have ee := grownDrewS ee
      have rr := RefAt.drewS rr
      refine wp_region_held_drew (S := fun _ => True) (by kernel_rfl) trivial (fun hH => ?_)
      clear hH
      generalize z202.drew = z203 at Zr Zt hv hu ee rr ⊢
      refine zU 0 (.pointer (some ⟨gt, 3, none⟩)) rfl trivial ?_
      try simp only [Act.put, zL]
      refine zU 2 (.string ⟨tx.toArray⟩) rfl trivial ?_
      try simp only [Act.put, zL]
      refine zU 3 (.pointer (some ⟨g, 0, none⟩)) rfl trivial ?_
      try simp only [Act.put, zL]
      refine wpAnyH_ready (rs := [1, 4]) (by kernel_rfl) (by simp) ?_
      refine AllReadyH.cons rfl (fun K hK => ?_) (AllReadyH.cons rfl (fun K hK => ?_) AllReadyH.nil)
      ·rw [if_pos (by rfl)]
       have c_ := rowCell Zt 3 (v := .slice A2 j c2) rfl
       go_simp
       clear c_
       refine hK.out _ _ trivial (fun hH => ?_)
       clear hK K hH
       try simp only [Act.put, zL]
       refine wpAnyH_ready (rs := [4]) (by kernel_rfl) (by simp) ?_
       refine AllReadyH.cons rfl (fun K hK => ?_) AllReadyH.nil
       rw [if_pos (by rfl)]
       go_simp
       go_wp2_with (go_at_call 78; refine (U2.out z203 rr).mono ?_; rintro e z204 ⟨rfl, rr, t⟩)
       have Zr := heapG Zr t (by omega)
       have Zt := heapG Zt t (by omega)
       have hv := hv.kept t (ownNe hv hg)
       have hu := hu.kept t (ownNe hu hg)
       have ee := grownTrans ee t
       clear t
       refine hK.out _ _ trivial (fun hH => ?_)
       clear hK K hH
       try simp only [Act.put, zL]
       refine zU 5 (.agg (encW (tx, (vk : Int), vb, vt)).toArray) rfl trivial ?_
       try simp only [Act.put, zL]
       refine wpAnyH_ready (rs := [6]) (by kernel_rfl) (by simp) ?_
       refine AllReadyH.cons rfl (fun K hK => ?_) AllReadyH.nil
       rw [if_pos (by rfl)]
       refine wp_buildSlice 28 163 1 #[(0, .tmp 61)] rfl (encW (tx, (vk : Int), vb, vt)).toArray i2 (.agg #[.string ⟨#[]⟩, .int .i64 0, .int .u64 0, .string ⟨#[]⟩]) Tryz.underlying28 hi2 hz20 (by rw [hz21]; decide) (by rw [hz21]; decide) (by rw [hz21]; simp only [List.map_toArray, List.map_cons, List.map_nil]; exact fillW _ _ (by simp)) ?_
       have lZr := (Array.getElem?_eq_some_iff.1 Zr).1
       have lZt := (Array.getElem?_eq_some_iff.1 Zt).1
       have sz204 := ee.size
       have Zr := hpA Zr (.cells (encW (tx, (vk : Int), vb, vt)).toArray 163)
       have Zt := hpA Zt (.cells (encW (tx, (vk : Int), vb, vt)).toArray 163)
       have hv := hv.alloc (.cells (encW (tx, (vk : Int), vb, vt)).toArray 163)
       have hu := hu.alloc (.cells (encW (tx, (vk : Int), vb, vt)).toArray 163)
       have ee := grownAllocR ee (.cells (encW (tx, (vk : Int), vb, vt)).toArray 163)
       have rr := RefAt.alloc rr (.cells (encW (tx, (vk : Int), vb, vt)).toArray 163)
       have Zi := hpN z204 (.cells (encW (tx, (vk : Int), vb, vt)).toArray 163) rfl
       generalize z204.alloc (.cells (encW (tx, (vk : Int), vb, vt)).toArray 163) = z205 at Zr Zt Zi hv hu ee rr ⊢
       refine hK.out _ _ trivial (fun hH => ?_)
       clear hK K hH
       try simp only [Act.put, zL]
       refine wpAnyH_ready (rs := [7]) (by kernel_rfl) (by simp) ?_
       refine AllReadyH.cons rfl (fun K hK => ?_) AllReadyH.nil
       rw [if_pos (by rfl)]
       refine wp_append_own _ (.tmp 57) (.tmp 62) 28 rfl w.heap.size 163 i2 (.agg #[.string ⟨#[]⟩, .int .i64 0, .int .u64 0, .string ⟨#[]⟩]) 4 48 Tryz.underlying28 hi2 hz20 hz21 hz22 rfl (by decide) _ _ _ rfl hv ⟨z204.heap.size, 0, none⟩ 1 1 (encW (tx, (vk : Int), vb, vt)) rfl rfl (rowAdd Zi) (encW_mem _) (by unfold maxLen; omega) (by omega) ee.size ?_
       intro u_ z206 ho_ hg_ _
       clear Zi
       obtain ⟨A9, c9, hu9, _, _, _⟩ := ownShape ho_
       subst hu9
       have Zr := heapOwn Zr hv (by decide) hg_
       have Zt := heapOwn Zt hv (by decide) hg_
       have hu := hu.kept hg_ (own_ne hv hu (by decide))
       have rr := RefAt.own rr hv hg_ hg
       have ee := grownOwn ee hv hg_
       clear hg_ hv
       have hv := ho_
       clear ho_
       refine hK.out _ _ trivial (fun hH => ?_)
       clear hK K hH
       try simp only [Act.put, zL]
       refine zU 8 (.pointer (some ⟨gt, 3, none⟩)) rfl trivial ?_
       try simp only [Act.put, zL]
       refine wpAnyH_ready (rs := [9]) (by kernel_rfl) (by simp) ?_
       refine AllReadyH.cons rfl (fun K hK => ?_) AllReadyH.nil
       rw [if_pos (by rfl)]
       have f_ : z206.frozen? ⟨gt, 3, none⟩ = false := freeAt Zt 3
       have c_ := rowCell Zt 3 rfl
       go_simp
       clear f_ c_
       have hv := ownSet1 hv (ownKind hv Zt (by decide)) 3 (.slice A9 (j + 1) c9)
       have hu := ownSet1 hu (ownKind hu Zt (by decide)) 3 (.slice A9 (j + 1) c9)
       have N_ : (z206.setCells (gt) 3 [(.slice A9 (j + 1) c9)]).heap[gt]? = some (.cells ([.int .i64 (qs : Int), .int .i64 (qq : Int), .slice A1 k c1, .slice A9 (j + 1) c9]).toArray 30) := hpC [(.slice A9 (j + 1) c9)] 3 _ z206 Zt
       have Zr := hpCo (g' := gt) (by omega) [(.slice A9 (j + 1) c9)] 3 z206 Zr
       have ee := grownSet1 ee (show w.heap.size ≤ gt by omega) 3 (.slice A9 (j + 1) c9)
       have rr := RefAt.set1 rr (show gt ≠ g by omega) (by omega) 3 (.slice A9 (j + 1) c9)
       clear Zt
       have Zt := N_
       clear N_
       change K _ (z206.setCells (gt) 3 [(.slice A9 (j + 1) c9)])
       generalize z206.setCells (gt) 3 [(.slice A9 (j + 1) c9)] = z207 at Zr Zt hv hu ee rr ⊢
       refine hK.out _ _ trivial (fun hH => ?_)
       clear hK K hH
       try simp only [Act.put, zL]
       refine wpAnyH_done (by kernel_rfl) ?_ _
       clear U2
       go_wp2_with fail
       go_roundw
       case rel => exact ⟨j + 1, .slice A9 (j + 1) c9, _, _, by go_num, hk1, by rw [List.length_append, hwl]; rfl, HS2, okW_snoc HOW.out ht hvo.1 hvo.2, by rw [List.flatMap_append]; simpa using hv, hu, Zt, Zr, rr, ee⟩
       case measure => simp [intOf]; omega
      ·rw [if_pos (by rfl)]
       go_simp
       go_wp2_with (go_at_call 78; refine (U2.out z203 rr).mono ?_; rintro e z204 ⟨rfl, rr, t⟩)
       have Zr := heapG Zr t (by omega)
       have Zt := heapG Zt t (by omega)
       have hv := hv.kept t (ownNe hv hg)
       have hu := hu.kept t (ownNe hu hg)
       have ee := grownTrans ee t
       clear t
       refine hK.out _ _ trivial (fun hH => ?_)
       clear hK K hH
       try simp only [Act.put, zL]
       refine zU 5 (.agg (encW (tx, (vk : Int), vb, vt)).toArray) rfl trivial ?_
       try simp only [Act.put, zL]
       refine wpAnyH_ready (rs := [1, 6]) (by kernel_rfl) (by simp) ?_
       refine AllReadyH.cons rfl (fun K hK => ?_) (AllReadyH.cons rfl (fun K hK => ?_) AllReadyH.nil)
       ·rw [if_pos (by rfl)]
        have c_ := rowCell Zt 3 (v := .slice A2 j c2) rfl
        go_simp
        clear c_
        refine hK.out _ _ trivial (fun hH => ?_)
        clear hK K hH
        try simp only [Act.put, zL]
        refine wpAnyH_ready (rs := [6]) (by kernel_rfl) (by simp) ?_
        refine AllReadyH.cons rfl (fun K hK => ?_) AllReadyH.nil
        rw [if_pos (by rfl)]
        refine wp_buildSlice 28 163 1 #[(0, .tmp 61)] rfl (encW (tx, (vk : Int), vb, vt)).toArray i2 (.agg #[.string ⟨#[]⟩, .int .i64 0, .int .u64 0, .string ⟨#[]⟩]) Tryz.underlying28 hi2 hz20 (by rw [hz21]; decide) (by rw [hz21]; decide) (by rw [hz21]; simp only [List.map_toArray, List.map_cons, List.map_nil]; exact fillW _ _ (by simp)) ?_
        have lZr := (Array.getElem?_eq_some_iff.1 Zr).1
        have lZt := (Array.getElem?_eq_some_iff.1 Zt).1
        have sz204 := ee.size
        have Zr := hpA Zr (.cells (encW (tx, (vk : Int), vb, vt)).toArray 163)
        have Zt := hpA Zt (.cells (encW (tx, (vk : Int), vb, vt)).toArray 163)
        have hv := hv.alloc (.cells (encW (tx, (vk : Int), vb, vt)).toArray 163)
        have hu := hu.alloc (.cells (encW (tx, (vk : Int), vb, vt)).toArray 163)
        have ee := grownAllocR ee (.cells (encW (tx, (vk : Int), vb, vt)).toArray 163)
        have rr := RefAt.alloc rr (.cells (encW (tx, (vk : Int), vb, vt)).toArray 163)
        have Zi := hpN z204 (.cells (encW (tx, (vk : Int), vb, vt)).toArray 163) rfl
        generalize z204.alloc (.cells (encW (tx, (vk : Int), vb, vt)).toArray 163) = z205 at Zr Zt Zi hv hu ee rr ⊢
        refine hK.out _ _ trivial (fun hH => ?_)
        clear hK K hH
        try simp only [Act.put, zL]
        refine wpAnyH_ready (rs := [7]) (by kernel_rfl) (by simp) ?_
        refine AllReadyH.cons rfl (fun K hK => ?_) AllReadyH.nil
        rw [if_pos (by rfl)]
        refine wp_append_own _ (.tmp 57) (.tmp 62) 28 rfl w.heap.size 163 i2 (.agg #[.string ⟨#[]⟩, .int .i64 0, .int .u64 0, .string ⟨#[]⟩]) 4 48 Tryz.underlying28 hi2 hz20 hz21 hz22 rfl (by decide) _ _ _ rfl hv ⟨z204.heap.size, 0, none⟩ 1 1 (encW (tx, (vk : Int), vb, vt)) rfl rfl (rowAdd Zi) (encW_mem _) (by unfold maxLen; omega) (by omega) ee.size ?_
        intro u_ z206 ho_ hg_ _
        clear Zi
        obtain ⟨A9, c9, hu9, _, _, _⟩ := ownShape ho_
        subst hu9
        have Zr := heapOwn Zr hv (by decide) hg_
        have Zt := heapOwn Zt hv (by decide) hg_
        have hu := hu.kept hg_ (own_ne hv hu (by decide))
        have rr := RefAt.own rr hv hg_ hg
        have ee := grownOwn ee hv hg_
        clear hg_ hv
        have hv := ho_
        clear ho_
        refine hK.out _ _ trivial (fun hH => ?_)
        clear hK K hH
        try simp only [Act.put, zL]
        refine zU 8 (.pointer (some ⟨gt, 3, none⟩)) rfl trivial ?_
        try simp only [Act.put, zL]
        refine wpAnyH_ready (rs := [9]) (by kernel_rfl) (by simp) ?_
        refine AllReadyH.cons rfl (fun K hK => ?_) AllReadyH.nil
        rw [if_pos (by rfl)]
        have f_ : z206.frozen? ⟨gt, 3, none⟩ = false := freeAt Zt 3
        have c_ := rowCell Zt 3 rfl
        go_simp
        clear f_ c_
        have hv := ownSet1 hv (ownKind hv Zt (by decide)) 3 (.slice A9 (j + 1) c9)
        have hu := ownSet1 hu (ownKind hu Zt (by decide)) 3 (.slice A9 (j + 1) c9)
        have N_ : (z206.setCells (gt) 3 [(.slice A9 (j + 1) c9)]).heap[gt]? = some (.cells ([.int .i64 (qs : Int), .int .i64 (qq : Int), .slice A1 k c1, .slice A9 (j + 1) c9]).toArray 30) := hpC [(.slice A9 (j + 1) c9)] 3 _ z206 Zt
        have Zr := hpCo (g' := gt) (by omega) [(.slice A9 (j + 1) c9)] 3 z206 Zr
        have ee := grownSet1 ee (show w.heap.size ≤ gt by omega) 3 (.slice A9 (j + 1) c9)
        have rr := RefAt.set1 rr (show gt ≠ g by omega) (by omega) 3 (.slice A9 (j + 1) c9)
        clear Zt
        have Zt := N_
        clear N_
        change K _ (z206.setCells (gt) 3 [(.slice A9 (j + 1) c9)])
        generalize z206.setCells (gt) 3 [(.slice A9 (j + 1) c9)] = z207 at Zr Zt hv hu ee rr ⊢
        refine hK.out _ _ trivial (fun hH => ?_)
        clear hK K hH
        try simp only [Act.put, zL]
        refine wpAnyH_done (by kernel_rfl) ?_ _
        clear U2
        go_wp2_with fail
        go_roundw
        case rel => exact ⟨j + 1, .slice A9 (j + 1) c9, _, _, by go_num, hk1, by rw [List.length_append, hwl]; rfl, HS2, okW_snoc HOW.out ht hvo.1 hvo.2, by rw [List.flatMap_append]; simpa using hv, hu, Zt, Zr, rr, ee⟩
        case measure => simp [intOf]; omega
       ·rw [if_pos (by rfl)]
        refine wp_buildSlice 28 163 1 #[(0, .tmp 61)] rfl (encW (tx, (vk : Int), vb, vt)).toArray i2 (.agg #[.string ⟨#[]⟩, .int .i64 0, .int .u64 0, .string ⟨#[]⟩]) Tryz.underlying28 hi2 hz20 (by rw [hz21]; decide) (by rw [hz21]; decide) (by rw [hz21]; simp only [List.map_toArray, List.map_cons, List.map_nil]; exact fillW _ _ (by simp)) ?_
        have lZr := (Array.getElem?_eq_some_iff.1 Zr).1
        have lZt := (Array.getElem?_eq_some_iff.1 Zt).1
        have sz204 := ee.size
        have Zr := hpA Zr (.cells (encW (tx, (vk : Int), vb, vt)).toArray 163)
        have Zt := hpA Zt (.cells (encW (tx, (vk : Int), vb, vt)).toArray 163)
        have hv := hv.alloc (.cells (encW (tx, (vk : Int), vb, vt)).toArray 163)
        have hu := hu.alloc (.cells (encW (tx, (vk : Int), vb, vt)).toArray 163)
        have ee := grownAllocR ee (.cells (encW (tx, (vk : Int), vb, vt)).toArray 163)
        have rr := RefAt.alloc rr (.cells (encW (tx, (vk : Int), vb, vt)).toArray 163)
        have Zi := hpN z204 (.cells (encW (tx, (vk : Int), vb, vt)).toArray 163) rfl
        generalize z204.alloc (.cells (encW (tx, (vk : Int), vb, vt)).toArray 163) = z205 at Zr Zt Zi hv hu ee rr ⊢
        refine hK.out _ _ trivial (fun hH => ?_)
        clear hK K hH
        try simp only [Act.put, zL]
        refine wpAnyH_ready (rs := [1]) (by kernel_rfl) (by simp) ?_
        refine AllReadyH.cons rfl (fun K hK => ?_) AllReadyH.nil
        rw [if_pos (by rfl)]
        have c_ := rowCell Zt 3 (v := .slice A2 j c2) rfl
        go_simp
        clear c_
        refine hK.out _ _ trivial (fun hH => ?_)
        clear hK K hH
        try simp only [Act.put, zL]
        refine wpAnyH_ready (rs := [7]) (by kernel_rfl) (by simp) ?_
        refine AllReadyH.cons rfl (fun K hK => ?_) AllReadyH.nil
        rw [if_pos (by rfl)]
        refine wp_append_own _ (.tmp 57) (.tmp 62) 28 rfl w.heap.size 163 i2 (.agg #[.string ⟨#[]⟩, .int .i64 0, .int .u64 0, .string ⟨#[]⟩]) 4 48 Tryz.underlying28 hi2 hz20 hz21 hz22 rfl (by decide) _ _ _ rfl hv ⟨z204.heap.size, 0, none⟩ 1 1 (encW (tx, (vk : Int), vb, vt)) rfl rfl (rowAdd Zi) (encW_mem _) (by unfold maxLen; omega) (by omega) ee.size ?_
        intro u_ z206 ho_ hg_ _
        clear Zi
        obtain ⟨A9, c9, hu9, _, _, _⟩ := ownShape ho_
        subst hu9
        have Zr := heapOwn Zr hv (by decide) hg_
        have Zt := heapOwn Zt hv (by decide) hg_
        have hu := hu.kept hg_ (own_ne hv hu (by decide))
        have rr := RefAt.own rr hv hg_ hg
        have ee := grownOwn ee hv hg_
        clear hg_ hv
        have hv := ho_
        clear ho_
        refine hK.out _ _ trivial (fun hH => ?_)
        clear hK K hH
        try simp only [Act.put, zL]
        refine zU 8 (.pointer (some ⟨gt, 3, none⟩)) rfl trivial ?_
        try simp only [Act.put, zL]
        refine wpAnyH_ready (rs := [9]) (by kernel_rfl) (by simp) ?_
        refine AllReadyH.cons rfl (fun K hK => ?_) AllReadyH.nil
        rw [if_pos (by rfl)]
        have f_ : z206.frozen? ⟨gt, 3, none⟩ = false := freeAt Zt 3
        have c_ := rowCell Zt 3 rfl
        go_simp
        clear f_ c_
        have hv := ownSet1 hv (ownKind hv Zt (by decide)) 3 (.slice A9 (j + 1) c9)
        have hu := ownSet1 hu (ownKind hu Zt (by decide)) 3 (.slice A9 (j + 1) c9)
        have N_ : (z206.setCells (gt) 3 [(.slice A9 (j + 1) c9)]).heap[gt]? = some (.cells ([.int .i64 (qs : Int), .int .i64 (qq : Int), .slice A1 k c1, .slice A9 (j + 1) c9]).toArray 30) := hpC [(.slice A9 (j + 1) c9)] 3 _ z206 Zt
        have Zr := hpCo (g' := gt) (by omega) [(.slice A9 (j + 1) c9)] 3 z206 Zr
        have ee := grownSet1 ee (show w.heap.size ≤ gt by omega) 3 (.slice A9 (j + 1) c9)
        have rr := RefAt.set1 rr (show gt ≠ g by omega) (by omega) 3 (.slice A9 (j + 1) c9)
        clear Zt
        have Zt := N_
        clear N_
        change K _ (z206.setCells (gt) 3 [(.slice A9 (j + 1) c9)])
        generalize z206.setCells (gt) 3 [(.slice A9 (j + 1) c9)] = z207 at Zr Zt hv hu ee rr ⊢
        refine hK.out _ _ trivial (fun hH => ?_)
        clear hK K hH
        try simp only [Act.put, zL]
        refine wpAnyH_done (by kernel_rfl) ?_ _
        clear U2
        go_wp2_with fail
        go_roundw
        case rel => exact ⟨j + 1, .slice A9 (j + 1) c9, _, _, by go_num, hk1, by rw [List.length_append, hwl]; rfl, HS2, okW_snoc HOW.out ht hvo.1 hvo.2, by rw [List.flatMap_append]; simpa using hv, hu, Zt, Zr, rr, ee⟩
        case measure => simp [intOf]; omega
     ·have HWS2 : Hid (WS = (ws, st2)) := by
       show _ = _
       rw [HMY.out]
       cases hs : st2.2 with
       | true => exact untl_stop _ _ _ _ hs
       | false =>
         have e : m - j = 0 := by
          have : ¬ j < m := fun h => hlt ⟨h, hs⟩
          omega
         rw [e]; rfl
      have hlt2 : j < m → st2.2 = true := fun h => by
       cases hs : st2.2 with
       | true => rfl
       | false => exact absurd ⟨h, hs⟩ hlt
      clear hj HMY hlt
      go_upto_region 10 with fail
      go_cut [51] (fun u51 wx => u51 = .bool false ∧ RefAt wx B g st2 ∧ wx.ownsRow w.heap.size 163 4 (.slice A2 j c2) j (ws.flatMap encW) ∧ wx.ownsRow w.heap.size 161 2 (.slice A1 k c1) k (rs.flatMap encR) ∧ Hid (wx.heap[gt]? = some (.cells [.int .i64 (qs : Int), .int .i64 (qq : Int), .slice A1 k c1, .slice A2 j c2].toArray 30)) ∧ Hid (wx.heap[w.heap.size]? = some (.cells #[.int .i64 0, .int .i64 0, .slice none 0 0, .slice none 0 0] 30)) ∧ w.grownBy wx (some g))
      case first =>
       by_cases hkn : j < m
       ·have f1 : decide ((j : Int) < (m : Int)) = true := by simp; omega
        rw [hlt2 hkn] at cc
        go_wp2_with fail
        go_meet
        exact ⟨rfl, rr, hv, hu, Zt, Zr, ee⟩
       ·have f1 : decide ((j : Int) < (m : Int)) = false := by simp; omega
        go_wp2_with fail
        go_meet
        exact ⟨rfl, rr, hv, hu, Zt, Zr, ee⟩
      case rest =>
       clear cc Zt Zr rr ee hu hv hlt2
       obtain ⟨rfl, rr, hv, hu, Zt, Zr, ee⟩ := hcut
       have nm : ∀ z : World, w.grownBy z (some g) → ∃ z', z' = z := fun z _ => ⟨z, rfl⟩
       obtain ⟨y3, hzn⟩ := nm _ ee
       subst hzn
       clear nm
       have Zt := Zt.out
       have Zr := Zr.out
       have HZ2 : Hid (rttake0 s = (((qs, qq), rs, ws), st2)) := by show _ = _; rw [HZ.out, HWS2.out, HRS2.out]
       rw [HZ2.out] at HU
       simp only at HU
       have okx := txOwn hu hv hrl hwl HOK.out HOW.out
       have HFM := Lib.hid (fun z (hz : Below y3.heap.size y3 z) => rtformed_any (qs : Int) (qq : Int) rs ws A1 c1 A2 c2 z y3.heap.size hz.size (okx.below hz (Nat.le_refl _)))
       rw [hrl, hwl] at HFM
       generalize formed (qs : Int) (qq : Int) rs ws = fm at HU HFM
       clear okx HZ HZ2 HRS HRS2 HWS HWS2
       obtain ⟨ls, f⟩ := st2
       simp only at HU
       have cc := RefAt.cell rr
       simp only at cc
       go_upto_region 14 with fail
       cases f with
       | true =>
         have HR : Hid (R = (((0, 0), [], []), (ls, true))) := HU.out
         clear HU HFM
         go_upto_region 15 with fail
         clear cc
         clear hu hv
         have fr_ := RefAt.free rr
         have cc_ := RefAt.cell rr
         go_upto_region 16 with fail
         clear fr_ cc_
         have Zr := hpS Zr (p := ⟨g, 2, none⟩) (by show _ ≠ g; omega) (.bool true)
         have Zt := hpS Zt (p := ⟨g, 2, none⟩) (by show _ ≠ g; omega) (.bool true)
         have rr := RefAt.fails rr
         have ee := grownFail ee (.bool true)
         generalize y3.setCell ⟨g, 2, none⟩ (.bool true) = z301 at Zr Zt ee rr ⊢
         refine wp_region_lit ?_
         iterate 27 (first | with_reducible refine isStore (ty := 30) rfl ?_ | go_step)
         refine wpList_store_row rfl 30 _ _ rfl (w.heap.size) ([.int .i64 0, .int .i64 0, .slice none 0 0, .slice none 0 0]).toArray rfl rfl 30 _ Zr sizeTx (by rfl) (by simp [Value.oneCell']) ?_
         have N_ := setRow_heap z301 (w.heap.size) _ ([.int .i64 0, .int .i64 0, .slice none 0 0, .slice none 0 0]).toArray _ _ Zr
         have ee := grownRowNew (cs := ([.int .i64 0, .int .i64 0, .slice none 0 0, .slice none 0 0]).toArray) ee (show w.heap.size ≤ w.heap.size by omega) Zr
         have rr := RefAt.row (cs := ([.int .i64 0, .int .i64 0, .slice none 0 0, .slice none 0 0]).toArray) rr (show w.heap.size ≠ g by omega) (by omega)
         have Zt := hpR Zt (g' := w.heap.size) (by omega) ([.int .i64 0, .int .i64 0, .slice none 0 0, .slice none 0 0]).toArray
         clear Zr
         have Zr := N_
         clear N_
         generalize z301.setRow (w.heap.size) ([.int .i64 0, .int .i64 0, .slice none 0 0, .slice none 0 0]).toArray = z302 at Zr Zt ee rr ⊢
         go_wp2_with fail
         refine bodyPost_ret (v := .agg [.int .i64 0, .int .i64 0, .slice none 0 0, .slice none 0 0].toArray) (results_cell_row rfl _ _ (w.heap.size) 30 _ (0, 0) _ rfl Zr Tryz.underlying30 rfl sizeTx) rfl ⟨⟨none, 0, none, 0, by rw [HR.out]; rfl, by rw [HR.out]; exact fun z _ => TxOk.zero⟩, by rw [HR.out]; exact rr, ee⟩
       | false =>
         refine wp_region_lit ?_
         iterate 27 (first | with_reducible refine isLoad (ty := 30) rfl ?_ | go_step)
         refine wpList_load_g (by rfl) 30 _ rfl (gt) 0 rfl ([.int .i64 (qs : Int), .int .i64 (qq : Int), .slice A1 k c1, .slice A2 j c2]) _ (rowAt Zt) Tryz.underlying30 rfl sizeTx ?_
         clear cc
         go_wp2_with fail
         refine (HFM.out y3 (Below.refl _ _)).mono ?_
         rintro e z301 ⟨rfl, t⟩
         have Zr := hpB Zr t
         have Zt := hpB Zt t
         have hv := ownBelow hv t
         have hu := ownBelow hu t
         have ee := grownBelow ee t
         have rr := RefAt.below rr t
         clear t
         cases fm with
         | false =>
           have HR : Hid (R = (((0, 0), [], []), (ls, true))) := HU.out
           clear HU HFM
           go_upto_region 15 with fail
           clear hu hv
           have fr_ := RefAt.free rr
           have cc_ := RefAt.cell rr
           go_upto_region 16 with fail
           clear fr_ cc_
           have Zr := hpS Zr (p := ⟨g, 2, none⟩) (by show _ ≠ g; omega) (.bool true)
           have Zt := hpS Zt (p := ⟨g, 2, none⟩) (by show _ ≠ g; omega) (.bool true)
           have rr := RefAt.fails rr
           have ee := grownFail ee (.bool true)
           generalize z301.setCell ⟨g, 2, none⟩ (.bool true) = z302 at Zr Zt ee rr ⊢
           refine wp_region_lit ?_
           iterate 27 (first | with_reducible refine isStore (ty := 30) rfl ?_ | go_step)
           refine wpList_store_row rfl 30 _ _ rfl (w.heap.size) ([.int .i64 0, .int .i64 0, .slice none 0 0, .slice none 0 0]).toArray rfl rfl 30 _ Zr sizeTx (by rfl) (by simp [Value.oneCell']) ?_
           have N_ := setRow_heap z302 (w.heap.size) _ ([.int .i64 0, .int .i64 0, .slice none 0 0, .slice none 0 0]).toArray _ _ Zr
           have ee := grownRowNew (cs := ([.int .i64 0, .int .i64 0, .slice none 0 0, .slice none 0 0]).toArray) ee (show w.heap.size ≤ w.heap.size by omega) Zr
           have rr := RefAt.row (cs := ([.int .i64 0, .int .i64 0, .slice none 0 0, .slice none 0 0]).toArray) rr (show w.heap.size ≠ g by omega) (by omega)
           have Zt := hpR Zt (g' := w.heap.size) (by omega) ([.int .i64 0, .int .i64 0, .slice none 0 0, .slice none 0 0]).toArray
           clear Zr
           have Zr := N_
           clear N_
           generalize z302.setRow (w.heap.size) ([.int .i64 0, .int .i64 0, .slice none 0 0, .slice none 0 0]).toArray = z303 at Zr Zt ee rr ⊢
           go_wp2_with fail
           refine bodyPost_ret (v := .agg [.int .i64 0, .int .i64 0, .slice none 0 0, .slice none 0 0].toArray) (results_cell_row rfl _ _ (w.heap.size) 30 _ (0, 0) _ rfl Zr Tryz.underlying30 rfl sizeTx) rfl ⟨⟨none, 0, none, 0, by rw [HR.out]; rfl, by rw [HR.out]; exact fun z _ => TxOk.zero⟩, by rw [HR.out]; exact rr, ee⟩
         | true =>
           have HR : Hid (R = (((qs, qq), rs, ws), (ls, false))) := HU.out
           clear HU HFM
           go_upto_region 17 with fail
           refine wp_region_lit ?_
           iterate 27 (first | with_reducible refine isLoad (ty := 30) rfl ?_ | go_step)
           refine wpList_load_mid rfl 30 _ rfl (gt) 0 rfl ([.int .i64 (qs : Int), .int .i64 (qq : Int), .slice A1 k c1, .slice A2 j c2]) _ (rowAt Zt) Tryz.underlying30 rfl sizeTx ?_
           iterate 27 (first | with_reducible refine isStore (ty := 30) rfl ?_ | go_step)
           refine wpList_store_row rfl 30 _ _ rfl (w.heap.size) ([.int .i64 (qs : Int), .int .i64 (qq : Int), .slice A1 k c1, .slice A2 j c2]).toArray rfl rfl 30 _ Zr sizeTx (by rfl) (by simp [Value.oneCell']) ?_
           have N_ := setRow_heap z301 (w.heap.size) _ ([.int .i64 (qs : Int), .int .i64 (qq : Int), .slice A1 k c1, .slice A2 j c2]).toArray _ _ Zr
           have ee := grownRowNew (cs := ([.int .i64 (qs : Int), .int .i64 (qq : Int), .slice A1 k c1, .slice A2 j c2]).toArray) ee (show w.heap.size ≤ w.heap.size by omega) Zr
           have rr := RefAt.row (cs := ([.int .i64 (qs : Int), .int .i64 (qq : Int), .slice A1 k c1, .slice A2 j c2]).toArray) rr (show w.heap.size ≠ g by omega) (by omega)
           have Zt := hpR Zt (g' := w.heap.size) (by omega) ([.int .i64 (qs : Int), .int .i64 (qq : Int), .slice A1 k c1, .slice A2 j c2]).toArray
           have hv := ownRowK (cs := ([.int .i64 (qs : Int), .int .i64 (qq : Int), .slice A1 k c1, .slice A2 j c2]).toArray) hv (ownKind hv Zr (by decide))
           have hu := ownRowK (cs := ([.int .i64 (qs : Int), .int .i64 (qq : Int), .slice A1 k c1, .slice A2 j c2]).toArray) hu (ownKind hu Zr (by decide))
           clear Zr
           have Zr := N_
           clear N_
           generalize z301.setRow (w.heap.size) ([.int .i64 (qs : Int), .int .i64 (qq : Int), .slice A1 k c1, .slice A2 j c2]).toArray = z302 at Zr Zt hv hu ee rr ⊢
           go_wp2_with fail
           refine bodyPost_ret (v := .agg [.int .i64 (qs : Int), .int .i64 (qq : Int), .slice A1 k c1, .slice A2 j c2].toArray) (results_cell_row rfl _ _ (w.heap.size) 30 _ (0, 0) _ rfl Zr Tryz.underlying30 rfl sizeTx) rfl ⟨⟨A1, c1, A2, c2, by rw [HR.out]; simp only [hrl, hwl], by rw [HR.out]; exact fun z hk => txOwn (ownFresh hu hk) (ownFresh hv hk) hrl hwl HOK.out HOW.out⟩, by rw [HR.out]; exact rr, ee⟩
end Go.Proofs.YtjofjpmhokjhnaaGreatDoor
