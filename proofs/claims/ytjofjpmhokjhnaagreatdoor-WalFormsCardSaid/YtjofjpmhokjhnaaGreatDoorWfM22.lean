import Derived.Test.YtjofjpmhokjhnaaGreatDoorWfM21
import Derived.Test.YtjofjpmhokjhnaaGreatDoorWfM14
set_option linter.unusedSimpArgs false
set_option linter.unusedVariables false
namespace Go.Proofs.YtjofjpmhokjhnaaGreatDoor
set_option maxRecDepth 20000
open Go.RowKit T
set_option maxHeartbeats 12800000 in
theorem ttake_any (B g : Nat) (w : World) (s : C.St) (h : RdrAt w B g s) (hT : TabsAt B w) :
 Calls Tryz.prog 69 #[.pointer (some ⟨g, 0, none⟩)] w fun e w' => (∃ (A1 : Option Addr) (c1 : Nat) (A2 : Option Addr) (c2 : Nat), e = .returned (.agg [.int .i64 ((ttake s).1.1.1 : Int), .int .i64 ((ttake s).1.1.2 : Int), .slice A1 (ttake s).1.2.1.length c1, .slice A2 (ttake s).1.2.2.length c2].toArray) ∧ ∀ z : World, (∀ i, w.heap.size ≤ i → i < w'.heap.size → z.heap[i]? = w'.heap[i]?) → TxOk z z.heap.size (ttake s).1.2.1 (ttake s).1.2.2 A1 c1 A2 c2) ∧ RdrAt w' B g (ttake s).2 ∧ w.grownBy w' (some g) := by
 obtain ⟨i1, hi1, hz10, hz11, hz12⟩ := info_parts info_rd
 obtain ⟨i2, hi2, hz20, hz21, hz22⟩ := info_parts info_wr
 obtain ⟨R, hR⟩ : ∃ R, R = ttake s := ⟨_, rfl⟩
 have HU : Hid (R = bif (ttake0 s).2.2 || !formed (ttake0 s).1.1.1 (ttake0 s).1.1.2 (ttake0 s).1.2.1 (ttake0 s).1.2.2 then (((0, 0), [], []), ((ttake0 s).2.1, true)) else ttake0 s) := by
  show _ = _
  rw [hR]; rfl
 rw [← hR]
 clear hR
 have hn1 := take_bound 1 (idtake s).2 (by omega)
 have hn2 := take_bound 1 (six (many rtake (min (C.take 1 (idtake s).2).1 7) ([], (C.take 1 (idtake s).2).2))) (by omega)
 have HZ : Hid (ttake0 s = (((idtake s).1, (many rtake (min (C.take 1 (idtake s).2).1 7) ([], (C.take 1 (idtake s).2).2)).1, (many wtake (min (C.take 1 (six (many rtake (min (C.take 1 (idtake s).2).1 7) ([], (C.take 1 (idtake s).2).2)))).1 7) ([], (C.take 1 (six (many rtake (min (C.take 1 (idtake s).2).1 7) ([], (C.take 1 (idtake s).2).2)))).2)).1), (many wtake (min (C.take 1 (six (many rtake (min (C.take 1 (idtake s).2).1 7) ([], (C.take 1 (idtake s).2).2)))).1 7) ([], (C.take 1 (six (many rtake (min (C.take 1 (idtake s).2).1 7) ([], (C.take 1 (idtake s).2).2)))).2)).2)) := rfl
 have T0 := Lib.hid (fun z (hz : RdrAt z B g s) => takeid_any B g z s hz)
 generalize idtake s = r0 at hn1 hn2 HZ T0
 obtain ⟨⟨qs, qq⟩, s0⟩ := r0
 simp only at hn1 hn2 HZ T0
 have T1 := Lib.hid (fun z (hz : RdrAt z B g s0) => take_any B g 1 s0 z hz)
 generalize C.take 1 s0 = r1 at hn1 hn2 HZ T1
 obtain ⟨n, s1⟩ := r1
 simp only at hn1 hn2 HZ T1
 have kn : IntKind.i64.wrap (n : Int) = (n : Int) := wrapI (by omega)
 have hn1 := show n < 256 from hn1
 obtain ⟨RS, hRS⟩ : ∃ RS, RS = many rtake (min n 7) ([], s1) := ⟨_, rfl⟩
 have HRS := Lib.hid hRS
 rw [← hRS] at hn2 HZ
 clear hRS
 have T2 := Lib.hid (fun z (hz : RdrAt z B g (six RS)) => take_any B g 1 (six RS) z hz)
 generalize C.take 1 (six RS) = r2 at hn2 HZ T2
 obtain ⟨m, s2⟩ := r2
 simp only at hn2 HZ T2
 have km : IntKind.i64.wrap (m : Int) = (m : Int) := wrapI (by omega)
 have hn2 := show m < 256 from hn2
 obtain ⟨WS, hWS⟩ : ∃ WS, WS = many wtake (min m 7) ([], s2) := ⟨_, rfl⟩
 have HWS := Lib.hid hWS
 rw [← hWS] at HZ
 clear hWS
 have tt := hT
 clear hT
 have tt := TabsAt.alloc tt (.cells #[.int .i64 0, .int .i64 0, .slice none 0 0, .slice none 0 0] 30)
 have hg : g < w.heap.size := h.lt.1
 have hBg : B ≤ g := h.lt.2
 have ee : w.grownBy w (some g) := ⟨rfl, rfl, rfl, Nat.le_refl _, fun _ _ _ => rfl⟩
 have rr := h
 clear h
 have ee := grownAllocR ee (.cells #[.int .i64 0, .int .i64 0, .slice none 0 0, .slice none 0 0] 30)
 have rr := RdrAt.alloc rr (.cells #[.int .i64 0, .int .i64 0, .slice none 0 0, .slice none 0 0] 30)
 have Zr := hpN w (.cells #[.int .i64 0, .int .i64 0, .slice none 0 0, .slice none 0 0] 30) rfl
 go_enter Tryz.func69, Tryz.ntmps69
 go_upto_region 1 with fail
 generalize w.alloc (.cells #[.int .i64 0, .int .i64 0, .slice none 0 0, .slice none 0 0] 30) = w0 at Zr ee rr tt ⊢
 refine wp_region_lit ?_
 go_wp2_with fail
 refine (T0.out w0 rr).mono ?_
 rintro e z1 ⟨rfl, rr, t⟩
 have Zr := heapG Zr t (by omega)
 have tt := TabsAt.grown tt t hBg
 have ee := grownTrans ee t
 clear t
 clear T0
 dsimp only
 rename_i hK
 refine hK _ _ ?_
 clear hK
 iterate 6 go_step
 have lZr := (Array.getElem?_eq_some_iff.1 Zr).1
 have sz1 := ee.size
 have Zr := hpA Zr (.cells #[.int .i64 0, .int .i64 0, .slice none 0 0, .slice none 0 0] 30)
 have ee := grownAllocR ee (.cells #[.int .i64 0, .int .i64 0, .slice none 0 0, .slice none 0 0] 30)
 have rr := RdrAt.alloc rr (.cells #[.int .i64 0, .int .i64 0, .slice none 0 0, .slice none 0 0] 30)
 have tt := TabsAt.alloc tt (.cells #[.int .i64 0, .int .i64 0, .slice none 0 0, .slice none 0 0] 30)
 have Zt := hpN z1 (.cells #[.int .i64 0, .int .i64 0, .slice none 0 0, .slice none 0 0] 30) rfl
 generalize z1.alloc (.cells #[.int .i64 0, .int .i64 0, .slice none 0 0, .slice none 0 0] 30) = z2 at Zr Zt tt ee rr ⊢
 iterate 27 (first | with_reducible refine isStore (ty := 30) rfl ?_ | go_step)
 refine wpList_store_row rfl 30 _ _ rfl (z1.heap.size) ([.int .i64 (qs : Int), .int .i64 (qq : Int), .slice none 0 0, .slice none 0 0]).toArray rfl rfl 30 _ Zt sizeTx (by rfl) (by simp [Value.oneCell']) ?_
 have N_ := setRow_heap z2 (z1.heap.size) _ ([.int .i64 (qs : Int), .int .i64 (qq : Int), .slice none 0 0, .slice none 0 0]).toArray _ _ Zt
 have ee := grownRowNew (cs := ([.int .i64 (qs : Int), .int .i64 (qq : Int), .slice none 0 0, .slice none 0 0]).toArray) ee (show w.heap.size ≤ z1.heap.size by omega) Zt
 have rr := RdrAt.row (cs := ([.int .i64 (qs : Int), .int .i64 (qq : Int), .slice none 0 0, .slice none 0 0]).toArray) rr (show z1.heap.size ≠ g by omega) (by omega)
 have Zr := hpR Zr (g' := z1.heap.size) (by omega) ([.int .i64 (qs : Int), .int .i64 (qq : Int), .slice none 0 0, .slice none 0 0]).toArray
 have tt := TabsAt.row (cs := ([.int .i64 (qs : Int), .int .i64 (qq : Int), .slice none 0 0, .slice none 0 0]).toArray) tt (show B ≤ z1.heap.size by omega)
 clear Zt
 have Zt := N_
 clear N_
 generalize z2.setRow (z1.heap.size) ([.int .i64 (qs : Int), .int .i64 (qq : Int), .slice none 0 0, .slice none 0 0]).toArray = z3 at Zr Zt tt ee rr ⊢
 obtain ⟨gt, hgt⟩ : ∃ g_, g_ = z1.heap.size := ⟨_, rfl⟩
 have lgt : w.heap.size < gt := by rw [hgt]; exact lZr
 rw [← hgt] at Zt ⊢
 clear hgt
 go_wp2_with fail
 refine (T1.out z3 rr).mono ?_
 rintro e z4 ⟨rfl, rr, t⟩
 have Zr := heapG Zr t (by omega)
 have Zt := heapG Zt t (by omega)
 have tt := TabsAt.grown tt t hBg
 have ee := grownTrans ee t
 clear t
 clear T1
 go_wp2_with fail
 clear kn
 go_loopw [12] (fun _ wr => ∃ (k : Nat) (u : Value) (st : C.St) (rs : List Rd1), k ≤ min n 7 ∧ rs.length = k ∧ Hid (many rtake k ([], s1) = (rs, st)) ∧ Hid (∀ x ∈ rs, okR x) ∧ wr.ownsRow w.heap.size 161 2 u k (rs.flatMap encR) ∧ Hid (wr.heap[gt]? = some (.cells [.int .i64 (qs : Int), .int .i64 (qq : Int), u, .slice none 0 0].toArray 30)) ∧ Hid (wr.heap[w.heap.size]? = some (.cells #[.int .i64 0, .int .i64 0, .slice none 0 0, .slice none 0 0] 30)) ∧ RdrAt wr B g st ∧ TabsAt B wr ∧ w.grownBy wr (some g)) (fun _ wr => 8 - sliceLen wr ⟨gt, 2, none⟩)
 case atStart => exact ⟨0, .slice none 0 0, s1, [], Nat.zero_le _, rfl, rfl, fun x hx => by simp at hx, World.ownsRow_nil _ _ _ _, Zt, Zr, rr, tt, ee⟩
 case round =>
  clear Zt Zr rr tt ee
  obtain ⟨k, u, st, rs, hk, hrl, HMY, HOK, hu, Zt, Zr, rr, tt, ee⟩ := hrel
  have Zt := Zt.out
  have Zr := Zr.out
  have HU0 := Lib.hid hu
  obtain ⟨A1, c1, hu1, hc1, hm1, hB1⟩ := rowsOwn (enc := encR) (sz := 2) (fun _ => rfl) hu hrl.symm
  rw [hrl] at hu1 hc1
  subst hu1
  have x2 := rowCell Zt 2 (v := .slice A1 k c1) rfl
  have hlen := sliceLen_of x2
  clear HU0
  by_cases hlt : k < n ∧ k ≤ 6
  ·have f1 : decide ((k : Int) < (n : Int)) = true := by simp; omega
   have f2 : decide ((k : Int) ≤ 6) = true := by simp; omega
   have hkk := hlt.2
   have hk8 : k + 1 ≤ min n 7 := by omega
   clear hlt hk
   have hv8 := take_bound 8 (C.text 12 st).2 (by omega)
   have HS2 : Hid (many rtake (k + 1) ([], s1) = (rs ++ [(rtake st).1], (rtake st).2)) := by show _ = _; rw [many_succ, HMY.out]
   have HRT : Hid (rtake st = (((C.text 12 st).1, (C.take 8 (C.text 12 st).2).1), (C.take 8 (C.text 12 st).2).2)) := rfl
   have U1 := Lib.hid (fun z (hz : RdrAt z B g st) => text_any B g 12 st z hz)
   have ht := text_len 12 st
   generalize C.text 12 st = r3 at hv8 HRT U1 ht
   obtain ⟨tx, t1⟩ := r3
   simp only at hv8 HRT U1 ht
   have U2 := Lib.hid (fun z (hz : RdrAt z B g t1) => take_any B g 8 t1 z hz)
   generalize C.take 8 t1 = r4 at hv8 HRT U2
   obtain ⟨vx, t2⟩ := r4
   simp only at hv8 HRT U2
   have hv8 := show vx < 18446744073709551616 from hv8
   rw [HRT.out] at HS2
   clear HRT HMY
   go_upto_region 4 with fail
   clear f1 f2 x2
   have Zr : wr.drew.heap[w.heap.size]? = some (.cells #[.int .i64 0, .int .i64 0, .slice none 0 0, .slice none 0 0] 30) := Zr
   have Zt : wr.drew.heap[gt]? = some (.cells [.int .i64 (qs : Int), .int .i64 (qq : Int), .slice A1 k c1, .slice none 0 0].toArray 30) := Zt
   have hu := World.ownsRow.drew hu
   have tt := TabsAt.drewS tt
   have ee := grownDrewS ee
   have rr := RdrAt.drewS rr
   refine wp_region_held_drew (S := fun _ => True) (by kernel_rfl) trivial (fun hH => ?_)
   clear hH
   generalize wr.drew = z5 at Zr Zt hu tt ee rr ⊢
   refine zU 0 (.pointer (some ⟨gt, 2, none⟩)) rfl trivial ?_
   try simp only [Act.put, zL]
   refine zU 2 (.pointer (some ⟨g, 0, none⟩)) rfl trivial ?_
   try simp only [Act.put, zL]
   refine zU 4 (.pointer (some ⟨g, 0, none⟩)) rfl trivial ?_
   try simp only [Act.put, zL]
   refine wpAnyH_ready (rs := [1, 3]) (by kernel_rfl) (by simp) ?_
   refine AllReadyH.cons rfl (fun K hK => ?_) (AllReadyH.cons rfl (fun K hK => ?_) AllReadyH.nil)
   ·rw [if_pos (by rfl)]
    have c_ := rowCell Zt 2 (v := .slice A1 k c1) rfl
    go_simp
    clear c_
    refine hK.out _ _ trivial (fun hH => ?_)
    clear hK K hH
    try simp only [Act.put, zL]
    refine wpAnyH_ready (rs := [3]) (by kernel_rfl) (by simp) ?_
    refine AllReadyH.cons rfl (fun K hK => ?_) AllReadyH.nil
    rw [if_pos (by rfl)]
    go_simp
    go_wp2_with (go_at_call 71; refine (U1.out z5 rr).mono ?_; rintro e z6 ⟨rfl, rr, t⟩)
    have Zr := heapG Zr t (by omega)
    have Zt := heapG Zt t (by omega)
    have hu := hu.kept t (ownNe hu hg)
    have tt := TabsAt.grown tt t hBg
    have ee := grownTrans ee t
    clear t
    refine hK.out _ _ trivial (fun hH => ?_)
    clear hK K hH
    try simp only [Act.put, zL]
    refine wpAnyH_ready (rs := [5]) (by kernel_rfl) (by simp) ?_
    refine AllReadyH.cons rfl (fun K hK => ?_) AllReadyH.nil
    rw [if_pos (by rfl)]
    go_simp
    go_wp2_with (go_at_call 39; refine (U2.out z6 rr).mono ?_; rintro e z7 ⟨rfl, rr, t⟩)
    have Zr := heapG Zr t (by omega)
    have Zt := heapG Zt t (by omega)
    have hu := hu.kept t (ownNe hu hg)
    have tt := TabsAt.grown tt t hBg
    have ee := grownTrans ee t
    clear t
    refine hK.out _ _ trivial (fun hH => ?_)
    clear hK K hH
    try simp only [Act.put, zL]
    refine zU 6 (.agg (encR (tx, vx)).toArray) rfl trivial ?_
    try simp only [Act.put, zL]
    refine wpAnyH_ready (rs := [7]) (by kernel_rfl) (by simp) ?_
    refine AllReadyH.cons rfl (fun K hK => ?_) AllReadyH.nil
    rw [if_pos (by rfl)]
    refine wp_buildSlice 27 161 1 #[(0, .tmp 29)] rfl (encR (tx, vx)).toArray i1 (.agg #[.string ⟨#[]⟩, .int .u64 0]) Tryz.underlying27 hi1 hz10 (by rw [hz11]; decide) (by rw [hz11]; decide) (by rw [hz11]; simp only [List.map_toArray, List.map_cons, List.map_nil]; exact fillR _ _ (by simp)) ?_
    have lZr := (Array.getElem?_eq_some_iff.1 Zr).1
    have lZt := (Array.getElem?_eq_some_iff.1 Zt).1
    have sz7 := ee.size
    have Zr := hpA Zr (.cells (encR (tx, vx)).toArray 161)
    have Zt := hpA Zt (.cells (encR (tx, vx)).toArray 161)
    have hu := hu.alloc (.cells (encR (tx, vx)).toArray 161)
    have ee := grownAllocR ee (.cells (encR (tx, vx)).toArray 161)
    have rr := RdrAt.alloc rr (.cells (encR (tx, vx)).toArray 161)
    have tt := TabsAt.alloc tt (.cells (encR (tx, vx)).toArray 161)
    have Zi := hpN z7 (.cells (encR (tx, vx)).toArray 161) rfl
    generalize z7.alloc (.cells (encR (tx, vx)).toArray 161) = z8 at Zr Zt Zi hu tt ee rr ⊢
    refine hK.out _ _ trivial (fun hH => ?_)
    clear hK K hH
    try simp only [Act.put, zL]
    refine wpAnyH_ready (rs := [8]) (by kernel_rfl) (by simp) ?_
    refine AllReadyH.cons rfl (fun K hK => ?_) AllReadyH.nil
    rw [if_pos (by rfl)]
    refine wp_append_own _ (.tmp 24) (.tmp 30) 27 rfl w.heap.size 161 i1 (.agg #[.string ⟨#[]⟩, .int .u64 0]) 2 24 Tryz.underlying27 hi1 hz10 hz11 hz12 rfl (by decide) _ _ _ rfl hu ⟨z7.heap.size, 0, none⟩ 1 1 (encR (tx, vx)) rfl rfl (rowAdd Zi) (encR_mem _) (by unfold maxLen; omega) (by omega) ee.size ?_
    intro u_ z9 ho_ hg_ _
    clear Zi
    obtain ⟨A9, c9, hu9, _, _, _⟩ := ownShape ho_
    subst hu9
    have Zr := heapOwn Zr hu (by decide) hg_
    have Zt := heapOwn Zt hu (by decide) hg_
    have tt := TabsAt.own tt hu hg_ (by omega)
    have rr := RdrAt.own rr hu hg_ hg
    have ee := grownOwn ee hu hg_
    clear hg_ hu
    have hu := ho_
    clear ho_
    refine hK.out _ _ trivial (fun hH => ?_)
    clear hK K hH
    try simp only [Act.put, zL]
    refine zU 9 (.pointer (some ⟨gt, 2, none⟩)) rfl trivial ?_
    try simp only [Act.put, zL]
    refine wpAnyH_ready (rs := [10]) (by kernel_rfl) (by simp) ?_
    refine AllReadyH.cons rfl (fun K hK => ?_) AllReadyH.nil
    rw [if_pos (by rfl)]
    have f_ : z9.frozen? ⟨gt, 2, none⟩ = false := freeAt Zt 2
    have c_ := rowCell Zt 2 rfl
    go_simp
    clear f_ c_
    have hu := ownSet1 hu (ownKind hu Zt (by decide)) 2 (.slice A9 (k + 1) c9)
    have N_ : (z9.setCells (gt) 2 [(.slice A9 (k + 1) c9)]).heap[gt]? = some (.cells ([.int .i64 (qs : Int), .int .i64 (qq : Int), .slice A9 (k + 1) c9, .slice none 0 0]).toArray 30) := hpC [(.slice A9 (k + 1) c9)] 2 _ z9 Zt
    have Zr := hpCo (g' := gt) (by omega) [(.slice A9 (k + 1) c9)] 2 z9 Zr
    have tt := TabsAt.set1 tt (show B ≤ gt by omega) 2 (.slice A9 (k + 1) c9)
    have ee := grownSet1 ee (show w.heap.size ≤ gt by omega) 2 (.slice A9 (k + 1) c9)
    have rr := RdrAt.set1 rr (show gt ≠ g by omega) (by omega) 2 (.slice A9 (k + 1) c9)
    clear Zt
    have Zt := N_
    clear N_
    change K _ (z9.setCells (gt) 2 [(.slice A9 (k + 1) c9)])
    generalize z9.setCells (gt) 2 [(.slice A9 (k + 1) c9)] = z10 at Zr Zt hu tt ee rr ⊢
    refine hK.out _ _ trivial (fun hH => ?_)
    clear hK K hH
    try simp only [Act.put, zL]
    refine wpAnyH_done (by kernel_rfl) ?_ _
    clear U1 U2
    go_wp2_with fail
    go_roundw
    case rel => exact ⟨k + 1, .slice A9 (k + 1) c9, _, _, hk8, by rw [List.length_append, hrl]; rfl, HS2, okR_snoc HOK.out ht hv8, by rw [List.flatMap_append]; simpa using hu, Zt, Zr, rr, tt, ee⟩
    case measure =>
     have y2 := rowCell Zt 2 (v := .slice A9 (k + 1) c9) rfl
     have hlen2 := sliceLen_of y2
     omega
   ·rw [if_pos (by rfl)]
    go_simp
    go_wp2_with (go_at_call 71; refine (U1.out z5 rr).mono ?_; rintro e z6 ⟨rfl, rr, t⟩)
    have Zr := heapG Zr t (by omega)
    have Zt := heapG Zt t (by omega)
    have hu := hu.kept t (ownNe hu hg)
    have tt := TabsAt.grown tt t hBg
    have ee := grownTrans ee t
    clear t
    refine hK.out _ _ trivial (fun hH => ?_)
    clear hK K hH
    try simp only [Act.put, zL]
    refine wpAnyH_ready (rs := [1, 5]) (by kernel_rfl) (by simp) ?_
    refine AllReadyH.cons rfl (fun K hK => ?_) (AllReadyH.cons rfl (fun K hK => ?_) AllReadyH.nil)
    ·rw [if_pos (by rfl)]
     have c_ := rowCell Zt 2 (v := .slice A1 k c1) rfl
     go_simp
     clear c_
     refine hK.out _ _ trivial (fun hH => ?_)
     clear hK K hH
     try simp only [Act.put, zL]
     refine wpAnyH_ready (rs := [5]) (by kernel_rfl) (by simp) ?_
     refine AllReadyH.cons rfl (fun K hK => ?_) AllReadyH.nil
     rw [if_pos (by rfl)]
     go_simp
     go_wp2_with (go_at_call 39; refine (U2.out z6 rr).mono ?_; rintro e z7 ⟨rfl, rr, t⟩)
     have Zr := heapG Zr t (by omega)
     have Zt := heapG Zt t (by omega)
     have hu := hu.kept t (ownNe hu hg)
     have tt := TabsAt.grown tt t hBg
     have ee := grownTrans ee t
     clear t
     refine hK.out _ _ trivial (fun hH => ?_)
     clear hK K hH
     try simp only [Act.put, zL]
     refine zU 6 (.agg (encR (tx, vx)).toArray) rfl trivial ?_
     try simp only [Act.put, zL]
     refine wpAnyH_ready (rs := [7]) (by kernel_rfl) (by simp) ?_
     refine AllReadyH.cons rfl (fun K hK => ?_) AllReadyH.nil
     rw [if_pos (by rfl)]
     refine wp_buildSlice 27 161 1 #[(0, .tmp 29)] rfl (encR (tx, vx)).toArray i1 (.agg #[.string ⟨#[]⟩, .int .u64 0]) Tryz.underlying27 hi1 hz10 (by rw [hz11]; decide) (by rw [hz11]; decide) (by rw [hz11]; simp only [List.map_toArray, List.map_cons, List.map_nil]; exact fillR _ _ (by simp)) ?_
     have lZr := (Array.getElem?_eq_some_iff.1 Zr).1
     have lZt := (Array.getElem?_eq_some_iff.1 Zt).1
     have sz7 := ee.size
     have Zr := hpA Zr (.cells (encR (tx, vx)).toArray 161)
     have Zt := hpA Zt (.cells (encR (tx, vx)).toArray 161)
     have hu := hu.alloc (.cells (encR (tx, vx)).toArray 161)
     have ee := grownAllocR ee (.cells (encR (tx, vx)).toArray 161)
     have rr := RdrAt.alloc rr (.cells (encR (tx, vx)).toArray 161)
     have tt := TabsAt.alloc tt (.cells (encR (tx, vx)).toArray 161)
     have Zi := hpN z7 (.cells (encR (tx, vx)).toArray 161) rfl
     generalize z7.alloc (.cells (encR (tx, vx)).toArray 161) = z8 at Zr Zt Zi hu tt ee rr ⊢
     refine hK.out _ _ trivial (fun hH => ?_)
     clear hK K hH
     try simp only [Act.put, zL]
     refine wpAnyH_ready (rs := [8]) (by kernel_rfl) (by simp) ?_
     refine AllReadyH.cons rfl (fun K hK => ?_) AllReadyH.nil
     rw [if_pos (by rfl)]
     refine wp_append_own _ (.tmp 24) (.tmp 30) 27 rfl w.heap.size 161 i1 (.agg #[.string ⟨#[]⟩, .int .u64 0]) 2 24 Tryz.underlying27 hi1 hz10 hz11 hz12 rfl (by decide) _ _ _ rfl hu ⟨z7.heap.size, 0, none⟩ 1 1 (encR (tx, vx)) rfl rfl (rowAdd Zi) (encR_mem _) (by unfold maxLen; omega) (by omega) ee.size ?_
     intro u_ z9 ho_ hg_ _
     clear Zi
     obtain ⟨A9, c9, hu9, _, _, _⟩ := ownShape ho_
     subst hu9
     have Zr := heapOwn Zr hu (by decide) hg_
     have Zt := heapOwn Zt hu (by decide) hg_
     have tt := TabsAt.own tt hu hg_ (by omega)
     have rr := RdrAt.own rr hu hg_ hg
     have ee := grownOwn ee hu hg_
     clear hg_ hu
     have hu := ho_
     clear ho_
     refine hK.out _ _ trivial (fun hH => ?_)
     clear hK K hH
     try simp only [Act.put, zL]
     refine zU 9 (.pointer (some ⟨gt, 2, none⟩)) rfl trivial ?_
     try simp only [Act.put, zL]
     refine wpAnyH_ready (rs := [10]) (by kernel_rfl) (by simp) ?_
     refine AllReadyH.cons rfl (fun K hK => ?_) AllReadyH.nil
     rw [if_pos (by rfl)]
     have f_ : z9.frozen? ⟨gt, 2, none⟩ = false := freeAt Zt 2
     have c_ := rowCell Zt 2 rfl
     go_simp
     clear f_ c_
     have hu := ownSet1 hu (ownKind hu Zt (by decide)) 2 (.slice A9 (k + 1) c9)
     have N_ : (z9.setCells (gt) 2 [(.slice A9 (k + 1) c9)]).heap[gt]? = some (.cells ([.int .i64 (qs : Int), .int .i64 (qq : Int), .slice A9 (k + 1) c9, .slice none 0 0]).toArray 30) := hpC [(.slice A9 (k + 1) c9)] 2 _ z9 Zt
     have Zr := hpCo (g' := gt) (by omega) [(.slice A9 (k + 1) c9)] 2 z9 Zr
     have tt := TabsAt.set1 tt (show B ≤ gt by omega) 2 (.slice A9 (k + 1) c9)
     have ee := grownSet1 ee (show w.heap.size ≤ gt by omega) 2 (.slice A9 (k + 1) c9)
     have rr := RdrAt.set1 rr (show gt ≠ g by omega) (by omega) 2 (.slice A9 (k + 1) c9)
     clear Zt
     have Zt := N_
     clear N_
     change K _ (z9.setCells (gt) 2 [(.slice A9 (k + 1) c9)])
     generalize z9.setCells (gt) 2 [(.slice A9 (k + 1) c9)] = z10 at Zr Zt hu tt ee rr ⊢
     refine hK.out _ _ trivial (fun hH => ?_)
     clear hK K hH
     try simp only [Act.put, zL]
     refine wpAnyH_done (by kernel_rfl) ?_ _
     clear U1 U2
     go_wp2_with fail
     go_roundw
     case rel => exact ⟨k + 1, .slice A9 (k + 1) c9, _, _, hk8, by rw [List.length_append, hrl]; rfl, HS2, okR_snoc HOK.out ht hv8, by rw [List.flatMap_append]; simpa using hu, Zt, Zr, rr, tt, ee⟩
     case measure =>
      have y2 := rowCell Zt 2 (v := .slice A9 (k + 1) c9) rfl
      have hlen2 := sliceLen_of y2
      omega
    ·rw [if_pos (by rfl)]
     go_simp
     go_wp2_with (go_at_call 39; refine (U2.out z6 rr).mono ?_; rintro e z7 ⟨rfl, rr, t⟩)
     have Zr := heapG Zr t (by omega)
     have Zt := heapG Zt t (by omega)
     have hu := hu.kept t (ownNe hu hg)
     have tt := TabsAt.grown tt t hBg
     have ee := grownTrans ee t
     clear t
     refine hK.out _ _ trivial (fun hH => ?_)
     clear hK K hH
     try simp only [Act.put, zL]
     refine zU 6 (.agg (encR (tx, vx)).toArray) rfl trivial ?_
     try simp only [Act.put, zL]
     refine wpAnyH_ready (rs := [1, 7]) (by kernel_rfl) (by simp) ?_
     refine AllReadyH.cons rfl (fun K hK => ?_) (AllReadyH.cons rfl (fun K hK => ?_) AllReadyH.nil)
     ·rw [if_pos (by rfl)]
      have c_ := rowCell Zt 2 (v := .slice A1 k c1) rfl
      go_simp
      clear c_
      refine hK.out _ _ trivial (fun hH => ?_)
      clear hK K hH
      try simp only [Act.put, zL]
      refine wpAnyH_ready (rs := [7]) (by kernel_rfl) (by simp) ?_
      refine AllReadyH.cons rfl (fun K hK => ?_) AllReadyH.nil
      rw [if_pos (by rfl)]
      refine wp_buildSlice 27 161 1 #[(0, .tmp 29)] rfl (encR (tx, vx)).toArray i1 (.agg #[.string ⟨#[]⟩, .int .u64 0]) Tryz.underlying27 hi1 hz10 (by rw [hz11]; decide) (by rw [hz11]; decide) (by rw [hz11]; simp only [List.map_toArray, List.map_cons, List.map_nil]; exact fillR _ _ (by simp)) ?_
      have lZr := (Array.getElem?_eq_some_iff.1 Zr).1
      have lZt := (Array.getElem?_eq_some_iff.1 Zt).1
      have sz7 := ee.size
      have Zr := hpA Zr (.cells (encR (tx, vx)).toArray 161)
      have Zt := hpA Zt (.cells (encR (tx, vx)).toArray 161)
      have hu := hu.alloc (.cells (encR (tx, vx)).toArray 161)
      have ee := grownAllocR ee (.cells (encR (tx, vx)).toArray 161)
      have rr := RdrAt.alloc rr (.cells (encR (tx, vx)).toArray 161)
      have tt := TabsAt.alloc tt (.cells (encR (tx, vx)).toArray 161)
      have Zi := hpN z7 (.cells (encR (tx, vx)).toArray 161) rfl
      generalize z7.alloc (.cells (encR (tx, vx)).toArray 161) = z8 at Zr Zt Zi hu tt ee rr ⊢
      refine hK.out _ _ trivial (fun hH => ?_)
      clear hK K hH
      try simp only [Act.put, zL]
      refine wpAnyH_ready (rs := [8]) (by kernel_rfl) (by simp) ?_
      refine AllReadyH.cons rfl (fun K hK => ?_) AllReadyH.nil
      rw [if_pos (by rfl)]
      refine wp_append_own _ (.tmp 24) (.tmp 30) 27 rfl w.heap.size 161 i1 (.agg #[.string ⟨#[]⟩, .int .u64 0]) 2 24 Tryz.underlying27 hi1 hz10 hz11 hz12 rfl (by decide) _ _ _ rfl hu ⟨z7.heap.size, 0, none⟩ 1 1 (encR (tx, vx)) rfl rfl (rowAdd Zi) (encR_mem _) (by unfold maxLen; omega) (by omega) ee.size ?_
      intro u_ z9 ho_ hg_ _
      clear Zi
      obtain ⟨A9, c9, hu9, _, _, _⟩ := ownShape ho_
      subst hu9
      have Zr := heapOwn Zr hu (by decide) hg_
      have Zt := heapOwn Zt hu (by decide) hg_
      have tt := TabsAt.own tt hu hg_ (by omega)
      have rr := RdrAt.own rr hu hg_ hg
      have ee := grownOwn ee hu hg_
      clear hg_ hu
      have hu := ho_
      clear ho_
      refine hK.out _ _ trivial (fun hH => ?_)
      clear hK K hH
      try simp only [Act.put, zL]
      refine zU 9 (.pointer (some ⟨gt, 2, none⟩)) rfl trivial ?_
      try simp only [Act.put, zL]
      refine wpAnyH_ready (rs := [10]) (by kernel_rfl) (by simp) ?_
      refine AllReadyH.cons rfl (fun K hK => ?_) AllReadyH.nil
      rw [if_pos (by rfl)]
      have f_ : z9.frozen? ⟨gt, 2, none⟩ = false := freeAt Zt 2
      have c_ := rowCell Zt 2 rfl
      go_simp
      clear f_ c_
      have hu := ownSet1 hu (ownKind hu Zt (by decide)) 2 (.slice A9 (k + 1) c9)
      have N_ : (z9.setCells (gt) 2 [(.slice A9 (k + 1) c9)]).heap[gt]? = some (.cells ([.int .i64 (qs : Int), .int .i64 (qq : Int), .slice A9 (k + 1) c9, .slice none 0 0]).toArray 30) := hpC [(.slice A9 (k + 1) c9)] 2 _ z9 Zt
      have Zr := hpCo (g' := gt) (by omega) [(.slice A9 (k + 1) c9)] 2 z9 Zr
      have tt := TabsAt.set1 tt (show B ≤ gt by omega) 2 (.slice A9 (k + 1) c9)
      have ee := grownSet1 ee (show w.heap.size ≤ gt by omega) 2 (.slice A9 (k + 1) c9)
      have rr := RdrAt.set1 rr (show gt ≠ g by omega) (by omega) 2 (.slice A9 (k + 1) c9)
      clear Zt
      have Zt := N_
      clear N_
      change K _ (z9.setCells (gt) 2 [(.slice A9 (k + 1) c9)])
      generalize z9.setCells (gt) 2 [(.slice A9 (k + 1) c9)] = z10 at Zr Zt hu tt ee rr ⊢
      refine hK.out _ _ trivial (fun hH => ?_)
      clear hK K hH
      try simp only [Act.put, zL]
      refine wpAnyH_done (by kernel_rfl) ?_ _
      clear U1 U2
      go_wp2_with fail
      go_roundw
      case rel => exact ⟨k + 1, .slice A9 (k + 1) c9, _, _, hk8, by rw [List.length_append, hrl]; rfl, HS2, okR_snoc HOK.out ht hv8, by rw [List.flatMap_append]; simpa using hu, Zt, Zr, rr, tt, ee⟩
      case measure =>
       have y2 := rowCell Zt 2 (v := .slice A9 (k + 1) c9) rfl
       have hlen2 := sliceLen_of y2
       omega
     ·rw [if_pos (by rfl)]
      refine wp_buildSlice 27 161 1 #[(0, .tmp 29)] rfl (encR (tx, vx)).toArray i1 (.agg #[.string ⟨#[]⟩, .int .u64 0]) Tryz.underlying27 hi1 hz10 (by rw [hz11]; decide) (by rw [hz11]; decide) (by rw [hz11]; simp only [List.map_toArray, List.map_cons, List.map_nil]; exact fillR _ _ (by simp)) ?_
      have lZr := (Array.getElem?_eq_some_iff.1 Zr).1
      have lZt := (Array.getElem?_eq_some_iff.1 Zt).1
      have sz7 := ee.size
      have Zr := hpA Zr (.cells (encR (tx, vx)).toArray 161)
      have Zt := hpA Zt (.cells (encR (tx, vx)).toArray 161)
      have hu := hu.alloc (.cells (encR (tx, vx)).toArray 161)
      have ee := grownAllocR ee (.cells (encR (tx, vx)).toArray 161)
      have rr := RdrAt.alloc rr (.cells (encR (tx, vx)).toArray 161)
      have tt := TabsAt.alloc tt (.cells (encR (tx, vx)).toArray 161)
      have Zi := hpN z7 (.cells (encR (tx, vx)).toArray 161) rfl
      generalize z7.alloc (.cells (encR (tx, vx)).toArray 161) = z8 at Zr Zt Zi hu tt ee rr ⊢
      refine hK.out _ _ trivial (fun hH => ?_)
      clear hK K hH
      try simp only [Act.put, zL]
      refine wpAnyH_ready (rs := [1]) (by kernel_rfl) (by simp) ?_
      refine AllReadyH.cons rfl (fun K hK => ?_) AllReadyH.nil
      rw [if_pos (by rfl)]
      have c_ := rowCell Zt 2 (v := .slice A1 k c1) rfl
      go_simp
      clear c_
      refine hK.out _ _ trivial (fun hH => ?_)
      clear hK K hH
      try simp only [Act.put, zL]
      refine wpAnyH_ready (rs := [8]) (by kernel_rfl) (by simp) ?_
      refine AllReadyH.cons rfl (fun K hK => ?_) AllReadyH.nil
      rw [if_pos (by rfl)]
      refine wp_append_own _ (.tmp 24) (.tmp 30) 27 rfl w.heap.size 161 i1 (.agg #[.string ⟨#[]⟩, .int .u64 0]) 2 24 Tryz.underlying27 hi1 hz10 hz11 hz12 rfl (by decide) _ _ _ rfl hu ⟨z7.heap.size, 0, none⟩ 1 1 (encR (tx, vx)) rfl rfl (rowAdd Zi) (encR_mem _) (by unfold maxLen; omega) (by omega) ee.size ?_
      intro u_ z9 ho_ hg_ _
      clear Zi
      obtain ⟨A9, c9, hu9, _, _, _⟩ := ownShape ho_
      subst hu9
      have Zr := heapOwn Zr hu (by decide) hg_
      have Zt := heapOwn Zt hu (by decide) hg_
      have tt := TabsAt.own tt hu hg_ (by omega)
      have rr := RdrAt.own rr hu hg_ hg
      have ee := grownOwn ee hu hg_
      clear hg_ hu
      have hu := ho_
      clear ho_
      refine hK.out _ _ trivial (fun hH => ?_)
      clear hK K hH
      try simp only [Act.put, zL]
      refine zU 9 (.pointer (some ⟨gt, 2, none⟩)) rfl trivial ?_
      try simp only [Act.put, zL]
      refine wpAnyH_ready (rs := [10]) (by kernel_rfl) (by simp) ?_
      refine AllReadyH.cons rfl (fun K hK => ?_) AllReadyH.nil
      rw [if_pos (by rfl)]
      have f_ : z9.frozen? ⟨gt, 2, none⟩ = false := freeAt Zt 2
      have c_ := rowCell Zt 2 rfl
      go_simp
      clear f_ c_
      have hu := ownSet1 hu (ownKind hu Zt (by decide)) 2 (.slice A9 (k + 1) c9)
      have N_ : (z9.setCells (gt) 2 [(.slice A9 (k + 1) c9)]).heap[gt]? = some (.cells ([.int .i64 (qs : Int), .int .i64 (qq : Int), .slice A9 (k + 1) c9, .slice none 0 0]).toArray 30) := hpC [(.slice A9 (k + 1) c9)] 2 _ z9 Zt
      have Zr := hpCo (g' := gt) (by omega) [(.slice A9 (k + 1) c9)] 2 z9 Zr
      have tt := TabsAt.set1 tt (show B ≤ gt by omega) 2 (.slice A9 (k + 1) c9)
      have ee := grownSet1 ee (show w.heap.size ≤ gt by omega) 2 (.slice A9 (k + 1) c9)
      have rr := RdrAt.set1 rr (show gt ≠ g by omega) (by omega) 2 (.slice A9 (k + 1) c9)
      clear Zt
      have Zt := N_
      clear N_
      change K _ (z9.setCells (gt) 2 [(.slice A9 (k + 1) c9)])
      generalize z9.setCells (gt) 2 [(.slice A9 (k + 1) c9)] = z10 at Zr Zt hu tt ee rr ⊢
      refine hK.out _ _ trivial (fun hH => ?_)
      clear hK K hH
      try simp only [Act.put, zL]
      refine wpAnyH_done (by kernel_rfl) ?_ _
      clear U1 U2
      go_wp2_with fail
      go_roundw
      case rel => exact ⟨k + 1, .slice A9 (k + 1) c9, _, _, hk8, by rw [List.length_append, hrl]; rfl, HS2, okR_snoc HOK.out ht hv8, by rw [List.flatMap_append]; simpa using hu, Zt, Zr, rr, tt, ee⟩
      case measure =>
       have y2 := rowCell Zt 2 (v := .slice A9 (k + 1) c9) rfl
       have hlen2 := sliceLen_of y2
       omega
  ·have hk7 : k = min n 7 := by omega
   have HRS2 : Hid (RS = (rs, st)) := by show _ = _; rw [HRS.out, ← hk7, HMY.out]
   have hka : k ≤ 7 := by omega
   have hkb : k < n → 7 ≤ k := by omega
   clear hk HMY hlen hk7
   go_upto_region 3 with fail
   go_cut [22] (fun u22 wx => u22 = .bool false ∧ RdrAt wx B g st ∧ wx.ownsRow w.heap.size 161 2 (.slice A1 k c1) k (rs.flatMap encR) ∧ Hid (wx.heap[gt]? = some (.cells [.int .i64 (qs : Int), .int .i64 (qq : Int), .slice A1 k c1, .slice none 0 0].toArray 30)) ∧ Hid (wx.heap[w.heap.size]? = some (.cells #[.int .i64 0, .int .i64 0, .slice none 0 0, .slice none 0 0] 30)) ∧ TabsAt B wx ∧ w.grownBy wx (some g))
   case first =>
    by_cases hkn : k < n
    ·have f1 : decide ((k : Int) < (n : Int)) = true := by simp; omega
     have f2 : decide ((k : Int) ≤ 6) = false := by have := hkb hkn; simp; omega
     go_wp2_with fail
     go_meet
     exact ⟨rfl, rr, hu, Zt, Zr, tt, ee⟩
    ·have f1 : decide ((k : Int) < (n : Int)) = false := by simp; omega
     go_wp2_with fail
     go_meet
     exact ⟨rfl, rr, hu, Zt, Zr, tt, ee⟩
   case rest =>
    clear x2 Zt Zr rr tt ee hu hlt
    obtain ⟨rfl, rr, hu, Zt, Zr, tt, ee⟩ := hcut
    have nm : ∀ z : World, w.grownBy z (some g) → ∃ z', z' = z := fun z _ => ⟨z, rfl⟩
    obtain ⟨y1, hzn⟩ := nm _ ee
    subst hzn
    clear nm
    have Zt := Zt.out
    have Zr := Zr.out
    have x2 := rowCell Zt 2 (v := .slice A1 k c1) rfl
    go_upto_if 36 with fail
    go_cut [36] (fun u36 wx => RdrAt wx B g (six RS) ∧ wx.ownsRow w.heap.size 161 2 (.slice A1 k c1) k (rs.flatMap encR) ∧ Hid (wx.heap[gt]? = some (.cells [.int .i64 (qs : Int), .int .i64 (qq : Int), .slice A1 k c1, .slice none 0 0].toArray 30)) ∧ Hid (wx.heap[w.heap.size]? = some (.cells #[.int .i64 0, .int .i64 0, .slice none 0 0, .slice none 0 0] 30)) ∧ TabsAt B wx ∧ w.grownBy wx (some g))
    case first =>
     by_cases hk6 : k ≤ 6
     ·have f1 : decide (6 < (k : Int)) = false := by simp; omega
      have HSX : Hid (six RS = st) := by show _ = _; rw [HRS2.out]; unfold six; rw [decide_eq_false (by show ¬ 6 < rs.length; omega)]; rfl
      go_wp2_with fail
      go_meet
      exact ⟨HSX.out ▸ rr, hu, Zt, Zr, tt, ee⟩
     ·have f1 : decide (6 < (k : Int)) = true := by simp; omega
      have HSX : Hid (six RS = (st.1, true)) := by show _ = _; rw [HRS2.out]; unfold six; rw [decide_eq_true (by show 6 < rs.length; omega)]; rfl
      clear x2
      go_wp2_with fail
      refine (take_any B g 9 st y1 rr).mono ?_
      rintro e z101 ⟨rfl, rr, t⟩
      have Zr := heapG Zr t (by omega)
      have Zt := heapG Zt t (by omega)
      have hu := hu.kept t (ownNe hu hg)
      have tt := TabsAt.grown tt t hBg
      have ee := grownTrans ee t
      clear t
      rw [take9] at rr
      go_wp2_with fail
      go_meet
      exact ⟨HSX.out ▸ rr, hu, Zt, Zr, tt, ee⟩
    case rest =>
     clear x2 Zt Zr rr tt ee hu
     obtain ⟨rr, hu, Zt, Zr, tt, ee⟩ := hcut
     have nm : ∀ z : World, w.grownBy z (some g) → ∃ z', z' = z := fun z _ => ⟨z, rfl⟩
     obtain ⟨y2, hzn⟩ := nm _ ee
     subst hzn
     clear nm
     have Zt := Zt.out
     have Zr := Zr.out
     go_wp2_with fail
     refine (T2.out y2 rr).mono ?_
     rintro e z201 ⟨rfl, rr, t⟩
     have Zr := heapG Zr t (by omega)
     have Zt := heapG Zt t (by omega)
     have hu := hu.kept t (ownNe hu hg)
     have tt := TabsAt.grown tt t hBg
     have ee := grownTrans ee t
     clear t
     clear T2
     go_wp2_with fail
     clear km
     go_loopw [42] (fun _ wr => ∃ (j : Nat) (v : Value) (st2 : C.St) (ws : List Wr1), j ≤ min m 7 ∧ ws.length = j ∧ Hid (many wtake j ([], s2) = (ws, st2)) ∧ Hid (∀ x ∈ ws, okW x) ∧ wr.ownsRow w.heap.size 163 4 v j (ws.flatMap encW) ∧ wr.ownsRow w.heap.size 161 2 (.slice A1 k c1) k (rs.flatMap encR) ∧ Hid (wr.heap[gt]? = some (.cells [.int .i64 (qs : Int), .int .i64 (qq : Int), .slice A1 k c1, v].toArray 30)) ∧ Hid (wr.heap[w.heap.size]? = some (.cells #[.int .i64 0, .int .i64 0, .slice none 0 0, .slice none 0 0] 30)) ∧ RdrAt wr B g st2 ∧ TabsAt B wr ∧ w.grownBy wr (some g)) (fun _ wr => 8 - sliceLen wr ⟨gt, 3, none⟩)
     case atStart => exact ⟨0, .slice none 0 0, s2, [], Nat.zero_le _, rfl, rfl, fun x hx => by simp at hx, World.ownsRow_nil _ _ _ _, hu, Zt, Zr, rr, tt, ee⟩
     case round =>
      clear Zt Zr rr tt ee hu
      obtain ⟨j, v, st2, ws, hj, hwl, HMY, HOW, hv, hu, Zt, Zr, rr, tt, ee⟩ := hrel
      have Zt := Zt.out
      have Zr := Zr.out
      obtain ⟨A2, c2, hv1, hc2, hm2, hB2⟩ := rowsOwn (enc := encW) (sz := 4) (fun _ => rfl) hv hwl.symm
      rw [hwl] at hv1 hc2
      subst hv1
      have x3 := rowCell Zt 3 (v := .slice A2 j c2) rfl
      have hlen := sliceLen_of x3
      by_cases hlt : j < m ∧ j ≤ 6
      ·have f1 : decide ((j : Int) < (m : Int)) = true := by simp; omega
       have f2 : decide ((j : Int) ≤ 6) = true := by simp; omega
       have hkk := hlt.2
       have hk8 : j + 1 ≤ min m 7 := by omega
       clear hlt hj
       have HS2 : Hid (many wtake (j + 1) ([], s2) = (ws ++ [(wtake st2).1], (wtake st2).2)) := by show _ = _; rw [many_succ, HMY.out]
       have HRT : Hid (wtake st2 = (((C.text 12 st2).1, ((V.take (C.text 12 st2).2).1.1 : Int), (V.take (C.text 12 st2).2).1.2.1, (V.take (C.text 12 st2).2).1.2.2), (V.take (C.text 12 st2).2).2)) := rfl
       have U1 := Lib.hid (fun z (hz : RdrAt z B g st2) => text_any B g 12 st2 z hz)
       have ht := text_len 12 st2
       generalize C.text 12 st2 = r3 at HRT U1 ht
       obtain ⟨tx, t1⟩ := r3
       simp only at HRT U1 ht
       have U2 := Lib.hid (fun z (hz : RdrAt z B g t1) (hq : TabsAt B z) => vtake_any B g z t1 hz hq)
       have hvo := vtake_ok t1
       simp only [V.val] at U2
       generalize V.take t1 = r4 at hvo HRT U2
       obtain ⟨⟨vk, vb, vt⟩, t2⟩ := r4
       simp only at hvo HRT U2
       rw [HRT.out] at HS2
       clear HRT HMY
       go_upto_region 9 with fail
       clear f1 f2 x3
       have Zr : wr.drew.heap[w.heap.size]? = some (.cells #[.int .i64 0, .int .i64 0, .slice none 0 0, .slice none 0 0] 30) := Zr
       have Zt : wr.drew.heap[gt]? = some (.cells [.int .i64 (qs : Int), .int .i64 (qq : Int), .slice A1 k c1, .slice A2 j c2].toArray 30) := Zt
       have hv := World.ownsRow.drew hv
       have hu := World.ownsRow.drew hu
       have tt := TabsAt.drewS tt
       have ee := grownDrewS ee
       have rr := RdrAt.drewS rr
       refine wp_region_held_drew (S := fun _ => True) (by kernel_rfl) trivial (fun hH => ?_)
       clear hH
       generalize wr.drew = z202 at Zr Zt hv hu tt ee rr ⊢
       refine zU 0 (.pointer (some ⟨gt, 3, none⟩)) rfl trivial ?_
       try simp only [Act.put, zL]
       refine zU 2 (.pointer (some ⟨g, 0, none⟩)) rfl trivial ?_
       try simp only [Act.put, zL]
       refine zU 4 (.pointer (some ⟨g, 0, none⟩)) rfl trivial ?_
       try simp only [Act.put, zL]
       refine wpAnyH_ready (rs := [1, 3]) (by kernel_rfl) (by simp) ?_
       refine AllReadyH.cons rfl (fun K hK => ?_) (AllReadyH.cons rfl (fun K hK => ?_) AllReadyH.nil)
       ·rw [if_pos (by rfl)]
        have c_ := rowCell Zt 3 (v := .slice A2 j c2) rfl
        go_simp
        clear c_
        refine hK.out _ _ trivial (fun hH => ?_)
        clear hK K hH
        try simp only [Act.put, zL]
        refine wpAnyH_ready (rs := [3]) (by kernel_rfl) (by simp) ?_
        refine AllReadyH.cons rfl (fun K hK => ?_) AllReadyH.nil
        rw [if_pos (by rfl)]
        go_simp
        go_wp2_with (go_at_call 71; refine (U1.out z202 rr).mono ?_; rintro e z203 ⟨rfl, rr, t⟩)
        have Zr := heapG Zr t (by omega)
        have Zt := heapG Zt t (by omega)
        have hv := hv.kept t (ownNe hv hg)
        have hu := hu.kept t (ownNe hu hg)
        have tt := TabsAt.grown tt t hBg
        have ee := grownTrans ee t
        clear t
        refine hK.out _ _ trivial (fun hH => ?_)
        clear hK K hH
        try simp only [Act.put, zL]
        refine wpAnyH_ready (rs := [5]) (by kernel_rfl) (by simp) ?_
        refine AllReadyH.cons rfl (fun K hK => ?_) AllReadyH.nil
        rw [if_pos (by rfl)]
        go_simp
        go_wp2_with (go_at_call 72; refine (U2.out z203 rr tt).mono ?_; rintro e z204 ⟨rfl, rr, t⟩)
        have Zr := heapG Zr t (by omega)
        have Zt := heapG Zt t (by omega)
        have hv := hv.kept t (ownNe hv hg)
        have hu := hu.kept t (ownNe hu hg)
        have tt := TabsAt.grown tt t hBg
        have ee := grownTrans ee t
        clear t
        refine hK.out _ _ trivial (fun hH => ?_)
        clear hK K hH
        try simp only [Act.put, zL]
        refine zU 6 (.agg (encW (tx, (vk : Int), vb, vt)).toArray) rfl trivial ?_
        try simp only [Act.put, zL]
        refine wpAnyH_ready (rs := [7]) (by kernel_rfl) (by simp) ?_
        refine AllReadyH.cons rfl (fun K hK => ?_) AllReadyH.nil
        rw [if_pos (by rfl)]
        refine wp_buildSlice 28 163 1 #[(0, .tmp 59)] rfl (encW (tx, (vk : Int), vb, vt)).toArray i2 (.agg #[.string ⟨#[]⟩, .int .i64 0, .int .u64 0, .string ⟨#[]⟩]) Tryz.underlying28 hi2 hz20 (by rw [hz21]; decide) (by rw [hz21]; decide) (by rw [hz21]; simp only [List.map_toArray, List.map_cons, List.map_nil]; exact fillW _ _ (by simp)) ?_
        have lZr := (Array.getElem?_eq_some_iff.1 Zr).1
        have lZt := (Array.getElem?_eq_some_iff.1 Zt).1
        have sz204 := ee.size
        have Zr := hpA Zr (.cells (encW (tx, (vk : Int), vb, vt)).toArray 163)
        have Zt := hpA Zt (.cells (encW (tx, (vk : Int), vb, vt)).toArray 163)
        have hv := hv.alloc (.cells (encW (tx, (vk : Int), vb, vt)).toArray 163)
        have hu := hu.alloc (.cells (encW (tx, (vk : Int), vb, vt)).toArray 163)
        have ee := grownAllocR ee (.cells (encW (tx, (vk : Int), vb, vt)).toArray 163)
        have rr := RdrAt.alloc rr (.cells (encW (tx, (vk : Int), vb, vt)).toArray 163)
        have tt := TabsAt.alloc tt (.cells (encW (tx, (vk : Int), vb, vt)).toArray 163)
        have Zi := hpN z204 (.cells (encW (tx, (vk : Int), vb, vt)).toArray 163) rfl
        generalize z204.alloc (.cells (encW (tx, (vk : Int), vb, vt)).toArray 163) = z205 at Zr Zt Zi hv hu tt ee rr ⊢
        refine hK.out _ _ trivial (fun hH => ?_)
        clear hK K hH
        try simp only [Act.put, zL]
        refine wpAnyH_ready (rs := [8]) (by kernel_rfl) (by simp) ?_
        refine AllReadyH.cons rfl (fun K hK => ?_) AllReadyH.nil
        rw [if_pos (by rfl)]
        refine wp_append_own _ (.tmp 54) (.tmp 60) 28 rfl w.heap.size 163 i2 (.agg #[.string ⟨#[]⟩, .int .i64 0, .int .u64 0, .string ⟨#[]⟩]) 4 48 Tryz.underlying28 hi2 hz20 hz21 hz22 rfl (by decide) _ _ _ rfl hv ⟨z204.heap.size, 0, none⟩ 1 1 (encW (tx, (vk : Int), vb, vt)) rfl rfl (rowAdd Zi) (encW_mem _) (by unfold maxLen; omega) (by omega) ee.size ?_
        intro u_ z206 ho_ hg_ _
        clear Zi
        obtain ⟨A9, c9, hu9, _, _, _⟩ := ownShape ho_
        subst hu9
        have Zr := heapOwn Zr hv (by decide) hg_
        have Zt := heapOwn Zt hv (by decide) hg_
        have hu := hu.kept hg_ (own_ne hv hu (by decide))
        have tt := TabsAt.own tt hv hg_ (by omega)
        have rr := RdrAt.own rr hv hg_ hg
        have ee := grownOwn ee hv hg_
        clear hg_ hv
        have hv := ho_
        clear ho_
        refine hK.out _ _ trivial (fun hH => ?_)
        clear hK K hH
        try simp only [Act.put, zL]
        refine zU 9 (.pointer (some ⟨gt, 3, none⟩)) rfl trivial ?_
        try simp only [Act.put, zL]
        refine wpAnyH_ready (rs := [10]) (by kernel_rfl) (by simp) ?_
        refine AllReadyH.cons rfl (fun K hK => ?_) AllReadyH.nil
        rw [if_pos (by rfl)]
        have f_ : z206.frozen? ⟨gt, 3, none⟩ = false := freeAt Zt 3
        have c_ := rowCell Zt 3 rfl
        go_simp
        clear f_ c_
        have hv := ownSet1 hv (ownKind hv Zt (by decide)) 3 (.slice A9 (j + 1) c9)
        have hu := ownSet1 hu (ownKind hu Zt (by decide)) 3 (.slice A9 (j + 1) c9)
        have N_ : (z206.setCells (gt) 3 [(.slice A9 (j + 1) c9)]).heap[gt]? = some (.cells ([.int .i64 (qs : Int), .int .i64 (qq : Int), .slice A1 k c1, .slice A9 (j + 1) c9]).toArray 30) := hpC [(.slice A9 (j + 1) c9)] 3 _ z206 Zt
        have Zr := hpCo (g' := gt) (by omega) [(.slice A9 (j + 1) c9)] 3 z206 Zr
        have tt := TabsAt.set1 tt (show B ≤ gt by omega) 3 (.slice A9 (j + 1) c9)
        have ee := grownSet1 ee (show w.heap.size ≤ gt by omega) 3 (.slice A9 (j + 1) c9)
        have rr := RdrAt.set1 rr (show gt ≠ g by omega) (by omega) 3 (.slice A9 (j + 1) c9)
        clear Zt
        have Zt := N_
        clear N_
        change K _ (z206.setCells (gt) 3 [(.slice A9 (j + 1) c9)])
        generalize z206.setCells (gt) 3 [(.slice A9 (j + 1) c9)] = z207 at Zr Zt hv hu tt ee rr ⊢
        refine hK.out _ _ trivial (fun hH => ?_)
        clear hK K hH
        try simp only [Act.put, zL]
        refine wpAnyH_done (by kernel_rfl) ?_ _
        clear U1 U2
        go_wp2_with fail
        go_roundw
        case rel => exact ⟨j + 1, .slice A9 (j + 1) c9, _, _, hk8, by rw [List.length_append, hwl]; rfl, HS2, okW_snoc HOW.out ht hvo.1 hvo.2, by rw [List.flatMap_append]; simpa using hv, hu, Zt, Zr, rr, tt, ee⟩
        case measure =>
         have y3 := rowCell Zt 3 (v := .slice A9 (j + 1) c9) rfl
         have hlen2 := sliceLen_of y3
         omega
       ·rw [if_pos (by rfl)]
        go_simp
        go_wp2_with (go_at_call 71; refine (U1.out z202 rr).mono ?_; rintro e z203 ⟨rfl, rr, t⟩)
        have Zr := heapG Zr t (by omega)
        have Zt := heapG Zt t (by omega)
        have hv := hv.kept t (ownNe hv hg)
        have hu := hu.kept t (ownNe hu hg)
        have tt := TabsAt.grown tt t hBg
        have ee := grownTrans ee t
        clear t
        refine hK.out _ _ trivial (fun hH => ?_)
        clear hK K hH
        try simp only [Act.put, zL]
        refine wpAnyH_ready (rs := [1, 5]) (by kernel_rfl) (by simp) ?_
        refine AllReadyH.cons rfl (fun K hK => ?_) (AllReadyH.cons rfl (fun K hK => ?_) AllReadyH.nil)
        ·rw [if_pos (by rfl)]
         have c_ := rowCell Zt 3 (v := .slice A2 j c2) rfl
         go_simp
         clear c_
         refine hK.out _ _ trivial (fun hH => ?_)
         clear hK K hH
         try simp only [Act.put, zL]
         refine wpAnyH_ready (rs := [5]) (by kernel_rfl) (by simp) ?_
         refine AllReadyH.cons rfl (fun K hK => ?_) AllReadyH.nil
         rw [if_pos (by rfl)]
         go_simp
         go_wp2_with (go_at_call 72; refine (U2.out z203 rr tt).mono ?_; rintro e z204 ⟨rfl, rr, t⟩)
         have Zr := heapG Zr t (by omega)
         have Zt := heapG Zt t (by omega)
         have hv := hv.kept t (ownNe hv hg)
         have hu := hu.kept t (ownNe hu hg)
         have tt := TabsAt.grown tt t hBg
         have ee := grownTrans ee t
         clear t
         refine hK.out _ _ trivial (fun hH => ?_)
         clear hK K hH
         try simp only [Act.put, zL]
         refine zU 6 (.agg (encW (tx, (vk : Int), vb, vt)).toArray) rfl trivial ?_
         try simp only [Act.put, zL]
         refine wpAnyH_ready (rs := [7]) (by kernel_rfl) (by simp) ?_
         refine AllReadyH.cons rfl (fun K hK => ?_) AllReadyH.nil
         rw [if_pos (by rfl)]
         refine wp_buildSlice 28 163 1 #[(0, .tmp 59)] rfl (encW (tx, (vk : Int), vb, vt)).toArray i2 (.agg #[.string ⟨#[]⟩, .int .i64 0, .int .u64 0, .string ⟨#[]⟩]) Tryz.underlying28 hi2 hz20 (by rw [hz21]; decide) (by rw [hz21]; decide) (by rw [hz21]; simp only [List.map_toArray, List.map_cons, List.map_nil]; exact fillW _ _ (by simp)) ?_
         have lZr := (Array.getElem?_eq_some_iff.1 Zr).1
         have lZt := (Array.getElem?_eq_some_iff.1 Zt).1
         have sz204 := ee.size
         have Zr := hpA Zr (.cells (encW (tx, (vk : Int), vb, vt)).toArray 163)
         have Zt := hpA Zt (.cells (encW (tx, (vk : Int), vb, vt)).toArray 163)
         have hv := hv.alloc (.cells (encW (tx, (vk : Int), vb, vt)).toArray 163)
         have hu := hu.alloc (.cells (encW (tx, (vk : Int), vb, vt)).toArray 163)
         have ee := grownAllocR ee (.cells (encW (tx, (vk : Int), vb, vt)).toArray 163)
         have rr := RdrAt.alloc rr (.cells (encW (tx, (vk : Int), vb, vt)).toArray 163)
         have tt := TabsAt.alloc tt (.cells (encW (tx, (vk : Int), vb, vt)).toArray 163)
         have Zi := hpN z204 (.cells (encW (tx, (vk : Int), vb, vt)).toArray 163) rfl
         generalize z204.alloc (.cells (encW (tx, (vk : Int), vb, vt)).toArray 163) = z205 at Zr Zt Zi hv hu tt ee rr ⊢
         refine hK.out _ _ trivial (fun hH => ?_)
         clear hK K hH
         try simp only [Act.put, zL]
         refine wpAnyH_ready (rs := [8]) (by kernel_rfl) (by simp) ?_
         refine AllReadyH.cons rfl (fun K hK => ?_) AllReadyH.nil
         rw [if_pos (by rfl)]
         refine wp_append_own _ (.tmp 54) (.tmp 60) 28 rfl w.heap.size 163 i2 (.agg #[.string ⟨#[]⟩, .int .i64 0, .int .u64 0, .string ⟨#[]⟩]) 4 48 Tryz.underlying28 hi2 hz20 hz21 hz22 rfl (by decide) _ _ _ rfl hv ⟨z204.heap.size, 0, none⟩ 1 1 (encW (tx, (vk : Int), vb, vt)) rfl rfl (rowAdd Zi) (encW_mem _) (by unfold maxLen; omega) (by omega) ee.size ?_
         intro u_ z206 ho_ hg_ _
         clear Zi
         obtain ⟨A9, c9, hu9, _, _, _⟩ := ownShape ho_
         subst hu9
         have Zr := heapOwn Zr hv (by decide) hg_
         have Zt := heapOwn Zt hv (by decide) hg_
         have hu := hu.kept hg_ (own_ne hv hu (by decide))
         have tt := TabsAt.own tt hv hg_ (by omega)
         have rr := RdrAt.own rr hv hg_ hg
         have ee := grownOwn ee hv hg_
         clear hg_ hv
         have hv := ho_
         clear ho_
         refine hK.out _ _ trivial (fun hH => ?_)
         clear hK K hH
         try simp only [Act.put, zL]
         refine zU 9 (.pointer (some ⟨gt, 3, none⟩)) rfl trivial ?_
         try simp only [Act.put, zL]
         refine wpAnyH_ready (rs := [10]) (by kernel_rfl) (by simp) ?_
         refine AllReadyH.cons rfl (fun K hK => ?_) AllReadyH.nil
         rw [if_pos (by rfl)]
         have f_ : z206.frozen? ⟨gt, 3, none⟩ = false := freeAt Zt 3
         have c_ := rowCell Zt 3 rfl
         go_simp
         clear f_ c_
         have hv := ownSet1 hv (ownKind hv Zt (by decide)) 3 (.slice A9 (j + 1) c9)
         have hu := ownSet1 hu (ownKind hu Zt (by decide)) 3 (.slice A9 (j + 1) c9)
         have N_ : (z206.setCells (gt) 3 [(.slice A9 (j + 1) c9)]).heap[gt]? = some (.cells ([.int .i64 (qs : Int), .int .i64 (qq : Int), .slice A1 k c1, .slice A9 (j + 1) c9]).toArray 30) := hpC [(.slice A9 (j + 1) c9)] 3 _ z206 Zt
         have Zr := hpCo (g' := gt) (by omega) [(.slice A9 (j + 1) c9)] 3 z206 Zr
         have tt := TabsAt.set1 tt (show B ≤ gt by omega) 3 (.slice A9 (j + 1) c9)
         have ee := grownSet1 ee (show w.heap.size ≤ gt by omega) 3 (.slice A9 (j + 1) c9)
         have rr := RdrAt.set1 rr (show gt ≠ g by omega) (by omega) 3 (.slice A9 (j + 1) c9)
         clear Zt
         have Zt := N_
         clear N_
         change K _ (z206.setCells (gt) 3 [(.slice A9 (j + 1) c9)])
         generalize z206.setCells (gt) 3 [(.slice A9 (j + 1) c9)] = z207 at Zr Zt hv hu tt ee rr ⊢
         refine hK.out _ _ trivial (fun hH => ?_)
         clear hK K hH
         try simp only [Act.put, zL]
         refine wpAnyH_done (by kernel_rfl) ?_ _
         clear U1 U2
         go_wp2_with fail
         go_roundw
         case rel => exact ⟨j + 1, .slice A9 (j + 1) c9, _, _, hk8, by rw [List.length_append, hwl]; rfl, HS2, okW_snoc HOW.out ht hvo.1 hvo.2, by rw [List.flatMap_append]; simpa using hv, hu, Zt, Zr, rr, tt, ee⟩
         case measure =>
          have y3 := rowCell Zt 3 (v := .slice A9 (j + 1) c9) rfl
          have hlen2 := sliceLen_of y3
          omega
        ·rw [if_pos (by rfl)]
         go_simp
         go_wp2_with (go_at_call 72; refine (U2.out z203 rr tt).mono ?_; rintro e z204 ⟨rfl, rr, t⟩)
         have Zr := heapG Zr t (by omega)
         have Zt := heapG Zt t (by omega)
         have hv := hv.kept t (ownNe hv hg)
         have hu := hu.kept t (ownNe hu hg)
         have tt := TabsAt.grown tt t hBg
         have ee := grownTrans ee t
         clear t
         refine hK.out _ _ trivial (fun hH => ?_)
         clear hK K hH
         try simp only [Act.put, zL]
         refine zU 6 (.agg (encW (tx, (vk : Int), vb, vt)).toArray) rfl trivial ?_
         try simp only [Act.put, zL]
         refine wpAnyH_ready (rs := [1, 7]) (by kernel_rfl) (by simp) ?_
         refine AllReadyH.cons rfl (fun K hK => ?_) (AllReadyH.cons rfl (fun K hK => ?_) AllReadyH.nil)
         ·rw [if_pos (by rfl)]
          have c_ := rowCell Zt 3 (v := .slice A2 j c2) rfl
          go_simp
          clear c_
          refine hK.out _ _ trivial (fun hH => ?_)
          clear hK K hH
          try simp only [Act.put, zL]
          refine wpAnyH_ready (rs := [7]) (by kernel_rfl) (by simp) ?_
          refine AllReadyH.cons rfl (fun K hK => ?_) AllReadyH.nil
          rw [if_pos (by rfl)]
          refine wp_buildSlice 28 163 1 #[(0, .tmp 59)] rfl (encW (tx, (vk : Int), vb, vt)).toArray i2 (.agg #[.string ⟨#[]⟩, .int .i64 0, .int .u64 0, .string ⟨#[]⟩]) Tryz.underlying28 hi2 hz20 (by rw [hz21]; decide) (by rw [hz21]; decide) (by rw [hz21]; simp only [List.map_toArray, List.map_cons, List.map_nil]; exact fillW _ _ (by simp)) ?_
          have lZr := (Array.getElem?_eq_some_iff.1 Zr).1
          have lZt := (Array.getElem?_eq_some_iff.1 Zt).1
          have sz204 := ee.size
          have Zr := hpA Zr (.cells (encW (tx, (vk : Int), vb, vt)).toArray 163)
          have Zt := hpA Zt (.cells (encW (tx, (vk : Int), vb, vt)).toArray 163)
          have hv := hv.alloc (.cells (encW (tx, (vk : Int), vb, vt)).toArray 163)
          have hu := hu.alloc (.cells (encW (tx, (vk : Int), vb, vt)).toArray 163)
          have ee := grownAllocR ee (.cells (encW (tx, (vk : Int), vb, vt)).toArray 163)
          have rr := RdrAt.alloc rr (.cells (encW (tx, (vk : Int), vb, vt)).toArray 163)
          have tt := TabsAt.alloc tt (.cells (encW (tx, (vk : Int), vb, vt)).toArray 163)
          have Zi := hpN z204 (.cells (encW (tx, (vk : Int), vb, vt)).toArray 163) rfl
          generalize z204.alloc (.cells (encW (tx, (vk : Int), vb, vt)).toArray 163) = z205 at Zr Zt Zi hv hu tt ee rr ⊢
          refine hK.out _ _ trivial (fun hH => ?_)
          clear hK K hH
          try simp only [Act.put, zL]
          refine wpAnyH_ready (rs := [8]) (by kernel_rfl) (by simp) ?_
          refine AllReadyH.cons rfl (fun K hK => ?_) AllReadyH.nil
          rw [if_pos (by rfl)]
          refine wp_append_own _ (.tmp 54) (.tmp 60) 28 rfl w.heap.size 163 i2 (.agg #[.string ⟨#[]⟩, .int .i64 0, .int .u64 0, .string ⟨#[]⟩]) 4 48 Tryz.underlying28 hi2 hz20 hz21 hz22 rfl (by decide) _ _ _ rfl hv ⟨z204.heap.size, 0, none⟩ 1 1 (encW (tx, (vk : Int), vb, vt)) rfl rfl (rowAdd Zi) (encW_mem _) (by unfold maxLen; omega) (by omega) ee.size ?_
          intro u_ z206 ho_ hg_ _
          clear Zi
          obtain ⟨A9, c9, hu9, _, _, _⟩ := ownShape ho_
          subst hu9
          have Zr := heapOwn Zr hv (by decide) hg_
          have Zt := heapOwn Zt hv (by decide) hg_
          have hu := hu.kept hg_ (own_ne hv hu (by decide))
          have tt := TabsAt.own tt hv hg_ (by omega)
          have rr := RdrAt.own rr hv hg_ hg
          have ee := grownOwn ee hv hg_
          clear hg_ hv
          have hv := ho_
          clear ho_
          refine hK.out _ _ trivial (fun hH => ?_)
          clear hK K hH
          try simp only [Act.put, zL]
          refine zU 9 (.pointer (some ⟨gt, 3, none⟩)) rfl trivial ?_
          try simp only [Act.put, zL]
          refine wpAnyH_ready (rs := [10]) (by kernel_rfl) (by simp) ?_
          refine AllReadyH.cons rfl (fun K hK => ?_) AllReadyH.nil
          rw [if_pos (by rfl)]
          have f_ : z206.frozen? ⟨gt, 3, none⟩ = false := freeAt Zt 3
          have c_ := rowCell Zt 3 rfl
          go_simp
          clear f_ c_
          have hv := ownSet1 hv (ownKind hv Zt (by decide)) 3 (.slice A9 (j + 1) c9)
          have hu := ownSet1 hu (ownKind hu Zt (by decide)) 3 (.slice A9 (j + 1) c9)
          have N_ : (z206.setCells (gt) 3 [(.slice A9 (j + 1) c9)]).heap[gt]? = some (.cells ([.int .i64 (qs : Int), .int .i64 (qq : Int), .slice A1 k c1, .slice A9 (j + 1) c9]).toArray 30) := hpC [(.slice A9 (j + 1) c9)] 3 _ z206 Zt
          have Zr := hpCo (g' := gt) (by omega) [(.slice A9 (j + 1) c9)] 3 z206 Zr
          have tt := TabsAt.set1 tt (show B ≤ gt by omega) 3 (.slice A9 (j + 1) c9)
          have ee := grownSet1 ee (show w.heap.size ≤ gt by omega) 3 (.slice A9 (j + 1) c9)
          have rr := RdrAt.set1 rr (show gt ≠ g by omega) (by omega) 3 (.slice A9 (j + 1) c9)
          clear Zt
          have Zt := N_
          clear N_
          change K _ (z206.setCells (gt) 3 [(.slice A9 (j + 1) c9)])
          generalize z206.setCells (gt) 3 [(.slice A9 (j + 1) c9)] = z207 at Zr Zt hv hu tt ee rr ⊢
          refine hK.out _ _ trivial (fun hH => ?_)
          clear hK K hH
          try simp only [Act.put, zL]
          refine wpAnyH_done (by kernel_rfl) ?_ _
          clear U1 U2
          go_wp2_with fail
          go_roundw
          case rel => exact ⟨j + 1, .slice A9 (j + 1) c9, _, _, hk8, by rw [List.length_append, hwl]; rfl, HS2, okW_snoc HOW.out ht hvo.1 hvo.2, by rw [List.flatMap_append]; simpa using hv, hu, Zt, Zr, rr, tt, ee⟩
          case measure =>
           have y3 := rowCell Zt 3 (v := .slice A9 (j + 1) c9) rfl
           have hlen2 := sliceLen_of y3
           omega
         ·rw [if_pos (by rfl)]
          refine wp_buildSlice 28 163 1 #[(0, .tmp 59)] rfl (encW (tx, (vk : Int), vb, vt)).toArray i2 (.agg #[.string ⟨#[]⟩, .int .i64 0, .int .u64 0, .string ⟨#[]⟩]) Tryz.underlying28 hi2 hz20 (by rw [hz21]; decide) (by rw [hz21]; decide) (by rw [hz21]; simp only [List.map_toArray, List.map_cons, List.map_nil]; exact fillW _ _ (by simp)) ?_
          have lZr := (Array.getElem?_eq_some_iff.1 Zr).1
          have lZt := (Array.getElem?_eq_some_iff.1 Zt).1
          have sz204 := ee.size
          have Zr := hpA Zr (.cells (encW (tx, (vk : Int), vb, vt)).toArray 163)
          have Zt := hpA Zt (.cells (encW (tx, (vk : Int), vb, vt)).toArray 163)
          have hv := hv.alloc (.cells (encW (tx, (vk : Int), vb, vt)).toArray 163)
          have hu := hu.alloc (.cells (encW (tx, (vk : Int), vb, vt)).toArray 163)
          have ee := grownAllocR ee (.cells (encW (tx, (vk : Int), vb, vt)).toArray 163)
          have rr := RdrAt.alloc rr (.cells (encW (tx, (vk : Int), vb, vt)).toArray 163)
          have tt := TabsAt.alloc tt (.cells (encW (tx, (vk : Int), vb, vt)).toArray 163)
          have Zi := hpN z204 (.cells (encW (tx, (vk : Int), vb, vt)).toArray 163) rfl
          generalize z204.alloc (.cells (encW (tx, (vk : Int), vb, vt)).toArray 163) = z205 at Zr Zt Zi hv hu tt ee rr ⊢
          refine hK.out _ _ trivial (fun hH => ?_)
          clear hK K hH
          try simp only [Act.put, zL]
          refine wpAnyH_ready (rs := [1]) (by kernel_rfl) (by simp) ?_
          refine AllReadyH.cons rfl (fun K hK => ?_) AllReadyH.nil
          rw [if_pos (by rfl)]
          have c_ := rowCell Zt 3 (v := .slice A2 j c2) rfl
          go_simp
          clear c_
          refine hK.out _ _ trivial (fun hH => ?_)
          clear hK K hH
          try simp only [Act.put, zL]
          refine wpAnyH_ready (rs := [8]) (by kernel_rfl) (by simp) ?_
          refine AllReadyH.cons rfl (fun K hK => ?_) AllReadyH.nil
          rw [if_pos (by rfl)]
          refine wp_append_own _ (.tmp 54) (.tmp 60) 28 rfl w.heap.size 163 i2 (.agg #[.string ⟨#[]⟩, .int .i64 0, .int .u64 0, .string ⟨#[]⟩]) 4 48 Tryz.underlying28 hi2 hz20 hz21 hz22 rfl (by decide) _ _ _ rfl hv ⟨z204.heap.size, 0, none⟩ 1 1 (encW (tx, (vk : Int), vb, vt)) rfl rfl (rowAdd Zi) (encW_mem _) (by unfold maxLen; omega) (by omega) ee.size ?_
          intro u_ z206 ho_ hg_ _
          clear Zi
          obtain ⟨A9, c9, hu9, _, _, _⟩ := ownShape ho_
          subst hu9
          have Zr := heapOwn Zr hv (by decide) hg_
          have Zt := heapOwn Zt hv (by decide) hg_
          have hu := hu.kept hg_ (own_ne hv hu (by decide))
          have tt := TabsAt.own tt hv hg_ (by omega)
          have rr := RdrAt.own rr hv hg_ hg
          have ee := grownOwn ee hv hg_
          clear hg_ hv
          have hv := ho_
          clear ho_
          refine hK.out _ _ trivial (fun hH => ?_)
          clear hK K hH
          try simp only [Act.put, zL]
          refine zU 9 (.pointer (some ⟨gt, 3, none⟩)) rfl trivial ?_
          try simp only [Act.put, zL]
          refine wpAnyH_ready (rs := [10]) (by kernel_rfl) (by simp) ?_
          refine AllReadyH.cons rfl (fun K hK => ?_) AllReadyH.nil
          rw [if_pos (by rfl)]
          have f_ : z206.frozen? ⟨gt, 3, none⟩ = false := freeAt Zt 3
          have c_ := rowCell Zt 3 rfl
          go_simp
          clear f_ c_
          have hv := ownSet1 hv (ownKind hv Zt (by decide)) 3 (.slice A9 (j + 1) c9)
          have hu := ownSet1 hu (ownKind hu Zt (by decide)) 3 (.slice A9 (j + 1) c9)
          have N_ : (z206.setCells (gt) 3 [(.slice A9 (j + 1) c9)]).heap[gt]? = some (.cells ([.int .i64 (qs : Int), .int .i64 (qq : Int), .slice A1 k c1, .slice A9 (j + 1) c9]).toArray 30) := hpC [(.slice A9 (j + 1) c9)] 3 _ z206 Zt
          have Zr := hpCo (g' := gt) (by omega) [(.slice A9 (j + 1) c9)] 3 z206 Zr
          have tt := TabsAt.set1 tt (show B ≤ gt by omega) 3 (.slice A9 (j + 1) c9)
          have ee := grownSet1 ee (show w.heap.size ≤ gt by omega) 3 (.slice A9 (j + 1) c9)
          have rr := RdrAt.set1 rr (show gt ≠ g by omega) (by omega) 3 (.slice A9 (j + 1) c9)
          clear Zt
          have Zt := N_
          clear N_
          change K _ (z206.setCells (gt) 3 [(.slice A9 (j + 1) c9)])
          generalize z206.setCells (gt) 3 [(.slice A9 (j + 1) c9)] = z207 at Zr Zt hv hu tt ee rr ⊢
          refine hK.out _ _ trivial (fun hH => ?_)
          clear hK K hH
          try simp only [Act.put, zL]
          refine wpAnyH_done (by kernel_rfl) ?_ _
          clear U1 U2
          go_wp2_with fail
          go_roundw
          case rel => exact ⟨j + 1, .slice A9 (j + 1) c9, _, _, hk8, by rw [List.length_append, hwl]; rfl, HS2, okW_snoc HOW.out ht hvo.1 hvo.2, by rw [List.flatMap_append]; simpa using hv, hu, Zt, Zr, rr, tt, ee⟩
          case measure =>
           have y3 := rowCell Zt 3 (v := .slice A9 (j + 1) c9) rfl
           have hlen2 := sliceLen_of y3
           omega
      ·have hk7 : j = min m 7 := by omega
       have HWS2 : Hid (WS = (ws, st2)) := by show _ = _; rw [HWS.out, ← hk7, HMY.out]
       have hja : j ≤ 7 := by omega
       have hjb : j < m → 7 ≤ j := by omega
       clear hj HMY hlen hk7
       go_upto_region 8 with fail
       go_cut [52] (fun u52 wx => u52 = .bool false ∧ RdrAt wx B g st2 ∧ wx.ownsRow w.heap.size 163 4 (.slice A2 j c2) j (ws.flatMap encW) ∧ wx.ownsRow w.heap.size 161 2 (.slice A1 k c1) k (rs.flatMap encR) ∧ Hid (wx.heap[gt]? = some (.cells [.int .i64 (qs : Int), .int .i64 (qq : Int), .slice A1 k c1, .slice A2 j c2].toArray 30)) ∧ Hid (wx.heap[w.heap.size]? = some (.cells #[.int .i64 0, .int .i64 0, .slice none 0 0, .slice none 0 0] 30)) ∧ TabsAt B wx ∧ w.grownBy wx (some g))
       case first =>
        by_cases hkn : j < m
        ·have f1 : decide ((j : Int) < (m : Int)) = true := by simp; omega
         have f2 : decide ((j : Int) ≤ 6) = false := by have := hjb hkn; simp; omega
         go_wp2_with fail
         go_meet
         exact ⟨rfl, rr, hv, hu, Zt, Zr, tt, ee⟩
        ·have f1 : decide ((j : Int) < (m : Int)) = false := by simp; omega
         go_wp2_with fail
         go_meet
         exact ⟨rfl, rr, hv, hu, Zt, Zr, tt, ee⟩
       case rest =>
        clear x3 Zt Zr rr tt ee hu hv hlt
        obtain ⟨rfl, rr, hv, hu, Zt, Zr, tt, ee⟩ := hcut
        have nm : ∀ z : World, w.grownBy z (some g) → ∃ z', z' = z := fun z _ => ⟨z, rfl⟩
        obtain ⟨y3, hzn⟩ := nm _ ee
        subst hzn
        clear nm
        have Zt := Zt.out
        have Zr := Zr.out
        have HZ2 : Hid (ttake0 s = (((qs, qq), rs, ws), st2)) := by show _ = _; rw [HZ.out, HWS2.out, HRS2.out]
        rw [HZ2.out] at HU
        simp only at HU
        have okx := txOwn hu hv hrl hwl HOK.out HOW.out
        have HFM := Lib.hid (fun z (hz : Below y3.heap.size y3 z) (hq : Tabs z) => tformed_any (qs : Int) (qq : Int) rs ws A1 c1 A2 c2 z y3.heap.size hz.size (okx.below hz (Nat.le_refl _)) hq)
        rw [hrl, hwl] at HFM
        generalize formed (qs : Int) (qq : Int) rs ws = fm at HU HFM
        clear okx HZ HZ2 HRS HRS2 HWS HWS2
        obtain ⟨ls, f⟩ := st2
        simp only at HU
        go_wp2_with fail
        refine (ok_any B g (ls, f) y3 rr).mono ?_
        rintro e z301 ⟨rfl, hw_⟩
        rw [← hw_]
        clear hw_ z301
        dsimp only
        rename_i hK
        refine hK _ _ ?_
        clear hK
        cases f with
        | true =>
          have HR : Hid (R = (((0, 0), [], []), (ls, true))) := HU.out
          clear HU
          clear HFM
          clear hu hv
          go_wp2_with fail
          refine (take_any B g 9 (ls, true) y3 rr).mono ?_
          rintro e z302 ⟨rfl, rr, t⟩
          have Zr := heapG Zr t (by omega)
          have Zt := heapG Zt t (by omega)
          have tt := TabsAt.grown tt t hBg
          have ee := grownTrans ee t
          clear t
          rw [take9] at rr
          go_upto_region 12 with fail
          refine wp_region_lit ?_
          iterate 27 (first | with_reducible refine isStore (ty := 30) rfl ?_ | go_step)
          refine wpList_store_row rfl 30 _ _ rfl (w.heap.size) ([.int .i64 0, .int .i64 0, .slice none 0 0, .slice none 0 0]).toArray rfl rfl 30 _ Zr sizeTx (by rfl) (by simp [Value.oneCell']) ?_
          have N_ := setRow_heap z302 (w.heap.size) _ ([.int .i64 0, .int .i64 0, .slice none 0 0, .slice none 0 0]).toArray _ _ Zr
          have ee := grownRowNew (cs := ([.int .i64 0, .int .i64 0, .slice none 0 0, .slice none 0 0]).toArray) ee (show w.heap.size ≤ w.heap.size by omega) Zr
          have rr := RdrAt.row (cs := ([.int .i64 0, .int .i64 0, .slice none 0 0, .slice none 0 0]).toArray) rr (show w.heap.size ≠ g by omega) (by omega)
          have Zt := hpR Zt (g' := w.heap.size) (by omega) ([.int .i64 0, .int .i64 0, .slice none 0 0, .slice none 0 0]).toArray
          have tt := TabsAt.row (cs := ([.int .i64 0, .int .i64 0, .slice none 0 0, .slice none 0 0]).toArray) tt (show B ≤ w.heap.size by omega)
          clear Zr
          have Zr := N_
          clear N_
          generalize z302.setRow (w.heap.size) ([.int .i64 0, .int .i64 0, .slice none 0 0, .slice none 0 0]).toArray = z303 at Zr Zt tt ee rr ⊢
          go_wp2_with fail
          refine bodyPost_ret (v := .agg [.int .i64 0, .int .i64 0, .slice none 0 0, .slice none 0 0].toArray) (results_cell_row rfl _ _ (w.heap.size) 30 _ (0, 0) _ rfl Zr Tryz.underlying30 rfl sizeTx) rfl ⟨⟨none, 0, none, 0, by rw [HR.out]; rfl, by rw [HR.out]; exact fun z _ => TxOk.zero⟩, by rw [HR.out]; exact rr, ee⟩
        | false =>
          iterate 27 (first | with_reducible refine isLoad (ty := 30) rfl ?_ | go_step)
          refine wpList_load_g (by rfl) 30 _ rfl (gt) 0 rfl ([.int .i64 (qs : Int), .int .i64 (qq : Int), .slice A1 k c1, .slice A2 j c2]) _ (rowAt Zt) Tryz.underlying30 rfl sizeTx ?_
          go_wp2_with fail
          refine (HFM.out y3 (Below.refl _ _) tt.tabs).mono ?_
          rintro e z302 ⟨rfl, t⟩
          have Zr := hpB Zr t
          have Zt := hpB Zt t
          have hv := ownBelow hv t
          have hu := ownBelow hu t
          have tt := TabsAt.belowS tt t
          have ee := grownBelow ee t
          have rr := RdrAt.below rr t
          clear t
          cases fm with
          | false =>
            have HR : Hid (R = (((0, 0), [], []), (ls, true))) := HU.out
            clear HU
            clear HFM
            clear hu hv
            go_wp2_with fail
            refine (take_any B g 9 (ls, false) z302 rr).mono ?_
            rintro e z303 ⟨rfl, rr, t⟩
            have Zr := heapG Zr t (by omega)
            have Zt := heapG Zt t (by omega)
            have tt := TabsAt.grown tt t hBg
            have ee := grownTrans ee t
            clear t
            rw [take9] at rr
            go_upto_region 12 with fail
            refine wp_region_lit ?_
            iterate 27 (first | with_reducible refine isStore (ty := 30) rfl ?_ | go_step)
            refine wpList_store_row rfl 30 _ _ rfl (w.heap.size) ([.int .i64 0, .int .i64 0, .slice none 0 0, .slice none 0 0]).toArray rfl rfl 30 _ Zr sizeTx (by rfl) (by simp [Value.oneCell']) ?_
            have N_ := setRow_heap z303 (w.heap.size) _ ([.int .i64 0, .int .i64 0, .slice none 0 0, .slice none 0 0]).toArray _ _ Zr
            have ee := grownRowNew (cs := ([.int .i64 0, .int .i64 0, .slice none 0 0, .slice none 0 0]).toArray) ee (show w.heap.size ≤ w.heap.size by omega) Zr
            have rr := RdrAt.row (cs := ([.int .i64 0, .int .i64 0, .slice none 0 0, .slice none 0 0]).toArray) rr (show w.heap.size ≠ g by omega) (by omega)
            have Zt := hpR Zt (g' := w.heap.size) (by omega) ([.int .i64 0, .int .i64 0, .slice none 0 0, .slice none 0 0]).toArray
            have tt := TabsAt.row (cs := ([.int .i64 0, .int .i64 0, .slice none 0 0, .slice none 0 0]).toArray) tt (show B ≤ w.heap.size by omega)
            clear Zr
            have Zr := N_
            clear N_
            generalize z303.setRow (w.heap.size) ([.int .i64 0, .int .i64 0, .slice none 0 0, .slice none 0 0]).toArray = z304 at Zr Zt tt ee rr ⊢
            go_wp2_with fail
            refine bodyPost_ret (v := .agg [.int .i64 0, .int .i64 0, .slice none 0 0, .slice none 0 0].toArray) (results_cell_row rfl _ _ (w.heap.size) 30 _ (0, 0) _ rfl Zr Tryz.underlying30 rfl sizeTx) rfl ⟨⟨none, 0, none, 0, by rw [HR.out]; rfl, by rw [HR.out]; exact fun z _ => TxOk.zero⟩, by rw [HR.out]; exact rr, ee⟩
          | true =>
            have HR : Hid (R = (((qs, qq), rs, ws), (ls, false))) := HU.out
            clear HU HFM
            go_upto_region 13 with fail
            refine wp_region_lit ?_
            iterate 27 (first | with_reducible refine isLoad (ty := 30) rfl ?_ | go_step)
            refine wpList_load_mid rfl 30 _ rfl (gt) 0 rfl ([.int .i64 (qs : Int), .int .i64 (qq : Int), .slice A1 k c1, .slice A2 j c2]) _ (rowAt Zt) Tryz.underlying30 rfl sizeTx ?_
            iterate 27 (first | with_reducible refine isStore (ty := 30) rfl ?_ | go_step)
            refine wpList_store_row rfl 30 _ _ rfl (w.heap.size) ([.int .i64 (qs : Int), .int .i64 (qq : Int), .slice A1 k c1, .slice A2 j c2]).toArray rfl rfl 30 _ Zr sizeTx (by rfl) (by simp [Value.oneCell']) ?_
            have N_ := setRow_heap z302 (w.heap.size) _ ([.int .i64 (qs : Int), .int .i64 (qq : Int), .slice A1 k c1, .slice A2 j c2]).toArray _ _ Zr
            have ee := grownRowNew (cs := ([.int .i64 (qs : Int), .int .i64 (qq : Int), .slice A1 k c1, .slice A2 j c2]).toArray) ee (show w.heap.size ≤ w.heap.size by omega) Zr
            have rr := RdrAt.row (cs := ([.int .i64 (qs : Int), .int .i64 (qq : Int), .slice A1 k c1, .slice A2 j c2]).toArray) rr (show w.heap.size ≠ g by omega) (by omega)
            have Zt := hpR Zt (g' := w.heap.size) (by omega) ([.int .i64 (qs : Int), .int .i64 (qq : Int), .slice A1 k c1, .slice A2 j c2]).toArray
            have tt := TabsAt.row (cs := ([.int .i64 (qs : Int), .int .i64 (qq : Int), .slice A1 k c1, .slice A2 j c2]).toArray) tt (show B ≤ w.heap.size by omega)
            have hv := ownRowK (cs := ([.int .i64 (qs : Int), .int .i64 (qq : Int), .slice A1 k c1, .slice A2 j c2]).toArray) hv (ownKind hv Zr (by decide))
            have hu := ownRowK (cs := ([.int .i64 (qs : Int), .int .i64 (qq : Int), .slice A1 k c1, .slice A2 j c2]).toArray) hu (ownKind hu Zr (by decide))
            clear Zr
            have Zr := N_
            clear N_
            generalize z302.setRow (w.heap.size) ([.int .i64 (qs : Int), .int .i64 (qq : Int), .slice A1 k c1, .slice A2 j c2]).toArray = z303 at Zr Zt hv hu tt ee rr ⊢
            go_wp2_with fail
            refine bodyPost_ret (v := .agg [.int .i64 (qs : Int), .int .i64 (qq : Int), .slice A1 k c1, .slice A2 j c2].toArray) (results_cell_row rfl _ _ (w.heap.size) 30 _ (0, 0) _ rfl Zr Tryz.underlying30 rfl sizeTx) rfl ⟨⟨A1, c1, A2, c2, by rw [HR.out]; simp only [hrl, hwl], by rw [HR.out]; exact fun z hk => txOwn (ownFresh hu hk) (ownFresh hv hk) hrl hwl HOK.out HOW.out⟩, by rw [HR.out]; exact rr, ee⟩
end Go.Proofs.YtjofjpmhokjhnaaGreatDoor
