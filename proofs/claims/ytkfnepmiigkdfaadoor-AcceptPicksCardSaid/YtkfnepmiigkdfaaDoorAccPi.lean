/- The walk of AcceptPicks. Conditions: the script lies below; the tables lie. (Printed by gen_accp.py.) -/
import Derived.Test.YtkfnepmiigkdfaaDoorAccPc
import Derived.Test.YtkfnepmiigkdfaaDoorAccPr
import Derived.Great.BuildSlice
namespace Go.Proofs.YtkfnepmiigkdfaaDoor
set_option maxRecDepth 20000
open Go.RowKit T
set_option linter.unusedSimpArgs false
set_option linter.unusedVariables false

theorem info_ac : (Tryd.prog.info? 39).map (fun i => (i.zero, i.size, i.bytes)) = some (some (.agg #[.int .u32 0, .int .i64 0, .int .i64 0, .bool false, .int .u32 0, .int .i64 0, .int .i64 0, .int .i64 0, .int .i64 0, .slice none 0 0, .slice none 0 0, .int .i64 0, .int .i64 0, .int .i64 0, .int .u64 0, .bool false]), 16, 160) := by kernel_rfl
theorem info_rac : (Tryd.prog.info? 43).map (fun i => (i.zero, i.size, i.bytes)) = some (some (.agg #[.int .u32 0, .int .i64 0, .int .i64 0, .bool false, .int .u32 0, .int .i64 0, .int .i64 0, .int .i64 0, .int .i64 0, .slice none 0 0, .slice none 0 0, .int .i64 0, .int .i64 0, .int .i64 0, .int .u64 0, .bool false]), 16, 160) := by kernel_rfl
theorem oneOf (a : Ac) : ∀ u ∈ a.cells, u.oneCell' = true := fun u hu => (Array.all_eq_true_iff_forall_mem.1 (Ac.one a)) u (by simpa using hu)
theorem rowAdd {w : World} {g : Nat} {cs : List Value} {t : TypeId} (h : w.heap[g]? = some (.cells cs.toArray t (0, 0))) : ∀ j v, cs[j]? = some v → w.cell? ((⟨g, 0, none⟩ : Addr).add j) = some v := fun j v hv => by
  rw [Addr.add_mid]; exact rowAt h j v hv
theorem fill16 (x : Ac) (cells : Array Value) (hn : cells.size = 16) : Instr.fill (fun i => some (i * 16, 16)) cells [(0, .agg x.cells.toArray)] = some x.cells.toArray := by
  have := Great.fill_whole (s := 16) (by omega) [Value.agg x.cells.toArray] cells (by intro v hv; simp at hv; subst hv; rfl) (by simp [hn])
  simpa [Value.cells] using this
set_option maxHeartbeats 6400000 in
theorem picks_mid (A : Option Addr) (c : Nat) (l : List Ac) (w : World) (hc : l.length ≤ c) (hm : c ≤ maxLen) (hR : RowsAt w w.heap.size A 16 (l.map Ac.cells)) (hL : ∀ a ∈ l, CmOk w w.heap.size a.c) (hT : Tabs w) :
    Calls Tryd.prog 3 #[.slice A l.length c] w fun e w' => e = .returned (.bool true) ∧ Below w.heap.size w w' := by
  obtain ⟨i1, hi1, hz10, hz11, hz12⟩ := info_parts info_ac
  obtain ⟨i2, hi2, hz20, hz21, hz22⟩ := info_parts info_rac
  obtain ⟨n, hn⟩ : ∃ n, n = l.length := ⟨_, rfl⟩
  have HN := Lib.hid hn
  have HT := Lib.hid hT
  have HR := Lib.hid hR
  have HL := Lib.hid hL
  rw [← hn] at hc ⊢
  clear hn hT hR hL
  unfold maxLen at hm
  have ee : Below w.heap.size w w := Below.refl _ _
  go_enter Tryd.func3, Tryd.ntmps3
  by_cases hl : 20 < n
  · go_wp2_with fail
    refine (a18_awake w (HT.out.below ee)).mono ?_
    rintro e z1 ⟨rfl, t⟩
    have ee := ee.trans (t.mono ee.size)
    clear t
    go_wp2_with fail
    refine (a18_awake z1 (HT.out.below ee)).mono ?_
    rintro e z2 ⟨rfl, t⟩
    have ee := ee.trans (t.mono ee.size)
    clear t
    go_wp2_with fail
    go_ret
    exact ⟨rfl, ee⟩
  · go_wp2_with fail
    refine (a18_awake w (HT.out.below ee)).mono ?_
    rintro e z1 ⟨rfl, t⟩
    have ee := ee.trans (t.mono ee.size)
    clear t
    have hle : ¬ 20 < n := hl
    clear hl
    have hl : decide (20 < (n : Int)) = false := by simp; omega
    go_wp2_with fail
    go_loopw [3, 4, 5] (fun u v i wr => ∃ k : Nat, k ≤ n ∧ i = .int .i64 (k : Int) ∧ wr.ownsRow w.heap.size 39 16 u k (acCells (l.take k)) ∧ wr.ownsRow w.heap.size 43 16 v k (acCells (l.take k)) ∧ Hid (Below w.heap.size w wr)) (fun _ _ i _ => n - (intOf i).toNat)
    case atStart => exact ⟨0, Nat.zero_le _, rfl, World.ownsRow_nil _ _ _ _, World.ownsRow_nil _ _ _ _, ee⟩
    case round =>
      clear ee
      obtain ⟨k, hk, rfl, hu, hv, ee⟩ := hrel
      have ee := ee.out
      by_cases hlt : k < n
      · have hkl : k < l.length := by rw [← HN.out]; exact hlt
        obtain ⟨bo, off, rfl, hbo, hr⟩ := rowsGet HR.out hkl
        have HX : Hid (CmOk w w.heap.size (l[k]'hkl).c) := HL.out _ (List.getElem_mem hkl)
        have HK : Hid (l.take (k + 1) = l.take k ++ [l[k]'hkl]) := List.take_succ_eq_append_getElem hkl
        generalize l[k] = x at hr HX HK
        go_upto_region 8 with fail
        refine wp_region_lit ?_
        iterate 27 (first | with_reducible refine isLoad (ty := 37) rfl ?_ | go_step)
        refine wpList_load_mid rfl 37 _ rfl (bo) (off + k * 16 + 6) rfl (x.c.cells) _ (rangePart (rangeB hr ee hbo) (Ac.part x)) Tryd.underlying37 rfl sizeCm ?_
        go_wp2_with fail
        refine (c_few x.c wr w.heap.size ee.size (HX.out.below ee (Nat.le_refl _))).mono ?_
        rintro e y1 ⟨⟨r, rfl⟩, t⟩
        have hu := ownBelow hu t
        have hv := ownBelow hv t
        have ee := ee.trans (t.mono ee.size)
        clear t
        cases r with
        | false =>
          go_wp2_with fail
          go_ret
          exact ⟨rfl, ee⟩
        | true =>
          go_upto_region 10 with fail
          refine wp_region_lit ?_
          iterate 27 (first | with_reducible refine isLoad (ty := 39) rfl ?_ | go_step)
          refine wpList_load_mid rfl 39 _ rfl (bo) (off + k * 16) rfl (x.cells) _ (rangeB hr ee hbo) Tryd.underlying39 rfl sizeAc ?_
          refine wpList_buildSlice rfl 22 39 1 #[(0, .tmp 35)] rfl x.cells.toArray i1 (.agg #[.int .u32 0, .int .i64 0, .int .i64 0, .bool false, .int .u32 0, .int .i64 0, .int .i64 0, .int .i64 0, .int .i64 0, .slice none 0 0, .slice none 0 0, .int .i64 0, .int .i64 0, .int .i64 0, .int .u64 0, .bool false]) Tryd.underlying22 hi1 hz10 (by rw [hz11]; decide) (by rw [hz11]; decide) (by rw [hz11]; simp only [List.map_toArray, List.map_cons, List.map_nil]; exact fill16 x _ (by simp)) ?_
          have ZN := hpN y1 (.cells x.cells.toArray 39) rfl
          have ey := ee.size
          have hu := hu.alloc (.cells x.cells.toArray 39)
          have hv := hv.alloc (.cells x.cells.toArray 39)
          have ee := ee.alloc ee.size (.cells x.cells.toArray 39)
          generalize y1.alloc (.cells x.cells.toArray 39) = y1a at ZN hu hv ee ⊢
          refine wpList_append_own _ rfl (.tmp 31) (.tmp 36) 22 rfl w.heap.size 39 i1 (.agg #[.int .u32 0, .int .i64 0, .int .i64 0, .bool false, .int .u32 0, .int .i64 0, .int .i64 0, .int .i64 0, .int .i64 0, .slice none 0 0, .slice none 0 0, .int .i64 0, .int .i64 0, .int .i64 0, .int .u64 0, .bool false]) 16 160 Tryd.underlying22 hi1 hz10 hz11 hz12 rfl (by decide) _ _ _ rfl hu ⟨y1.heap.size, 0, none⟩ 1 1 x.cells rfl rfl ?c1 ?c2 ?c3 ?c4 ?c5 ?_
          case c1 => exact rowAdd ZN
          case c2 => exact oneOf x
          case c3 => unfold maxLen; omega
          case c4 => omega
          case c5 => exact ee.size
          intro u_ y2 ho_ hg_ _
          have hv := hv.kept hg_ (own_ne hu hv (by decide))
          have ee := ee.grown hg_ ee.size (fun g hg => (hu.lt g hg).1)
          clear hg_ ZN hu ey
          have hu := ho_
          clear ho_
          go_upto_region 11 with fail
          refine wp_region_lit ?_
          iterate 27 (first | with_reducible refine isLoad (ty := 39) rfl ?_ | go_step)
          refine wpList_load_mid rfl 39 _ rfl (bo) (off + k * 16) rfl (x.cells) _ (rangeB hr ee hbo) Tryd.underlying39 rfl sizeAc ?_
          go_wp2_with fail
          refine (c_plain x y2).mono ?_
          rintro e y2q ⟨rfl, t⟩
          have hu := ownBelow hu t
          have hv := ownBelow hv t
          have ee := ee.trans (t.mono ee.size)
          clear t
          dsimp only
          rename_i hK
          refine hK _ _ ?_
          clear hK
          skip
          refine wpList_buildSlice rfl 24 43 1 #[(0, .tmp 43)] rfl x.cells.toArray i2 (.agg #[.int .u32 0, .int .i64 0, .int .i64 0, .bool false, .int .u32 0, .int .i64 0, .int .i64 0, .int .i64 0, .int .i64 0, .slice none 0 0, .slice none 0 0, .int .i64 0, .int .i64 0, .int .i64 0, .int .u64 0, .bool false]) Tryd.underlying24 hi2 hz20 (by rw [hz21]; decide) (by rw [hz21]; decide) (by rw [hz21]; simp only [List.map_toArray, List.map_cons, List.map_nil]; exact fill16 x _ (by simp)) ?_
          have ZN := hpN y2q (.cells x.cells.toArray 43) rfl
          have ey := ee.size
          have hu := hu.alloc (.cells x.cells.toArray 43)
          have hv := hv.alloc (.cells x.cells.toArray 43)
          have ee := ee.alloc ee.size (.cells x.cells.toArray 43)
          generalize y2q.alloc (.cells x.cells.toArray 43) = y2qa at ZN hu hv ee ⊢
          refine wpList_append_own _ rfl (.tmp 38) (.tmp 44) 24 rfl w.heap.size 43 i2 (.agg #[.int .u32 0, .int .i64 0, .int .i64 0, .bool false, .int .u32 0, .int .i64 0, .int .i64 0, .int .i64 0, .int .i64 0, .slice none 0 0, .slice none 0 0, .int .i64 0, .int .i64 0, .int .i64 0, .int .u64 0, .bool false]) 16 160 Tryd.underlying24 hi2 hz20 hz21 hz22 rfl (by decide) _ _ _ rfl hv ⟨y2q.heap.size, 0, none⟩ 1 1 x.cells rfl rfl ?c1 ?c2 ?c3 ?c4 ?c5 ?_
          case c1 => exact rowAdd ZN
          case c2 => exact oneOf x
          case c3 => unfold maxLen; omega
          case c4 => omega
          case c5 => exact ee.size
          intro u_ y3 ho_ hg_ _
          have hu := hu.kept hg_ (own_ne hv hu (by decide))
          have ee := ee.grown hg_ ee.size (fun g hg => (hv.lt g hg).1)
          clear hg_ ZN hv ey
          have hv := ho_
          clear ho_
          go_wp2_with fail
          go_roundw
          case rel => exact ⟨k + 1, by omega, by go_num, by rw [HK.out, acCells_snoc]; exact hu, by rw [HK.out, acCells_snoc]; exact hv, ee⟩
          case measure => simp [intOf]; omega
      · obtain rfl : k = n := by omega
        have htk : l.take k = l := by rw [HN.out]; exact List.take_length
        rw [htk] at hu hv
        have hn' := HN.out
        subst hn'
        obtain ⟨A1, q1, rfl, hq1, hB1⟩ := acOwn hu
        obtain ⟨A2, q2, rfl, hq2, hB2⟩ := acOwn hv
        clear hu hv htk hlt hi1 hz10 hz11 hz12 hi2 hz20 hz21 hz22
        have HBC : Hid (CmOk w w.heap.size (best (topOf l) l).c) := bestOk w l HL.out _ _ CmOk.zero
        go_upto_region 12 with fail
        refine wp_region_lit ?_
        have ez := ee
        have HP1 := Lib.hid (pick_any A1 q1 l wr wr.heap.size (by omega) hq1 hB1 (Nat.le_refl _))
        have HP2 := Lib.hid (fun z (hz : Below wr.heap.size wr z) => rpick_any A2 q2 l z wr.heap.size (by omega) hq2 (hB2.below hz (Nat.le_refl _)) hz.size)
        generalize best (topOf l) l = b at HP1 HP2 HBC
        have e9 : Below wr.heap.size wr wr := Below.refl _ _
        go_wp2_with fail
        refine HP1.out.mono ?_
        rintro e z1 ⟨rfl, t⟩
        have e9 := t
        have ee := ee.trans (t.mono ee.size)
        clear t
        dsimp only
        rename_i hK
        refine hK _ _ ?_
        clear hK
        have e0s := ee.size
        iterate 12 go_step
        have e9s := e9.size
        have ee := ee.alloc ee.size (.cells #[.int .i64 0, .int .i64 0, .int .i64 0, .slice none 0 0, .slice none 0 0, .int .i64 0, .int .i64 0, .int .i64 0, .int .u64 0, .bool false] 37)
        have e9 := e9.alloc e9.size (.cells #[.int .i64 0, .int .i64 0, .int .i64 0, .slice none 0 0, .slice none 0 0, .int .i64 0, .int .i64 0, .int .i64 0, .int .u64 0, .bool false] 37)
        have Z6 := hpN z1 (.cells #[.int .i64 0, .int .i64 0, .int .i64 0, .slice none 0 0, .slice none 0 0, .int .i64 0, .int .i64 0, .int .i64 0, .int .u64 0, .bool false] 37) rfl
        generalize z1.alloc (.cells #[.int .i64 0, .int .i64 0, .int .i64 0, .slice none 0 0, .slice none 0 0, .int .i64 0, .int .i64 0, .int .i64 0, .int .u64 0, .bool false] 37) = z2 at Z6 ee e9 ⊢
        iterate 27 (first | with_reducible refine isStore (ty := 37) rfl ?_ | go_step)
        refine wpList_store_row rfl 37 _ _ rfl (z1.heap.size) (b.c.cells).toArray rfl rfl 37 _ Z6 sizeCm (by rfl) (Cm.one _) ?_
        have N_ := setRow_heap z2 (z1.heap.size) _ (b.c.cells).toArray _ _ Z6
        have ee := belowSet (cs := (b.c.cells).toArray) ee Z6 (by omega)
        have e9 := belowSet (cs := (b.c.cells).toArray) e9 Z6 (by omega)
        clear Z6
        have Z6 := N_
        clear N_
        generalize z2.setRow (z1.heap.size) (b.c.cells).toArray = z3 at Z6 ee e9 ⊢
        iterate 3 go_step
        go_upto_region 13 with fail
        refine wp_region_lit ?_
        go_wp2_with fail
        go_wp2_with fail
        refine (HP2.out z3 e9).mono ?_
        rintro e z4 ⟨rfl, t⟩
        have Z6 := hpB Z6 t
        have ee := ee.trans (t.mono ee.size)
        have e9 := e9.trans (t.mono e9.size)
        clear t
        dsimp only
        rename_i hK
        refine hK _ _ ?_
        clear hK
        have e0s := ee.size
        iterate 12 go_step
        have lZ6 := (Array.getElem?_eq_some_iff.1 Z6).1
        have Z6 := hpA Z6 (.cells #[.int .i64 0, .int .i64 0, .int .i64 0, .slice none 0 0, .slice none 0 0, .int .i64 0, .int .i64 0, .int .i64 0, .int .u64 0, .bool false] 41)
        have ee := ee.alloc ee.size (.cells #[.int .i64 0, .int .i64 0, .int .i64 0, .slice none 0 0, .slice none 0 0, .int .i64 0, .int .i64 0, .int .i64 0, .int .u64 0, .bool false] 41)
        have e9 := e9.alloc e9.size (.cells #[.int .i64 0, .int .i64 0, .int .i64 0, .slice none 0 0, .slice none 0 0, .int .i64 0, .int .i64 0, .int .i64 0, .int .u64 0, .bool false] 41)
        have Z8 := hpN z4 (.cells #[.int .i64 0, .int .i64 0, .int .i64 0, .slice none 0 0, .slice none 0 0, .int .i64 0, .int .i64 0, .int .i64 0, .int .u64 0, .bool false] 41) rfl
        generalize z4.alloc (.cells #[.int .i64 0, .int .i64 0, .int .i64 0, .slice none 0 0, .slice none 0 0, .int .i64 0, .int .i64 0, .int .i64 0, .int .u64 0, .bool false] 41) = z5 at Z6 Z8 ee e9 ⊢
        iterate 27 (first | with_reducible refine isStore (ty := 41) rfl ?_ | go_step)
        refine wpList_store_row rfl 41 _ _ rfl (z4.heap.size) (b.c.cells).toArray rfl rfl 41 _ Z8 sizeRCm (by rfl) (Cm.one _) ?_
        have N_ := setRow_heap z5 (z4.heap.size) _ (b.c.cells).toArray _ _ Z8
        have ee := belowSet (cs := (b.c.cells).toArray) ee Z8 (by omega)
        have e9 := belowSet (cs := (b.c.cells).toArray) e9 Z8 (by omega)
        have Z6 := hpR Z6 (g' := z4.heap.size) (by omega) (b.c.cells).toArray
        clear Z8
        have Z8 := N_
        clear N_
        generalize z5.setRow (z4.heap.size) (b.c.cells).toArray = z6 at Z6 Z8 ee e9 ⊢
        iterate 3 go_step
        have hq : (b.ha == b.ha) = true := by simp
        go_upto_region 14 with fail
        refine wp_region_lit ?_
        iterate 27 (first | with_reducible refine isLoad (ty := 37) rfl ?_ | go_step)
        refine wpList_load_g (by rfl) 37 _ rfl (z1.heap.size) 0 rfl ((b.c.cells)) _ (rowAt Z6) Tryd.underlying37 rfl sizeCm ?_
        iterate 27 (first | with_reducible refine isLoad (ty := 41) rfl ?_ | go_step)
        refine wpList_load_g (by rfl) 41 _ rfl (z4.heap.size) 0 rfl ((b.c.cells)) _ (rowAt Z8) Tryd.underlying41 rfl sizeRCm ?_
        have HSM := cr_csame b.c b.c z6 w.heap.size ee.size (HBC.out.below ee (Nat.le_refl _)) (HBC.out.below ee (Nat.le_refl _))
        rw [SameC.refl] at HSM
        have HSM := Lib.hid HSM
        go_wp2_with fail
        refine (HSM.out).mono ?_
        rintro e z7 ⟨rfl, t⟩
        have Z6 := hpB Z6 t
        have Z8 := hpB Z8 t
        have ee := ee.trans (t.mono ee.size)
        have e9 := e9.trans (t.mono e9.size)
        clear t
        go_wp2_with fail
        go_ret
        exact ⟨rfl, ee⟩

theorem acceptPicks_walk (W : World) (hT : Tabs W) (v0 : Value) (h0 : Arg W 22 v0) :
    Calls Tryd.prog 3 #[v0] W fun e W' => e = .returned (.bool true) ∧ Below W.heap.size W W' := by
  obtain ⟨A, c, ls, rfl, h2, h3, h4, h5⟩ := h0.acs
  exact picks_mid A c ls W h2 h3 h4 h5 hT
end Go.Proofs.YtkfnepmiigkdfaaDoor
