/- The walk of AcceptPlays. Conditions: the script lies below; the tables lie. (Printed by gen_accp.py.) -/
import Derived.Test.YtkfnepmiigkdfaaDoorAccArg
namespace Go.Proofs.YtkfnepmiigkdfaaDoor
set_option maxRecDepth 20000
open Go.RowKit T
set_option linter.unusedSimpArgs false
set_option linter.unusedVariables false

set_option maxHeartbeats 6400000 in
theorem plays_mid (a0 : Ac) (A : Option Addr) (c : Nat) (ls : List AOp) (w : World) (hA : CmOk w w.heap.size a0.c) (hc : ls.length ≤ c) (hm : c ≤ maxLen) (hR : RowsAt w w.heap.size A 14 (ls.map AOp.cells)) (hL : ∀ o ∈ ls, CmOk w w.heap.size o.x) (hT : Tabs w) :
    Calls Tryd.prog 4 #[.agg a0.cells.toArray, .slice A ls.length c] w fun e w' => e = .returned (.bool true) ∧ Below w.heap.size w w' := by
  obtain ⟨n, hn⟩ : ∃ n, n = ls.length := ⟨_, rfl⟩
  have HN := Lib.hid hn
  have HT := Lib.hid hT
  have HA := Lib.hid hA
  have HR := Lib.hid hR
  have HL := Lib.hid hL
  rw [← hn] at hc ⊢
  clear hn hT hA hR hL
  unfold maxLen at hm
  obtain ⟨w0, hw0⟩ : ∃ w0, w0 = w.alloc (.cells a0.cells.toArray 39) := ⟨_, rfl⟩
  have ee : Below w.heap.size w w0 := by rw [hw0]; exact (Below.refl _ _).alloc (Nat.le_refl _) _
  have Za : w0.heap[w.heap.size + 0]? = some (.cells a0.cells.toArray 39) := by rw [hw0]; exact hpN _ _ rfl
  go_enter Tryd.func4, Tryd.ntmps4
  go_upto_region 1 with fail
  rw [← hw0]
  clear hw0
  by_cases hl : 60 < n
  · go_wp2_with fail
    refine (a18_awake w0 (HT.out.below ee)).mono ?_
    rintro e z1 ⟨rfl, t⟩
    have Za := hpB Za t
    have ee := ee.trans (t.mono ee.size)
    clear t
    go_wp2_with fail
    refine (a18_awake z1 (HT.out.below ee)).mono ?_
    rintro e z2 ⟨rfl, t⟩
    have Za := hpB Za t
    have ee := ee.trans (t.mono ee.size)
    clear t
    go_wp2_with fail
    go_ret
    exact ⟨rfl, ee⟩
  · go_wp2_with fail
    refine (a18_awake w0 (HT.out.below ee)).mono ?_
    rintro e z1 ⟨rfl, t⟩
    have Za := hpB Za t
    have ee := ee.trans (t.mono ee.size)
    clear t
    dsimp only
    rename_i hK
    refine hK _ _ ?_
    clear hK
    have hle : ¬ 60 < n := hl
    clear hl
    have hl : decide (60 < (n : Int)) = false := by simp; omega
    iterate 27 (first | with_reducible refine isLoad (ty := 37) rfl ?_ | go_step)
    refine wpList_load_g (by rfl) 37 _ rfl (w.heap.size + 0) 6 rfl (a0.c.cells) _ (rowMid Za 6 (Ac.part a0)) Tryd.underlying37 rfl sizeCm ?_
    go_wp2_with fail
    refine (c_few a0.c z1 w.heap.size ee.size (HA.out.below ee (Nat.le_refl _))).mono ?_
    rintro e z2 ⟨⟨r, rfl⟩, t⟩
    have Za := hpB Za t
    have ee := ee.trans (t.mono ee.size)
    clear t
    cases r with
    | false =>
      go_wp2_with fail
      refine (a18_awake z2 (HT.out.below ee)).mono ?_
      rintro e z3 ⟨rfl, t⟩
      have Za := hpB Za t
      have ee := ee.trans (t.mono ee.size)
      clear t
      go_wp2_with fail
      go_ret
      exact ⟨rfl, ee⟩
    | true =>
      go_upto_region 3 with fail
      refine wp_region_lit ?_
      iterate 27 (first | with_reducible refine isLoad (ty := 39) rfl ?_ | go_step)
      refine wpList_load_mid rfl 39 _ rfl (w.heap.size + 0) 0 rfl (a0.cells) _ (rowAt Za) Tryd.underlying39 rfl sizeAc ?_
      go_wp2_with fail
      refine (c_plain a0 z2).mono ?_
      rintro e z3 ⟨rfl, t⟩
      have Za := hpB Za t
      have ee := ee.trans (t.mono ee.size)
      clear t
      dsimp only
      rename_i hK
      refine hK _ _ ?_
      clear hK
      iterate 3 go_step
      have lZa := (Array.getElem?_eq_some_iff.1 Za).1
      have Za := hpA Za (.cells #[.int .u32 0, .int .i64 0, .int .i64 0, .bool false, .int .u32 0, .int .i64 0, .int .i64 0, .int .i64 0, .int .i64 0, .slice none 0 0, .slice none 0 0, .int .i64 0, .int .i64 0, .int .i64 0, .int .u64 0, .bool false] 43)
      have ee := ee.alloc ee.size (.cells #[.int .u32 0, .int .i64 0, .int .i64 0, .bool false, .int .u32 0, .int .i64 0, .int .i64 0, .int .i64 0, .int .i64 0, .slice none 0 0, .slice none 0 0, .int .i64 0, .int .i64 0, .int .i64 0, .int .u64 0, .bool false] 43)
      have Zw := hpN z3 (.cells #[.int .u32 0, .int .i64 0, .int .i64 0, .bool false, .int .u32 0, .int .i64 0, .int .i64 0, .int .i64 0, .int .i64 0, .slice none 0 0, .slice none 0 0, .int .i64 0, .int .i64 0, .int .i64 0, .int .u64 0, .bool false] 43) rfl
      generalize z3.alloc (.cells #[.int .u32 0, .int .i64 0, .int .i64 0, .bool false, .int .u32 0, .int .i64 0, .int .i64 0, .int .i64 0, .int .i64 0, .slice none 0 0, .slice none 0 0, .int .i64 0, .int .i64 0, .int .i64 0, .int .u64 0, .bool false] 43) = z4 at Za Zw ee ⊢
      iterate 27 (first | with_reducible refine isStore (ty := 43) rfl ?_ | go_step)
      refine wpList_store_row rfl 43 _ _ rfl (z3.heap.size) (a0.cells).toArray rfl rfl 43 _ Zw sizeRAc (by rfl) (Ac.one _) ?_
      have N_ := setRow_heap z4 (z3.heap.size) _ (a0.cells).toArray _ _ Zw
      have ee := belowSet (cs := (a0.cells).toArray) ee Zw (by omega)
      have Za := hpR Za (g' := z3.heap.size) (by omega) (a0.cells).toArray
      clear Zw
      have Zw := N_
      clear N_
      generalize z4.setRow (z3.heap.size) (a0.cells).toArray = z5 at Za Zw ee ⊢
      obtain ⟨gb, hgb⟩ : ∃ gb, gb = z3.heap.size := ⟨_, rfl⟩
      have lZa : w.heap.size + 0 < gb := by rw [hgb]; exact lZa
      rw [← hgb] at Zw ⊢
      clear hgb
      go_wp2_with fail
      go_loopw [6] (fun i wr => ∃ (k : Nat) (a : Ac), k ≤ n ∧ i = .int .i64 (k : Int) ∧ Hid (wr.heap[w.heap.size + 0]? = some (.cells a.cells.toArray 39)) ∧ Hid (wr.heap[gb]? = some (.cells a.cells.toArray 43)) ∧ Hid (CmOk w w.heap.size a.c) ∧ Hid (Below w.heap.size w wr)) (fun i _ => n - (intOf i).toNat)
      case atStart => exact ⟨0, a0, Nat.zero_le _, rfl, Za, Zw, HA.out, ee⟩
      case round =>
        clear Za Zw ee
        obtain ⟨k, a, hk, rfl, Za, Zw, HC, ee⟩ := hrel
        have Za := Za.out
        have Zw := Zw.out
        have ee := ee.out
        by_cases hlt : k < n
        · have hkl : k < ls.length := by rw [← HN.out]; exact hlt
          obtain ⟨bo, off, rfl, hbo, hr⟩ := rowsGet HR.out hkl
          have HX : Hid (CmOk w w.heap.size ls[k].x) := HL.out _ (List.getElem_mem hkl)
          generalize ls[k] = o at hr HX
          have HACT := Lib.hid (fun z (hz : Below w.heap.size w z) => act_any a o z w.heap.size hz.size (HC.out.below hz (Nat.le_refl _)) (HX.out.below hz (Nat.le_refl _)) (HT.out.below hz))
          have HC2 := Lib.hid (Ac.step_ok HC.out HX.out)
          go_upto_region 7 with fail
          refine wp_region_lit ?_
          iterate 27 (first | with_reducible refine isLoad (ty := 37) rfl ?_ | go_step)
          refine wpList_load_mid rfl 37 _ rfl (bo) (off + k * 14 + 4) rfl (o.x.cells) _ (rangePart (rangeB hr ee hbo) (AOp.part o)) Tryd.underlying37 rfl sizeCm ?_
          go_wp2_with fail
          refine (c_few o.x wr w.heap.size ee.size (HX.out.below ee (Nat.le_refl _))).mono ?_
          rintro e z6 ⟨⟨r, rfl⟩, t⟩
          have Za := hpB Za t
          have Zw := hpB Zw t
          have ee := ee.trans (t.mono ee.size)
          clear t
          cases r with
          | false =>
            go_wp2_with fail
            go_ret
            exact ⟨rfl, ee⟩
          | true =>
            go_upto_region 9 with fail
            go_cut [7, 8, 9] (fun u7 u8 u9 wx => ∃ g1 g2 : Nat, u7 = .pointer (some ⟨g1, 0, none⟩) ∧ u8 = .pointer (some ⟨g2, 0, none⟩) ∧ u9 = .bool true ∧ Hid (gb < g1) ∧ Hid (gb < g2) ∧ Hid (wx.heap[w.heap.size + 0]? = some (.cells a.cells.toArray 39)) ∧ Hid (wx.heap[gb]? = some (.cells a.cells.toArray 43)) ∧ Hid (wx.heap[g1]? = some (.cells (a.step o).cells.toArray 39)) ∧ Hid (wx.heap[g2]? = some (.cells (a.step o).cells.toArray 43)) ∧ Hid (Below w.heap.size w wx))
            case first =>
              have Za : z6.drew.heap[w.heap.size + 0]? = some (.cells a.cells.toArray 39) := Za
              have Zw : z6.drew.heap[gb]? = some (.cells a.cells.toArray 43) := Zw
              have ee := belowDrewS ee
              refine wp_region_held_drew (S := fun z' => z'.rangeAt (w.heap.size + 0) 0 a.cells ∧ z'.rangeAt gb 0 a.cells ∧ z'.rangeAt bo (off + k * 14) o.cells) (by kernel_rfl) ⟨rowAt Za, rowAt Zw, rangeB hr ee hbo⟩ (fun hH => ?_)
              clear hH
              generalize z6.drew = z7 at Za Zw  ee ⊢
              refine wpAnyH_take (i := 0) (v := .agg (a.cells).toArray) rfl (by kernel_rfl) (by kernel_rfl) (by kernel_rfl) (fun _ _ _ h => h) (yieldsIf_load_mid (by rfl) 39 _ rfl (w.heap.size + 0) 0 rfl (a.cells) _ (fun _ h => h.1) Tryd.underlying39 rfl sizeAc) ⟨rowAt Za, rowAt Zw, rangeB hr ee hbo⟩ ?_
              try simp only [Act.put, List.getElem_toArray, List.getElem_cons_zero, List.getElem_cons_succ, List.setIfInBounds_toArray, List.set_cons_zero, List.set_cons_succ]
              refine wpAnyH_take (i := 1) (v := .agg (a.cells).toArray) rfl (by kernel_rfl) (by kernel_rfl) (by kernel_rfl) (fun _ _ _ h => h) (yieldsIf_load_mid (by rfl) 43 _ rfl (gb) 0 rfl (a.cells) _ (fun _ h => h.2.1) Tryd.underlying43 rfl sizeRAc) ⟨rowAt Za, rowAt Zw, rangeB hr ee hbo⟩ ?_
              try simp only [Act.put, List.getElem_toArray, List.getElem_cons_zero, List.getElem_cons_succ, List.setIfInBounds_toArray, List.set_cons_zero, List.set_cons_succ]
              refine wpAnyH_take (i := 2) (v := .slice (some ⟨bo, off, none⟩) n c) rfl (by kernel_rfl) (by kernel_rfl) (by kernel_rfl) (fun _ _ _ h => h) (Or.inl ⟨by rfl, fun w_ hS_ => by (first | (go_simp; done) | (go_simp; rfl))⟩) ⟨rowAt Za, rowAt Zw, rangeB hr ee hbo⟩ ?_
              try simp only [Act.put, List.getElem_toArray, List.getElem_cons_zero, List.getElem_cons_succ, List.setIfInBounds_toArray, List.set_cons_zero, List.set_cons_succ]
              refine wpAnyH_take (i := 3) (v := .int .i64 (k : Int)) rfl (by kernel_rfl) (by kernel_rfl) (by kernel_rfl) (fun _ _ _ h => h) (Or.inl ⟨by rfl, fun w_ hS_ => by (first | (go_simp; done) | (go_simp; rfl))⟩) ⟨rowAt Za, rowAt Zw, rangeB hr ee hbo⟩ ?_
              try simp only [Act.put, List.getElem_toArray, List.getElem_cons_zero, List.getElem_cons_succ, List.setIfInBounds_toArray, List.set_cons_zero, List.set_cons_succ]
              refine wpAnyH_take (i := 4) (v := .pointer (some ⟨bo, off + k * 14, none⟩)) rfl (by kernel_rfl) (by kernel_rfl) (by kernel_rfl) (fun _ _ _ h => h) (Or.inl ⟨by rfl, fun w_ hS_ => by (first | (go_simp; done) | (go_simp; rfl))⟩) ⟨rowAt Za, rowAt Zw, rangeB hr ee hbo⟩ ?_
              try simp only [Act.put, List.getElem_toArray, List.getElem_cons_zero, List.getElem_cons_succ, List.setIfInBounds_toArray, List.set_cons_zero, List.set_cons_succ]
              refine wpAnyH_take (i := 5) (v := .agg (o.cells).toArray) rfl (by kernel_rfl) (by kernel_rfl) (by kernel_rfl) (fun _ _ _ h => h) (yieldsIf_load_mid (by rfl) 53 _ rfl (bo) (off + k * 14) rfl (o.cells) _ (fun _ h => h.2.2) Tryd.underlying53 rfl sizeOp) ⟨rowAt Za, rowAt Zw, rangeB hr ee hbo⟩ ?_
              try simp only [Act.put, List.getElem_toArray, List.getElem_cons_zero, List.getElem_cons_succ, List.setIfInBounds_toArray, List.set_cons_zero, List.set_cons_succ]
              refine wpAnyH_ready (rs := [6, 11, 12]) (by kernel_rfl) (by simp) ?_
              refine AllReadyH.cons rfl (fun K hK => ?_) (AllReadyH.cons rfl (fun K hK => ?_) (AllReadyH.cons rfl (fun K hK => ?_) AllReadyH.nil))
              · rw [if_pos (by rfl)]
                go_simp
                go_wp2_with (go_at_call 17; refine (HACT.out z7 ee).mono ?_; rintro e z8 ⟨rfl, t⟩)
                have Za := hpB Za t
                have Zw := hpB Zw t
                have ee := ee.trans (t.mono ee.size)
                clear t
                refine hK.out _ _ ⟨rowAt Za, rowAt Zw, rangeB hr ee hbo⟩ (fun hH => ?_)
                clear hK K hH
                try simp only [Act.put, List.getElem_toArray, List.getElem_cons_zero, List.getElem_cons_succ, List.setIfInBounds_toArray, List.set_cons_zero, List.set_cons_succ]
                refine wpAnyH_take (i := 7) (v := .tuple #[.agg (a.step o).cells.toArray, .agg (a.step o).cells.toArray, .bool true]) rfl (by kernel_rfl) (by kernel_rfl) (by kernel_rfl) (fun _ _ _ h => h) (Or.inl ⟨by rfl, fun w_ hS_ => by (first | (go_simp; done) | (go_simp; rfl))⟩) ⟨rowAt Za, rowAt Zw, rangeB hr ee hbo⟩ ?_
                try simp only [Act.put, List.getElem_toArray, List.getElem_cons_zero, List.getElem_cons_succ, List.setIfInBounds_toArray, List.set_cons_zero, List.set_cons_succ]
                refine wpAnyH_take (i := 8) (v := .agg (a.step o).cells.toArray) rfl (by kernel_rfl) (by kernel_rfl) (by kernel_rfl) (fun _ _ _ h => h) (Or.inl ⟨by rfl, fun w_ hS_ => by (first | (go_simp; done) | (go_simp; rfl))⟩) ⟨rowAt Za, rowAt Zw, rangeB hr ee hbo⟩ ?_
                try simp only [Act.put, List.getElem_toArray, List.getElem_cons_zero, List.getElem_cons_succ, List.setIfInBounds_toArray, List.set_cons_zero, List.set_cons_succ]
                refine wpAnyH_take (i := 9) (v := .agg (a.step o).cells.toArray) rfl (by kernel_rfl) (by kernel_rfl) (by kernel_rfl) (fun _ _ _ h => h) (Or.inl ⟨by rfl, fun w_ hS_ => by (first | (go_simp; done) | (go_simp; rfl))⟩) ⟨rowAt Za, rowAt Zw, rangeB hr ee hbo⟩ ?_
                try simp only [Act.put, List.getElem_toArray, List.getElem_cons_zero, List.getElem_cons_succ, List.setIfInBounds_toArray, List.set_cons_zero, List.set_cons_succ]
                refine wpAnyH_take (i := 10) (v := .bool true) rfl (by kernel_rfl) (by kernel_rfl) (by kernel_rfl) (fun _ _ _ h => h) (Or.inl ⟨by rfl, fun w_ hS_ => by (first | (go_simp; done) | (go_simp; rfl))⟩) ⟨rowAt Za, rowAt Zw, rangeB hr ee hbo⟩ ?_
                try simp only [Act.put, List.getElem_toArray, List.getElem_cons_zero, List.getElem_cons_succ, List.setIfInBounds_toArray, List.set_cons_zero, List.set_cons_succ]
                refine wpAnyH_ready (rs := [11, 12]) (by kernel_rfl) (by simp) ?_
                refine AllReadyH.cons rfl (fun K hK => ?_) (AllReadyH.cons rfl (fun K hK => ?_) AllReadyH.nil)
                · rw [if_pos (by rfl)]
                  go_simp
                  have lZa := (Array.getElem?_eq_some_iff.1 Za).1
                  have lZw := (Array.getElem?_eq_some_iff.1 Zw).1
                  have Za := hpA Za (.cells #[.int .u32 0, .int .i64 0, .int .i64 0, .bool false, .int .u32 0, .int .i64 0, .int .i64 0, .int .i64 0, .int .i64 0, .slice none 0 0, .slice none 0 0, .int .i64 0, .int .i64 0, .int .i64 0, .int .u64 0, .bool false] 39)
                  have Zw := hpA Zw (.cells #[.int .u32 0, .int .i64 0, .int .i64 0, .bool false, .int .u32 0, .int .i64 0, .int .i64 0, .int .i64 0, .int .i64 0, .slice none 0 0, .slice none 0 0, .int .i64 0, .int .i64 0, .int .i64 0, .int .u64 0, .bool false] 39)
                  have ee := ee.alloc ee.size (.cells #[.int .u32 0, .int .i64 0, .int .i64 0, .bool false, .int .u32 0, .int .i64 0, .int .i64 0, .int .i64 0, .int .i64 0, .slice none 0 0, .slice none 0 0, .int .i64 0, .int .i64 0, .int .i64 0, .int .u64 0, .bool false] 39)
                  have Zn := hpN z8 (.cells #[.int .u32 0, .int .i64 0, .int .i64 0, .bool false, .int .u32 0, .int .i64 0, .int .i64 0, .int .i64 0, .int .i64 0, .slice none 0 0, .slice none 0 0, .int .i64 0, .int .i64 0, .int .i64 0, .int .u64 0, .bool false] 39) rfl
                  generalize z8.alloc (.cells #[.int .u32 0, .int .i64 0, .int .i64 0, .bool false, .int .u32 0, .int .i64 0, .int .i64 0, .int .i64 0, .int .i64 0, .slice none 0 0, .slice none 0 0, .int .i64 0, .int .i64 0, .int .i64 0, .int .u64 0, .bool false] 39) = z9 at Za Zw Zn  ee ⊢
                  refine hK.out _ _ ⟨rowAt Za, rowAt Zw, rangeB hr ee hbo⟩ (fun hH => ?_)
                  clear hK K hH
                  try simp only [Act.put, List.getElem_toArray, List.getElem_cons_zero, List.getElem_cons_succ, List.setIfInBounds_toArray, List.set_cons_zero, List.set_cons_succ]
                  refine wpAnyH_ready (rs := [12]) (by kernel_rfl) (by simp) ?_
                  refine AllReadyH.cons rfl (fun K hK => ?_) AllReadyH.nil
                  rw [if_pos (by rfl)]
                  go_simp
                  have lZa := (Array.getElem?_eq_some_iff.1 Za).1
                  have lZw := (Array.getElem?_eq_some_iff.1 Zw).1
                  have lZn := (Array.getElem?_eq_some_iff.1 Zn).1
                  have Za := hpA Za (.cells #[.int .u32 0, .int .i64 0, .int .i64 0, .bool false, .int .u32 0, .int .i64 0, .int .i64 0, .int .i64 0, .int .i64 0, .slice none 0 0, .slice none 0 0, .int .i64 0, .int .i64 0, .int .i64 0, .int .u64 0, .bool false] 43)
                  have Zw := hpA Zw (.cells #[.int .u32 0, .int .i64 0, .int .i64 0, .bool false, .int .u32 0, .int .i64 0, .int .i64 0, .int .i64 0, .int .i64 0, .slice none 0 0, .slice none 0 0, .int .i64 0, .int .i64 0, .int .i64 0, .int .u64 0, .bool false] 43)
                  have Zn := hpA Zn (.cells #[.int .u32 0, .int .i64 0, .int .i64 0, .bool false, .int .u32 0, .int .i64 0, .int .i64 0, .int .i64 0, .int .i64 0, .slice none 0 0, .slice none 0 0, .int .i64 0, .int .i64 0, .int .i64 0, .int .u64 0, .bool false] 43)
                  have ee := ee.alloc ee.size (.cells #[.int .u32 0, .int .i64 0, .int .i64 0, .bool false, .int .u32 0, .int .i64 0, .int .i64 0, .int .i64 0, .int .i64 0, .slice none 0 0, .slice none 0 0, .int .i64 0, .int .i64 0, .int .i64 0, .int .u64 0, .bool false] 43)
                  have Zm := hpN z9 (.cells #[.int .u32 0, .int .i64 0, .int .i64 0, .bool false, .int .u32 0, .int .i64 0, .int .i64 0, .int .i64 0, .int .i64 0, .slice none 0 0, .slice none 0 0, .int .i64 0, .int .i64 0, .int .i64 0, .int .u64 0, .bool false] 43) rfl
                  generalize z9.alloc (.cells #[.int .u32 0, .int .i64 0, .int .i64 0, .bool false, .int .u32 0, .int .i64 0, .int .i64 0, .int .i64 0, .int .i64 0, .slice none 0 0, .slice none 0 0, .int .i64 0, .int .i64 0, .int .i64 0, .int .u64 0, .bool false] 43) = z10 at Za Zw Zn Zm  ee ⊢
                  refine hK.out _ _ ⟨rowAt Za, rowAt Zw, rangeB hr ee hbo⟩ (fun hH => ?_)
                  clear hK K hH
                  try simp only [Act.put, List.getElem_toArray, List.getElem_cons_zero, List.getElem_cons_succ, List.setIfInBounds_toArray, List.set_cons_zero, List.set_cons_succ]
                  refine wpAnyH_ready (rs := [13]) (by kernel_rfl) (by simp) ?_
                  refine AllReadyH.cons rfl (fun K hK => ?_) AllReadyH.nil
                  rw [if_pos (by rfl)]
                  refine wp_store_row 39 _ _ rfl (z8.heap.size) ((a.step o).cells).toArray rfl rfl 39 _ Zn sizeAc (by rfl) (Ac.one _) ?_
                  have N_ := setRow_heap z10 (z8.heap.size) _ ((a.step o).cells).toArray _ _ Zn
                  have ee := belowSet (cs := ((a.step o).cells).toArray) ee Zn (by omega)
                  have Za := hpR Za (g' := z8.heap.size) (by omega) ((a.step o).cells).toArray
                  have Zw := hpR Zw (g' := z8.heap.size) (by omega) ((a.step o).cells).toArray
                  have Zm := hpR Zm (g' := z8.heap.size) (by omega) ((a.step o).cells).toArray
                  clear Zn
                  have Zn := N_
                  clear N_
                  generalize z10.setRow (z8.heap.size) ((a.step o).cells).toArray = z11 at Za Zw Zn Zm ee ⊢
                  refine hK.out _ _ ⟨rowAt Za, rowAt Zw, rangeB hr ee hbo⟩ (fun hH => ?_)
                  clear hK K hH
                  try simp only [Act.put, List.getElem_toArray, List.getElem_cons_zero, List.getElem_cons_succ, List.setIfInBounds_toArray, List.set_cons_zero, List.set_cons_succ]
                  refine wpAnyH_ready (rs := [14]) (by kernel_rfl) (by simp) ?_
                  refine AllReadyH.cons rfl (fun K hK => ?_) AllReadyH.nil
                  rw [if_pos (by rfl)]
                  refine wp_store_row 43 _ _ rfl (z9.heap.size) ((a.step o).cells).toArray rfl rfl 43 _ Zm sizeRAc (by rfl) (Ac.one _) ?_
                  have N_ := setRow_heap z11 (z9.heap.size) _ ((a.step o).cells).toArray _ _ Zm
                  have ee := belowSet (cs := ((a.step o).cells).toArray) ee Zm (by omega)
                  have Za := hpR Za (g' := z9.heap.size) (by omega) ((a.step o).cells).toArray
                  have Zw := hpR Zw (g' := z9.heap.size) (by omega) ((a.step o).cells).toArray
                  have Zn := hpR Zn (g' := z9.heap.size) (by omega) ((a.step o).cells).toArray
                  clear Zm
                  have Zm := N_
                  clear N_
                  generalize z11.setRow (z9.heap.size) ((a.step o).cells).toArray = z12 at Za Zw Zn Zm ee ⊢
                  refine hK.out _ _ ⟨rowAt Za, rowAt Zw, rangeB hr ee hbo⟩ (fun hH => ?_)
                  clear hK K hH
                  try simp only [Act.put, List.getElem_toArray, List.getElem_cons_zero, List.getElem_cons_succ, List.setIfInBounds_toArray, List.set_cons_zero, List.set_cons_succ]
                  refine wpAnyH_take (i := 15) (v := .bool true) rfl (by kernel_rfl) (by kernel_rfl) (by kernel_rfl) (fun _ _ _ h => h) (Or.inl ⟨by rfl, fun w_ hS_ => by (first | (go_simp; done) | (go_simp; rfl))⟩) ⟨rowAt Za, rowAt Zw, rangeB hr ee hbo⟩ ?_
                  try simp only [Act.put, List.getElem_toArray, List.getElem_cons_zero, List.getElem_cons_succ, List.setIfInBounds_toArray, List.set_cons_zero, List.set_cons_succ]
                  refine wpAnyH_done (by kernel_rfl) ?_ _
                  go_wp2_with fail
                  go_meet
                  exact ⟨_, _, rfl, rfl, rfl, by show _ < _; omega, by show _ < _; omega, Za, Zw, Zn, Zm, ee⟩
                · rw [if_pos (by rfl)]
                  go_simp
                  have lZa := (Array.getElem?_eq_some_iff.1 Za).1
                  have lZw := (Array.getElem?_eq_some_iff.1 Zw).1
                  have Za := hpA Za (.cells #[.int .u32 0, .int .i64 0, .int .i64 0, .bool false, .int .u32 0, .int .i64 0, .int .i64 0, .int .i64 0, .int .i64 0, .slice none 0 0, .slice none 0 0, .int .i64 0, .int .i64 0, .int .i64 0, .int .u64 0, .bool false] 43)
                  have Zw := hpA Zw (.cells #[.int .u32 0, .int .i64 0, .int .i64 0, .bool false, .int .u32 0, .int .i64 0, .int .i64 0, .int .i64 0, .int .i64 0, .slice none 0 0, .slice none 0 0, .int .i64 0, .int .i64 0, .int .i64 0, .int .u64 0, .bool false] 43)
                  have ee := ee.alloc ee.size (.cells #[.int .u32 0, .int .i64 0, .int .i64 0, .bool false, .int .u32 0, .int .i64 0, .int .i64 0, .int .i64 0, .int .i64 0, .slice none 0 0, .slice none 0 0, .int .i64 0, .int .i64 0, .int .i64 0, .int .u64 0, .bool false] 43)
                  have Zm := hpN z8 (.cells #[.int .u32 0, .int .i64 0, .int .i64 0, .bool false, .int .u32 0, .int .i64 0, .int .i64 0, .int .i64 0, .int .i64 0, .slice none 0 0, .slice none 0 0, .int .i64 0, .int .i64 0, .int .i64 0, .int .u64 0, .bool false] 43) rfl
                  generalize z8.alloc (.cells #[.int .u32 0, .int .i64 0, .int .i64 0, .bool false, .int .u32 0, .int .i64 0, .int .i64 0, .int .i64 0, .int .i64 0, .slice none 0 0, .slice none 0 0, .int .i64 0, .int .i64 0, .int .i64 0, .int .u64 0, .bool false] 43) = z9 at Za Zw Zm  ee ⊢
                  refine hK.out _ _ ⟨rowAt Za, rowAt Zw, rangeB hr ee hbo⟩ (fun hH => ?_)
                  clear hK K hH
                  try simp only [Act.put, List.getElem_toArray, List.getElem_cons_zero, List.getElem_cons_succ, List.setIfInBounds_toArray, List.set_cons_zero, List.set_cons_succ]
                  refine wpAnyH_ready (rs := [11]) (by kernel_rfl) (by simp) ?_
                  refine AllReadyH.cons rfl (fun K hK => ?_) AllReadyH.nil
                  rw [if_pos (by rfl)]
                  go_simp
                  have lZa := (Array.getElem?_eq_some_iff.1 Za).1
                  have lZw := (Array.getElem?_eq_some_iff.1 Zw).1
                  have lZm := (Array.getElem?_eq_some_iff.1 Zm).1
                  have Za := hpA Za (.cells #[.int .u32 0, .int .i64 0, .int .i64 0, .bool false, .int .u32 0, .int .i64 0, .int .i64 0, .int .i64 0, .int .i64 0, .slice none 0 0, .slice none 0 0, .int .i64 0, .int .i64 0, .int .i64 0, .int .u64 0, .bool false] 39)
                  have Zw := hpA Zw (.cells #[.int .u32 0, .int .i64 0, .int .i64 0, .bool false, .int .u32 0, .int .i64 0, .int .i64 0, .int .i64 0, .int .i64 0, .slice none 0 0, .slice none 0 0, .int .i64 0, .int .i64 0, .int .i64 0, .int .u64 0, .bool false] 39)
                  have Zm := hpA Zm (.cells #[.int .u32 0, .int .i64 0, .int .i64 0, .bool false, .int .u32 0, .int .i64 0, .int .i64 0, .int .i64 0, .int .i64 0, .slice none 0 0, .slice none 0 0, .int .i64 0, .int .i64 0, .int .i64 0, .int .u64 0, .bool false] 39)
                  have ee := ee.alloc ee.size (.cells #[.int .u32 0, .int .i64 0, .int .i64 0, .bool false, .int .u32 0, .int .i64 0, .int .i64 0, .int .i64 0, .int .i64 0, .slice none 0 0, .slice none 0 0, .int .i64 0, .int .i64 0, .int .i64 0, .int .u64 0, .bool false] 39)
                  have Zn := hpN z9 (.cells #[.int .u32 0, .int .i64 0, .int .i64 0, .bool false, .int .u32 0, .int .i64 0, .int .i64 0, .int .i64 0, .int .i64 0, .slice none 0 0, .slice none 0 0, .int .i64 0, .int .i64 0, .int .i64 0, .int .u64 0, .bool false] 39) rfl
                  generalize z9.alloc (.cells #[.int .u32 0, .int .i64 0, .int .i64 0, .bool false, .int .u32 0, .int .i64 0, .int .i64 0, .int .i64 0, .int .i64 0, .slice none 0 0, .slice none 0 0, .int .i64 0, .int .i64 0, .int .i64 0, .int .u64 0, .bool false] 39) = z10 at Za Zw Zm Zn  ee ⊢
                  refine hK.out _ _ ⟨rowAt Za, rowAt Zw, rangeB hr ee hbo⟩ (fun hH => ?_)
                  clear hK K hH
                  try simp only [Act.put, List.getElem_toArray, List.getElem_cons_zero, List.getElem_cons_succ, List.setIfInBounds_toArray, List.set_cons_zero, List.set_cons_succ]
                  refine wpAnyH_ready (rs := [13]) (by kernel_rfl) (by simp) ?_
                  refine AllReadyH.cons rfl (fun K hK => ?_) AllReadyH.nil
                  rw [if_pos (by rfl)]
                  refine wp_store_row 39 _ _ rfl (z9.heap.size) ((a.step o).cells).toArray rfl rfl 39 _ Zn sizeAc (by rfl) (Ac.one _) ?_
                  have N_ := setRow_heap z10 (z9.heap.size) _ ((a.step o).cells).toArray _ _ Zn
                  have ee := belowSet (cs := ((a.step o).cells).toArray) ee Zn (by omega)
                  have Za := hpR Za (g' := z9.heap.size) (by omega) ((a.step o).cells).toArray
                  have Zw := hpR Zw (g' := z9.heap.size) (by omega) ((a.step o).cells).toArray
                  have Zm := hpR Zm (g' := z9.heap.size) (by omega) ((a.step o).cells).toArray
                  clear Zn
                  have Zn := N_
                  clear N_
                  generalize z10.setRow (z9.heap.size) ((a.step o).cells).toArray = z11 at Za Zw Zm Zn ee ⊢
                  refine hK.out _ _ ⟨rowAt Za, rowAt Zw, rangeB hr ee hbo⟩ (fun hH => ?_)
                  clear hK K hH
                  try simp only [Act.put, List.getElem_toArray, List.getElem_cons_zero, List.getElem_cons_succ, List.setIfInBounds_toArray, List.set_cons_zero, List.set_cons_succ]
                  refine wpAnyH_ready (rs := [14]) (by kernel_rfl) (by simp) ?_
                  refine AllReadyH.cons rfl (fun K hK => ?_) AllReadyH.nil
                  rw [if_pos (by rfl)]
                  refine wp_store_row 43 _ _ rfl (z8.heap.size) ((a.step o).cells).toArray rfl rfl 43 _ Zm sizeRAc (by rfl) (Ac.one _) ?_
                  have N_ := setRow_heap z11 (z8.heap.size) _ ((a.step o).cells).toArray _ _ Zm
                  have ee := belowSet (cs := ((a.step o).cells).toArray) ee Zm (by omega)
                  have Za := hpR Za (g' := z8.heap.size) (by omega) ((a.step o).cells).toArray
                  have Zw := hpR Zw (g' := z8.heap.size) (by omega) ((a.step o).cells).toArray
                  have Zn := hpR Zn (g' := z8.heap.size) (by omega) ((a.step o).cells).toArray
                  clear Zm
                  have Zm := N_
                  clear N_
                  generalize z11.setRow (z8.heap.size) ((a.step o).cells).toArray = z12 at Za Zw Zm Zn ee ⊢
                  refine hK.out _ _ ⟨rowAt Za, rowAt Zw, rangeB hr ee hbo⟩ (fun hH => ?_)
                  clear hK K hH
                  try simp only [Act.put, List.getElem_toArray, List.getElem_cons_zero, List.getElem_cons_succ, List.setIfInBounds_toArray, List.set_cons_zero, List.set_cons_succ]
                  refine wpAnyH_take (i := 15) (v := .bool true) rfl (by kernel_rfl) (by kernel_rfl) (by kernel_rfl) (fun _ _ _ h => h) (Or.inl ⟨by rfl, fun w_ hS_ => by (first | (go_simp; done) | (go_simp; rfl))⟩) ⟨rowAt Za, rowAt Zw, rangeB hr ee hbo⟩ ?_
                  try simp only [Act.put, List.getElem_toArray, List.getElem_cons_zero, List.getElem_cons_succ, List.setIfInBounds_toArray, List.set_cons_zero, List.set_cons_succ]
                  refine wpAnyH_done (by kernel_rfl) ?_ _
                  go_wp2_with fail
                  go_meet
                  exact ⟨_, _, rfl, rfl, rfl, by show _ < _; omega, by show _ < _; omega, Za, Zw, Zn, Zm, ee⟩
              · rw [if_pos (by rfl)]
                go_simp
                have lZa := (Array.getElem?_eq_some_iff.1 Za).1
                have lZw := (Array.getElem?_eq_some_iff.1 Zw).1
                have Za := hpA Za (.cells #[.int .u32 0, .int .i64 0, .int .i64 0, .bool false, .int .u32 0, .int .i64 0, .int .i64 0, .int .i64 0, .int .i64 0, .slice none 0 0, .slice none 0 0, .int .i64 0, .int .i64 0, .int .i64 0, .int .u64 0, .bool false] 39)
                have Zw := hpA Zw (.cells #[.int .u32 0, .int .i64 0, .int .i64 0, .bool false, .int .u32 0, .int .i64 0, .int .i64 0, .int .i64 0, .int .i64 0, .slice none 0 0, .slice none 0 0, .int .i64 0, .int .i64 0, .int .i64 0, .int .u64 0, .bool false] 39)
                have ee := ee.alloc ee.size (.cells #[.int .u32 0, .int .i64 0, .int .i64 0, .bool false, .int .u32 0, .int .i64 0, .int .i64 0, .int .i64 0, .int .i64 0, .slice none 0 0, .slice none 0 0, .int .i64 0, .int .i64 0, .int .i64 0, .int .u64 0, .bool false] 39)
                have Zn := hpN z7 (.cells #[.int .u32 0, .int .i64 0, .int .i64 0, .bool false, .int .u32 0, .int .i64 0, .int .i64 0, .int .i64 0, .int .i64 0, .slice none 0 0, .slice none 0 0, .int .i64 0, .int .i64 0, .int .i64 0, .int .u64 0, .bool false] 39) rfl
                generalize z7.alloc (.cells #[.int .u32 0, .int .i64 0, .int .i64 0, .bool false, .int .u32 0, .int .i64 0, .int .i64 0, .int .i64 0, .int .i64 0, .slice none 0 0, .slice none 0 0, .int .i64 0, .int .i64 0, .int .i64 0, .int .u64 0, .bool false] 39) = z8 at Za Zw Zn  ee ⊢
                refine hK.out _ _ ⟨rowAt Za, rowAt Zw, rangeB hr ee hbo⟩ (fun hH => ?_)
                clear hK K hH
                try simp only [Act.put, List.getElem_toArray, List.getElem_cons_zero, List.getElem_cons_succ, List.setIfInBounds_toArray, List.set_cons_zero, List.set_cons_succ]
                refine wpAnyH_ready (rs := [6, 12]) (by kernel_rfl) (by simp) ?_
                refine AllReadyH.cons rfl (fun K hK => ?_) (AllReadyH.cons rfl (fun K hK => ?_) AllReadyH.nil)
                · rw [if_pos (by rfl)]
                  go_simp
                  go_wp2_with (go_at_call 17; refine (HACT.out z8 ee).mono ?_; rintro e z9 ⟨rfl, t⟩)
                  have Za := hpB Za t
                  have Zw := hpB Zw t
                  have Zn := hpB Zn t
                  have ee := ee.trans (t.mono ee.size)
                  clear t
                  refine hK.out _ _ ⟨rowAt Za, rowAt Zw, rangeB hr ee hbo⟩ (fun hH => ?_)
                  clear hK K hH
                  try simp only [Act.put, List.getElem_toArray, List.getElem_cons_zero, List.getElem_cons_succ, List.setIfInBounds_toArray, List.set_cons_zero, List.set_cons_succ]
                  refine wpAnyH_take (i := 7) (v := .tuple #[.agg (a.step o).cells.toArray, .agg (a.step o).cells.toArray, .bool true]) rfl (by kernel_rfl) (by kernel_rfl) (by kernel_rfl) (fun _ _ _ h => h) (Or.inl ⟨by rfl, fun w_ hS_ => by (first | (go_simp; done) | (go_simp; rfl))⟩) ⟨rowAt Za, rowAt Zw, rangeB hr ee hbo⟩ ?_
                  try simp only [Act.put, List.getElem_toArray, List.getElem_cons_zero, List.getElem_cons_succ, List.setIfInBounds_toArray, List.set_cons_zero, List.set_cons_succ]
                  refine wpAnyH_take (i := 8) (v := .agg (a.step o).cells.toArray) rfl (by kernel_rfl) (by kernel_rfl) (by kernel_rfl) (fun _ _ _ h => h) (Or.inl ⟨by rfl, fun w_ hS_ => by (first | (go_simp; done) | (go_simp; rfl))⟩) ⟨rowAt Za, rowAt Zw, rangeB hr ee hbo⟩ ?_
                  try simp only [Act.put, List.getElem_toArray, List.getElem_cons_zero, List.getElem_cons_succ, List.setIfInBounds_toArray, List.set_cons_zero, List.set_cons_succ]
                  refine wpAnyH_take (i := 9) (v := .agg (a.step o).cells.toArray) rfl (by kernel_rfl) (by kernel_rfl) (by kernel_rfl) (fun _ _ _ h => h) (Or.inl ⟨by rfl, fun w_ hS_ => by (first | (go_simp; done) | (go_simp; rfl))⟩) ⟨rowAt Za, rowAt Zw, rangeB hr ee hbo⟩ ?_
                  try simp only [Act.put, List.getElem_toArray, List.getElem_cons_zero, List.getElem_cons_succ, List.setIfInBounds_toArray, List.set_cons_zero, List.set_cons_succ]
                  refine wpAnyH_take (i := 10) (v := .bool true) rfl (by kernel_rfl) (by kernel_rfl) (by kernel_rfl) (fun _ _ _ h => h) (Or.inl ⟨by rfl, fun w_ hS_ => by (first | (go_simp; done) | (go_simp; rfl))⟩) ⟨rowAt Za, rowAt Zw, rangeB hr ee hbo⟩ ?_
                  try simp only [Act.put, List.getElem_toArray, List.getElem_cons_zero, List.getElem_cons_succ, List.setIfInBounds_toArray, List.set_cons_zero, List.set_cons_succ]
                  refine wpAnyH_ready (rs := [12]) (by kernel_rfl) (by simp) ?_
                  refine AllReadyH.cons rfl (fun K hK => ?_) AllReadyH.nil
                  rw [if_pos (by rfl)]
                  go_simp
                  have lZa := (Array.getElem?_eq_some_iff.1 Za).1
                  have lZw := (Array.getElem?_eq_some_iff.1 Zw).1
                  have lZn := (Array.getElem?_eq_some_iff.1 Zn).1
                  have Za := hpA Za (.cells #[.int .u32 0, .int .i64 0, .int .i64 0, .bool false, .int .u32 0, .int .i64 0, .int .i64 0, .int .i64 0, .int .i64 0, .slice none 0 0, .slice none 0 0, .int .i64 0, .int .i64 0, .int .i64 0, .int .u64 0, .bool false] 43)
                  have Zw := hpA Zw (.cells #[.int .u32 0, .int .i64 0, .int .i64 0, .bool false, .int .u32 0, .int .i64 0, .int .i64 0, .int .i64 0, .int .i64 0, .slice none 0 0, .slice none 0 0, .int .i64 0, .int .i64 0, .int .i64 0, .int .u64 0, .bool false] 43)
                  have Zn := hpA Zn (.cells #[.int .u32 0, .int .i64 0, .int .i64 0, .bool false, .int .u32 0, .int .i64 0, .int .i64 0, .int .i64 0, .int .i64 0, .slice none 0 0, .slice none 0 0, .int .i64 0, .int .i64 0, .int .i64 0, .int .u64 0, .bool false] 43)
                  have ee := ee.alloc ee.size (.cells #[.int .u32 0, .int .i64 0, .int .i64 0, .bool false, .int .u32 0, .int .i64 0, .int .i64 0, .int .i64 0, .int .i64 0, .slice none 0 0, .slice none 0 0, .int .i64 0, .int .i64 0, .int .i64 0, .int .u64 0, .bool false] 43)
                  have Zm := hpN z9 (.cells #[.int .u32 0, .int .i64 0, .int .i64 0, .bool false, .int .u32 0, .int .i64 0, .int .i64 0, .int .i64 0, .int .i64 0, .slice none 0 0, .slice none 0 0, .int .i64 0, .int .i64 0, .int .i64 0, .int .u64 0, .bool false] 43) rfl
                  generalize z9.alloc (.cells #[.int .u32 0, .int .i64 0, .int .i64 0, .bool false, .int .u32 0, .int .i64 0, .int .i64 0, .int .i64 0, .int .i64 0, .slice none 0 0, .slice none 0 0, .int .i64 0, .int .i64 0, .int .i64 0, .int .u64 0, .bool false] 43) = z10 at Za Zw Zn Zm  ee ⊢
                  refine hK.out _ _ ⟨rowAt Za, rowAt Zw, rangeB hr ee hbo⟩ (fun hH => ?_)
                  clear hK K hH
                  try simp only [Act.put, List.getElem_toArray, List.getElem_cons_zero, List.getElem_cons_succ, List.setIfInBounds_toArray, List.set_cons_zero, List.set_cons_succ]
                  refine wpAnyH_ready (rs := [13]) (by kernel_rfl) (by simp) ?_
                  refine AllReadyH.cons rfl (fun K hK => ?_) AllReadyH.nil
                  rw [if_pos (by rfl)]
                  refine wp_store_row 39 _ _ rfl (z7.heap.size) ((a.step o).cells).toArray rfl rfl 39 _ Zn sizeAc (by rfl) (Ac.one _) ?_
                  have N_ := setRow_heap z10 (z7.heap.size) _ ((a.step o).cells).toArray _ _ Zn
                  have ee := belowSet (cs := ((a.step o).cells).toArray) ee Zn (by omega)
                  have Za := hpR Za (g' := z7.heap.size) (by omega) ((a.step o).cells).toArray
                  have Zw := hpR Zw (g' := z7.heap.size) (by omega) ((a.step o).cells).toArray
                  have Zm := hpR Zm (g' := z7.heap.size) (by omega) ((a.step o).cells).toArray
                  clear Zn
                  have Zn := N_
                  clear N_
                  generalize z10.setRow (z7.heap.size) ((a.step o).cells).toArray = z11 at Za Zw Zn Zm ee ⊢
                  refine hK.out _ _ ⟨rowAt Za, rowAt Zw, rangeB hr ee hbo⟩ (fun hH => ?_)
                  clear hK K hH
                  try simp only [Act.put, List.getElem_toArray, List.getElem_cons_zero, List.getElem_cons_succ, List.setIfInBounds_toArray, List.set_cons_zero, List.set_cons_succ]
                  refine wpAnyH_ready (rs := [14]) (by kernel_rfl) (by simp) ?_
                  refine AllReadyH.cons rfl (fun K hK => ?_) AllReadyH.nil
                  rw [if_pos (by rfl)]
                  refine wp_store_row 43 _ _ rfl (z9.heap.size) ((a.step o).cells).toArray rfl rfl 43 _ Zm sizeRAc (by rfl) (Ac.one _) ?_
                  have N_ := setRow_heap z11 (z9.heap.size) _ ((a.step o).cells).toArray _ _ Zm
                  have ee := belowSet (cs := ((a.step o).cells).toArray) ee Zm (by omega)
                  have Za := hpR Za (g' := z9.heap.size) (by omega) ((a.step o).cells).toArray
                  have Zw := hpR Zw (g' := z9.heap.size) (by omega) ((a.step o).cells).toArray
                  have Zn := hpR Zn (g' := z9.heap.size) (by omega) ((a.step o).cells).toArray
                  clear Zm
                  have Zm := N_
                  clear N_
                  generalize z11.setRow (z9.heap.size) ((a.step o).cells).toArray = z12 at Za Zw Zn Zm ee ⊢
                  refine hK.out _ _ ⟨rowAt Za, rowAt Zw, rangeB hr ee hbo⟩ (fun hH => ?_)
                  clear hK K hH
                  try simp only [Act.put, List.getElem_toArray, List.getElem_cons_zero, List.getElem_cons_succ, List.setIfInBounds_toArray, List.set_cons_zero, List.set_cons_succ]
                  refine wpAnyH_take (i := 15) (v := .bool true) rfl (by kernel_rfl) (by kernel_rfl) (by kernel_rfl) (fun _ _ _ h => h) (Or.inl ⟨by rfl, fun w_ hS_ => by (first | (go_simp; done) | (go_simp; rfl))⟩) ⟨rowAt Za, rowAt Zw, rangeB hr ee hbo⟩ ?_
                  try simp only [Act.put, List.getElem_toArray, List.getElem_cons_zero, List.getElem_cons_succ, List.setIfInBounds_toArray, List.set_cons_zero, List.set_cons_succ]
                  refine wpAnyH_done (by kernel_rfl) ?_ _
                  go_wp2_with fail
                  go_meet
                  exact ⟨_, _, rfl, rfl, rfl, by show _ < _; omega, by show _ < _; omega, Za, Zw, Zn, Zm, ee⟩
                · rw [if_pos (by rfl)]
                  go_simp
                  have lZa := (Array.getElem?_eq_some_iff.1 Za).1
                  have lZw := (Array.getElem?_eq_some_iff.1 Zw).1
                  have lZn := (Array.getElem?_eq_some_iff.1 Zn).1
                  have Za := hpA Za (.cells #[.int .u32 0, .int .i64 0, .int .i64 0, .bool false, .int .u32 0, .int .i64 0, .int .i64 0, .int .i64 0, .int .i64 0, .slice none 0 0, .slice none 0 0, .int .i64 0, .int .i64 0, .int .i64 0, .int .u64 0, .bool false] 43)
                  have Zw := hpA Zw (.cells #[.int .u32 0, .int .i64 0, .int .i64 0, .bool false, .int .u32 0, .int .i64 0, .int .i64 0, .int .i64 0, .int .i64 0, .slice none 0 0, .slice none 0 0, .int .i64 0, .int .i64 0, .int .i64 0, .int .u64 0, .bool false] 43)
                  have Zn := hpA Zn (.cells #[.int .u32 0, .int .i64 0, .int .i64 0, .bool false, .int .u32 0, .int .i64 0, .int .i64 0, .int .i64 0, .int .i64 0, .slice none 0 0, .slice none 0 0, .int .i64 0, .int .i64 0, .int .i64 0, .int .u64 0, .bool false] 43)
                  have ee := ee.alloc ee.size (.cells #[.int .u32 0, .int .i64 0, .int .i64 0, .bool false, .int .u32 0, .int .i64 0, .int .i64 0, .int .i64 0, .int .i64 0, .slice none 0 0, .slice none 0 0, .int .i64 0, .int .i64 0, .int .i64 0, .int .u64 0, .bool false] 43)
                  have Zm := hpN z8 (.cells #[.int .u32 0, .int .i64 0, .int .i64 0, .bool false, .int .u32 0, .int .i64 0, .int .i64 0, .int .i64 0, .int .i64 0, .slice none 0 0, .slice none 0 0, .int .i64 0, .int .i64 0, .int .i64 0, .int .u64 0, .bool false] 43) rfl
                  generalize z8.alloc (.cells #[.int .u32 0, .int .i64 0, .int .i64 0, .bool false, .int .u32 0, .int .i64 0, .int .i64 0, .int .i64 0, .int .i64 0, .slice none 0 0, .slice none 0 0, .int .i64 0, .int .i64 0, .int .i64 0, .int .u64 0, .bool false] 43) = z9 at Za Zw Zn Zm  ee ⊢
                  refine hK.out _ _ ⟨rowAt Za, rowAt Zw, rangeB hr ee hbo⟩ (fun hH => ?_)
                  clear hK K hH
                  try simp only [Act.put, List.getElem_toArray, List.getElem_cons_zero, List.getElem_cons_succ, List.setIfInBounds_toArray, List.set_cons_zero, List.set_cons_succ]
                  refine wpAnyH_ready (rs := [6]) (by kernel_rfl) (by simp) ?_
                  refine AllReadyH.cons rfl (fun K hK => ?_) AllReadyH.nil
                  rw [if_pos (by rfl)]
                  go_simp
                  go_wp2_with (go_at_call 17; refine (HACT.out z9 ee).mono ?_; rintro e z10 ⟨rfl, t⟩)
                  have Za := hpB Za t
                  have Zw := hpB Zw t
                  have Zn := hpB Zn t
                  have Zm := hpB Zm t
                  have ee := ee.trans (t.mono ee.size)
                  clear t
                  refine hK.out _ _ ⟨rowAt Za, rowAt Zw, rangeB hr ee hbo⟩ (fun hH => ?_)
                  clear hK K hH
                  try simp only [Act.put, List.getElem_toArray, List.getElem_cons_zero, List.getElem_cons_succ, List.setIfInBounds_toArray, List.set_cons_zero, List.set_cons_succ]
                  refine wpAnyH_take (i := 7) (v := .tuple #[.agg (a.step o).cells.toArray, .agg (a.step o).cells.toArray, .bool true]) rfl (by kernel_rfl) (by kernel_rfl) (by kernel_rfl) (fun _ _ _ h => h) (Or.inl ⟨by rfl, fun w_ hS_ => by (first | (go_simp; done) | (go_simp; rfl))⟩) ⟨rowAt Za, rowAt Zw, rangeB hr ee hbo⟩ ?_
                  try simp only [Act.put, List.getElem_toArray, List.getElem_cons_zero, List.getElem_cons_succ, List.setIfInBounds_toArray, List.set_cons_zero, List.set_cons_succ]
                  refine wpAnyH_take (i := 8) (v := .agg (a.step o).cells.toArray) rfl (by kernel_rfl) (by kernel_rfl) (by kernel_rfl) (fun _ _ _ h => h) (Or.inl ⟨by rfl, fun w_ hS_ => by (first | (go_simp; done) | (go_simp; rfl))⟩) ⟨rowAt Za, rowAt Zw, rangeB hr ee hbo⟩ ?_
                  try simp only [Act.put, List.getElem_toArray, List.getElem_cons_zero, List.getElem_cons_succ, List.setIfInBounds_toArray, List.set_cons_zero, List.set_cons_succ]
                  refine wpAnyH_take (i := 9) (v := .agg (a.step o).cells.toArray) rfl (by kernel_rfl) (by kernel_rfl) (by kernel_rfl) (fun _ _ _ h => h) (Or.inl ⟨by rfl, fun w_ hS_ => by (first | (go_simp; done) | (go_simp; rfl))⟩) ⟨rowAt Za, rowAt Zw, rangeB hr ee hbo⟩ ?_
                  try simp only [Act.put, List.getElem_toArray, List.getElem_cons_zero, List.getElem_cons_succ, List.setIfInBounds_toArray, List.set_cons_zero, List.set_cons_succ]
                  refine wpAnyH_take (i := 10) (v := .bool true) rfl (by kernel_rfl) (by kernel_rfl) (by kernel_rfl) (fun _ _ _ h => h) (Or.inl ⟨by rfl, fun w_ hS_ => by (first | (go_simp; done) | (go_simp; rfl))⟩) ⟨rowAt Za, rowAt Zw, rangeB hr ee hbo⟩ ?_
                  try simp only [Act.put, List.getElem_toArray, List.getElem_cons_zero, List.getElem_cons_succ, List.setIfInBounds_toArray, List.set_cons_zero, List.set_cons_succ]
                  refine wpAnyH_ready (rs := [13]) (by kernel_rfl) (by simp) ?_
                  refine AllReadyH.cons rfl (fun K hK => ?_) AllReadyH.nil
                  rw [if_pos (by rfl)]
                  refine wp_store_row 39 _ _ rfl (z7.heap.size) ((a.step o).cells).toArray rfl rfl 39 _ Zn sizeAc (by rfl) (Ac.one _) ?_
                  have N_ := setRow_heap z10 (z7.heap.size) _ ((a.step o).cells).toArray _ _ Zn
                  have ee := belowSet (cs := ((a.step o).cells).toArray) ee Zn (by omega)
                  have Za := hpR Za (g' := z7.heap.size) (by omega) ((a.step o).cells).toArray
                  have Zw := hpR Zw (g' := z7.heap.size) (by omega) ((a.step o).cells).toArray
                  have Zm := hpR Zm (g' := z7.heap.size) (by omega) ((a.step o).cells).toArray
                  clear Zn
                  have Zn := N_
                  clear N_
                  generalize z10.setRow (z7.heap.size) ((a.step o).cells).toArray = z11 at Za Zw Zn Zm ee ⊢
                  refine hK.out _ _ ⟨rowAt Za, rowAt Zw, rangeB hr ee hbo⟩ (fun hH => ?_)
                  clear hK K hH
                  try simp only [Act.put, List.getElem_toArray, List.getElem_cons_zero, List.getElem_cons_succ, List.setIfInBounds_toArray, List.set_cons_zero, List.set_cons_succ]
                  refine wpAnyH_ready (rs := [14]) (by kernel_rfl) (by simp) ?_
                  refine AllReadyH.cons rfl (fun K hK => ?_) AllReadyH.nil
                  rw [if_pos (by rfl)]
                  refine wp_store_row 43 _ _ rfl (z8.heap.size) ((a.step o).cells).toArray rfl rfl 43 _ Zm sizeRAc (by rfl) (Ac.one _) ?_
                  have N_ := setRow_heap z11 (z8.heap.size) _ ((a.step o).cells).toArray _ _ Zm
                  have ee := belowSet (cs := ((a.step o).cells).toArray) ee Zm (by omega)
                  have Za := hpR Za (g' := z8.heap.size) (by omega) ((a.step o).cells).toArray
                  have Zw := hpR Zw (g' := z8.heap.size) (by omega) ((a.step o).cells).toArray
                  have Zn := hpR Zn (g' := z8.heap.size) (by omega) ((a.step o).cells).toArray
                  clear Zm
                  have Zm := N_
                  clear N_
                  generalize z11.setRow (z8.heap.size) ((a.step o).cells).toArray = z12 at Za Zw Zn Zm ee ⊢
                  refine hK.out _ _ ⟨rowAt Za, rowAt Zw, rangeB hr ee hbo⟩ (fun hH => ?_)
                  clear hK K hH
                  try simp only [Act.put, List.getElem_toArray, List.getElem_cons_zero, List.getElem_cons_succ, List.setIfInBounds_toArray, List.set_cons_zero, List.set_cons_succ]
                  refine wpAnyH_take (i := 15) (v := .bool true) rfl (by kernel_rfl) (by kernel_rfl) (by kernel_rfl) (fun _ _ _ h => h) (Or.inl ⟨by rfl, fun w_ hS_ => by (first | (go_simp; done) | (go_simp; rfl))⟩) ⟨rowAt Za, rowAt Zw, rangeB hr ee hbo⟩ ?_
                  try simp only [Act.put, List.getElem_toArray, List.getElem_cons_zero, List.getElem_cons_succ, List.setIfInBounds_toArray, List.set_cons_zero, List.set_cons_succ]
                  refine wpAnyH_done (by kernel_rfl) ?_ _
                  go_wp2_with fail
                  go_meet
                  exact ⟨_, _, rfl, rfl, rfl, by show _ < _; omega, by show _ < _; omega, Za, Zw, Zn, Zm, ee⟩
              · rw [if_pos (by rfl)]
                go_simp
                have lZa := (Array.getElem?_eq_some_iff.1 Za).1
                have lZw := (Array.getElem?_eq_some_iff.1 Zw).1
                have Za := hpA Za (.cells #[.int .u32 0, .int .i64 0, .int .i64 0, .bool false, .int .u32 0, .int .i64 0, .int .i64 0, .int .i64 0, .int .i64 0, .slice none 0 0, .slice none 0 0, .int .i64 0, .int .i64 0, .int .i64 0, .int .u64 0, .bool false] 43)
                have Zw := hpA Zw (.cells #[.int .u32 0, .int .i64 0, .int .i64 0, .bool false, .int .u32 0, .int .i64 0, .int .i64 0, .int .i64 0, .int .i64 0, .slice none 0 0, .slice none 0 0, .int .i64 0, .int .i64 0, .int .i64 0, .int .u64 0, .bool false] 43)
                have ee := ee.alloc ee.size (.cells #[.int .u32 0, .int .i64 0, .int .i64 0, .bool false, .int .u32 0, .int .i64 0, .int .i64 0, .int .i64 0, .int .i64 0, .slice none 0 0, .slice none 0 0, .int .i64 0, .int .i64 0, .int .i64 0, .int .u64 0, .bool false] 43)
                have Zm := hpN z7 (.cells #[.int .u32 0, .int .i64 0, .int .i64 0, .bool false, .int .u32 0, .int .i64 0, .int .i64 0, .int .i64 0, .int .i64 0, .slice none 0 0, .slice none 0 0, .int .i64 0, .int .i64 0, .int .i64 0, .int .u64 0, .bool false] 43) rfl
                generalize z7.alloc (.cells #[.int .u32 0, .int .i64 0, .int .i64 0, .bool false, .int .u32 0, .int .i64 0, .int .i64 0, .int .i64 0, .int .i64 0, .slice none 0 0, .slice none 0 0, .int .i64 0, .int .i64 0, .int .i64 0, .int .u64 0, .bool false] 43) = z8 at Za Zw Zm  ee ⊢
                refine hK.out _ _ ⟨rowAt Za, rowAt Zw, rangeB hr ee hbo⟩ (fun hH => ?_)
                clear hK K hH
                try simp only [Act.put, List.getElem_toArray, List.getElem_cons_zero, List.getElem_cons_succ, List.setIfInBounds_toArray, List.set_cons_zero, List.set_cons_succ]
                refine wpAnyH_ready (rs := [6, 11]) (by kernel_rfl) (by simp) ?_
                refine AllReadyH.cons rfl (fun K hK => ?_) (AllReadyH.cons rfl (fun K hK => ?_) AllReadyH.nil)
                · rw [if_pos (by rfl)]
                  go_simp
                  go_wp2_with (go_at_call 17; refine (HACT.out z8 ee).mono ?_; rintro e z9 ⟨rfl, t⟩)
                  have Za := hpB Za t
                  have Zw := hpB Zw t
                  have Zm := hpB Zm t
                  have ee := ee.trans (t.mono ee.size)
                  clear t
                  refine hK.out _ _ ⟨rowAt Za, rowAt Zw, rangeB hr ee hbo⟩ (fun hH => ?_)
                  clear hK K hH
                  try simp only [Act.put, List.getElem_toArray, List.getElem_cons_zero, List.getElem_cons_succ, List.setIfInBounds_toArray, List.set_cons_zero, List.set_cons_succ]
                  refine wpAnyH_take (i := 7) (v := .tuple #[.agg (a.step o).cells.toArray, .agg (a.step o).cells.toArray, .bool true]) rfl (by kernel_rfl) (by kernel_rfl) (by kernel_rfl) (fun _ _ _ h => h) (Or.inl ⟨by rfl, fun w_ hS_ => by (first | (go_simp; done) | (go_simp; rfl))⟩) ⟨rowAt Za, rowAt Zw, rangeB hr ee hbo⟩ ?_
                  try simp only [Act.put, List.getElem_toArray, List.getElem_cons_zero, List.getElem_cons_succ, List.setIfInBounds_toArray, List.set_cons_zero, List.set_cons_succ]
                  refine wpAnyH_take (i := 8) (v := .agg (a.step o).cells.toArray) rfl (by kernel_rfl) (by kernel_rfl) (by kernel_rfl) (fun _ _ _ h => h) (Or.inl ⟨by rfl, fun w_ hS_ => by (first | (go_simp; done) | (go_simp; rfl))⟩) ⟨rowAt Za, rowAt Zw, rangeB hr ee hbo⟩ ?_
                  try simp only [Act.put, List.getElem_toArray, List.getElem_cons_zero, List.getElem_cons_succ, List.setIfInBounds_toArray, List.set_cons_zero, List.set_cons_succ]
                  refine wpAnyH_take (i := 9) (v := .agg (a.step o).cells.toArray) rfl (by kernel_rfl) (by kernel_rfl) (by kernel_rfl) (fun _ _ _ h => h) (Or.inl ⟨by rfl, fun w_ hS_ => by (first | (go_simp; done) | (go_simp; rfl))⟩) ⟨rowAt Za, rowAt Zw, rangeB hr ee hbo⟩ ?_
                  try simp only [Act.put, List.getElem_toArray, List.getElem_cons_zero, List.getElem_cons_succ, List.setIfInBounds_toArray, List.set_cons_zero, List.set_cons_succ]
                  refine wpAnyH_take (i := 10) (v := .bool true) rfl (by kernel_rfl) (by kernel_rfl) (by kernel_rfl) (fun _ _ _ h => h) (Or.inl ⟨by rfl, fun w_ hS_ => by (first | (go_simp; done) | (go_simp; rfl))⟩) ⟨rowAt Za, rowAt Zw, rangeB hr ee hbo⟩ ?_
                  try simp only [Act.put, List.getElem_toArray, List.getElem_cons_zero, List.getElem_cons_succ, List.setIfInBounds_toArray, List.set_cons_zero, List.set_cons_succ]
                  refine wpAnyH_ready (rs := [11]) (by kernel_rfl) (by simp) ?_
                  refine AllReadyH.cons rfl (fun K hK => ?_) AllReadyH.nil
                  rw [if_pos (by rfl)]
                  go_simp
                  have lZa := (Array.getElem?_eq_some_iff.1 Za).1
                  have lZw := (Array.getElem?_eq_some_iff.1 Zw).1
                  have lZm := (Array.getElem?_eq_some_iff.1 Zm).1
                  have Za := hpA Za (.cells #[.int .u32 0, .int .i64 0, .int .i64 0, .bool false, .int .u32 0, .int .i64 0, .int .i64 0, .int .i64 0, .int .i64 0, .slice none 0 0, .slice none 0 0, .int .i64 0, .int .i64 0, .int .i64 0, .int .u64 0, .bool false] 39)
                  have Zw := hpA Zw (.cells #[.int .u32 0, .int .i64 0, .int .i64 0, .bool false, .int .u32 0, .int .i64 0, .int .i64 0, .int .i64 0, .int .i64 0, .slice none 0 0, .slice none 0 0, .int .i64 0, .int .i64 0, .int .i64 0, .int .u64 0, .bool false] 39)
                  have Zm := hpA Zm (.cells #[.int .u32 0, .int .i64 0, .int .i64 0, .bool false, .int .u32 0, .int .i64 0, .int .i64 0, .int .i64 0, .int .i64 0, .slice none 0 0, .slice none 0 0, .int .i64 0, .int .i64 0, .int .i64 0, .int .u64 0, .bool false] 39)
                  have ee := ee.alloc ee.size (.cells #[.int .u32 0, .int .i64 0, .int .i64 0, .bool false, .int .u32 0, .int .i64 0, .int .i64 0, .int .i64 0, .int .i64 0, .slice none 0 0, .slice none 0 0, .int .i64 0, .int .i64 0, .int .i64 0, .int .u64 0, .bool false] 39)
                  have Zn := hpN z9 (.cells #[.int .u32 0, .int .i64 0, .int .i64 0, .bool false, .int .u32 0, .int .i64 0, .int .i64 0, .int .i64 0, .int .i64 0, .slice none 0 0, .slice none 0 0, .int .i64 0, .int .i64 0, .int .i64 0, .int .u64 0, .bool false] 39) rfl
                  generalize z9.alloc (.cells #[.int .u32 0, .int .i64 0, .int .i64 0, .bool false, .int .u32 0, .int .i64 0, .int .i64 0, .int .i64 0, .int .i64 0, .slice none 0 0, .slice none 0 0, .int .i64 0, .int .i64 0, .int .i64 0, .int .u64 0, .bool false] 39) = z10 at Za Zw Zm Zn  ee ⊢
                  refine hK.out _ _ ⟨rowAt Za, rowAt Zw, rangeB hr ee hbo⟩ (fun hH => ?_)
                  clear hK K hH
                  try simp only [Act.put, List.getElem_toArray, List.getElem_cons_zero, List.getElem_cons_succ, List.setIfInBounds_toArray, List.set_cons_zero, List.set_cons_succ]
                  refine wpAnyH_ready (rs := [13]) (by kernel_rfl) (by simp) ?_
                  refine AllReadyH.cons rfl (fun K hK => ?_) AllReadyH.nil
                  rw [if_pos (by rfl)]
                  refine wp_store_row 39 _ _ rfl (z9.heap.size) ((a.step o).cells).toArray rfl rfl 39 _ Zn sizeAc (by rfl) (Ac.one _) ?_
                  have N_ := setRow_heap z10 (z9.heap.size) _ ((a.step o).cells).toArray _ _ Zn
                  have ee := belowSet (cs := ((a.step o).cells).toArray) ee Zn (by omega)
                  have Za := hpR Za (g' := z9.heap.size) (by omega) ((a.step o).cells).toArray
                  have Zw := hpR Zw (g' := z9.heap.size) (by omega) ((a.step o).cells).toArray
                  have Zm := hpR Zm (g' := z9.heap.size) (by omega) ((a.step o).cells).toArray
                  clear Zn
                  have Zn := N_
                  clear N_
                  generalize z10.setRow (z9.heap.size) ((a.step o).cells).toArray = z11 at Za Zw Zm Zn ee ⊢
                  refine hK.out _ _ ⟨rowAt Za, rowAt Zw, rangeB hr ee hbo⟩ (fun hH => ?_)
                  clear hK K hH
                  try simp only [Act.put, List.getElem_toArray, List.getElem_cons_zero, List.getElem_cons_succ, List.setIfInBounds_toArray, List.set_cons_zero, List.set_cons_succ]
                  refine wpAnyH_ready (rs := [14]) (by kernel_rfl) (by simp) ?_
                  refine AllReadyH.cons rfl (fun K hK => ?_) AllReadyH.nil
                  rw [if_pos (by rfl)]
                  refine wp_store_row 43 _ _ rfl (z7.heap.size) ((a.step o).cells).toArray rfl rfl 43 _ Zm sizeRAc (by rfl) (Ac.one _) ?_
                  have N_ := setRow_heap z11 (z7.heap.size) _ ((a.step o).cells).toArray _ _ Zm
                  have ee := belowSet (cs := ((a.step o).cells).toArray) ee Zm (by omega)
                  have Za := hpR Za (g' := z7.heap.size) (by omega) ((a.step o).cells).toArray
                  have Zw := hpR Zw (g' := z7.heap.size) (by omega) ((a.step o).cells).toArray
                  have Zn := hpR Zn (g' := z7.heap.size) (by omega) ((a.step o).cells).toArray
                  clear Zm
                  have Zm := N_
                  clear N_
                  generalize z11.setRow (z7.heap.size) ((a.step o).cells).toArray = z12 at Za Zw Zm Zn ee ⊢
                  refine hK.out _ _ ⟨rowAt Za, rowAt Zw, rangeB hr ee hbo⟩ (fun hH => ?_)
                  clear hK K hH
                  try simp only [Act.put, List.getElem_toArray, List.getElem_cons_zero, List.getElem_cons_succ, List.setIfInBounds_toArray, List.set_cons_zero, List.set_cons_succ]
                  refine wpAnyH_take (i := 15) (v := .bool true) rfl (by kernel_rfl) (by kernel_rfl) (by kernel_rfl) (fun _ _ _ h => h) (Or.inl ⟨by rfl, fun w_ hS_ => by (first | (go_simp; done) | (go_simp; rfl))⟩) ⟨rowAt Za, rowAt Zw, rangeB hr ee hbo⟩ ?_
                  try simp only [Act.put, List.getElem_toArray, List.getElem_cons_zero, List.getElem_cons_succ, List.setIfInBounds_toArray, List.set_cons_zero, List.set_cons_succ]
                  refine wpAnyH_done (by kernel_rfl) ?_ _
                  go_wp2_with fail
                  go_meet
                  exact ⟨_, _, rfl, rfl, rfl, by show _ < _; omega, by show _ < _; omega, Za, Zw, Zn, Zm, ee⟩
                · rw [if_pos (by rfl)]
                  go_simp
                  have lZa := (Array.getElem?_eq_some_iff.1 Za).1
                  have lZw := (Array.getElem?_eq_some_iff.1 Zw).1
                  have lZm := (Array.getElem?_eq_some_iff.1 Zm).1
                  have Za := hpA Za (.cells #[.int .u32 0, .int .i64 0, .int .i64 0, .bool false, .int .u32 0, .int .i64 0, .int .i64 0, .int .i64 0, .int .i64 0, .slice none 0 0, .slice none 0 0, .int .i64 0, .int .i64 0, .int .i64 0, .int .u64 0, .bool false] 39)
                  have Zw := hpA Zw (.cells #[.int .u32 0, .int .i64 0, .int .i64 0, .bool false, .int .u32 0, .int .i64 0, .int .i64 0, .int .i64 0, .int .i64 0, .slice none 0 0, .slice none 0 0, .int .i64 0, .int .i64 0, .int .i64 0, .int .u64 0, .bool false] 39)
                  have Zm := hpA Zm (.cells #[.int .u32 0, .int .i64 0, .int .i64 0, .bool false, .int .u32 0, .int .i64 0, .int .i64 0, .int .i64 0, .int .i64 0, .slice none 0 0, .slice none 0 0, .int .i64 0, .int .i64 0, .int .i64 0, .int .u64 0, .bool false] 39)
                  have ee := ee.alloc ee.size (.cells #[.int .u32 0, .int .i64 0, .int .i64 0, .bool false, .int .u32 0, .int .i64 0, .int .i64 0, .int .i64 0, .int .i64 0, .slice none 0 0, .slice none 0 0, .int .i64 0, .int .i64 0, .int .i64 0, .int .u64 0, .bool false] 39)
                  have Zn := hpN z8 (.cells #[.int .u32 0, .int .i64 0, .int .i64 0, .bool false, .int .u32 0, .int .i64 0, .int .i64 0, .int .i64 0, .int .i64 0, .slice none 0 0, .slice none 0 0, .int .i64 0, .int .i64 0, .int .i64 0, .int .u64 0, .bool false] 39) rfl
                  generalize z8.alloc (.cells #[.int .u32 0, .int .i64 0, .int .i64 0, .bool false, .int .u32 0, .int .i64 0, .int .i64 0, .int .i64 0, .int .i64 0, .slice none 0 0, .slice none 0 0, .int .i64 0, .int .i64 0, .int .i64 0, .int .u64 0, .bool false] 39) = z9 at Za Zw Zm Zn  ee ⊢
                  refine hK.out _ _ ⟨rowAt Za, rowAt Zw, rangeB hr ee hbo⟩ (fun hH => ?_)
                  clear hK K hH
                  try simp only [Act.put, List.getElem_toArray, List.getElem_cons_zero, List.getElem_cons_succ, List.setIfInBounds_toArray, List.set_cons_zero, List.set_cons_succ]
                  refine wpAnyH_ready (rs := [6]) (by kernel_rfl) (by simp) ?_
                  refine AllReadyH.cons rfl (fun K hK => ?_) AllReadyH.nil
                  rw [if_pos (by rfl)]
                  go_simp
                  go_wp2_with (go_at_call 17; refine (HACT.out z9 ee).mono ?_; rintro e z10 ⟨rfl, t⟩)
                  have Za := hpB Za t
                  have Zw := hpB Zw t
                  have Zm := hpB Zm t
                  have Zn := hpB Zn t
                  have ee := ee.trans (t.mono ee.size)
                  clear t
                  refine hK.out _ _ ⟨rowAt Za, rowAt Zw, rangeB hr ee hbo⟩ (fun hH => ?_)
                  clear hK K hH
                  try simp only [Act.put, List.getElem_toArray, List.getElem_cons_zero, List.getElem_cons_succ, List.setIfInBounds_toArray, List.set_cons_zero, List.set_cons_succ]
                  refine wpAnyH_take (i := 7) (v := .tuple #[.agg (a.step o).cells.toArray, .agg (a.step o).cells.toArray, .bool true]) rfl (by kernel_rfl) (by kernel_rfl) (by kernel_rfl) (fun _ _ _ h => h) (Or.inl ⟨by rfl, fun w_ hS_ => by (first | (go_simp; done) | (go_simp; rfl))⟩) ⟨rowAt Za, rowAt Zw, rangeB hr ee hbo⟩ ?_
                  try simp only [Act.put, List.getElem_toArray, List.getElem_cons_zero, List.getElem_cons_succ, List.setIfInBounds_toArray, List.set_cons_zero, List.set_cons_succ]
                  refine wpAnyH_take (i := 8) (v := .agg (a.step o).cells.toArray) rfl (by kernel_rfl) (by kernel_rfl) (by kernel_rfl) (fun _ _ _ h => h) (Or.inl ⟨by rfl, fun w_ hS_ => by (first | (go_simp; done) | (go_simp; rfl))⟩) ⟨rowAt Za, rowAt Zw, rangeB hr ee hbo⟩ ?_
                  try simp only [Act.put, List.getElem_toArray, List.getElem_cons_zero, List.getElem_cons_succ, List.setIfInBounds_toArray, List.set_cons_zero, List.set_cons_succ]
                  refine wpAnyH_take (i := 9) (v := .agg (a.step o).cells.toArray) rfl (by kernel_rfl) (by kernel_rfl) (by kernel_rfl) (fun _ _ _ h => h) (Or.inl ⟨by rfl, fun w_ hS_ => by (first | (go_simp; done) | (go_simp; rfl))⟩) ⟨rowAt Za, rowAt Zw, rangeB hr ee hbo⟩ ?_
                  try simp only [Act.put, List.getElem_toArray, List.getElem_cons_zero, List.getElem_cons_succ, List.setIfInBounds_toArray, List.set_cons_zero, List.set_cons_succ]
                  refine wpAnyH_take (i := 10) (v := .bool true) rfl (by kernel_rfl) (by kernel_rfl) (by kernel_rfl) (fun _ _ _ h => h) (Or.inl ⟨by rfl, fun w_ hS_ => by (first | (go_simp; done) | (go_simp; rfl))⟩) ⟨rowAt Za, rowAt Zw, rangeB hr ee hbo⟩ ?_
                  try simp only [Act.put, List.getElem_toArray, List.getElem_cons_zero, List.getElem_cons_succ, List.setIfInBounds_toArray, List.set_cons_zero, List.set_cons_succ]
                  refine wpAnyH_ready (rs := [13]) (by kernel_rfl) (by simp) ?_
                  refine AllReadyH.cons rfl (fun K hK => ?_) AllReadyH.nil
                  rw [if_pos (by rfl)]
                  refine wp_store_row 39 _ _ rfl (z8.heap.size) ((a.step o).cells).toArray rfl rfl 39 _ Zn sizeAc (by rfl) (Ac.one _) ?_
                  have N_ := setRow_heap z10 (z8.heap.size) _ ((a.step o).cells).toArray _ _ Zn
                  have ee := belowSet (cs := ((a.step o).cells).toArray) ee Zn (by omega)
                  have Za := hpR Za (g' := z8.heap.size) (by omega) ((a.step o).cells).toArray
                  have Zw := hpR Zw (g' := z8.heap.size) (by omega) ((a.step o).cells).toArray
                  have Zm := hpR Zm (g' := z8.heap.size) (by omega) ((a.step o).cells).toArray
                  clear Zn
                  have Zn := N_
                  clear N_
                  generalize z10.setRow (z8.heap.size) ((a.step o).cells).toArray = z11 at Za Zw Zm Zn ee ⊢
                  refine hK.out _ _ ⟨rowAt Za, rowAt Zw, rangeB hr ee hbo⟩ (fun hH => ?_)
                  clear hK K hH
                  try simp only [Act.put, List.getElem_toArray, List.getElem_cons_zero, List.getElem_cons_succ, List.setIfInBounds_toArray, List.set_cons_zero, List.set_cons_succ]
                  refine wpAnyH_ready (rs := [14]) (by kernel_rfl) (by simp) ?_
                  refine AllReadyH.cons rfl (fun K hK => ?_) AllReadyH.nil
                  rw [if_pos (by rfl)]
                  refine wp_store_row 43 _ _ rfl (z7.heap.size) ((a.step o).cells).toArray rfl rfl 43 _ Zm sizeRAc (by rfl) (Ac.one _) ?_
                  have N_ := setRow_heap z11 (z7.heap.size) _ ((a.step o).cells).toArray _ _ Zm
                  have ee := belowSet (cs := ((a.step o).cells).toArray) ee Zm (by omega)
                  have Za := hpR Za (g' := z7.heap.size) (by omega) ((a.step o).cells).toArray
                  have Zw := hpR Zw (g' := z7.heap.size) (by omega) ((a.step o).cells).toArray
                  have Zn := hpR Zn (g' := z7.heap.size) (by omega) ((a.step o).cells).toArray
                  clear Zm
                  have Zm := N_
                  clear N_
                  generalize z11.setRow (z7.heap.size) ((a.step o).cells).toArray = z12 at Za Zw Zm Zn ee ⊢
                  refine hK.out _ _ ⟨rowAt Za, rowAt Zw, rangeB hr ee hbo⟩ (fun hH => ?_)
                  clear hK K hH
                  try simp only [Act.put, List.getElem_toArray, List.getElem_cons_zero, List.getElem_cons_succ, List.setIfInBounds_toArray, List.set_cons_zero, List.set_cons_succ]
                  refine wpAnyH_take (i := 15) (v := .bool true) rfl (by kernel_rfl) (by kernel_rfl) (by kernel_rfl) (fun _ _ _ h => h) (Or.inl ⟨by rfl, fun w_ hS_ => by (first | (go_simp; done) | (go_simp; rfl))⟩) ⟨rowAt Za, rowAt Zw, rangeB hr ee hbo⟩ ?_
                  try simp only [Act.put, List.getElem_toArray, List.getElem_cons_zero, List.getElem_cons_succ, List.setIfInBounds_toArray, List.set_cons_zero, List.set_cons_succ]
                  refine wpAnyH_done (by kernel_rfl) ?_ _
                  go_wp2_with fail
                  go_meet
                  exact ⟨_, _, rfl, rfl, rfl, by show _ < _; omega, by show _ < _; omega, Za, Zw, Zn, Zm, ee⟩
            case rest =>
              obtain ⟨g1, g2, rfl, rfl, rfl, hg1, hg2, Za, Zw, Zn, Zm, ee⟩ := hcut
              have nm : ∀ z : World, Below w.heap.size w z → ∃ z', z' = z := fun z _ => ⟨z, rfl⟩
              obtain ⟨y0, hy0⟩ := nm _ ee.out
              subst hy0
              clear nm HACT
              have hg1 := hg1.out
              have hg2 := hg2.out
              have Za := Za.out
              have Zw := Zw.out
              have Zn := Zn.out
              have Zm := Zm.out
              have ee := ee.out
              go_upto_region 10 with fail
              have HSAME : Hid (∀ z, Below w.heap.size w z → Calls Tryd.prog 18 #[.agg (a.step o).cells.toArray, .agg (a.step o).cells.toArray] z fun e w' => e = .returned (.bool true) ∧ Below z.heap.size z w') := fun z hz => by
                have := cr_same (a.step o) (a.step o) z w.heap.size hz.size (HC2.out.below hz (Nat.le_refl _)) (HC2.out.below hz (Nat.le_refl _))
                rw [SameA.refl] at this
                exact this
              have HFO := Lib.hid (fun z (hz : Below w.heap.size w z) => c_formed (a.step o) z w.heap.size hz.size (HC2.out.below hz (Nat.le_refl _)) (HT.out.below hz))
              have HRF := Lib.hid (fun z (hz : Below w.heap.size w z) => cr_formed (a.step o) z w.heap.size hz.size (HC2.out.below hz (Nat.le_refl _)))
              generalize (a.step o).formed = fo at HFO HRF
              have Za : y0.drew.heap[w.heap.size + 0]? = some (.cells a.cells.toArray 39) := Za
              have Zw : y0.drew.heap[gb]? = some (.cells a.cells.toArray 43) := Zw
              have Zn : y0.drew.heap[g1]? = some (.cells (a.step o).cells.toArray 39) := Zn
              have Zm : y0.drew.heap[g2]? = some (.cells (a.step o).cells.toArray 43) := Zm
              have ee := belowDrewS ee
              refine wp_region_held_drew (S := fun z' => z'.rangeAt g1 0 (a.step o).cells ∧ z'.rangeAt g2 0 (a.step o).cells) (by kernel_rfl) ⟨rowAt Zn, rowAt Zm⟩ (fun hH => ?_)
              clear hH
              generalize y0.drew = z48 at Za Zw Zn Zm  ee ⊢
              refine wpAnyH_take (i := 0) (v := .bool true) rfl (by kernel_rfl) (by kernel_rfl) (by kernel_rfl) (fun _ _ _ h => h) (Or.inl ⟨by rfl, fun w_ hS_ => by (first | (go_simp; done) | (go_simp; rfl))⟩) ⟨rowAt Zn, rowAt Zm⟩ ?_
              try simp only [Act.put, List.getElem_toArray, List.getElem_cons_zero, List.getElem_cons_succ, List.setIfInBounds_toArray, List.set_cons_zero, List.set_cons_succ]
              refine wpAnyH_take (i := 1) (v := .bool false) rfl (by kernel_rfl) (by kernel_rfl) (by kernel_rfl) (fun _ _ _ h => h) (Or.inl ⟨by rfl, fun w_ hS_ => by (first | (go_simp; done) | (go_simp; rfl))⟩) ⟨rowAt Zn, rowAt Zm⟩ ?_
              try simp only [Act.put, List.getElem_toArray, List.getElem_cons_zero, List.getElem_cons_succ, List.setIfInBounds_toArray, List.set_cons_zero, List.set_cons_succ]
              refine wpAnyH_take (i := 2) (v := .bool false) rfl (by kernel_rfl) (by kernel_rfl) (by kernel_rfl) (fun _ _ _ h => h) (Or.inl ⟨by rfl, fun w_ hS_ => by (first | (go_simp; done) | (go_simp; rfl))⟩) ⟨rowAt Zn, rowAt Zm⟩ ?_
              try simp only [Act.put, List.getElem_toArray, List.getElem_cons_zero, List.getElem_cons_succ, List.setIfInBounds_toArray, List.set_cons_zero, List.set_cons_succ]
              refine wpAnyH_take (i := 3) (v := .agg ((a.step o).cells).toArray) rfl (by kernel_rfl) (by kernel_rfl) (by kernel_rfl) (fun _ _ _ h => h) (yieldsIf_load_mid (by rfl) 39 _ rfl (g1) 0 rfl ((a.step o).cells) _ (fun _ h => h.1) Tryd.underlying39 rfl sizeAc) ⟨rowAt Zn, rowAt Zm⟩ ?_
              try simp only [Act.put, List.getElem_toArray, List.getElem_cons_zero, List.getElem_cons_succ, List.setIfInBounds_toArray, List.set_cons_zero, List.set_cons_succ]
              refine wpAnyH_take (i := 5) (v := .agg ((a.step o).cells).toArray) rfl (by kernel_rfl) (by kernel_rfl) (by kernel_rfl) (fun _ _ _ h => h) (yieldsIf_load_mid (by rfl) 43 _ rfl (g2) 0 rfl ((a.step o).cells) _ (fun _ h => h.2) Tryd.underlying43 rfl sizeRAc) ⟨rowAt Zn, rowAt Zm⟩ ?_
              try simp only [Act.put, List.getElem_toArray, List.getElem_cons_zero, List.getElem_cons_succ, List.setIfInBounds_toArray, List.set_cons_zero, List.set_cons_succ]
              refine wpAnyH_ready (rs := [4]) (by kernel_rfl) (by simp) ?_
              refine AllReadyH.cons rfl (fun K hK => ?_) AllReadyH.nil
              rw [if_pos (by rfl)]
              go_simp
              go_wp2_with (go_at_call 13; refine (c_plain (a.step o) z48).mono ?_; rintro e z49 ⟨rfl, t⟩)
              have Za := hpB Za t
              have Zw := hpB Zw t
              have Zn := hpB Zn t
              have Zm := hpB Zm t
              have ee := ee.trans (t.mono ee.size)
              clear t
              refine hK.out _ _ ⟨rowAt Zn, rowAt Zm⟩ (fun hH => ?_)
              clear hK K hH
              try simp only [Act.put, List.getElem_toArray, List.getElem_cons_zero, List.getElem_cons_succ, List.setIfInBounds_toArray, List.set_cons_zero, List.set_cons_succ]
              refine wpAnyH_ready (rs := [6]) (by kernel_rfl) (by simp) ?_
              refine AllReadyH.cons rfl (fun K hK => ?_) AllReadyH.nil
              rw [if_pos (by rfl)]
              go_simp
              go_wp2_with (go_at_call 18; refine ((HSAME.out z49 ee)).mono ?_; rintro e z50 ⟨rfl, t⟩)
              have Za := hpB Za t
              have Zw := hpB Zw t
              have Zn := hpB Zn t
              have Zm := hpB Zm t
              have ee := ee.trans (t.mono ee.size)
              clear t
              refine hK.out _ _ ⟨rowAt Zn, rowAt Zm⟩ (fun hH => ?_)
              clear hK K hH
              try simp only [Act.put, List.getElem_toArray, List.getElem_cons_zero, List.getElem_cons_succ, List.setIfInBounds_toArray, List.set_cons_zero, List.set_cons_succ]
              refine wpAnyH_take (i := 7) (v := .bool false) rfl (by kernel_rfl) (by kernel_rfl) (by kernel_rfl) (fun _ _ _ h => h) (Or.inl ⟨by rfl, fun w_ hS_ => by (first | (go_simp; done) | (go_simp; rfl))⟩) ⟨rowAt Zn, rowAt Zm⟩ ?_
              try simp only [Act.put, List.getElem_toArray, List.getElem_cons_zero, List.getElem_cons_succ, List.setIfInBounds_toArray, List.set_cons_zero, List.set_cons_succ]
              refine wpAnyH_take (i := 8) (v := .bool false) rfl (by kernel_rfl) (by kernel_rfl) (by kernel_rfl) (fun _ _ _ h => h) (Or.inl ⟨by rfl, fun w_ hS_ => by (first | (go_simp; done) | (go_simp; rfl))⟩) ⟨rowAt Zn, rowAt Zm⟩ ?_
              try simp only [Act.put, List.getElem_toArray, List.getElem_cons_zero, List.getElem_cons_succ, List.setIfInBounds_toArray, List.set_cons_zero, List.set_cons_succ]
              refine wpAnyH_take (i := 9) (v := .bool false) rfl (by kernel_rfl) (by kernel_rfl) (by kernel_rfl) (fun _ _ _ h => h) (Or.inl ⟨by rfl, fun w_ hS_ => by (first | (go_simp; done) | (go_simp; rfl))⟩) ⟨rowAt Zn, rowAt Zm⟩ ?_
              try simp only [Act.put, List.getElem_toArray, List.getElem_cons_zero, List.getElem_cons_succ, List.setIfInBounds_toArray, List.set_cons_zero, List.set_cons_succ]
              refine wpAnyH_take (i := 10) (v := .agg ((a.step o).cells).toArray) rfl (by kernel_rfl) (by kernel_rfl) (by kernel_rfl) (fun _ _ _ h => h) (yieldsIf_load_mid (by rfl) 39 _ rfl (g1) 0 rfl ((a.step o).cells) _ (fun _ h => h.1) Tryd.underlying39 rfl sizeAc) ⟨rowAt Zn, rowAt Zm⟩ ?_
              try simp only [Act.put, List.getElem_toArray, List.getElem_cons_zero, List.getElem_cons_succ, List.setIfInBounds_toArray, List.set_cons_zero, List.set_cons_succ]
              refine wpAnyH_take (i := 12) (v := .agg ((a.step o).cells).toArray) rfl (by kernel_rfl) (by kernel_rfl) (by kernel_rfl) (fun _ _ _ h => h) (yieldsIf_load_mid (by rfl) 43 _ rfl (g2) 0 rfl ((a.step o).cells) _ (fun _ h => h.2) Tryd.underlying43 rfl sizeRAc) ⟨rowAt Zn, rowAt Zm⟩ ?_
              try simp only [Act.put, List.getElem_toArray, List.getElem_cons_zero, List.getElem_cons_succ, List.setIfInBounds_toArray, List.set_cons_zero, List.set_cons_succ]
              refine wpAnyH_ready (rs := [11]) (by kernel_rfl) (by simp) ?_
              refine AllReadyH.cons rfl (fun K hK => ?_) AllReadyH.nil
              rw [if_pos (by rfl)]
              go_simp
              go_wp2_with (go_at_call 19; refine ((HFO.out z50 ee)).mono ?_; rintro e z51 ⟨rfl, t⟩)
              have Za := hpB Za t
              have Zw := hpB Zw t
              have Zn := hpB Zn t
              have Zm := hpB Zm t
              have ee := ee.trans (t.mono ee.size)
              clear t
              refine hK.out _ _ ⟨rowAt Zn, rowAt Zm⟩ (fun hH => ?_)
              clear hK K hH
              try simp only [Act.put, List.getElem_toArray, List.getElem_cons_zero, List.getElem_cons_succ, List.setIfInBounds_toArray, List.set_cons_zero, List.set_cons_succ]
              refine wpAnyH_ready (rs := [13]) (by kernel_rfl) (by simp) ?_
              refine AllReadyH.cons rfl (fun K hK => ?_) AllReadyH.nil
              rw [if_pos (by rfl)]
              go_simp
              go_wp2_with (go_at_call 20; refine ((HRF.out z51 ee)).mono ?_; rintro e z52 ⟨rfl, t⟩)
              have Za := hpB Za t
              have Zw := hpB Zw t
              have Zn := hpB Zn t
              have Zm := hpB Zm t
              have ee := ee.trans (t.mono ee.size)
              clear t
              refine hK.out _ _ ⟨rowAt Zn, rowAt Zm⟩ (fun hH => ?_)
              clear hK K hH
              try simp only [Act.put, List.getElem_toArray, List.getElem_cons_zero, List.getElem_cons_succ, List.setIfInBounds_toArray, List.set_cons_zero, List.set_cons_succ]
              refine wpAnyH_take (i := 14) (v := .bool false) rfl (by kernel_rfl) (by kernel_rfl) (by kernel_rfl) (fun _ _ _ h => h) (Or.inl ⟨by rfl, fun w_ hS_ => by (go_simp; first | done | rfl | simp)⟩) ⟨rowAt Zn, rowAt Zm⟩ ?_
              try simp only [Act.put, List.getElem_toArray, List.getElem_cons_zero, List.getElem_cons_succ, List.setIfInBounds_toArray, List.set_cons_zero, List.set_cons_succ]
              refine wpAnyH_take (i := 15) (v := .bool false) rfl (by kernel_rfl) (by kernel_rfl) (by kernel_rfl) (fun _ _ _ h => h) (Or.inl ⟨by rfl, fun w_ hS_ => by (first | (go_simp; done) | (go_simp; rfl))⟩) ⟨rowAt Zn, rowAt Zm⟩ ?_
              try simp only [Act.put, List.getElem_toArray, List.getElem_cons_zero, List.getElem_cons_succ, List.setIfInBounds_toArray, List.set_cons_zero, List.set_cons_succ]
              refine wpAnyH_done (by kernel_rfl) ?_ _
              clear HSAME HFO HRF
              go_upto_region 12 with fail
              refine wp_region_lit ?_
              iterate 27 (first | with_reducible refine isLoad (ty := 39) rfl ?_ | go_step)
              refine wpList_load_mid rfl 39 _ rfl (g1) 0 rfl ((a.step o).cells) _ (rowAt Zn) Tryd.underlying39 rfl sizeAc ?_
              clear Zn
              iterate 27 (first | with_reducible refine isStore (ty := 39) rfl ?_ | go_step)
              refine wpList_store_row rfl 39 _ _ rfl (w.heap.size + 0) ((a.step o).cells).toArray rfl rfl 39 _ Za sizeAc (by rfl) (Ac.one _) ?_
              have N_ := setRow_heap z52 (w.heap.size + 0) _ ((a.step o).cells).toArray _ _ Za
              have ee := belowSet (cs := ((a.step o).cells).toArray) ee Za (by omega)
              have Zw := hpR Zw (g' := w.heap.size + 0) (by omega) ((a.step o).cells).toArray
              have Zm := hpR Zm (g' := w.heap.size + 0) (by omega) ((a.step o).cells).toArray
              clear Za
              have Za := N_
              clear N_
              generalize z52.setRow (w.heap.size + 0) ((a.step o).cells).toArray = z53 at Za Zw Zm ee ⊢
              go_upto_region 13 with fail
              refine wp_region_lit ?_
              iterate 27 (first | with_reducible refine isLoad (ty := 43) rfl ?_ | go_step)
              refine wpList_load_mid rfl 43 _ rfl (g2) 0 rfl ((a.step o).cells) _ (rowAt Zm) Tryd.underlying43 rfl sizeRAc ?_
              clear Zm
              iterate 27 (first | with_reducible refine isStore (ty := 43) rfl ?_ | go_step)
              refine wpList_store_row rfl 43 _ _ rfl (gb) ((a.step o).cells).toArray rfl rfl 43 _ Zw sizeRAc (by rfl) (Ac.one _) ?_
              have N_ := setRow_heap z53 (gb) _ ((a.step o).cells).toArray _ _ Zw
              have ee := belowSet (cs := ((a.step o).cells).toArray) ee Zw (by omega)
              have Za := hpR Za (g' := gb) (by omega) ((a.step o).cells).toArray
              clear Zw
              have Zw := N_
              clear N_
              generalize z53.setRow (gb) ((a.step o).cells).toArray = z54 at Za Zw ee ⊢
              go_wp2_with fail
              go_roundw
              case rel => exact ⟨k + 1, a.step o, by omega, by go_num, Za, Zw, HC2, ee⟩
              case measure => simp [intOf]; omega
        · obtain rfl : k = n := by omega
          go_wp2_with fail
          go_ret
          exact ⟨rfl, ee⟩

theorem acceptPlays_walk (W : World) (hT : Tabs W) (v0 v1 : Value) (h0 : Arg W 39 v0) (h1 : Arg W 51 v1) :
    Calls Tryd.prog 4 #[v0, v1] W fun e W' => e = .returned (.bool true) ∧ Below W.heap.size W W' := by
  obtain ⟨a, rfl, ha⟩ := h0.ac
  obtain ⟨A, c, ls, rfl, h2, h3, h4, h5⟩ := h1.aops
  exact plays_mid a A c ls W ha h2 h3 h4 h5 hT
end Go.Proofs.YtkfnepmiigkdfaaDoor
