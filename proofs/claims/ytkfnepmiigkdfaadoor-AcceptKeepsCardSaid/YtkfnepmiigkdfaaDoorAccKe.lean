/- The walk of AcceptKeeps. Conditions: the script lies below; the tables lie. (Printed by gen_accp.py.) -/
import Derived.Test.YtkfnepmiigkdfaaDoorAccArg
namespace Go.Proofs.YtkfnepmiigkdfaaDoor
set_option maxRecDepth 20000
open Go.RowKit T
set_option linter.unusedSimpArgs false
set_option linter.unusedVariables false

set_option maxHeartbeats 6400000 in
theorem keeps_mid (A : Option Addr) (c : Nat) (ls : List AOp) (w : World) (hc : ls.length ≤ c) (hm : c ≤ maxLen) (hR : RowsAt w w.heap.size A 14 (ls.map AOp.cells)) (hL : ∀ o ∈ ls, CmOk w w.heap.size o.x) (hT : Tabs w) :
    Calls Tryd.prog 5 #[.slice A ls.length c] w fun e w' => e = .returned (.bool true) ∧ Below w.heap.size w w' := by
  obtain ⟨n, hn⟩ : ∃ n, n = ls.length := ⟨_, rfl⟩
  have HN := Lib.hid hn
  have HT := Lib.hid hT
  have HR := Lib.hid hR
  have HL := Lib.hid hL
  rw [← hn] at hc ⊢
  clear hn hT hR hL
  unfold maxLen at hm
  have ee : Below w.heap.size w w := Below.refl _ _
  go_enter Tryd.func5, Tryd.ntmps5
  by_cases hl : 60 < n
  · go_wp2_with fail
    refine (a18_awake w (HT.out.below ee)).mono ?_
    rintro e z1 ⟨rfl, t⟩
    have ee := ee.trans (t.mono ee.size)
    clear t
    go_wp2_with fail
    refine (a18_awake z1 (HT.out.below ee)).mono ?_
    rintro e z2 ⟨rfl, t⟩
    have ee := ee.trans (t.mono ee.size)
    clear t
    go_wp2_with fail
    go_ret
    exact ⟨rfl, ee⟩
  · go_wp2_with fail
    refine (a18_awake w (HT.out.below ee)).mono ?_
    rintro e z1 ⟨rfl, t⟩
    have ee := ee.trans (t.mono ee.size)
    clear t
    have hle : ¬ 60 < n := hl
    clear hl
    have hl : decide (60 < (n : Int)) = false := by simp; omega
    have ee0 := ee
    go_upto_region 3 with fail
    refine wp_region_lit ?_
    go_wp2_with fail
    refine (c_new z1).mono ?_
    rintro e z2 ⟨rfl, t⟩
    have ee := ee.trans (t.mono ee.size)
    clear t
    have ee0 := ee
    have e0s := ee.size
    dsimp only
    rename_i hK
    refine hK _ _ ?_
    clear hK
    iterate 3 go_step
    have ee := ee.alloc ee.size (.cells #[.int .u32 0, .int .i64 0, .int .i64 0, .bool false, .int .u32 0, .int .i64 0, .int .i64 0, .int .i64 0, .int .i64 0, .slice none 0 0, .slice none 0 0, .int .i64 0, .int .i64 0, .int .i64 0, .int .u64 0, .bool false] 39)
    have Za := hpN z2 (.cells #[.int .u32 0, .int .i64 0, .int .i64 0, .bool false, .int .u32 0, .int .i64 0, .int .i64 0, .int .i64 0, .int .i64 0, .slice none 0 0, .slice none 0 0, .int .i64 0, .int .i64 0, .int .i64 0, .int .u64 0, .bool false] 39) rfl
    generalize z2.alloc (.cells #[.int .u32 0, .int .i64 0, .int .i64 0, .bool false, .int .u32 0, .int .i64 0, .int .i64 0, .int .i64 0, .int .i64 0, .slice none 0 0, .slice none 0 0, .int .i64 0, .int .i64 0, .int .i64 0, .int .u64 0, .bool false] 39) = z3 at Za ee ⊢
    iterate 27 (first | with_reducible refine isStore (ty := 39) rfl ?_ | go_step)
    refine wpList_store_row rfl 39 _ _ rfl (z2.heap.size) (Ac.new.cells).toArray rfl rfl 39 _ Za sizeAc (by rfl) (Ac.one _) ?_
    have N_ := setRow_heap z3 (z2.heap.size) _ (Ac.new.cells).toArray _ _ Za
    have ee := belowSet (cs := (Ac.new.cells).toArray) ee Za (by omega)
    clear Za
    have Za := N_
    clear N_
    generalize z3.setRow (z2.heap.size) (Ac.new.cells).toArray = z4 at Za ee ⊢
    obtain ⟨ga, hg_⟩ : ∃ g_, g_ = z2.heap.size := ⟨_, rfl⟩
    have lga : w.heap.size ≤ ga := by rw [hg_]; exact ee0.size
    rw [← hg_] at Za ⊢
    clear hg_ ee0 e0s
    go_upto_region 4 with fail
    refine wp_region_lit ?_
    iterate 27 (first | with_reducible refine isLoad (ty := 39) rfl ?_ | go_step)
    refine wpList_load_mid rfl 39 _ rfl (ga) 0 rfl ((Ac.new.cells)) _ (rowAt Za) Tryd.underlying39 rfl sizeAc ?_
    go_wp2_with fail
    refine (c_plain Ac.new z4).mono ?_
    rintro e z5 ⟨rfl, t⟩
    have Za := hpB Za t
    have ee := ee.trans (t.mono ee.size)
    clear t
    dsimp only
    rename_i hK
    refine hK _ _ ?_
    clear hK
    iterate 3 go_step
    have lZa := (Array.getElem?_eq_some_iff.1 Za).1
    have Za := hpA Za (.cells #[.int .u32 0, .int .i64 0, .int .i64 0, .bool false, .int .u32 0, .int .i64 0, .int .i64 0, .int .i64 0, .int .i64 0, .slice none 0 0, .slice none 0 0, .int .i64 0, .int .i64 0, .int .i64 0, .int .u64 0, .bool false] 43)
    have ee := ee.alloc ee.size (.cells #[.int .u32 0, .int .i64 0, .int .i64 0, .bool false, .int .u32 0, .int .i64 0, .int .i64 0, .int .i64 0, .int .i64 0, .slice none 0 0, .slice none 0 0, .int .i64 0, .int .i64 0, .int .i64 0, .int .u64 0, .bool false] 43)
    have Zw := hpN z5 (.cells #[.int .u32 0, .int .i64 0, .int .i64 0, .bool false, .int .u32 0, .int .i64 0, .int .i64 0, .int .i64 0, .int .i64 0, .slice none 0 0, .slice none 0 0, .int .i64 0, .int .i64 0, .int .i64 0, .int .u64 0, .bool false] 43) rfl
    generalize z5.alloc (.cells #[.int .u32 0, .int .i64 0, .int .i64 0, .bool false, .int .u32 0, .int .i64 0, .int .i64 0, .int .i64 0, .int .i64 0, .slice none 0 0, .slice none 0 0, .int .i64 0, .int .i64 0, .int .i64 0, .int .u64 0, .bool false] 43) = z6 at Za Zw ee ⊢
    iterate 27 (first | with_reducible refine isStore (ty := 43) rfl ?_ | go_step)
    refine wpList_store_row rfl 43 _ _ rfl (z5.heap.size) (Ac.new.cells).toArray rfl rfl 43 _ Zw sizeRAc (by rfl) (Ac.one _) ?_
    have N_ := setRow_heap z6 (z5.heap.size) _ (Ac.new.cells).toArray _ _ Zw
    have ee := belowSet (cs := (Ac.new.cells).toArray) ee Zw (by omega)
    have Za := hpR Za (g' := z5.heap.size) (by omega) (Ac.new.cells).toArray
    clear Zw
    have Zw := N_
    clear N_
    generalize z6.setRow (z5.heap.size) (Ac.new.cells).toArray = z7 at Za Zw ee ⊢
    obtain ⟨gb, hg_⟩ : ∃ g_, g_ = z5.heap.size := ⟨_, rfl⟩
    have lgb : ga < gb := by rw [hg_]; exact lZa
    rw [← hg_] at Zw ⊢
    clear hg_ lZa
    go_wp2_with fail
    go_loopw [5] (fun i wr => ∃ (k : Nat) (a : Ac), k ≤ n ∧ i = .int .i64 (k : Int) ∧ Hid (wr.heap[ga]? = some (.cells a.cells.toArray 39)) ∧ Hid (wr.heap[gb]? = some (.cells a.cells.toArray 43)) ∧ Hid (CmOk w w.heap.size a.c) ∧ Hid (a.formed = true) ∧ Hid (Below w.heap.size w wr)) (fun i _ => n - (intOf i).toNat)
    case atStart => exact ⟨0, Ac.new, Nat.zero_le _, rfl, Za, Zw, CmOk.zero, Ac.new_formed, ee⟩
    case round =>
      clear Za Zw ee
      obtain ⟨k, a, hk, rfl, Za, Zw, HC, HF, ee⟩ := hrel
      have Za := Za.out
      have Zw := Zw.out
      have ee := ee.out
      by_cases hlt : k < n
      · have hkl : k < ls.length := by rw [← HN.out]; exact hlt
        obtain ⟨bo, off, rfl, hbo, hr⟩ := rowsGet HR.out hkl
        have HX : Hid (CmOk w w.heap.size ls[k].x) := HL.out _ (List.getElem_mem hkl)
        generalize ls[k] = o at hr HX
        have HACT := Lib.hid (fun z (hz : Below w.heap.size w z) => act_any a o z w.heap.size hz.size (HC.out.below hz (Nat.le_refl _)) (HX.out.below hz (Nat.le_refl _)) (HT.out.below hz))
        have HC2 := Lib.hid (Ac.step_ok HC.out HX.out)
        go_upto_region 8 with fail
        refine wp_region_lit ?_
        iterate 27 (first | with_reducible refine isLoad (ty := 37) rfl ?_ | go_step)
        refine wpList_load_mid rfl 37 _ rfl (bo) (off + k * 14 + 4) rfl (o.x.cells) _ (rangePart (rangeB hr ee hbo) (AOp.part o)) Tryd.underlying37 rfl sizeCm ?_
        go_wp2_with fail
        refine (c_few o.x wr w.heap.size ee.size (HX.out.below ee (Nat.le_refl _))).mono ?_
        rintro e z8 ⟨⟨r, rfl⟩, t⟩
        have Za := hpB Za t
        have Zw := hpB Zw t
        have ee := ee.trans (t.mono ee.size)
        clear t
        cases r with
        | false =>
          go_wp2_with fail
          go_ret
          exact ⟨rfl, ee⟩
        | true =>
          go_upto_region 10 with fail
          go_cut [6, 7, 8] (fun u7 u8 u9 wx => ∃ g1 g2 : Nat, u7 = .pointer (some ⟨g1, 0, none⟩) ∧ u8 = .pointer (some ⟨g2, 0, none⟩) ∧ u9 = .bool true ∧ Hid (gb < g1) ∧ Hid (gb < g2) ∧ Hid (wx.heap[ga]? = some (.cells a.cells.toArray 39)) ∧ Hid (wx.heap[gb]? = some (.cells a.cells.toArray 43)) ∧ Hid (wx.heap[g1]? = some (.cells (a.step o).cells.toArray 39)) ∧ Hid (wx.heap[g2]? = some (.cells (a.step o).cells.toArray 43)) ∧ Hid (Below w.heap.size w wx))
          case first =>
            have Za : z8.drew.heap[ga]? = some (.cells a.cells.toArray 39) := Za
            have Zw : z8.drew.heap[gb]? = some (.cells a.cells.toArray 43) := Zw
            have ee := belowDrewS ee
            refine wp_region_held_drew (S := fun z' => z'.rangeAt (ga) 0 a.cells ∧ z'.rangeAt gb 0 a.cells ∧ z'.rangeAt bo (off + k * 14) o.cells) (by kernel_rfl) ⟨rowAt Za, rowAt Zw, rangeB hr ee hbo⟩ (fun hH => ?_)
            clear hH
            generalize z8.drew = z9 at Za Zw  ee ⊢
            refine wpAnyH_take (i := 0) (v := .agg (a.cells).toArray) rfl (by kernel_rfl) (by kernel_rfl) (by kernel_rfl) (fun _ _ _ h => h) (yieldsIf_load_mid (by rfl) 39 _ rfl (ga) 0 rfl (a.cells) _ (fun _ h => h.1) Tryd.underlying39 rfl sizeAc) ⟨rowAt Za, rowAt Zw, rangeB hr ee hbo⟩ ?_
            try simp only [Act.put, List.getElem_toArray, List.getElem_cons_zero, List.getElem_cons_succ, List.setIfInBounds_toArray, List.set_cons_zero, List.set_cons_succ]
            refine wpAnyH_take (i := 1) (v := .agg (a.cells).toArray) rfl (by kernel_rfl) (by kernel_rfl) (by kernel_rfl) (fun _ _ _ h => h) (yieldsIf_load_mid (by rfl) 43 _ rfl (gb) 0 rfl (a.cells) _ (fun _ h => h.2.1) Tryd.underlying43 rfl sizeRAc) ⟨rowAt Za, rowAt Zw, rangeB hr ee hbo⟩ ?_
            try simp only [Act.put, List.getElem_toArray, List.getElem_cons_zero, List.getElem_cons_succ, List.setIfInBounds_toArray, List.set_cons_zero, List.set_cons_succ]
            refine wpAnyH_take (i := 2) (v := .slice (some ⟨bo, off, none⟩) n c) rfl (by kernel_rfl) (by kernel_rfl) (by kernel_rfl) (fun _ _ _ h => h) (Or.inl ⟨by rfl, fun w_ hS_ => by (first | (go_simp; done) | (go_simp; rfl))⟩) ⟨rowAt Za, rowAt Zw, rangeB hr ee hbo⟩ ?_
            try simp only [Act.put, List.getElem_toArray, List.getElem_cons_zero, List.getElem_cons_succ, List.setIfInBounds_toArray, List.set_cons_zero, List.set_cons_succ]
            refine wpAnyH_take (i := 3) (v := .int .i64 (k : Int)) rfl (by kernel_rfl) (by kernel_rfl) (by kernel_rfl) (fun _ _ _ h => h) (Or.inl ⟨by rfl, fun w_ hS_ => by (first | (go_simp; done) | (go_simp; rfl))⟩) ⟨rowAt Za, rowAt Zw, rangeB hr ee hbo⟩ ?_
            try simp only [Act.put, List.getElem_toArray, List.getElem_cons_zero, List.getElem_cons_succ, List.setIfInBounds_toArray, List.set_cons_zero, List.set_cons_succ]
            refine wpAnyH_take (i := 4) (v := .pointer (some ⟨bo, off + k * 14, none⟩)) rfl (by kernel_rfl) (by kernel_rfl) (by kernel_rfl) (fun _ _ _ h => h) (Or.inl ⟨by rfl, fun w_ hS_ => by (first | (go_simp; done) | (go_simp; rfl))⟩) ⟨rowAt Za, rowAt Zw, rangeB hr ee hbo⟩ ?_
            try simp only [Act.put, List.getElem_toArray, List.getElem_cons_zero, List.getElem_cons_succ, List.setIfInBounds_toArray, List.set_cons_zero, List.set_cons_succ]
            refine wpAnyH_take (i := 5) (v := .agg (o.cells).toArray) rfl (by kernel_rfl) (by kernel_rfl) (by kernel_rfl) (fun _ _ _ h => h) (yieldsIf_load_mid (by rfl) 53 _ rfl (bo) (off + k * 14) rfl (o.cells) _ (fun _ h => h.2.2) Tryd.underlying53 rfl sizeOp) ⟨rowAt Za, rowAt Zw, rangeB hr ee hbo⟩ ?_
            try simp only [Act.put, List.getElem_toArray, List.getElem_cons_zero, List.getElem_cons_succ, List.setIfInBounds_toArray, List.set_cons_zero, List.set_cons_succ]
            refine wpAnyH_ready (rs := [6, 11, 12]) (by kernel_rfl) (by simp) ?_
            refine AllReadyH.cons rfl (fun K hK => ?_) (AllReadyH.cons rfl (fun K hK => ?_) (AllReadyH.cons rfl (fun K hK => ?_) AllReadyH.nil))
            · rw [if_pos (by rfl)]
              go_simp
              go_wp2_with (go_at_call 17; refine (HACT.out z9 ee).mono ?_; rintro e z10 ⟨rfl, t⟩)
              have Za := hpB Za t
              have Zw := hpB Zw t
              have ee := ee.trans (t.mono ee.size)
              clear t
              refine hK.out _ _ ⟨rowAt Za, rowAt Zw, rangeB hr ee hbo⟩ (fun hH => ?_)
              clear hK K hH
              try simp only [Act.put, List.getElem_toArray, List.getElem_cons_zero, List.getElem_cons_succ, List.setIfInBounds_toArray, List.set_cons_zero, List.set_cons_succ]
              refine wpAnyH_take (i := 7) (v := .tuple #[.agg (a.step o).cells.toArray, .agg (a.step o).cells.toArray, .bool true]) rfl (by kernel_rfl) (by kernel_rfl) (by kernel_rfl) (fun _ _ _ h => h) (Or.inl ⟨by rfl, fun w_ hS_ => by (first | (go_simp; done) | (go_simp; rfl))⟩) ⟨rowAt Za, rowAt Zw, rangeB hr ee hbo⟩ ?_
              try simp only [Act.put, List.getElem_toArray, List.getElem_cons_zero, List.getElem_cons_succ, List.setIfInBounds_toArray, List.set_cons_zero, List.set_cons_succ]
              refine wpAnyH_take (i := 8) (v := .agg (a.step o).cells.toArray) rfl (by kernel_rfl) (by kernel_rfl) (by kernel_rfl) (fun _ _ _ h => h) (Or.inl ⟨by rfl, fun w_ hS_ => by (first | (go_simp; done) | (go_simp; rfl))⟩) ⟨rowAt Za, rowAt Zw, rangeB hr ee hbo⟩ ?_
              try simp only [Act.put, List.getElem_toArray, List.getElem_cons_zero, List.getElem_cons_succ, List.setIfInBounds_toArray, List.set_cons_zero, List.set_cons_succ]
              refine wpAnyH_take (i := 9) (v := .agg (a.step o).cells.toArray) rfl (by kernel_rfl) (by kernel_rfl) (by kernel_rfl) (fun _ _ _ h => h) (Or.inl ⟨by rfl, fun w_ hS_ => by (first | (go_simp; done) | (go_simp; rfl))⟩) ⟨rowAt Za, rowAt Zw, rangeB hr ee hbo⟩ ?_
              try simp only [Act.put, List.getElem_toArray, List.getElem_cons_zero, List.getElem_cons_succ, List.setIfInBounds_toArray, List.set_cons_zero, List.set_cons_succ]
              refine wpAnyH_take (i := 10) (v := .bool true) rfl (by kernel_rfl) (by kernel_rfl) (by kernel_rfl) (fun _ _ _ h => h) (Or.inl ⟨by rfl, fun w_ hS_ => by (first | (go_simp; done) | (go_simp; rfl))⟩) ⟨rowAt Za, rowAt Zw, rangeB hr ee hbo⟩ ?_
              try simp only [Act.put, List.getElem_toArray, List.getElem_cons_zero, List.getElem_cons_succ, List.setIfInBounds_toArray, List.set_cons_zero, List.set_cons_succ]
              refine wpAnyH_ready (rs := [11, 12]) (by kernel_rfl) (by simp) ?_
              refine AllReadyH.cons rfl (fun K hK => ?_) (AllReadyH.cons rfl (fun K hK => ?_) AllReadyH.nil)
              · rw [if_pos (by rfl)]
                go_simp
                have lZa := (Array.getElem?_eq_some_iff.1 Za).1
                have lZw := (Array.getElem?_eq_some_iff.1 Zw).1
                have Za := hpA Za (.cells #[.int .u32 0, .int .i64 0, .int .i64 0, .bool false, .int .u32 0, .int .i64 0, .int .i64 0, .int .i64 0, .int .i64 0, .slice none 0 0, .slice none 0 0, .int .i64 0, .int .i64 0, .int .i64 0, .int .u64 0, .bool false] 39)
                have Zw := hpA Zw (.cells #[.int .u32 0, .int .i64 0, .int .i64 0, .bool false, .int .u32 0, .int .i64 0, .int .i64 0, .int .i64 0, .int .i64 0, .slice none 0 0, .slice none 0 0, .int .i64 0, .int .i64 0, .int .i64 0, .int .u64 0, .bool false] 39)
                have ee := ee.alloc ee.size (.cells #[.int .u32 0, .int .i64 0, .int .i64 0, .bool false, .int .u32 0, .int .i64 0, .int .i64 0, .int .i64 0, .int .i64 0, .slice none 0 0, .slice none 0 0, .int .i64 0, .int .i64 0, .int .i64 0, .int .u64 0, .bool false] 39)
                have Zn := hpN z10 (.cells #[.int .u32 0, .int .i64 0, .int .i64 0, .bool false, .int .u32 0, .int .i64 0, .int .i64 0, .int .i64 0, .int .i64 0, .slice none 0 0, .slice none 0 0, .int .i64 0, .int .i64 0, .int .i64 0, .int .u64 0, .bool false] 39) rfl
                generalize z10.alloc (.cells #[.int .u32 0, .int .i64 0, .int .i64 0, .bool false, .int .u32 0, .int .i64 0, .int .i64 0, .int .i64 0, .int .i64 0, .slice none 0 0, .slice none 0 0, .int .i64 0, .int .i64 0, .int .i64 0, .int .u64 0, .bool false] 39) = z11 at Za Zw Zn  ee ⊢
                refine hK.out _ _ ⟨rowAt Za, rowAt Zw, rangeB hr ee hbo⟩ (fun hH => ?_)
                clear hK K hH
                try simp only [Act.put, List.getElem_toArray, List.getElem_cons_zero, List.getElem_cons_succ, List.setIfInBounds_toArray, List.set_cons_zero, List.set_cons_succ]
                refine wpAnyH_ready (rs := [12]) (by kernel_rfl) (by simp) ?_
                refine AllReadyH.cons rfl (fun K hK => ?_) AllReadyH.nil
                rw [if_pos (by rfl)]
                go_simp
                have lZa := (Array.getElem?_eq_some_iff.1 Za).1
                have lZw := (Array.getElem?_eq_some_iff.1 Zw).1
                have lZn := (Array.getElem?_eq_some_iff.1 Zn).1
                have Za := hpA Za (.cells #[.int .u32 0, .int .i64 0, .int .i64 0, .bool false, .int .u32 0, .int .i64 0, .int .i64 0, .int .i64 0, .int .i64 0, .slice none 0 0, .slice none 0 0, .int .i64 0, .int .i64 0, .int .i64 0, .int .u64 0, .bool false] 43)
                have Zw := hpA Zw (.cells #[.int .u32 0, .int .i64 0, .int .i64 0, .bool false, .int .u32 0, .int .i64 0, .int .i64 0, .int .i64 0, .int .i64 0, .slice none 0 0, .slice none 0 0, .int .i64 0, .int .i64 0, .int .i64 0, .int .u64 0, .bool false] 43)
                have Zn := hpA Zn (.cells #[.int .u32 0, .int .i64 0, .int .i64 0, .bool false, .int .u32 0, .int .i64 0, .int .i64 0, .int .i64 0, .int .i64 0, .slice none 0 0, .slice none 0 0, .int .i64 0, .int .i64 0, .int .i64 0, .int .u64 0, .bool false] 43)
                have ee := ee.alloc ee.size (.cells #[.int .u32 0, .int .i64 0, .int .i64 0, .bool false, .int .u32 0, .int .i64 0, .int .i64 0, .int .i64 0, .int .i64 0, .slice none 0 0, .slice none 0 0, .int .i64 0, .int .i64 0, .int .i64 0, .int .u64 0, .bool false] 43)
                have Zm := hpN z11 (.cells #[.int .u32 0, .int .i64 0, .int .i64 0, .bool false, .int .u32 0, .int .i64 0, .int .i64 0, .int .i64 0, .int .i64 0, .slice none 0 0, .slice none 0 0, .int .i64 0, .int .i64 0, .int .i64 0, .int .u64 0, .bool false] 43) rfl
                generalize z11.alloc (.cells #[.int .u32 0, .int .i64 0, .int .i64 0, .bool false, .int .u32 0, .int .i64 0, .int .i64 0, .int .i64 0, .int .i64 0, .slice none 0 0, .slice none 0 0, .int .i64 0, .int .i64 0, .int .i64 0, .int .u64 0, .bool false] 43) = z12 at Za Zw Zn Zm  ee ⊢
                refine hK.out _ _ ⟨rowAt Za, rowAt Zw, rangeB hr ee hbo⟩ (fun hH => ?_)
                clear hK K hH
                try simp only [Act.put, List.getElem_toArray, List.getElem_cons_zero, List.getElem_cons_succ, List.setIfInBounds_toArray, List.set_cons_zero, List.set_cons_succ]
                refine wpAnyH_ready (rs := [13]) (by kernel_rfl) (by simp) ?_
                refine AllReadyH.cons rfl (fun K hK => ?_) AllReadyH.nil
                rw [if_pos (by rfl)]
                refine wp_store_row 39 _ _ rfl (z10.heap.size) ((a.step o).cells).toArray rfl rfl 39 _ Zn sizeAc (by rfl) (Ac.one _) ?_
                have N_ := setRow_heap z12 (z10.heap.size) _ ((a.step o).cells).toArray _ _ Zn
                have ee := belowSet (cs := ((a.step o).cells).toArray) ee Zn (by omega)
                have Za := hpR Za (g' := z10.heap.size) (by omega) ((a.step o).cells).toArray
                have Zw := hpR Zw (g' := z10.heap.size) (by omega) ((a.step o).cells).toArray
                have Zm := hpR Zm (g' := z10.heap.size) (by omega) ((a.step o).cells).toArray
                clear Zn
                have Zn := N_
                clear N_
                generalize z12.setRow (z10.heap.size) ((a.step o).cells).toArray = z13 at Za Zw Zn Zm ee ⊢
                refine hK.out _ _ ⟨rowAt Za, rowAt Zw, rangeB hr ee hbo⟩ (fun hH => ?_)
                clear hK K hH
                try simp only [Act.put, List.getElem_toArray, List.getElem_cons_zero, List.getElem_cons_succ, List.setIfInBounds_toArray, List.set_cons_zero, List.set_cons_succ]
                refine wpAnyH_ready (rs := [14]) (by kernel_rfl) (by simp) ?_
                refine AllReadyH.cons rfl (fun K hK => ?_) AllReadyH.nil
                rw [if_pos (by rfl)]
                refine wp_store_row 43 _ _ rfl (z11.heap.size) ((a.step o).cells).toArray rfl rfl 43 _ Zm sizeRAc (by rfl) (Ac.one _) ?_
                have N_ := setRow_heap z13 (z11.heap.size) _ ((a.step o).cells).toArray _ _ Zm
                have ee := belowSet (cs := ((a.step o).cells).toArray) ee Zm (by omega)
                have Za := hpR Za (g' := z11.heap.size) (by omega) ((a.step o).cells).toArray
                have Zw := hpR Zw (g' := z11.heap.size) (by omega) ((a.step o).cells).toArray
                have Zn := hpR Zn (g' := z11.heap.size) (by omega) ((a.step o).cells).toArray
                clear Zm
                have Zm := N_
                clear N_
                generalize z13.setRow (z11.heap.size) ((a.step o).cells).toArray = z14 at Za Zw Zn Zm ee ⊢
                refine hK.out _ _ ⟨rowAt Za, rowAt Zw, rangeB hr ee hbo⟩ (fun hH => ?_)
                clear hK K hH
                try simp only [Act.put, List.getElem_toArray, List.getElem_cons_zero, List.getElem_cons_succ, List.setIfInBounds_toArray, List.set_cons_zero, List.set_cons_succ]
                refine wpAnyH_take (i := 15) (v := .bool true) rfl (by kernel_rfl) (by kernel_rfl) (by kernel_rfl) (fun _ _ _ h => h) (Or.inl ⟨by rfl, fun w_ hS_ => by (first | (go_simp; done) | (go_simp; rfl))⟩) ⟨rowAt Za, rowAt Zw, rangeB hr ee hbo⟩ ?_
                try simp only [Act.put, List.getElem_toArray, List.getElem_cons_zero, List.getElem_cons_succ, List.setIfInBounds_toArray, List.set_cons_zero, List.set_cons_succ]
                refine wpAnyH_done (by kernel_rfl) ?_ _
                go_wp2_with fail
                go_meet
                exact ⟨_, _, rfl, rfl, rfl, by show _ < _; omega, by show _ < _; omega, Za, Zw, Zn, Zm, ee⟩
              · rw [if_pos (by rfl)]
                go_simp
                have lZa := (Array.getElem?_eq_some_iff.1 Za).1
                have lZw := (Array.getElem?_eq_some_iff.1 Zw).1
                have Za := hpA Za (.cells #[.int .u32 0, .int .i64 0, .int .i64 0, .bool false, .int .u32 0, .int .i64 0, .int .i64 0, .int .i64 0, .int .i64 0, .slice none 0 0, .slice none 0 0, .int .i64 0, .int .i64 0, .int .i64 0, .int .u64 0, .bool false] 43)
                have Zw := hpA Zw (.cells #[.int .u32 0, .int .i64 0, .int .i64 0, .bool false, .int .u32 0, .int .i64 0, .int .i64 0, .int .i64 0, .int .i64 0, .slice none 0 0, .slice none 0 0, .int .i64 0, .int .i64 0, .int .i64 0, .int .u64 0, .bool false] 43)
                have ee := ee.alloc ee.size (.cells #[.int .u32 0, .int .i64 0, .int .i64 0, .bool false, .int .u32 0, .int .i64 0, .int .i64 0, .int .i64 0, .int .i64 0, .slice none 0 0, .slice none 0 0, .int .i64 0, .int .i64 0, .int .i64 0, .int .u64 0, .bool false] 43)
                have Zm := hpN z10 (.cells #[.int .u32 0, .int .i64 0, .int .i64 0, .bool false, .int .u32 0, .int .i64 0, .int .i64 0, .int .i64 0, .int .i64 0, .slice none 0 0, .slice none 0 0, .int .i64 0, .int .i64 0, .int .i64 0, .int .u64 0, .bool false] 43) rfl
                generalize z10.alloc (.cells #[.int .u32 0, .int .i64 0, .int .i64 0, .bool false, .int .u32 0, .int .i64 0, .int .i64 0, .int .i64 0, .int .i64 0, .slice none 0 0, .slice none 0 0, .int .i64 0, .int .i64 0, .int .i64 0, .int .u64 0, .bool false] 43) = z11 at Za Zw Zm  ee ⊢
                refine hK.out _ _ ⟨rowAt Za, rowAt Zw, rangeB hr ee hbo⟩ (fun hH => ?_)
                clear hK K hH
                try simp only [Act.put, List.getElem_toArray, List.getElem_cons_zero, List.getElem_cons_succ, List.setIfInBounds_toArray, List.set_cons_zero, List.set_cons_succ]
                refine wpAnyH_ready (rs := [11]) (by kernel_rfl) (by simp) ?_
                refine AllReadyH.cons rfl (fun K hK => ?_) AllReadyH.nil
                rw [if_pos (by rfl)]
                go_simp
                have lZa := (Array.getElem?_eq_some_iff.1 Za).1
                have lZw := (Array.getElem?_eq_some_iff.1 Zw).1
                have lZm := (Array.getElem?_eq_some_iff.1 Zm).1
                have Za := hpA Za (.cells #[.int .u32 0, .int .i64 0, .int .i64 0, .bool false, .int .u32 0, .int .i64 0, .int .i64 0, .int .i64 0, .int .i64 0, .slice none 0 0, .slice none 0 0, .int .i64 0, .int .i64 0, .int .i64 0, .int .u64 0, .bool false] 39)
                have Zw := hpA Zw (.cells #[.int .u32 0, .int .i64 0, .int .i64 0, .bool false, .int .u32 0, .int .i64 0, .int .i64 0, .int .i64 0, .int .i64 0, .slice none 0 0, .slice none 0 0, .int .i64 0, .int .i64 0, .int .i64 0, .int .u64 0, .bool false] 39)
                have Zm := hpA Zm (.cells #[.int .u32 0, .int .i64 0, .int .i64 0, .bool false, .int .u32 0, .int .i64 0, .int .i64 0, .int .i64 0, .int .i64 0, .slice none 0 0, .slice none 0 0, .int .i64 0, .int .i64 0, .int .i64 0, .int .u64 0, .bool false] 39)
                have ee := ee.alloc ee.size (.cells #[.int .u32 0, .int .i64 0, .int .i64 0, .bool false, .int .u32 0, .int .i64 0, .int .i64 0, .int .i64 0, .int .i64 0, .slice none 0 0, .slice none 0 0, .int .i64 0, .int .i64 0, .int .i64 0, .int .u64 0, .bool false] 39)
                have Zn := hpN z11 (.cells #[.int .u32 0, .int .i64 0, .int .i64 0, .bool false, .int .u32 0, .int .i64 0, .int .i64 0, .int .i64 0, .int .i64 0, .slice none 0 0, .slice none 0 0, .int .i64 0, .int .i64 0, .int .i64 0, .int .u64 0, .bool false] 39) rfl
                generalize z11.alloc (.cells #[.int .u32 0, .int .i64 0, .int .i64 0, .bool false, .int .u32 0, .int .i64 0, .int .i64 0, .int .i64 0, .int .i64 0, .slice none 0 0, .slice none 0 0, .int .i64 0, .int .i64 0, .int .i64 0, .int .u64 0, .bool false] 39) = z12 at Za Zw Zm Zn  ee ⊢
                refine hK.out _ _ ⟨rowAt Za, rowAt Zw, rangeB hr ee hbo⟩ (fun hH => ?_)
                clear hK K hH
                try simp only [Act.put, List.getElem_toArray, List.getElem_cons_zero, List.getElem_cons_succ, List.setIfInBounds_toArray, List.set_cons_zero, List.set_cons_succ]
                refine wpAnyH_ready (rs := [13]) (by kernel_rfl) (by simp) ?_
                refine AllReadyH.cons rfl (fun K hK => ?_) AllReadyH.nil
                rw [if_pos (by rfl)]
                refine wp_store_row 39 _ _ rfl (z11.heap.size) ((a.step o).cells).toArray rfl rfl 39 _ Zn sizeAc (by rfl) (Ac.one _) ?_
                have N_ := setRow_heap z12 (z11.heap.size) _ ((a.step o).cells).toArray _ _ Zn
                have ee := belowSet (cs := ((a.step o).cells).toArray) ee Zn (by omega)
                have Za := hpR Za (g' := z11.heap.size) (by omega) ((a.step o).cells).toArray
                have Zw := hpR Zw (g' := z11.heap.size) (by omega) ((a.step o).cells).toArray
                have Zm := hpR Zm (g' := z11.heap.size) (by omega) ((a.step o).cells).toArray
                clear Zn
                have Zn := N_
                clear N_
                generalize z12.setRow (z11.heap.size) ((a.step o).cells).toArray = z13 at Za Zw Zm Zn ee ⊢
                refine hK.out _ _ ⟨rowAt Za, rowAt Zw, rangeB hr ee hbo⟩ (fun hH => ?_)
                clear hK K hH
                try simp only [Act.put, List.getElem_toArray, List.getElem_cons_zero, List.getElem_cons_succ, List.setIfInBounds_toArray, List.set_cons_zero, List.set_cons_succ]
                refine wpAnyH_ready (rs := [14]) (by kernel_rfl) (by simp) ?_
                refine AllReadyH.cons rfl (fun K hK => ?_) AllReadyH.nil
                rw [if_pos (by rfl)]
                refine wp_store_row 43 _ _ rfl (z10.heap.size) ((a.step o).cells).toArray rfl rfl 43 _ Zm sizeRAc (by rfl) (Ac.one _) ?_
                have N_ := setRow_heap z13 (z10.heap.size) _ ((a.step o).cells).toArray _ _ Zm
                have ee := belowSet (cs := ((a.step o).cells).toArray) ee Zm (by omega)
                have Za := hpR Za (g' := z10.heap.size) (by omega) ((a.step o).cells).toArray
                have Zw := hpR Zw (g' := z10.heap.size) (by omega) ((a.step o).cells).toArray
                have Zn := hpR Zn (g' := z10.heap.size) (by omega) ((a.step o).cells).toArray
                clear Zm
                have Zm := N_
                clear N_
                generalize z13.setRow (z10.heap.size) ((a.step o).cells).toArray = z14 at Za Zw Zm Zn ee ⊢
                refine hK.out _ _ ⟨rowAt Za, rowAt Zw, rangeB hr ee hbo⟩ (fun hH => ?_)
                clear hK K hH
                try simp only [Act.put, List.getElem_toArray, List.getElem_cons_zero, List.getElem_cons_succ, List.setIfInBounds_toArray, List.set_cons_zero, List.set_cons_succ]
                refine wpAnyH_take (i := 15) (v := .bool true) rfl (by kernel_rfl) (by kernel_rfl) (by kernel_rfl) (fun _ _ _ h => h) (Or.inl ⟨by rfl, fun w_ hS_ => by (first | (go_simp; done) | (go_simp; rfl))⟩) ⟨rowAt Za, rowAt Zw, rangeB hr ee hbo⟩ ?_
                try simp only [Act.put, List.getElem_toArray, List.getElem_cons_zero, List.getElem_cons_succ, List.setIfInBounds_toArray, List.set_cons_zero, List.set_cons_succ]
                refine wpAnyH_done (by kernel_rfl) ?_ _
                go_wp2_with fail
                go_meet
                exact ⟨_, _, rfl, rfl, rfl, by show _ < _; omega, by show _ < _; omega, Za, Zw, Zn, Zm, ee⟩
            · rw [if_pos (by rfl)]
              go_simp
              have lZa := (Array.getElem?_eq_some_iff.1 Za).1
              have lZw := (Array.getElem?_eq_some_iff.1 Zw).1
              have Za := hpA Za (.cells #[.int .u32 0, .int .i64 0, .int .i64 0, .bool false, .int .u32 0, .int .i64 0, .int .i64 0, .int .i64 0, .int .i64 0, .slice none 0 0, .slice none 0 0, .int .i64 0, .int .i64 0, .int .i64 0, .int .u64 0, .bool false] 39)
              have Zw := hpA Zw (.cells #[.int .u32 0, .int .i64 0, .int .i64 0, .bool false, .int .u32 0, .int .i64 0, .int .i64 0, .int .i64 0, .int .i64 0, .slice none 0 0, .slice none 0 0, .int .i64 0, .int .i64 0, .int .i64 0, .int .u64 0, .bool false] 39)
              have ee := ee.alloc ee.size (.cells #[.int .u32 0, .int .i64 0, .int .i64 0, .bool false, .int .u32 0, .int .i64 0, .int .i64 0, .int .i64 0, .int .i64 0, .slice none 0 0, .slice none 0 0, .int .i64 0, .int .i64 0, .int .i64 0, .int .u64 0, .bool false] 39)
              have Zn := hpN z9 (.cells #[.int .u32 0, .int .i64 0, .int .i64 0, .bool false, .int .u32 0, .int .i64 0, .int .i64 0, .int .i64 0, .int .i64 0, .slice none 0 0, .slice none 0 0, .int .i64 0, .int .i64 0, .int .i64 0, .int .u64 0, .bool false] 39) rfl
              generalize z9.alloc (.cells #[.int .u32 0, .int .i64 0, .int .i64 0, .bool false, .int .u32 0, .int .i64 0, .int .i64 0, .int .i64 0, .int .i64 0, .slice none 0 0, .slice none 0 0, .int .i64 0, .int .i64 0, .int .i64 0, .int .u64 0, .bool false] 39) = z10 at Za Zw Zn  ee ⊢
              refine hK.out _ _ ⟨rowAt Za, rowAt Zw, rangeB hr ee hbo⟩ (fun hH => ?_)
              clear hK K hH
              try simp only [Act.put, List.getElem_toArray, List.getElem_cons_zero, List.getElem_cons_succ, List.setIfInBounds_toArray, List.set_cons_zero, List.set_cons_succ]
              refine wpAnyH_ready (rs := [6, 12]) (by kernel_rfl) (by simp) ?_
              refine AllReadyH.cons rfl (fun K hK => ?_) (AllReadyH.cons rfl (fun K hK => ?_) AllReadyH.nil)
              · rw [if_pos (by rfl)]
                go_simp
                go_wp2_with (go_at_call 17; refine (HACT.out z10 ee).mono ?_; rintro e z11 ⟨rfl, t⟩)
                have Za := hpB Za t
                have Zw := hpB Zw t
                have Zn := hpB Zn t
                have ee := ee.trans (t.mono ee.size)
                clear t
                refine hK.out _ _ ⟨rowAt Za, rowAt Zw, rangeB hr ee hbo⟩ (fun hH => ?_)
                clear hK K hH
                try simp only [Act.put, List.getElem_toArray, List.getElem_cons_zero, List.getElem_cons_succ, List.setIfInBounds_toArray, List.set_cons_zero, List.set_cons_succ]
                refine wpAnyH_take (i := 7) (v := .tuple #[.agg (a.step o).cells.toArray, .agg (a.step o).cells.toArray, .bool true]) rfl (by kernel_rfl) (by kernel_rfl) (by kernel_rfl) (fun _ _ _ h => h) (Or.inl ⟨by rfl, fun w_ hS_ => by (first | (go_simp; done) | (go_simp; rfl))⟩) ⟨rowAt Za, rowAt Zw, rangeB hr ee hbo⟩ ?_
                try simp only [Act.put, List.getElem_toArray, List.getElem_cons_zero, List.getElem_cons_succ, List.setIfInBounds_toArray, List.set_cons_zero, List.set_cons_succ]
                refine wpAnyH_take (i := 8) (v := .agg (a.step o).cells.toArray) rfl (by kernel_rfl) (by kernel_rfl) (by kernel_rfl) (fun _ _ _ h => h) (Or.inl ⟨by rfl, fun w_ hS_ => by (first | (go_simp; done) | (go_simp; rfl))⟩) ⟨rowAt Za, rowAt Zw, rangeB hr ee hbo⟩ ?_
                try simp only [Act.put, List.getElem_toArray, List.getElem_cons_zero, List.getElem_cons_succ, List.setIfInBounds_toArray, List.set_cons_zero, List.set_cons_succ]
                refine wpAnyH_take (i := 9) (v := .agg (a.step o).cells.toArray) rfl (by kernel_rfl) (by kernel_rfl) (by kernel_rfl) (fun _ _ _ h => h) (Or.inl ⟨by rfl, fun w_ hS_ => by (first | (go_simp; done) | (go_simp; rfl))⟩) ⟨rowAt Za, rowAt Zw, rangeB hr ee hbo⟩ ?_
                try simp only [Act.put, List.getElem_toArray, List.getElem_cons_zero, List.getElem_cons_succ, List.setIfInBounds_toArray, List.set_cons_zero, List.set_cons_succ]
                refine wpAnyH_take (i := 10) (v := .bool true) rfl (by kernel_rfl) (by kernel_rfl) (by kernel_rfl) (fun _ _ _ h => h) (Or.inl ⟨by rfl, fun w_ hS_ => by (first | (go_simp; done) | (go_simp; rfl))⟩) ⟨rowAt Za, rowAt Zw, rangeB hr ee hbo⟩ ?_
                try simp only [Act.put, List.getElem_toArray, List.getElem_cons_zero, List.getElem_cons_succ, List.setIfInBounds_toArray, List.set_cons_zero, List.set_cons_succ]
                refine wpAnyH_ready (rs := [12]) (by kernel_rfl) (by simp) ?_
                refine AllReadyH.cons rfl (fun K hK => ?_) AllReadyH.nil
                rw [if_pos (by rfl)]
                go_simp
                have lZa := (Array.getElem?_eq_some_iff.1 Za).1
                have lZw := (Array.getElem?_eq_some_iff.1 Zw).1
                have lZn := (Array.getElem?_eq_some_iff.1 Zn).1
                have Za := hpA Za (.cells #[.int .u32 0, .int .i64 0, .int .i64 0, .bool false, .int .u32 0, .int .i64 0, .int .i64 0, .int .i64 0, .int .i64 0, .slice none 0 0, .slice none 0 0, .int .i64 0, .int .i64 0, .int .i64 0, .int .u64 0, .bool false] 43)
                have Zw := hpA Zw (.cells #[.int .u32 0, .int .i64 0, .int .i64 0, .bool false, .int .u32 0, .int .i64 0, .int .i64 0, .int .i64 0, .int .i64 0, .slice none 0 0, .slice none 0 0, .int .i64 0, .int .i64 0, .int .i64 0, .int .u64 0, .bool false] 43)
                have Zn := hpA Zn (.cells #[.int .u32 0, .int .i64 0, .int .i64 0, .bool false, .int .u32 0, .int .i64 0, .int .i64 0, .int .i64 0, .int .i64 0, .slice none 0 0, .slice none 0 0, .int .i64 0, .int .i64 0, .int .i64 0, .int .u64 0, .bool false] 43)
                have ee := ee.alloc ee.size (.cells #[.int .u32 0, .int .i64 0, .int .i64 0, .bool false, .int .u32 0, .int .i64 0, .int .i64 0, .int .i64 0, .int .i64 0, .slice none 0 0, .slice none 0 0, .int .i64 0, .int .i64 0, .int .i64 0, .int .u64 0, .bool false] 43)
                have Zm := hpN z11 (.cells #[.int .u32 0, .int .i64 0, .int .i64 0, .bool false, .int .u32 0, .int .i64 0, .int .i64 0, .int .i64 0, .int .i64 0, .slice none 0 0, .slice none 0 0, .int .i64 0, .int .i64 0, .int .i64 0, .int .u64 0, .bool false] 43) rfl
                generalize z11.alloc (.cells #[.int .u32 0, .int .i64 0, .int .i64 0, .bool false, .int .u32 0, .int .i64 0, .int .i64 0, .int .i64 0, .int .i64 0, .slice none 0 0, .slice none 0 0, .int .i64 0, .int .i64 0, .int .i64 0, .int .u64 0, .bool false] 43) = z12 at Za Zw Zn Zm  ee ⊢
                refine hK.out _ _ ⟨rowAt Za, rowAt Zw, rangeB hr ee hbo⟩ (fun hH => ?_)
                clear hK K hH
                try simp only [Act.put, List.getElem_toArray, List.getElem_cons_zero, List.getElem_cons_succ, List.setIfInBounds_toArray, List.set_cons_zero, List.set_cons_succ]
                refine wpAnyH_ready (rs := [13]) (by kernel_rfl) (by simp) ?_
                refine AllReadyH.cons rfl (fun K hK => ?_) AllReadyH.nil
                rw [if_pos (by rfl)]
                refine wp_store_row 39 _ _ rfl (z9.heap.size) ((a.step o).cells).toArray rfl rfl 39 _ Zn sizeAc (by rfl) (Ac.one _) ?_
                have N_ := setRow_heap z12 (z9.heap.size) _ ((a.step o).cells).toArray _ _ Zn
                have ee := belowSet (cs := ((a.step o).cells).toArray) ee Zn (by omega)
                have Za := hpR Za (g' := z9.heap.size) (by omega) ((a.step o).cells).toArray
                have Zw := hpR Zw (g' := z9.heap.size) (by omega) ((a.step o).cells).toArray
                have Zm := hpR Zm (g' := z9.heap.size) (by omega) ((a.step o).cells).toArray
                clear Zn
                have Zn := N_
                clear N_
                generalize z12.setRow (z9.heap.size) ((a.step o).cells).toArray = z13 at Za Zw Zn Zm ee ⊢
                refine hK.out _ _ ⟨rowAt Za, rowAt Zw, rangeB hr ee hbo⟩ (fun hH => ?_)
                clear hK K hH
                try simp only [Act.put, List.getElem_toArray, List.getElem_cons_zero, List.getElem_cons_succ, List.setIfInBounds_toArray, List.set_cons_zero, List.set_cons_succ]
                refine wpAnyH_ready (rs := [14]) (by kernel_rfl) (by simp) ?_
                refine AllReadyH.cons rfl (fun K hK => ?_) AllReadyH.nil
                rw [if_pos (by rfl)]
                refine wp_store_row 43 _ _ rfl (z11.heap.size) ((a.step o).cells).toArray rfl rfl 43 _ Zm sizeRAc (by rfl) (Ac.one _) ?_
                have N_ := setRow_heap z13 (z11.heap.size) _ ((a.step o).cells).toArray _ _ Zm
                have ee := belowSet (cs := ((a.step o).cells).toArray) ee Zm (by omega)
                have Za := hpR Za (g' := z11.heap.size) (by omega) ((a.step o).cells).toArray
                have Zw := hpR Zw (g' := z11.heap.size) (by omega) ((a.step o).cells).toArray
                have Zn := hpR Zn (g' := z11.heap.size) (by omega) ((a.step o).cells).toArray
                clear Zm
                have Zm := N_
                clear N_
                generalize z13.setRow (z11.heap.size) ((a.step o).cells).toArray = z14 at Za Zw Zn Zm ee ⊢
                refine hK.out _ _ ⟨rowAt Za, rowAt Zw, rangeB hr ee hbo⟩ (fun hH => ?_)
                clear hK K hH
                try simp only [Act.put, List.getElem_toArray, List.getElem_cons_zero, List.getElem_cons_succ, List.setIfInBounds_toArray, List.set_cons_zero, List.set_cons_succ]
                refine wpAnyH_take (i := 15) (v := .bool true) rfl (by kernel_rfl) (by kernel_rfl) (by kernel_rfl) (fun _ _ _ h => h) (Or.inl ⟨by rfl, fun w_ hS_ => by (first | (go_simp; done) | (go_simp; rfl))⟩) ⟨rowAt Za, rowAt Zw, rangeB hr ee hbo⟩ ?_
                try simp only [Act.put, List.getElem_toArray, List.getElem_cons_zero, List.getElem_cons_succ, List.setIfInBounds_toArray, List.set_cons_zero, List.set_cons_succ]
                refine wpAnyH_done (by kernel_rfl) ?_ _
                go_wp2_with fail
                go_meet
                exact ⟨_, _, rfl, rfl, rfl, by show _ < _; omega, by show _ < _; omega, Za, Zw, Zn, Zm, ee⟩
              · rw [if_pos (by rfl)]
                go_simp
                have lZa := (Array.getElem?_eq_some_iff.1 Za).1
                have lZw := (Array.getElem?_eq_some_iff.1 Zw).1
                have lZn := (Array.getElem?_eq_some_iff.1 Zn).1
                have Za := hpA Za (.cells #[.int .u32 0, .int .i64 0, .int .i64 0, .bool false, .int .u32 0, .int .i64 0, .int .i64 0, .int .i64 0, .int .i64 0, .slice none 0 0, .slice none 0 0, .int .i64 0, .int .i64 0, .int .i64 0, .int .u64 0, .bool false] 43)
                have Zw := hpA Zw (.cells #[.int .u32 0, .int .i64 0, .int .i64 0, .bool false, .int .u32 0, .int .i64 0, .int .i64 0, .int .i64 0, .int .i64 0, .slice none 0 0, .slice none 0 0, .int .i64 0, .int .i64 0, .int .i64 0, .int .u64 0, .bool false] 43)
                have Zn := hpA Zn (.cells #[.int .u32 0, .int .i64 0, .int .i64 0, .bool false, .int .u32 0, .int .i64 0, .int .i64 0, .int .i64 0, .int .i64 0, .slice none 0 0, .slice none 0 0, .int .i64 0, .int .i64 0, .int .i64 0, .int .u64 0, .bool false] 43)
                have ee := ee.alloc ee.size (.cells #[.int .u32 0, .int .i64 0, .int .i64 0, .bool false, .int .u32 0, .int .i64 0, .int .i64 0, .int .i64 0, .int .i64 0, .slice none 0 0, .slice none 0 0, .int .i64 0, .int .i64 0, .int .i64 0, .int .u64 0, .bool false] 43)
                have Zm := hpN z10 (.cells #[.int .u32 0, .int .i64 0, .int .i64 0, .bool false, .int .u32 0, .int .i64 0, .int .i64 0, .int .i64 0, .int .i64 0, .slice none 0 0, .slice none 0 0, .int .i64 0, .int .i64 0, .int .i64 0, .int .u64 0, .bool false] 43) rfl
                generalize z10.alloc (.cells #[.int .u32 0, .int .i64 0, .int .i64 0, .bool false, .int .u32 0, .int .i64 0, .int .i64 0, .int .i64 0, .int .i64 0, .slice none 0 0, .slice none 0 0, .int .i64 0, .int .i64 0, .int .i64 0, .int .u64 0, .bool false] 43) = z11 at Za Zw Zn Zm  ee ⊢
                refine hK.out _ _ ⟨rowAt Za, rowAt Zw, rangeB hr ee hbo⟩ (fun hH => ?_)
                clear hK K hH
                try simp only [Act.put, List.getElem_toArray, List.getElem_cons_zero, List.getElem_cons_succ, List.setIfInBounds_toArray, List.set_cons_zero, List.set_cons_succ]
                refine wpAnyH_ready (rs := [6]) (by kernel_rfl) (by simp) ?_
                refine AllReadyH.cons rfl (fun K hK => ?_) AllReadyH.nil
                rw [if_pos (by rfl)]
                go_simp
                go_wp2_with (go_at_call 17; refine (HACT.out z11 ee).mono ?_; rintro e z12 ⟨rfl, t⟩)
                have Za := hpB Za t
                have Zw := hpB Zw t
                have Zn := hpB Zn t
                have Zm := hpB Zm t
                have ee := ee.trans (t.mono ee.size)
                clear t
                refine hK.out _ _ ⟨rowAt Za, rowAt Zw, rangeB hr ee hbo⟩ (fun hH => ?_)
                clear hK K hH
                try simp only [Act.put, List.getElem_toArray, List.getElem_cons_zero, List.getElem_cons_succ, List.setIfInBounds_toArray, List.set_cons_zero, List.set_cons_succ]
                refine wpAnyH_take (i := 7) (v := .tuple #[.agg (a.step o).cells.toArray, .agg (a.step o).cells.toArray, .bool true]) rfl (by kernel_rfl) (by kernel_rfl) (by kernel_rfl) (fun _ _ _ h => h) (Or.inl ⟨by rfl, fun w_ hS_ => by (first | (go_simp; done) | (go_simp; rfl))⟩) ⟨rowAt Za, rowAt Zw, rangeB hr ee hbo⟩ ?_
                try simp only [Act.put, List.getElem_toArray, List.getElem_cons_zero, List.getElem_cons_succ, List.setIfInBounds_toArray, List.set_cons_zero, List.set_cons_succ]
                refine wpAnyH_take (i := 8) (v := .agg (a.step o).cells.toArray) rfl (by kernel_rfl) (by kernel_rfl) (by kernel_rfl) (fun _ _ _ h => h) (Or.inl ⟨by rfl, fun w_ hS_ => by (first | (go_simp; done) | (go_simp; rfl))⟩) ⟨rowAt Za, rowAt Zw, rangeB hr ee hbo⟩ ?_
                try simp only [Act.put, List.getElem_toArray, List.getElem_cons_zero, List.getElem_cons_succ, List.setIfInBounds_toArray, List.set_cons_zero, List.set_cons_succ]
                refine wpAnyH_take (i := 9) (v := .agg (a.step o).cells.toArray) rfl (by kernel_rfl) (by kernel_rfl) (by kernel_rfl) (fun _ _ _ h => h) (Or.inl ⟨by rfl, fun w_ hS_ => by (first | (go_simp; done) | (go_simp; rfl))⟩) ⟨rowAt Za, rowAt Zw, rangeB hr ee hbo⟩ ?_
                try simp only [Act.put, List.getElem_toArray, List.getElem_cons_zero, List.getElem_cons_succ, List.setIfInBounds_toArray, List.set_cons_zero, List.set_cons_succ]
                refine wpAnyH_take (i := 10) (v := .bool true) rfl (by kernel_rfl) (by kernel_rfl) (by kernel_rfl) (fun _ _ _ h => h) (Or.inl ⟨by rfl, fun w_ hS_ => by (first | (go_simp; done) | (go_simp; rfl))⟩) ⟨rowAt Za, rowAt Zw, rangeB hr ee hbo⟩ ?_
                try simp only [Act.put, List.getElem_toArray, List.getElem_cons_zero, List.getElem_cons_succ, List.setIfInBounds_toArray, List.set_cons_zero, List.set_cons_succ]
                refine wpAnyH_ready (rs := [13]) (by kernel_rfl) (by simp) ?_
                refine AllReadyH.cons rfl (fun K hK => ?_) AllReadyH.nil
                rw [if_pos (by rfl)]
                refine wp_store_row 39 _ _ rfl (z9.heap.size) ((a.step o).cells).toArray rfl rfl 39 _ Zn sizeAc (by rfl) (Ac.one _) ?_
                have N_ := setRow_heap z12 (z9.heap.size) _ ((a.step o).cells).toArray _ _ Zn
                have ee := belowSet (cs := ((a.step o).cells).toArray) ee Zn (by omega)
                have Za := hpR Za (g' := z9.heap.size) (by omega) ((a.step o).cells).toArray
                have Zw := hpR Zw (g' := z9.heap.size) (by omega) ((a.step o).cells).toArray
                have Zm := hpR Zm (g' := z9.heap.size) (by omega) ((a.step o).cells).toArray
                clear Zn
                have Zn := N_
                clear N_
                generalize z12.setRow (z9.heap.size) ((a.step o).cells).toArray = z13 at Za Zw Zn Zm ee ⊢
                refine hK.out _ _ ⟨rowAt Za, rowAt Zw, rangeB hr ee hbo⟩ (fun hH => ?_)
                clear hK K hH
                try simp only [Act.put, List.getElem_toArray, List.getElem_cons_zero, List.getElem_cons_succ, List.setIfInBounds_toArray, List.set_cons_zero, List.set_cons_succ]
                refine wpAnyH_ready (rs := [14]) (by kernel_rfl) (by simp) ?_
                refine AllReadyH.cons rfl (fun K hK => ?_) AllReadyH.nil
                rw [if_pos (by rfl)]
                refine wp_store_row 43 _ _ rfl (z10.heap.size) ((a.step o).cells).toArray rfl rfl 43 _ Zm sizeRAc (by rfl) (Ac.one _) ?_
                have N_ := setRow_heap z13 (z10.heap.size) _ ((a.step o).cells).toArray _ _ Zm
                have ee := belowSet (cs := ((a.step o).cells).toArray) ee Zm (by omega)
                have Za := hpR Za (g' := z10.heap.size) (by omega) ((a.step o).cells).toArray
                have Zw := hpR Zw (g' := z10.heap.size) (by omega) ((a.step o).cells).toArray
                have Zn := hpR Zn (g' := z10.heap.size) (by omega) ((a.step o).cells).toArray
                clear Zm
                have Zm := N_
                clear N_
                generalize z13.setRow (z10.heap.size) ((a.step o).cells).toArray = z14 at Za Zw Zn Zm ee ⊢
                refine hK.out _ _ ⟨rowAt Za, rowAt Zw, rangeB hr ee hbo⟩ (fun hH => ?_)
                clear hK K hH
                try simp only [Act.put, List.getElem_toArray, List.getElem_cons_zero, List.getElem_cons_succ, List.setIfInBounds_toArray, List.set_cons_zero, List.set_cons_succ]
                refine wpAnyH_take (i := 15) (v := .bool true) rfl (by kernel_rfl) (by kernel_rfl) (by kernel_rfl) (fun _ _ _ h => h) (Or.inl ⟨by rfl, fun w_ hS_ => by (first | (go_simp; done) | (go_simp; rfl))⟩) ⟨rowAt Za, rowAt Zw, rangeB hr ee hbo⟩ ?_
                try simp only [Act.put, List.getElem_toArray, List.getElem_cons_zero, List.getElem_cons_succ, List.setIfInBounds_toArray, List.set_cons_zero, List.set_cons_succ]
                refine wpAnyH_done (by kernel_rfl) ?_ _
                go_wp2_with fail
                go_meet
                exact ⟨_, _, rfl, rfl, rfl, by show _ < _; omega, by show _ < _; omega, Za, Zw, Zn, Zm, ee⟩
            · rw [if_pos (by rfl)]
              go_simp
              have lZa := (Array.getElem?_eq_some_iff.1 Za).1
              have lZw := (Array.getElem?_eq_some_iff.1 Zw).1
              have Za := hpA Za (.cells #[.int .u32 0, .int .i64 0, .int .i64 0, .bool false, .int .u32 0, .int .i64 0, .int .i64 0, .int .i64 0, .int .i64 0, .slice none 0 0, .slice none 0 0, .int .i64 0, .int .i64 0, .int .i64 0, .int .u64 0, .bool false] 43)
              have Zw := hpA Zw (.cells #[.int .u32 0, .int .i64 0, .int .i64 0, .bool false, .int .u32 0, .int .i64 0, .int .i64 0, .int .i64 0, .int .i64 0, .slice none 0 0, .slice none 0 0, .int .i64 0, .int .i64 0, .int .i64 0, .int .u64 0, .bool false] 43)
              have ee := ee.alloc ee.size (.cells #[.int .u32 0, .int .i64 0, .int .i64 0, .bool false, .int .u32 0, .int .i64 0, .int .i64 0, .int .i64 0, .int .i64 0, .slice none 0 0, .slice none 0 0, .int .i64 0, .int .i64 0, .int .i64 0, .int .u64 0, .bool false] 43)
              have Zm := hpN z9 (.cells #[.int .u32 0, .int .i64 0, .int .i64 0, .bool false, .int .u32 0, .int .i64 0, .int .i64 0, .int .i64 0, .int .i64 0, .slice none 0 0, .slice none 0 0, .int .i64 0, .int .i64 0, .int .i64 0, .int .u64 0, .bool false] 43) rfl
              generalize z9.alloc (.cells #[.int .u32 0, .int .i64 0, .int .i64 0, .bool false, .int .u32 0, .int .i64 0, .int .i64 0, .int .i64 0, .int .i64 0, .slice none 0 0, .slice none 0 0, .int .i64 0, .int .i64 0, .int .i64 0, .int .u64 0, .bool false] 43) = z10 at Za Zw Zm  ee ⊢
              refine hK.out _ _ ⟨rowAt Za, rowAt Zw, rangeB hr ee hbo⟩ (fun hH => ?_)
              clear hK K hH
              try simp only [Act.put, List.getElem_toArray, List.getElem_cons_zero, List.getElem_cons_succ, List.setIfInBounds_toArray, List.set_cons_zero, List.set_cons_succ]
              refine wpAnyH_ready (rs := [6, 11]) (by kernel_rfl) (by simp) ?_
              refine AllReadyH.cons rfl (fun K hK => ?_) (AllReadyH.cons rfl (fun K hK => ?_) AllReadyH.nil)
              · rw [if_pos (by rfl)]
                go_simp
                go_wp2_with (go_at_call 17; refine (HACT.out z10 ee).mono ?_; rintro e z11 ⟨rfl, t⟩)
                have Za := hpB Za t
                have Zw := hpB Zw t
                have Zm := hpB Zm t
                have ee := ee.trans (t.mono ee.size)
                clear t
                refine hK.out _ _ ⟨rowAt Za, rowAt Zw, rangeB hr ee hbo⟩ (fun hH => ?_)
                clear hK K hH
                try simp only [Act.put, List.getElem_toArray, List.getElem_cons_zero, List.getElem_cons_succ, List.setIfInBounds_toArray, List.set_cons_zero, List.set_cons_succ]
                refine wpAnyH_take (i := 7) (v := .tuple #[.agg (a.step o).cells.toArray, .agg (a.step o).cells.toArray, .bool true]) rfl (by kernel_rfl) (by kernel_rfl) (by kernel_rfl) (fun _ _ _ h => h) (Or.inl ⟨by rfl, fun w_ hS_ => by (first | (go_simp; done) | (go_simp; rfl))⟩) ⟨rowAt Za, rowAt Zw, rangeB hr ee hbo⟩ ?_
                try simp only [Act.put, List.getElem_toArray, List.getElem_cons_zero, List.getElem_cons_succ, List.setIfInBounds_toArray, List.set_cons_zero, List.set_cons_succ]
                refine wpAnyH_take (i := 8) (v := .agg (a.step o).cells.toArray) rfl (by kernel_rfl) (by kernel_rfl) (by kernel_rfl) (fun _ _ _ h => h) (Or.inl ⟨by rfl, fun w_ hS_ => by (first | (go_simp; done) | (go_simp; rfl))⟩) ⟨rowAt Za, rowAt Zw, rangeB hr ee hbo⟩ ?_
                try simp only [Act.put, List.getElem_toArray, List.getElem_cons_zero, List.getElem_cons_succ, List.setIfInBounds_toArray, List.set_cons_zero, List.set_cons_succ]
                refine wpAnyH_take (i := 9) (v := .agg (a.step o).cells.toArray) rfl (by kernel_rfl) (by kernel_rfl) (by kernel_rfl) (fun _ _ _ h => h) (Or.inl ⟨by rfl, fun w_ hS_ => by (first | (go_simp; done) | (go_simp; rfl))⟩) ⟨rowAt Za, rowAt Zw, rangeB hr ee hbo⟩ ?_
                try simp only [Act.put, List.getElem_toArray, List.getElem_cons_zero, List.getElem_cons_succ, List.setIfInBounds_toArray, List.set_cons_zero, List.set_cons_succ]
                refine wpAnyH_take (i := 10) (v := .bool true) rfl (by kernel_rfl) (by kernel_rfl) (by kernel_rfl) (fun _ _ _ h => h) (Or.inl ⟨by rfl, fun w_ hS_ => by (first | (go_simp; done) | (go_simp; rfl))⟩) ⟨rowAt Za, rowAt Zw, rangeB hr ee hbo⟩ ?_
                try simp only [Act.put, List.getElem_toArray, List.getElem_cons_zero, List.getElem_cons_succ, List.setIfInBounds_toArray, List.set_cons_zero, List.set_cons_succ]
                refine wpAnyH_ready (rs := [11]) (by kernel_rfl) (by simp) ?_
                refine AllReadyH.cons rfl (fun K hK => ?_) AllReadyH.nil
                rw [if_pos (by rfl)]
                go_simp
                have lZa := (Array.getElem?_eq_some_iff.1 Za).1
                have lZw := (Array.getElem?_eq_some_iff.1 Zw).1
                have lZm := (Array.getElem?_eq_some_iff.1 Zm).1
                have Za := hpA Za (.cells #[.int .u32 0, .int .i64 0, .int .i64 0, .bool false, .int .u32 0, .int .i64 0, .int .i64 0, .int .i64 0, .int .i64 0, .slice none 0 0, .slice none 0 0, .int .i64 0, .int .i64 0, .int .i64 0, .int .u64 0, .bool false] 39)
                have Zw := hpA Zw (.cells #[.int .u32 0, .int .i64 0, .int .i64 0, .bool false, .int .u32 0, .int .i64 0, .int .i64 0, .int .i64 0, .int .i64 0, .slice none 0 0, .slice none 0 0, .int .i64 0, .int .i64 0, .int .i64 0, .int .u64 0, .bool false] 39)
                have Zm := hpA Zm (.cells #[.int .u32 0, .int .i64 0, .int .i64 0, .bool false, .int .u32 0, .int .i64 0, .int .i64 0, .int .i64 0, .int .i64 0, .slice none 0 0, .slice none 0 0, .int .i64 0, .int .i64 0, .int .i64 0, .int .u64 0, .bool false] 39)
                have ee := ee.alloc ee.size (.cells #[.int .u32 0, .int .i64 0, .int .i64 0, .bool false, .int .u32 0, .int .i64 0, .int .i64 0, .int .i64 0, .int .i64 0, .slice none 0 0, .slice none 0 0, .int .i64 0, .int .i64 0, .int .i64 0, .int .u64 0, .bool false] 39)
                have Zn := hpN z11 (.cells #[.int .u32 0, .int .i64 0, .int .i64 0, .bool false, .int .u32 0, .int .i64 0, .int .i64 0, .int .i64 0, .int .i64 0, .slice none 0 0, .slice none 0 0, .int .i64 0, .int .i64 0, .int .i64 0, .int .u64 0, .bool false] 39) rfl
                generalize z11.alloc (.cells #[.int .u32 0, .int .i64 0, .int .i64 0, .bool false, .int .u32 0, .int .i64 0, .int .i64 0, .int .i64 0, .int .i64 0, .slice none 0 0, .slice none 0 0, .int .i64 0, .int .i64 0, .int .i64 0, .int .u64 0, .bool false] 39) = z12 at Za Zw Zm Zn  ee ⊢
                refine hK.out _ _ ⟨rowAt Za, rowAt Zw, rangeB hr ee hbo⟩ (fun hH => ?_)
                clear hK K hH
                try simp only [Act.put, List.getElem_toArray, List.getElem_cons_zero, List.getElem_cons_succ, List.setIfInBounds_toArray, List.set_cons_zero, List.set_cons_succ]
                refine wpAnyH_ready (rs := [13]) (by kernel_rfl) (by simp) ?_
                refine AllReadyH.cons rfl (fun K hK => ?_) AllReadyH.nil
                rw [if_pos (by rfl)]
                refine wp_store_row 39 _ _ rfl (z11.heap.size) ((a.step o).cells).toArray rfl rfl 39 _ Zn sizeAc (by rfl) (Ac.one _) ?_
                have N_ := setRow_heap z12 (z11.heap.size) _ ((a.step o).cells).toArray _ _ Zn
                have ee := belowSet (cs := ((a.step o).cells).toArray) ee Zn (by omega)
                have Za := hpR Za (g' := z11.heap.size) (by omega) ((a.step o).cells).toArray
                have Zw := hpR Zw (g' := z11.heap.size) (by omega) ((a.step o).cells).toArray
                have Zm := hpR Zm (g' := z11.heap.size) (by omega) ((a.step o).cells).toArray
                clear Zn
                have Zn := N_
                clear N_
                generalize z12.setRow (z11.heap.size) ((a.step o).cells).toArray = z13 at Za Zw Zm Zn ee ⊢
                refine hK.out _ _ ⟨rowAt Za, rowAt Zw, rangeB hr ee hbo⟩ (fun hH => ?_)
                clear hK K hH
                try simp only [Act.put, List.getElem_toArray, List.getElem_cons_zero, List.getElem_cons_succ, List.setIfInBounds_toArray, List.set_cons_zero, List.set_cons_succ]
                refine wpAnyH_ready (rs := [14]) (by kernel_rfl) (by simp) ?_
                refine AllReadyH.cons rfl (fun K hK => ?_) AllReadyH.nil
                rw [if_pos (by rfl)]
                refine wp_store_row 43 _ _ rfl (z9.heap.size) ((a.step o).cells).toArray rfl rfl 43 _ Zm sizeRAc (by rfl) (Ac.one _) ?_
                have N_ := setRow_heap z13 (z9.heap.size) _ ((a.step o).cells).toArray _ _ Zm
                have ee := belowSet (cs := ((a.step o).cells).toArray) ee Zm (by omega)
                have Za := hpR Za (g' := z9.heap.size) (by omega) ((a.step o).cells).toArray
                have Zw := hpR Zw (g' := z9.heap.size) (by omega) ((a.step o).cells).toArray
                have Zn := hpR Zn (g' := z9.heap.size) (by omega) ((a.step o).cells).toArray
                clear Zm
                have Zm := N_
                clear N_
                generalize z13.setRow (z9.heap.size) ((a.step o).cells).toArray = z14 at Za Zw Zm Zn ee ⊢
                refine hK.out _ _ ⟨rowAt Za, rowAt Zw, rangeB hr ee hbo⟩ (fun hH => ?_)
                clear hK K hH
                try simp only [Act.put, List.getElem_toArray, List.getElem_cons_zero, List.getElem_cons_succ, List.setIfInBounds_toArray, List.set_cons_zero, List.set_cons_succ]
                refine wpAnyH_take (i := 15) (v := .bool true) rfl (by kernel_rfl) (by kernel_rfl) (by kernel_rfl) (fun _ _ _ h => h) (Or.inl ⟨by rfl, fun w_ hS_ => by (first | (go_simp; done) | (go_simp; rfl))⟩) ⟨rowAt Za, rowAt Zw, rangeB hr ee hbo⟩ ?_
                try simp only [Act.put, List.getElem_toArray, List.getElem_cons_zero, List.getElem_cons_succ, List.setIfInBounds_toArray, List.set_cons_zero, List.set_cons_succ]
                refine wpAnyH_done (by kernel_rfl) ?_ _
                go_wp2_with fail
                go_meet
                exact ⟨_, _, rfl, rfl, rfl, by show _ < _; omega, by show _ < _; omega, Za, Zw, Zn, Zm, ee⟩
              · rw [if_pos (by rfl)]
                go_simp
                have lZa := (Array.getElem?_eq_some_iff.1 Za).1
                have lZw := (Array.getElem?_eq_some_iff.1 Zw).1
                have lZm := (Array.getElem?_eq_some_iff.1 Zm).1
                have Za := hpA Za (.cells #[.int .u32 0, .int .i64 0, .int .i64 0, .bool false, .int .u32 0, .int .i64 0, .int .i64 0, .int .i64 0, .int .i64 0, .slice none 0 0, .slice none 0 0, .int .i64 0, .int .i64 0, .int .i64 0, .int .u64 0, .bool false] 39)
                have Zw := hpA Zw (.cells #[.int .u32 0, .int .i64 0, .int .i64 0, .bool false, .int .u32 0, .int .i64 0, .int .i64 0, .int .i64 0, .int .i64 0, .slice none 0 0, .slice none 0 0, .int .i64 0, .int .i64 0, .int .i64 0, .int .u64 0, .bool false] 39)
                have Zm := hpA Zm (.cells #[.int .u32 0, .int .i64 0, .int .i64 0, .bool false, .int .u32 0, .int .i64 0, .int .i64 0, .int .i64 0, .int .i64 0, .slice none 0 0, .slice none 0 0, .int .i64 0, .int .i64 0, .int .i64 0, .int .u64 0, .bool false] 39)
                have ee := ee.alloc ee.size (.cells #[.int .u32 0, .int .i64 0, .int .i64 0, .bool false, .int .u32 0, .int .i64 0, .int .i64 0, .int .i64 0, .int .i64 0, .slice none 0 0, .slice none 0 0, .int .i64 0, .int .i64 0, .int .i64 0, .int .u64 0, .bool false] 39)
                have Zn := hpN z10 (.cells #[.int .u32 0, .int .i64 0, .int .i64 0, .bool false, .int .u32 0, .int .i64 0, .int .i64 0, .int .i64 0, .int .i64 0, .slice none 0 0, .slice none 0 0, .int .i64 0, .int .i64 0, .int .i64 0, .int .u64 0, .bool false] 39) rfl
                generalize z10.alloc (.cells #[.int .u32 0, .int .i64 0, .int .i64 0, .bool false, .int .u32 0, .int .i64 0, .int .i64 0, .int .i64 0, .int .i64 0, .slice none 0 0, .slice none 0 0, .int .i64 0, .int .i64 0, .int .i64 0, .int .u64 0, .bool false] 39) = z11 at Za Zw Zm Zn  ee ⊢
                refine hK.out _ _ ⟨rowAt Za, rowAt Zw, rangeB hr ee hbo⟩ (fun hH => ?_)
                clear hK K hH
                try simp only [Act.put, List.getElem_toArray, List.getElem_cons_zero, List.getElem_cons_succ, List.setIfInBounds_toArray, List.set_cons_zero, List.set_cons_succ]
                refine wpAnyH_ready (rs := [6]) (by kernel_rfl) (by simp) ?_
                refine AllReadyH.cons rfl (fun K hK => ?_) AllReadyH.nil
                rw [if_pos (by rfl)]
                go_simp
                go_wp2_with (go_at_call 17; refine (HACT.out z11 ee).mono ?_; rintro e z12 ⟨rfl, t⟩)
                have Za := hpB Za t
                have Zw := hpB Zw t
                have Zm := hpB Zm t
                have Zn := hpB Zn t
                have ee := ee.trans (t.mono ee.size)
                clear t
                refine hK.out _ _ ⟨rowAt Za, rowAt Zw, rangeB hr ee hbo⟩ (fun hH => ?_)
                clear hK K hH
                try simp only [Act.put, List.getElem_toArray, List.getElem_cons_zero, List.getElem_cons_succ, List.setIfInBounds_toArray, List.set_cons_zero, List.set_cons_succ]
                refine wpAnyH_take (i := 7) (v := .tuple #[.agg (a.step o).cells.toArray, .agg (a.step o).cells.toArray, .bool true]) rfl (by kernel_rfl) (by kernel_rfl) (by kernel_rfl) (fun _ _ _ h => h) (Or.inl ⟨by rfl, fun w_ hS_ => by (first | (go_simp; done) | (go_simp; rfl))⟩) ⟨rowAt Za, rowAt Zw, rangeB hr ee hbo⟩ ?_
                try simp only [Act.put, List.getElem_toArray, List.getElem_cons_zero, List.getElem_cons_succ, List.setIfInBounds_toArray, List.set_cons_zero, List.set_cons_succ]
                refine wpAnyH_take (i := 8) (v := .agg (a.step o).cells.toArray) rfl (by kernel_rfl) (by kernel_rfl) (by kernel_rfl) (fun _ _ _ h => h) (Or.inl ⟨by rfl, fun w_ hS_ => by (first | (go_simp; done) | (go_simp; rfl))⟩) ⟨rowAt Za, rowAt Zw, rangeB hr ee hbo⟩ ?_
                try simp only [Act.put, List.getElem_toArray, List.getElem_cons_zero, List.getElem_cons_succ, List.setIfInBounds_toArray, List.set_cons_zero, List.set_cons_succ]
                refine wpAnyH_take (i := 9) (v := .agg (a.step o).cells.toArray) rfl (by kernel_rfl) (by kernel_rfl) (by kernel_rfl) (fun _ _ _ h => h) (Or.inl ⟨by rfl, fun w_ hS_ => by (first | (go_simp; done) | (go_simp; rfl))⟩) ⟨rowAt Za, rowAt Zw, rangeB hr ee hbo⟩ ?_
                try simp only [Act.put, List.getElem_toArray, List.getElem_cons_zero, List.getElem_cons_succ, List.setIfInBounds_toArray, List.set_cons_zero, List.set_cons_succ]
                refine wpAnyH_take (i := 10) (v := .bool true) rfl (by kernel_rfl) (by kernel_rfl) (by kernel_rfl) (fun _ _ _ h => h) (Or.inl ⟨by rfl, fun w_ hS_ => by (first | (go_simp; done) | (go_simp; rfl))⟩) ⟨rowAt Za, rowAt Zw, rangeB hr ee hbo⟩ ?_
                try simp only [Act.put, List.getElem_toArray, List.getElem_cons_zero, List.getElem_cons_succ, List.setIfInBounds_toArray, List.set_cons_zero, List.set_cons_succ]
                refine wpAnyH_ready (rs := [13]) (by kernel_rfl) (by simp) ?_
                refine AllReadyH.cons rfl (fun K hK => ?_) AllReadyH.nil
                rw [if_pos (by rfl)]
                refine wp_store_row 39 _ _ rfl (z10.heap.size) ((a.step o).cells).toArray rfl rfl 39 _ Zn sizeAc (by rfl) (Ac.one _) ?_
                have N_ := setRow_heap z12 (z10.heap.size) _ ((a.step o).cells).toArray _ _ Zn
                have ee := belowSet (cs := ((a.step o).cells).toArray) ee Zn (by omega)
                have Za := hpR Za (g' := z10.heap.size) (by omega) ((a.step o).cells).toArray
                have Zw := hpR Zw (g' := z10.heap.size) (by omega) ((a.step o).cells).toArray
                have Zm := hpR Zm (g' := z10.heap.size) (by omega) ((a.step o).cells).toArray
                clear Zn
                have Zn := N_
                clear N_
                generalize z12.setRow (z10.heap.size) ((a.step o).cells).toArray = z13 at Za Zw Zm Zn ee ⊢
                refine hK.out _ _ ⟨rowAt Za, rowAt Zw, rangeB hr ee hbo⟩ (fun hH => ?_)
                clear hK K hH
                try simp only [Act.put, List.getElem_toArray, List.getElem_cons_zero, List.getElem_cons_succ, List.setIfInBounds_toArray, List.set_cons_zero, List.set_cons_succ]
                refine wpAnyH_ready (rs := [14]) (by kernel_rfl) (by simp) ?_
                refine AllReadyH.cons rfl (fun K hK => ?_) AllReadyH.nil
                rw [if_pos (by rfl)]
                refine wp_store_row 43 _ _ rfl (z9.heap.size) ((a.step o).cells).toArray rfl rfl 43 _ Zm sizeRAc (by rfl) (Ac.one _) ?_
                have N_ := setRow_heap z13 (z9.heap.size) _ ((a.step o).cells).toArray _ _ Zm
                have ee := belowSet (cs := ((a.step o).cells).toArray) ee Zm (by omega)
                have Za := hpR Za (g' := z9.heap.size) (by omega) ((a.step o).cells).toArray
                have Zw := hpR Zw (g' := z9.heap.size) (by omega) ((a.step o).cells).toArray
                have Zn := hpR Zn (g' := z9.heap.size) (by omega) ((a.step o).cells).toArray
                clear Zm
                have Zm := N_
                clear N_
                generalize z13.setRow (z9.heap.size) ((a.step o).cells).toArray = z14 at Za Zw Zm Zn ee ⊢
                refine hK.out _ _ ⟨rowAt Za, rowAt Zw, rangeB hr ee hbo⟩ (fun hH => ?_)
                clear hK K hH
                try simp only [Act.put, List.getElem_toArray, List.getElem_cons_zero, List.getElem_cons_succ, List.setIfInBounds_toArray, List.set_cons_zero, List.set_cons_succ]
                refine wpAnyH_take (i := 15) (v := .bool true) rfl (by kernel_rfl) (by kernel_rfl) (by kernel_rfl) (fun _ _ _ h => h) (Or.inl ⟨by rfl, fun w_ hS_ => by (first | (go_simp; done) | (go_simp; rfl))⟩) ⟨rowAt Za, rowAt Zw, rangeB hr ee hbo⟩ ?_
                try simp only [Act.put, List.getElem_toArray, List.getElem_cons_zero, List.getElem_cons_succ, List.setIfInBounds_toArray, List.set_cons_zero, List.set_cons_succ]
                refine wpAnyH_done (by kernel_rfl) ?_ _
                go_wp2_with fail
                go_meet
                exact ⟨_, _, rfl, rfl, rfl, by show _ < _; omega, by show _ < _; omega, Za, Zw, Zn, Zm, ee⟩
          case rest =>
            obtain ⟨g1, g2, rfl, rfl, rfl, hg1, hg2, Za, Zw, Zn, Zm, ee⟩ := hcut
            have nm : ∀ z : World, Below w.heap.size w z → ∃ z', z' = z := fun z _ => ⟨z, rfl⟩
            obtain ⟨y0, hy0⟩ := nm _ ee.out
            subst hy0
            clear nm HACT
            have hg1 := hg1.out
            have hg2 := hg2.out
            have Za := Za.out
            have Zw := Zw.out
            have Zn := Zn.out
            have Zm := Zm.out
            have ee := ee.out
            go_upto_region 11 with fail
            have HF2 := Lib.hid (Ac.step_formed HF.out o)
            have HKE := Lib.hid (Ac.step_keeps a o)
            have HCF : Hid (∀ z, Below w.heap.size w z → Calls Tryd.prog 19 #[.agg (a.step o).cells.toArray] z fun e w' => e = .returned (.bool true) ∧ Below z.heap.size z w') := fun z hz => by
              have := c_formed (a.step o) z w.heap.size hz.size (HC2.out.below hz (Nat.le_refl _)) (HT.out.below hz)
              rw [HF2.out] at this
              exact this
            have HV := Lib.hid (fun h => Ac.formed_vote HF2.out h)
            generalize hb : a.step o = b at *
            clear hb
            have HL1 : Hid (∀ z, Calls Tryd.prog 22 #[.agg #[.int .u32 (b.pr : Int), .int .i64 b.pn], .agg #[.int .u32 (a.pr : Int), .int .i64 a.pn]] z fun e w' => e = .returned (.bool false) ∧ Below z.heap.size z w') := fun z => by
              have := bless_any b.pr b.pn a.pr a.pn z
              rw [HKE.out.1] at this
              exact this
            have f1 : decide (b.sl < a.sl) = false := decide_eq_false (Int.not_lt.mpr HKE.out.2)
            have n0 := rowCell Zn 0 (v := .int .u32 (b.pr : Int)) rfl
            have n1 := rowCell Zn 1 (v := .int .i64 b.pn) rfl
            have a0 := rowCell Za 0 (v := .int .u32 (a.pr : Int)) rfl
            have a1 := rowCell Za 1 (v := .int .i64 a.pn) rfl
            go_wp2_with fail
            refine (HL1.out y0).mono ?_
            rintro e z49 ⟨rfl, t⟩
            have Za := hpB Za t
            have Zw := hpB Zw t
            have Zn := hpB Zn t
            have Zm := hpB Zm t
            have ee := ee.trans (t.mono ee.size)
            clear t
            clear n0 n1 a0 a1
            have n2 := rowCell Zn 2 (v := .int .i64 b.sl) rfl
            have a2 := rowCell Za 2 (v := .int .i64 a.sl) rfl
            dsimp only
            rename_i hK
            refine hK _ _ ?_
            clear hK
            iterate 40 (first | with_reducible refine isLoad (ty := 39) rfl ?_ | go_step)
            refine wpList_load_g (by rfl) 39 _ rfl (g1) 0 rfl (b.cells) _ (rowAt Zn) Tryd.underlying39 rfl sizeAc ?_
            go_wp2_with fail
            refine (HCF.out z49 ee).mono ?_
            rintro e z50 ⟨rfl, t⟩
            have Za := hpB Za t
            have Zw := hpB Zw t
            have Zn := hpB Zn t
            have Zm := hpB Zm t
            have ee := ee.trans (t.mono ee.size)
            clear t
            clear n2 a2
            cases hh : b.ha with
            | false =>
              have n3 := rowCell Zn 3 (v := .bool false) (by rw [← hh]; rfl)
              clear hh
              go_upto_region 13 with fail
              refine wp_region_lit ?_
              iterate 27 (first | with_reducible refine isLoad (ty := 39) rfl ?_ | go_step)
              refine wpList_load_mid rfl 39 _ rfl (g1) 0 rfl (b.cells) _ (rowAt Zn) Tryd.underlying39 rfl sizeAc ?_
              clear Zn
              iterate 27 (first | with_reducible refine isStore (ty := 39) rfl ?_ | go_step)
              refine wpList_store_row rfl 39 _ _ rfl (ga) (b.cells).toArray rfl rfl 39 _ Za sizeAc (by rfl) (Ac.one _) ?_
              have N_ := setRow_heap z50 (ga) _ (b.cells).toArray _ _ Za
              have ee := belowSet (cs := (b.cells).toArray) ee Za (by omega)
              have Zw := hpR Zw (g' := ga) (by omega) (b.cells).toArray
              have Zm := hpR Zm (g' := ga) (by omega) (b.cells).toArray
              clear Za
              have Za := N_
              clear N_
              generalize z50.setRow (ga) (b.cells).toArray = z51 at Za Zw Zm ee ⊢
              go_upto_region 14 with fail
              refine wp_region_lit ?_
              iterate 27 (first | with_reducible refine isLoad (ty := 43) rfl ?_ | go_step)
              refine wpList_load_mid rfl 43 _ rfl (g2) 0 rfl (b.cells) _ (rowAt Zm) Tryd.underlying43 rfl sizeRAc ?_
              clear Zm
              iterate 27 (first | with_reducible refine isStore (ty := 43) rfl ?_ | go_step)
              refine wpList_store_row rfl 43 _ _ rfl (gb) (b.cells).toArray rfl rfl 43 _ Zw sizeRAc (by rfl) (Ac.one _) ?_
              have N_ := setRow_heap z51 (gb) _ (b.cells).toArray _ _ Zw
              have ee := belowSet (cs := (b.cells).toArray) ee Zw (by omega)
              have Za := hpR Za (g' := gb) (by omega) (b.cells).toArray
              clear Zw
              have Zw := N_
              clear N_
              generalize z51.setRow (gb) (b.cells).toArray = z52 at Za Zw ee ⊢
              go_wp2_with fail
              go_roundw
              case rel => exact ⟨k + 1, b, by omega, by go_num, Za, Zw, HC2, HF2, ee⟩
              case measure => simp [intOf]; omega
            | true =>
              have n3 := rowCell Zn 3 (v := .bool true) (by rw [← hh]; rfl)
              have HL2 : Hid (∀ z, Calls Tryd.prog 22 #[.agg #[.int .u32 (b.pr : Int), .int .i64 b.pn], .agg #[.int .u32 (b.vr : Int), .int .i64 b.vn]] z fun e w' => e = .returned (.bool false) ∧ Below z.heap.size z w') := fun z => by
                have := bless_any b.pr b.pn b.vr b.vn z
                rw [HV.out hh] at this
                exact this
              clear hh
              have n0 := rowCell Zn 0 (v := .int .u32 (b.pr : Int)) rfl
              have n1 := rowCell Zn 1 (v := .int .i64 b.pn) rfl
              have n4 := rowCell Zn 4 (v := .int .u32 (b.vr : Int)) rfl
              have n5 := rowCell Zn 5 (v := .int .i64 b.vn) rfl
              go_wp2_with fail
              refine (HL2.out z50).mono ?_
              rintro e z51 ⟨rfl, t⟩
              have Za := hpB Za t
              have Zw := hpB Zw t
              have Zn := hpB Zn t
              have Zm := hpB Zm t
              have ee := ee.trans (t.mono ee.size)
              clear t
              clear n0 n1 n3 n4 n5
              go_upto_region 13 with fail
              refine wp_region_lit ?_
              iterate 27 (first | with_reducible refine isLoad (ty := 39) rfl ?_ | go_step)
              refine wpList_load_mid rfl 39 _ rfl (g1) 0 rfl (b.cells) _ (rowAt Zn) Tryd.underlying39 rfl sizeAc ?_
              clear Zn
              iterate 27 (first | with_reducible refine isStore (ty := 39) rfl ?_ | go_step)
              refine wpList_store_row rfl 39 _ _ rfl (ga) (b.cells).toArray rfl rfl 39 _ Za sizeAc (by rfl) (Ac.one _) ?_
              have N_ := setRow_heap z51 (ga) _ (b.cells).toArray _ _ Za
              have ee := belowSet (cs := (b.cells).toArray) ee Za (by omega)
              have Zw := hpR Zw (g' := ga) (by omega) (b.cells).toArray
              have Zm := hpR Zm (g' := ga) (by omega) (b.cells).toArray
              clear Za
              have Za := N_
              clear N_
              generalize z51.setRow (ga) (b.cells).toArray = z52 at Za Zw Zm ee ⊢
              go_upto_region 14 with fail
              refine wp_region_lit ?_
              iterate 27 (first | with_reducible refine isLoad (ty := 43) rfl ?_ | go_step)
              refine wpList_load_mid rfl 43 _ rfl (g2) 0 rfl (b.cells) _ (rowAt Zm) Tryd.underlying43 rfl sizeRAc ?_
              clear Zm
              iterate 27 (first | with_reducible refine isStore (ty := 43) rfl ?_ | go_step)
              refine wpList_store_row rfl 43 _ _ rfl (gb) (b.cells).toArray rfl rfl 43 _ Zw sizeRAc (by rfl) (Ac.one _) ?_
              have N_ := setRow_heap z52 (gb) _ (b.cells).toArray _ _ Zw
              have ee := belowSet (cs := (b.cells).toArray) ee Zw (by omega)
              have Za := hpR Za (g' := gb) (by omega) (b.cells).toArray
              clear Zw
              have Zw := N_
              clear N_
              generalize z52.setRow (gb) (b.cells).toArray = z53 at Za Zw ee ⊢
              go_wp2_with fail
              go_roundw
              case rel => exact ⟨k + 1, b, by omega, by go_num, Za, Zw, HC2, HF2, ee⟩
              case measure => simp [intOf]; omega
      · obtain rfl : k = n := by omega
        go_wp2_with fail
        go_ret
        exact ⟨rfl, ee⟩

theorem acceptKeeps_walk (W : World) (hT : Tabs W) (v0 : Value) (h0 : Arg W 51 v0) :
    Calls Tryd.prog 5 #[v0] W fun e W' => e = .returned (.bool true) ∧ Below W.heap.size W W' := by
  obtain ⟨A, c, ls, rfl, h2, h3, h4, h5⟩ := h0.aops
  exact keeps_mid A c ls W h2 h3 h4 h5 hT
end Go.Proofs.YtkfnepmiigkdfaaDoor
