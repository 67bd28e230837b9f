/- The walk of AcceptAgain. Conditions: the script lies below; the tables lie. (Printed by gen_accp.py.) -/
import Derived.Test.YtkfnepmiigkdfaaDoorAccArg
namespace Go.Proofs.YtkfnepmiigkdfaaDoor
set_option maxRecDepth 20000
open Go.RowKit T
set_option linter.unusedSimpArgs false
set_option linter.unusedVariables false

set_option maxHeartbeats 6400000 in
theorem again_mid (A : Option Addr) (c : Nat) (ls : List AOp) (oo : AOp) (w : World) (hc : ls.length ≤ c) (hm : c ≤ maxLen) (hR : RowsAt w w.heap.size A 14 (ls.map AOp.cells)) (hL : ∀ o ∈ ls, CmOk w w.heap.size o.x) (hT : Tabs w) (hO : CmOk w w.heap.size oo.x) :
    Calls Tryd.prog 6 #[.slice A ls.length c, .agg oo.cells.toArray] w fun e w' => e = .returned (.bool true) ∧ Below w.heap.size w w' := by
  have HO := Lib.hid hO
  clear hO
  obtain ⟨n, hn⟩ : ∃ n, n = ls.length := ⟨_, rfl⟩
  have HN := Lib.hid hn
  have HT := Lib.hid hT
  have HR := Lib.hid hR
  have HL := Lib.hid hL
  rw [← hn] at hc ⊢
  clear hn hT hR hL
  unfold maxLen at hm
  obtain ⟨w0, hw0⟩ : ∃ w0, w0 = w.alloc (.cells oo.cells.toArray 53) := ⟨_, rfl⟩
  have ee : Below w.heap.size w w0 := by rw [hw0]; exact (Below.refl _ _).alloc (Nat.le_refl _) _
  have Zo : w0.heap[w.heap.size]? = some (.cells oo.cells.toArray 53) := by rw [hw0]; exact hpN _ _ rfl
  go_enter Tryd.func6, Tryd.ntmps6
  go_upto_region 1 with fail
  rw [← hw0]
  clear hw0
  by_cases hl : 60 < n
  · go_wp2_with fail
    refine (a18_awake w0 (HT.out.below ee)).mono ?_
    rintro e z1 ⟨rfl, t⟩
    have Zo := hpB Zo t
    have ee := ee.trans (t.mono ee.size)
    clear t
    go_wp2_with fail
    refine (a18_awake z1 (HT.out.below ee)).mono ?_
    rintro e z2 ⟨rfl, t⟩
    have Zo := hpB Zo t
    have ee := ee.trans (t.mono ee.size)
    clear t
    go_wp2_with fail
    go_ret
    exact ⟨rfl, ee⟩
  · go_wp2_with fail
    refine (a18_awake w0 (HT.out.below ee)).mono ?_
    rintro e z1 ⟨rfl, t⟩
    have Zo := hpB Zo t
    have ee := ee.trans (t.mono ee.size)
    clear t
    dsimp only
    rename_i hK
    refine hK _ _ ?_
    clear hK
    have hle : ¬ 60 < n := hl
    clear hl
    have hl : decide (60 < (n : Int)) = false := by simp; omega
    iterate 27 (first | with_reducible refine isLoad (ty := 37) rfl ?_ | go_step)
    refine wpList_load_g (by rfl) 37 _ rfl (w.heap.size) 4 rfl (oo.x.cells) _ (rowMid Zo 4 (AOp.part oo)) Tryd.underlying37 rfl sizeCm ?_
    go_wp2_with fail
    refine (c_few oo.x z1 w.heap.size ee.size (HO.out.below ee (Nat.le_refl _))).mono ?_
    rintro e z2 ⟨⟨r, rfl⟩, t⟩
    have Zo := hpB Zo t
    have ee := ee.trans (t.mono ee.size)
    clear t
    cases r with
    | false =>
      go_wp2_with fail
      refine (a18_awake z2 (HT.out.below ee)).mono ?_
      rintro e z3 ⟨rfl, t⟩
      have Zo := hpB Zo t
      have ee := ee.trans (t.mono ee.size)
      clear t
      go_wp2_with fail
      go_ret
      exact ⟨rfl, ee⟩
    | true =>
      go_upto_region 3 with fail
      refine wp_region_lit ?_
      go_wp2_with fail
      refine (c_new z2).mono ?_
      rintro e z3 ⟨rfl, t⟩
      have Zo := hpB Zo t
      have ee := ee.trans (t.mono ee.size)
      clear t
      have ee0 := ee
      have e0s := ee.size
      dsimp only
      rename_i hK
      refine hK _ _ ?_
      clear hK
      iterate 3 go_step
      have lZo := (Array.getElem?_eq_some_iff.1 Zo).1
      have Zo := hpA Zo (.cells #[.int .u32 0, .int .i64 0, .int .i64 0, .bool false, .int .u32 0, .int .i64 0, .int .i64 0, .int .i64 0, .int .i64 0, .slice none 0 0, .slice none 0 0, .int .i64 0, .int .i64 0, .int .i64 0, .int .u64 0, .bool false] 39)
      have ee := ee.alloc ee.size (.cells #[.int .u32 0, .int .i64 0, .int .i64 0, .bool false, .int .u32 0, .int .i64 0, .int .i64 0, .int .i64 0, .int .i64 0, .slice none 0 0, .slice none 0 0, .int .i64 0, .int .i64 0, .int .i64 0, .int .u64 0, .bool false] 39)
      have Za := hpN z3 (.cells #[.int .u32 0, .int .i64 0, .int .i64 0, .bool false, .int .u32 0, .int .i64 0, .int .i64 0, .int .i64 0, .int .i64 0, .slice none 0 0, .slice none 0 0, .int .i64 0, .int .i64 0, .int .i64 0, .int .u64 0, .bool false] 39) rfl
      generalize z3.alloc (.cells #[.int .u32 0, .int .i64 0, .int .i64 0, .bool false, .int .u32 0, .int .i64 0, .int .i64 0, .int .i64 0, .int .i64 0, .slice none 0 0, .slice none 0 0, .int .i64 0, .int .i64 0, .int .i64 0, .int .u64 0, .bool false] 39) = z4 at Zo Za ee ⊢
      iterate 27 (first | with_reducible refine isStore (ty := 39) rfl ?_ | go_step)
      refine wpList_store_row rfl 39 _ _ rfl (z3.heap.size) (Ac.new.cells).toArray rfl rfl 39 _ Za sizeAc (by rfl) (Ac.one _) ?_
      have N_ := setRow_heap z4 (z3.heap.size) _ (Ac.new.cells).toArray _ _ Za
      have ee := belowSet (cs := (Ac.new.cells).toArray) ee Za (by omega)
      have Zo := hpR Zo (g' := z3.heap.size) (by omega) (Ac.new.cells).toArray
      clear Za
      have Za := N_
      clear N_
      generalize z4.setRow (z3.heap.size) (Ac.new.cells).toArray = z5 at Zo Za ee ⊢
      obtain ⟨ga, hg_⟩ : ∃ g_, g_ = z3.heap.size := ⟨_, rfl⟩
      have lga : w.heap.size < ga := by rw [hg_]; exact lZo
      rw [← hg_] at Za ⊢
      clear hg_ ee0 e0s lZo
      go_upto_region 4 with fail
      refine wp_region_lit ?_
      iterate 27 (first | with_reducible refine isLoad (ty := 39) rfl ?_ | go_step)
      refine wpList_load_mid rfl 39 _ rfl (ga) 0 rfl ((Ac.new.cells)) _ (rowAt Za) Tryd.underlying39 rfl sizeAc ?_
      go_wp2_with fail
      refine (c_plain Ac.new z5).mono ?_
      rintro e z6 ⟨rfl, t⟩
      have Zo := hpB Zo t
      have Za := hpB Za t
      have ee := ee.trans (t.mono ee.size)
      clear t
      dsimp only
      rename_i hK
      refine hK _ _ ?_
      clear hK
      iterate 3 go_step
      have lZo := (Array.getElem?_eq_some_iff.1 Zo).1
      have lZa := (Array.getElem?_eq_some_iff.1 Za).1
      have Zo := hpA Zo (.cells #[.int .u32 0, .int .i64 0, .int .i64 0, .bool false, .int .u32 0, .int .i64 0, .int .i64 0, .int .i64 0, .int .i64 0, .slice none 0 0, .slice none 0 0, .int .i64 0, .int .i64 0, .int .i64 0, .int .u64 0, .bool false] 43)
      have Za := hpA Za (.cells #[.int .u32 0, .int .i64 0, .int .i64 0, .bool false, .int .u32 0, .int .i64 0, .int .i64 0, .int .i64 0, .int .i64 0, .slice none 0 0, .slice none 0 0, .int .i64 0, .int .i64 0, .int .i64 0, .int .u64 0, .bool false] 43)
      have ee := ee.alloc ee.size (.cells #[.int .u32 0, .int .i64 0, .int .i64 0, .bool false, .int .u32 0, .int .i64 0, .int .i64 0, .int .i64 0, .int .i64 0, .slice none 0 0, .slice none 0 0, .int .i64 0, .int .i64 0, .int .i64 0, .int .u64 0, .bool false] 43)
      have Zw := hpN z6 (.cells #[.int .u32 0, .int .i64 0, .int .i64 0, .bool false, .int .u32 0, .int .i64 0, .int .i64 0, .int .i64 0, .int .i64 0, .slice none 0 0, .slice none 0 0, .int .i64 0, .int .i64 0, .int .i64 0, .int .u64 0, .bool false] 43) rfl
      generalize z6.alloc (.cells #[.int .u32 0, .int .i64 0, .int .i64 0, .bool false, .int .u32 0, .int .i64 0, .int .i64 0, .int .i64 0, .int .i64 0, .slice none 0 0, .slice none 0 0, .int .i64 0, .int .i64 0, .int .i64 0, .int .u64 0, .bool false] 43) = z7 at Zo Za Zw ee ⊢
      iterate 27 (first | with_reducible refine isStore (ty := 43) rfl ?_ | go_step)
      refine wpList_store_row rfl 43 _ _ rfl (z6.heap.size) (Ac.new.cells).toArray rfl rfl 43 _ Zw sizeRAc (by rfl) (Ac.one _) ?_
      have N_ := setRow_heap z7 (z6.heap.size) _ (Ac.new.cells).toArray _ _ Zw
      have ee := belowSet (cs := (Ac.new.cells).toArray) ee Zw (by omega)
      have Zo := hpR Zo (g' := z6.heap.size) (by omega) (Ac.new.cells).toArray
      have Za := hpR Za (g' := z6.heap.size) (by omega) (Ac.new.cells).toArray
      clear Zw
      have Zw := N_
      clear N_
      generalize z7.setRow (z6.heap.size) (Ac.new.cells).toArray = z8 at Zo Za Zw ee ⊢
      obtain ⟨gb, hg_⟩ : ∃ g_, g_ = z6.heap.size := ⟨_, rfl⟩
      have lgb : ga < gb := by rw [hg_]; exact lZa
      rw [← hg_] at Zw ⊢
      clear hg_ lZa lZo
      go_wp2_with fail
      go_loopw [7] (fun i wr => ∃ (k : Nat) (a : Ac), k ≤ n ∧ i = .int .i64 (k : Int) ∧ Hid (wr.heap[ga]? = some (.cells a.cells.toArray 39)) ∧ Hid (wr.heap[gb]? = some (.cells a.cells.toArray 43)) ∧ Hid (wr.heap[w.heap.size]? = some (.cells oo.cells.toArray 53)) ∧ Hid (CmOk w w.heap.size a.c) ∧ Hid (Below w.heap.size w wr)) (fun i _ => n - (intOf i).toNat)
      case atStart => exact ⟨0, Ac.new, Nat.zero_le _, rfl, Za, Zw, Zo, CmOk.zero, ee⟩
      case round =>
        clear Za Zw Zo ee
        obtain ⟨k, a, hk, rfl, Za, Zw, Zo, HC, ee⟩ := hrel
        have Za := Za.out
        have Zw := Zw.out
        have Zo := Zo.out
        have ee := ee.out
        by_cases hlt : k < n
        · have hkl : k < ls.length := by rw [← HN.out]; exact hlt
          obtain ⟨bo, off, rfl, hbo, hr⟩ := rowsGet HR.out hkl
          have HX : Hid (CmOk w w.heap.size ls[k].x) := HL.out _ (List.getElem_mem hkl)
          generalize ls[k] = o at hr HX
          have HACT := Lib.hid (fun z (hz : Below w.heap.size w z) => act_any a o z w.heap.size hz.size (HC.out.below hz (Nat.le_refl _)) (HX.out.below hz (Nat.le_refl _)) (HT.out.below hz))
          have HC2 := Lib.hid (Ac.step_ok HC.out HX.out)
          go_upto_region 8 with fail
          refine wp_region_lit ?_
          iterate 27 (first | with_reducible refine isLoad (ty := 37) rfl ?_ | go_step)
          refine wpList_load_mid rfl 37 _ rfl (bo) (off + k * 14 + 4) rfl (o.x.cells) _ (rangePart (rangeB hr ee hbo) (AOp.part o)) Tryd.underlying37 rfl sizeCm ?_
          go_wp2_with fail
          refine (c_few o.x wr w.heap.size ee.size (HX.out.below ee (Nat.le_refl _))).mono ?_
          rintro e z9 ⟨⟨r, rfl⟩, t⟩
          have Za := hpB Za t
          have Zw := hpB Zw t
          have Zo := hpB Zo t
          have ee := ee.trans (t.mono ee.size)
          clear t
          cases r with
          | false =>
            go_wp2_with fail
            go_ret
            exact ⟨rfl, ee⟩
          | true =>
            go_upto_region 10 with fail
            go_cut [8, 9, 10] (fun u7 u8 u9 wx => ∃ g1 g2 : Nat, u7 = .pointer (some ⟨g1, 0, none⟩) ∧ u8 = .pointer (some ⟨g2, 0, none⟩) ∧ u9 = .bool true ∧ Hid (gb < g1) ∧ Hid (gb < g2) ∧ Hid (wx.heap[ga]? = some (.cells a.cells.toArray 39)) ∧ Hid (wx.heap[gb]? = some (.cells a.cells.toArray 43)) ∧ Hid (wx.heap[g1]? = some (.cells (a.step o).cells.toArray 39)) ∧ Hid (wx.heap[g2]? = some (.cells (a.step o).cells.toArray 43)) ∧ Hid (wx.heap[w.heap.size]? = some (.cells oo.cells.toArray 53)) ∧ Hid (Below w.heap.size w wx))
            case first =>
              have Za : z9.drew.heap[ga]? = some (.cells a.cells.toArray 39) := Za
              have Zw : z9.drew.heap[gb]? = some (.cells a.cells.toArray 43) := Zw
              have Zo : z9.drew.heap[w.heap.size]? = some (.cells oo.cells.toArray 53) := Zo
              have ee := belowDrewS ee
              refine wp_region_held_drew (S := fun z' => z'.rangeAt (ga) 0 a.cells ∧ z'.rangeAt gb 0 a.cells ∧ z'.rangeAt bo (off + k * 14) o.cells) (by kernel_rfl) ⟨rowAt Za, rowAt Zw, rangeB hr ee hbo⟩ (fun hH => ?_)
              clear hH
              generalize z9.drew = z10 at Za Zw Zo  ee ⊢
              refine wpAnyH_take (i := 0) (v := .agg (a.cells).toArray) rfl (by kernel_rfl) (by kernel_rfl) (by kernel_rfl) (fun _ _ _ h => h) (yieldsIf_load_mid (by rfl) 39 _ rfl (ga) 0 rfl (a.cells) _ (fun _ h => h.1) Tryd.underlying39 rfl sizeAc) ⟨rowAt Za, rowAt Zw, rangeB hr ee hbo⟩ ?_
              try simp only [Act.put, List.getElem_toArray, List.getElem_cons_zero, List.getElem_cons_succ, List.setIfInBounds_toArray, List.set_cons_zero, List.set_cons_succ]
              refine wpAnyH_take (i := 1) (v := .agg (a.cells).toArray) rfl (by kernel_rfl) (by kernel_rfl) (by kernel_rfl) (fun _ _ _ h => h) (yieldsIf_load_mid (by rfl) 43 _ rfl (gb) 0 rfl (a.cells) _ (fun _ h => h.2.1) Tryd.underlying43 rfl sizeRAc) ⟨rowAt Za, rowAt Zw, rangeB hr ee hbo⟩ ?_
              try simp only [Act.put, List.getElem_toArray, List.getElem_cons_zero, List.getElem_cons_succ, List.setIfInBounds_toArray, List.set_cons_zero, List.set_cons_succ]
              refine wpAnyH_take (i := 2) (v := .slice (some ⟨bo, off, none⟩) n c) rfl (by kernel_rfl) (by kernel_rfl) (by kernel_rfl) (fun _ _ _ h => h) (Or.inl ⟨by rfl, fun w_ hS_ => by (first | (go_simp; done) | (go_simp; rfl))⟩) ⟨rowAt Za, rowAt Zw, rangeB hr ee hbo⟩ ?_
              try simp only [Act.put, List.getElem_toArray, List.getElem_cons_zero, List.getElem_cons_succ, List.setIfInBounds_toArray, List.set_cons_zero, List.set_cons_succ]
              refine wpAnyH_take (i := 3) (v := .int .i64 (k : Int)) rfl (by kernel_rfl) (by kernel_rfl) (by kernel_rfl) (fun _ _ _ h => h) (Or.inl ⟨by rfl, fun w_ hS_ => by (first | (go_simp; done) | (go_simp; rfl))⟩) ⟨rowAt Za, rowAt Zw, rangeB hr ee hbo⟩ ?_
              try simp only [Act.put, List.getElem_toArray, List.getElem_cons_zero, List.getElem_cons_succ, List.setIfInBounds_toArray, List.set_cons_zero, List.set_cons_succ]
              refine wpAnyH_take (i := 4) (v := .pointer (some ⟨bo, off + k * 14, none⟩)) rfl (by kernel_rfl) (by kernel_rfl) (by kernel_rfl) (fun _ _ _ h => h) (Or.inl ⟨by rfl, fun w_ hS_ => by (first | (go_simp; done) | (go_simp; rfl))⟩) ⟨rowAt Za, rowAt Zw, rangeB hr ee hbo⟩ ?_
              try simp only [Act.put, List.getElem_toArray, List.getElem_cons_zero, List.getElem_cons_succ, List.setIfInBounds_toArray, List.set_cons_zero, List.set_cons_succ]
              refine wpAnyH_take (i := 5) (v := .agg (o.cells).toArray) rfl (by kernel_rfl) (by kernel_rfl) (by kernel_rfl) (fun _ _ _ h => h) (yieldsIf_load_mid (by rfl) 53 _ rfl (bo) (off + k * 14) rfl (o.cells) _ (fun _ h => h.2.2) Tryd.underlying53 rfl sizeOp) ⟨rowAt Za, rowAt Zw, rangeB hr ee hbo⟩ ?_
              try simp only [Act.put, List.getElem_toArray, List.getElem_cons_zero, List.getElem_cons_succ, List.setIfInBounds_toArray, List.set_cons_zero, List.set_cons_succ]
              refine wpAnyH_ready (rs := [6, 11, 12]) (by kernel_rfl) (by simp) ?_
              refine AllReadyH.cons rfl (fun K hK => ?_) (AllReadyH.cons rfl (fun K hK => ?_) (AllReadyH.cons rfl (fun K hK => ?_) AllReadyH.nil))
              · rw [if_pos (by rfl)]
                go_simp
                go_wp2_with (go_at_call 17; refine (HACT.out z10 ee).mono ?_; rintro e z11 ⟨rfl, t⟩)
                have Za := hpB Za t
                have Zw := hpB Zw t
                have Zo := hpB Zo t
                have ee := ee.trans (t.mono ee.size)
                clear t
                refine hK.out _ _ ⟨rowAt Za, rowAt Zw, rangeB hr ee hbo⟩ (fun hH => ?_)
                clear hK K hH
                try simp only [Act.put, List.getElem_toArray, List.getElem_cons_zero, List.getElem_cons_succ, List.setIfInBounds_toArray, List.set_cons_zero, List.set_cons_succ]
                refine wpAnyH_take (i := 7) (v := .tuple #[.agg (a.step o).cells.toArray, .agg (a.step o).cells.toArray, .bool true]) rfl (by kernel_rfl) (by kernel_rfl) (by kernel_rfl) (fun _ _ _ h => h) (Or.inl ⟨by rfl, fun w_ hS_ => by (first | (go_simp; done) | (go_simp; rfl))⟩) ⟨rowAt Za, rowAt Zw, rangeB hr ee hbo⟩ ?_
                try simp only [Act.put, List.getElem_toArray, List.getElem_cons_zero, List.getElem_cons_succ, List.setIfInBounds_toArray, List.set_cons_zero, List.set_cons_succ]
                refine wpAnyH_take (i := 8) (v := .agg (a.step o).cells.toArray) rfl (by kernel_rfl) (by kernel_rfl) (by kernel_rfl) (fun _ _ _ h => h) (Or.inl ⟨by rfl, fun w_ hS_ => by (first | (go_simp; done) | (go_simp; rfl))⟩) ⟨rowAt Za, rowAt Zw, rangeB hr ee hbo⟩ ?_
                try simp only [Act.put, List.getElem_toArray, List.getElem_cons_zero, List.getElem_cons_succ, List.setIfInBounds_toArray, List.set_cons_zero, List.set_cons_succ]
                refine wpAnyH_take (i := 9) (v := .agg (a.step o).cells.toArray) rfl (by kernel_rfl) (by kernel_rfl) (by kernel_rfl) (fun _ _ _ h => h) (Or.inl ⟨by rfl, fun w_ hS_ => by (first | (go_simp; done) | (go_simp; rfl))⟩) ⟨rowAt Za, rowAt Zw, rangeB hr ee hbo⟩ ?_
                try simp only [Act.put, List.getElem_toArray, List.getElem_cons_zero, List.getElem_cons_succ, List.setIfInBounds_toArray, List.set_cons_zero, List.set_cons_succ]
                refine wpAnyH_take (i := 10) (v := .bool true) rfl (by kernel_rfl) (by kernel_rfl) (by kernel_rfl) (fun _ _ _ h => h) (Or.inl ⟨by rfl, fun w_ hS_ => by (first | (go_simp; done) | (go_simp; rfl))⟩) ⟨rowAt Za, rowAt Zw, rangeB hr ee hbo⟩ ?_
                try simp only [Act.put, List.getElem_toArray, List.getElem_cons_zero, List.getElem_cons_succ, List.setIfInBounds_toArray, List.set_cons_zero, List.set_cons_succ]
                refine wpAnyH_ready (rs := [11, 12]) (by kernel_rfl) (by simp) ?_
                refine AllReadyH.cons rfl (fun K hK => ?_) (AllReadyH.cons rfl (fun K hK => ?_) AllReadyH.nil)
                · rw [if_pos (by rfl)]
                  go_simp
                  have lZa := (Array.getElem?_eq_some_iff.1 Za).1
                  have lZw := (Array.getElem?_eq_some_iff.1 Zw).1
                  have lZo := (Array.getElem?_eq_some_iff.1 Zo).1
                  have Za := hpA Za (.cells #[.int .u32 0, .int .i64 0, .int .i64 0, .bool false, .int .u32 0, .int .i64 0, .int .i64 0, .int .i64 0, .int .i64 0, .slice none 0 0, .slice none 0 0, .int .i64 0, .int .i64 0, .int .i64 0, .int .u64 0, .bool false] 39)
                  have Zw := hpA Zw (.cells #[.int .u32 0, .int .i64 0, .int .i64 0, .bool false, .int .u32 0, .int .i64 0, .int .i64 0, .int .i64 0, .int .i64 0, .slice none 0 0, .slice none 0 0, .int .i64 0, .int .i64 0, .int .i64 0, .int .u64 0, .bool false] 39)
                  have Zo := hpA Zo (.cells #[.int .u32 0, .int .i64 0, .int .i64 0, .bool false, .int .u32 0, .int .i64 0, .int .i64 0, .int .i64 0, .int .i64 0, .slice none 0 0, .slice none 0 0, .int .i64 0, .int .i64 0, .int .i64 0, .int .u64 0, .bool false] 39)
                  have ee := ee.alloc ee.size (.cells #[.int .u32 0, .int .i64 0, .int .i64 0, .bool false, .int .u32 0, .int .i64 0, .int .i64 0, .int .i64 0, .int .i64 0, .slice none 0 0, .slice none 0 0, .int .i64 0, .int .i64 0, .int .i64 0, .int .u64 0, .bool false] 39)
                  have Zn := hpN z11 (.cells #[.int .u32 0, .int .i64 0, .int .i64 0, .bool false, .int .u32 0, .int .i64 0, .int .i64 0, .int .i64 0, .int .i64 0, .slice none 0 0, .slice none 0 0, .int .i64 0, .int .i64 0, .int .i64 0, .int .u64 0, .bool false] 39) rfl
                  generalize z11.alloc (.cells #[.int .u32 0, .int .i64 0, .int .i64 0, .bool false, .int .u32 0, .int .i64 0, .int .i64 0, .int .i64 0, .int .i64 0, .slice none 0 0, .slice none 0 0, .int .i64 0, .int .i64 0, .int .i64 0, .int .u64 0, .bool false] 39) = z12 at Za Zw Zo Zn  ee ⊢
                  refine hK.out _ _ ⟨rowAt Za, rowAt Zw, rangeB hr ee hbo⟩ (fun hH => ?_)
                  clear hK K hH
                  try simp only [Act.put, List.getElem_toArray, List.getElem_cons_zero, List.getElem_cons_succ, List.setIfInBounds_toArray, List.set_cons_zero, List.set_cons_succ]
                  refine wpAnyH_ready (rs := [12]) (by kernel_rfl) (by simp) ?_
                  refine AllReadyH.cons rfl (fun K hK => ?_) AllReadyH.nil
                  rw [if_pos (by rfl)]
                  go_simp
                  have lZa := (Array.getElem?_eq_some_iff.1 Za).1
                  have lZw := (Array.getElem?_eq_some_iff.1 Zw).1
                  have lZo := (Array.getElem?_eq_some_iff.1 Zo).1
                  have lZn := (Array.getElem?_eq_some_iff.1 Zn).1
                  have Za := hpA Za (.cells #[.int .u32 0, .int .i64 0, .int .i64 0, .bool false, .int .u32 0, .int .i64 0, .int .i64 0, .int .i64 0, .int .i64 0, .slice none 0 0, .slice none 0 0, .int .i64 0, .int .i64 0, .int .i64 0, .int .u64 0, .bool false] 43)
                  have Zw := hpA Zw (.cells #[.int .u32 0, .int .i64 0, .int .i64 0, .bool false, .int .u32 0, .int .i64 0, .int .i64 0, .int .i64 0, .int .i64 0, .slice none 0 0, .slice none 0 0, .int .i64 0, .int .i64 0, .int .i64 0, .int .u64 0, .bool false] 43)
                  have Zo := hpA Zo (.cells #[.int .u32 0, .int .i64 0, .int .i64 0, .bool false, .int .u32 0, .int .i64 0, .int .i64 0, .int .i64 0, .int .i64 0, .slice none 0 0, .slice none 0 0, .int .i64 0, .int .i64 0, .int .i64 0, .int .u64 0, .bool false] 43)
                  have Zn := hpA Zn (.cells #[.int .u32 0, .int .i64 0, .int .i64 0, .bool false, .int .u32 0, .int .i64 0, .int .i64 0, .int .i64 0, .int .i64 0, .slice none 0 0, .slice none 0 0, .int .i64 0, .int .i64 0, .int .i64 0, .int .u64 0, .bool false] 43)
                  have ee := ee.alloc ee.size (.cells #[.int .u32 0, .int .i64 0, .int .i64 0, .bool false, .int .u32 0, .int .i64 0, .int .i64 0, .int .i64 0, .int .i64 0, .slice none 0 0, .slice none 0 0, .int .i64 0, .int .i64 0, .int .i64 0, .int .u64 0, .bool false] 43)
                  have Zm := hpN z12 (.cells #[.int .u32 0, .int .i64 0, .int .i64 0, .bool false, .int .u32 0, .int .i64 0, .int .i64 0, .int .i64 0, .int .i64 0, .slice none 0 0, .slice none 0 0, .int .i64 0, .int .i64 0, .int .i64 0, .int .u64 0, .bool false] 43) rfl
                  generalize z12.alloc (.cells #[.int .u32 0, .int .i64 0, .int .i64 0, .bool false, .int .u32 0, .int .i64 0, .int .i64 0, .int .i64 0, .int .i64 0, .slice none 0 0, .slice none 0 0, .int .i64 0, .int .i64 0, .int .i64 0, .int .u64 0, .bool false] 43) = z13 at Za Zw Zo Zn Zm  ee ⊢
                  refine hK.out _ _ ⟨rowAt Za, rowAt Zw, rangeB hr ee hbo⟩ (fun hH => ?_)
                  clear hK K hH
                  try simp only [Act.put, List.getElem_toArray, List.getElem_cons_zero, List.getElem_cons_succ, List.setIfInBounds_toArray, List.set_cons_zero, List.set_cons_succ]
                  refine wpAnyH_ready (rs := [13]) (by kernel_rfl) (by simp) ?_
                  refine AllReadyH.cons rfl (fun K hK => ?_) AllReadyH.nil
                  rw [if_pos (by rfl)]
                  refine wp_store_row 39 _ _ rfl (z11.heap.size) ((a.step o).cells).toArray rfl rfl 39 _ Zn sizeAc (by rfl) (Ac.one _) ?_
                  have N_ := setRow_heap z13 (z11.heap.size) _ ((a.step o).cells).toArray _ _ Zn
                  have ee := belowSet (cs := ((a.step o).cells).toArray) ee Zn (by omega)
                  have Za := hpR Za (g' := z11.heap.size) (by omega) ((a.step o).cells).toArray
                  have Zw := hpR Zw (g' := z11.heap.size) (by omega) ((a.step o).cells).toArray
                  have Zo := hpR Zo (g' := z11.heap.size) (by omega) ((a.step o).cells).toArray
                  have Zm := hpR Zm (g' := z11.heap.size) (by omega) ((a.step o).cells).toArray
                  clear Zn
                  have Zn := N_
                  clear N_
                  generalize z13.setRow (z11.heap.size) ((a.step o).cells).toArray = z14 at Za Zw Zo Zn Zm ee ⊢
                  refine hK.out _ _ ⟨rowAt Za, rowAt Zw, rangeB hr ee hbo⟩ (fun hH => ?_)
                  clear hK K hH
                  try simp only [Act.put, List.getElem_toArray, List.getElem_cons_zero, List.getElem_cons_succ, List.setIfInBounds_toArray, List.set_cons_zero, List.set_cons_succ]
                  refine wpAnyH_ready (rs := [14]) (by kernel_rfl) (by simp) ?_
                  refine AllReadyH.cons rfl (fun K hK => ?_) AllReadyH.nil
                  rw [if_pos (by rfl)]
                  refine wp_store_row 43 _ _ rfl (z12.heap.size) ((a.step o).cells).toArray rfl rfl 43 _ Zm sizeRAc (by rfl) (Ac.one _) ?_
                  have N_ := setRow_heap z14 (z12.heap.size) _ ((a.step o).cells).toArray _ _ Zm
                  have ee := belowSet (cs := ((a.step o).cells).toArray) ee Zm (by omega)
                  have Za := hpR Za (g' := z12.heap.size) (by omega) ((a.step o).cells).toArray
                  have Zw := hpR Zw (g' := z12.heap.size) (by omega) ((a.step o).cells).toArray
                  have Zo := hpR Zo (g' := z12.heap.size) (by omega) ((a.step o).cells).toArray
                  have Zn := hpR Zn (g' := z12.heap.size) (by omega) ((a.step o).cells).toArray
                  clear Zm
                  have Zm := N_
                  clear N_
                  generalize z14.setRow (z12.heap.size) ((a.step o).cells).toArray = z15 at Za Zw Zo Zn Zm ee ⊢
                  refine hK.out _ _ ⟨rowAt Za, rowAt Zw, rangeB hr ee hbo⟩ (fun hH => ?_)
                  clear hK K hH
                  try simp only [Act.put, List.getElem_toArray, List.getElem_cons_zero, List.getElem_cons_succ, List.setIfInBounds_toArray, List.set_cons_zero, List.set_cons_succ]
                  refine wpAnyH_take (i := 15) (v := .bool true) rfl (by kernel_rfl) (by kernel_rfl) (by kernel_rfl) (fun _ _ _ h => h) (Or.inl ⟨by rfl, fun w_ hS_ => by (first | (go_simp; done) | (go_simp; rfl))⟩) ⟨rowAt Za, rowAt Zw, rangeB hr ee hbo⟩ ?_
                  try simp only [Act.put, List.getElem_toArray, List.getElem_cons_zero, List.getElem_cons_succ, List.setIfInBounds_toArray, List.set_cons_zero, List.set_cons_succ]
                  refine wpAnyH_done (by kernel_rfl) ?_ _
                  go_wp2_with fail
                  go_meet
                  exact ⟨_, _, rfl, rfl, rfl, by show _ < _; omega, by show _ < _; omega, Za, Zw, Zn, Zm, Zo, ee⟩
                · rw [if_pos (by rfl)]
                  go_simp
                  have lZa := (Array.getElem?_eq_some_iff.1 Za).1
                  have lZw := (Array.getElem?_eq_some_iff.1 Zw).1
                  have lZo := (Array.getElem?_eq_some_iff.1 Zo).1
                  have Za := hpA Za (.cells #[.int .u32 0, .int .i64 0, .int .i64 0, .bool false, .int .u32 0, .int .i64 0, .int .i64 0, .int .i64 0, .int .i64 0, .slice none 0 0, .slice none 0 0, .int .i64 0, .int .i64 0, .int .i64 0, .int .u64 0, .bool false] 43)
                  have Zw := hpA Zw (.cells #[.int .u32 0, .int .i64 0, .int .i64 0, .bool false, .int .u32 0, .int .i64 0, .int .i64 0, .int .i64 0, .int .i64 0, .slice none 0 0, .slice none 0 0, .int .i64 0, .int .i64 0, .int .i64 0, .int .u64 0, .bool false] 43)
                  have Zo := hpA Zo (.cells #[.int .u32 0, .int .i64 0, .int .i64 0, .bool false, .int .u32 0, .int .i64 0, .int .i64 0, .int .i64 0, .int .i64 0, .slice none 0 0, .slice none 0 0, .int .i64 0, .int .i64 0, .int .i64 0, .int .u64 0, .bool false] 43)
                  have ee := ee.alloc ee.size (.cells #[.int .u32 0, .int .i64 0, .int .i64 0, .bool false, .int .u32 0, .int .i64 0, .int .i64 0, .int .i64 0, .int .i64 0, .slice none 0 0, .slice none 0 0, .int .i64 0, .int .i64 0, .int .i64 0, .int .u64 0, .bool false] 43)
                  have Zm := hpN z11 (.cells #[.int .u32 0, .int .i64 0, .int .i64 0, .bool false, .int .u32 0, .int .i64 0, .int .i64 0, .int .i64 0, .int .i64 0, .slice none 0 0, .slice none 0 0, .int .i64 0, .int .i64 0, .int .i64 0, .int .u64 0, .bool false] 43) rfl
                  generalize z11.alloc (.cells #[.int .u32 0, .int .i64 0, .int .i64 0, .bool false, .int .u32 0, .int .i64 0, .int .i64 0, .int .i64 0, .int .i64 0, .slice none 0 0, .slice none 0 0, .int .i64 0, .int .i64 0, .int .i64 0, .int .u64 0, .bool false] 43) = z12 at Za Zw Zo Zm  ee ⊢
                  refine hK.out _ _ ⟨rowAt Za, rowAt Zw, rangeB hr ee hbo⟩ (fun hH => ?_)
                  clear hK K hH
                  try simp only [Act.put, List.getElem_toArray, List.getElem_cons_zero, List.getElem_cons_succ, List.setIfInBounds_toArray, List.set_cons_zero, List.set_cons_succ]
                  refine wpAnyH_ready (rs := [11]) (by kernel_rfl) (by simp) ?_
                  refine AllReadyH.cons rfl (fun K hK => ?_) AllReadyH.nil
                  rw [if_pos (by rfl)]
                  go_simp
                  have lZa := (Array.getElem?_eq_some_iff.1 Za).1
                  have lZw := (Array.getElem?_eq_some_iff.1 Zw).1
                  have lZo := (Array.getElem?_eq_some_iff.1 Zo).1
                  have lZm := (Array.getElem?_eq_some_iff.1 Zm).1
                  have Za := hpA Za (.cells #[.int .u32 0, .int .i64 0, .int .i64 0, .bool false, .int .u32 0, .int .i64 0, .int .i64 0, .int .i64 0, .int .i64 0, .slice none 0 0, .slice none 0 0, .int .i64 0, .int .i64 0, .int .i64 0, .int .u64 0, .bool false] 39)
                  have Zw := hpA Zw (.cells #[.int .u32 0, .int .i64 0, .int .i64 0, .bool false, .int .u32 0, .int .i64 0, .int .i64 0, .int .i64 0, .int .i64 0, .slice none 0 0, .slice none 0 0, .int .i64 0, .int .i64 0, .int .i64 0, .int .u64 0, .bool false] 39)
                  have Zo := hpA Zo (.cells #[.int .u32 0, .int .i64 0, .int .i64 0, .bool false, .int .u32 0, .int .i64 0, .int .i64 0, .int .i64 0, .int .i64 0, .slice none 0 0, .slice none 0 0, .int .i64 0, .int .i64 0, .int .i64 0, .int .u64 0, .bool false] 39)
                  have Zm := hpA Zm (.cells #[.int .u32 0, .int .i64 0, .int .i64 0, .bool false, .int .u32 0, .int .i64 0, .int .i64 0, .int .i64 0, .int .i64 0, .slice none 0 0, .slice none 0 0, .int .i64 0, .int .i64 0, .int .i64 0, .int .u64 0, .bool false] 39)
                  have ee := ee.alloc ee.size (.cells #[.int .u32 0, .int .i64 0, .int .i64 0, .bool false, .int .u32 0, .int .i64 0, .int .i64 0, .int .i64 0, .int .i64 0, .slice none 0 0, .slice none 0 0, .int .i64 0, .int .i64 0, .int .i64 0, .int .u64 0, .bool false] 39)
                  have Zn := hpN z12 (.cells #[.int .u32 0, .int .i64 0, .int .i64 0, .bool false, .int .u32 0, .int .i64 0, .int .i64 0, .int .i64 0, .int .i64 0, .slice none 0 0, .slice none 0 0, .int .i64 0, .int .i64 0, .int .i64 0, .int .u64 0, .bool false] 39) rfl
                  generalize z12.alloc (.cells #[.int .u32 0, .int .i64 0, .int .i64 0, .bool false, .int .u32 0, .int .i64 0, .int .i64 0, .int .i64 0, .int .i64 0, .slice none 0 0, .slice none 0 0, .int .i64 0, .int .i64 0, .int .i64 0, .int .u64 0, .bool false] 39) = z13 at Za Zw Zo Zm Zn  ee ⊢
                  refine hK.out _ _ ⟨rowAt Za, rowAt Zw, rangeB hr ee hbo⟩ (fun hH => ?_)
                  clear hK K hH
                  try simp only [Act.put, List.getElem_toArray, List.getElem_cons_zero, List.getElem_cons_succ, List.setIfInBounds_toArray, List.set_cons_zero, List.set_cons_succ]
                  refine wpAnyH_ready (rs := [13]) (by kernel_rfl) (by simp) ?_
                  refine AllReadyH.cons rfl (fun K hK => ?_) AllReadyH.nil
                  rw [if_pos (by rfl)]
                  refine wp_store_row 39 _ _ rfl (z12.heap.size) ((a.step o).cells).toArray rfl rfl 39 _ Zn sizeAc (by rfl) (Ac.one _) ?_
                  have N_ := setRow_heap z13 (z12.heap.size) _ ((a.step o).cells).toArray _ _ Zn
                  have ee := belowSet (cs := ((a.step o).cells).toArray) ee Zn (by omega)
                  have Za := hpR Za (g' := z12.heap.size) (by omega) ((a.step o).cells).toArray
                  have Zw := hpR Zw (g' := z12.heap.size) (by omega) ((a.step o).cells).toArray
                  have Zo := hpR Zo (g' := z12.heap.size) (by omega) ((a.step o).cells).toArray
                  have Zm := hpR Zm (g' := z12.heap.size) (by omega) ((a.step o).cells).toArray
                  clear Zn
                  have Zn := N_
                  clear N_
                  generalize z13.setRow (z12.heap.size) ((a.step o).cells).toArray = z14 at Za Zw Zo Zm Zn ee ⊢
                  refine hK.out _ _ ⟨rowAt Za, rowAt Zw, rangeB hr ee hbo⟩ (fun hH => ?_)
                  clear hK K hH
                  try simp only [Act.put, List.getElem_toArray, List.getElem_cons_zero, List.getElem_cons_succ, List.setIfInBounds_toArray, List.set_cons_zero, List.set_cons_succ]
                  refine wpAnyH_ready (rs := [14]) (by kernel_rfl) (by simp) ?_
                  refine AllReadyH.cons rfl (fun K hK => ?_) AllReadyH.nil
                  rw [if_pos (by rfl)]
                  refine wp_store_row 43 _ _ rfl (z11.heap.size) ((a.step o).cells).toArray rfl rfl 43 _ Zm sizeRAc (by rfl) (Ac.one _) ?_
                  have N_ := setRow_heap z14 (z11.heap.size) _ ((a.step o).cells).toArray _ _ Zm
                  have ee := belowSet (cs := ((a.step o).cells).toArray) ee Zm (by omega)
                  have Za := hpR Za (g' := z11.heap.size) (by omega) ((a.step o).cells).toArray
                  have Zw := hpR Zw (g' := z11.heap.size) (by omega) ((a.step o).cells).toArray
                  have Zo := hpR Zo (g' := z11.heap.size) (by omega) ((a.step o).cells).toArray
                  have Zn := hpR Zn (g' := z11.heap.size) (by omega) ((a.step o).cells).toArray
                  clear Zm
                  have Zm := N_
                  clear N_
                  generalize z14.setRow (z11.heap.size) ((a.step o).cells).toArray = z15 at Za Zw Zo Zm Zn ee ⊢
                  refine hK.out _ _ ⟨rowAt Za, rowAt Zw, rangeB hr ee hbo⟩ (fun hH => ?_)
                  clear hK K hH
                  try simp only [Act.put, List.getElem_toArray, List.getElem_cons_zero, List.getElem_cons_succ, List.setIfInBounds_toArray, List.set_cons_zero, List.set_cons_succ]
                  refine wpAnyH_take (i := 15) (v := .bool true) rfl (by kernel_rfl) (by kernel_rfl) (by kernel_rfl) (fun _ _ _ h => h) (Or.inl ⟨by rfl, fun w_ hS_ => by (first | (go_simp; done) | (go_simp; rfl))⟩) ⟨rowAt Za, rowAt Zw, rangeB hr ee hbo⟩ ?_
                  try simp only [Act.put, List.getElem_toArray, List.getElem_cons_zero, List.getElem_cons_succ, List.setIfInBounds_toArray, List.set_cons_zero, List.set_cons_succ]
                  refine wpAnyH_done (by kernel_rfl) ?_ _
                  go_wp2_with fail
                  go_meet
                  exact ⟨_, _, rfl, rfl, rfl, by show _ < _; omega, by show _ < _; omega, Za, Zw, Zn, Zm, Zo, ee⟩
              · rw [if_pos (by rfl)]
                go_simp
                have lZa := (Array.getElem?_eq_some_iff.1 Za).1
                have lZw := (Array.getElem?_eq_some_iff.1 Zw).1
                have lZo := (Array.getElem?_eq_some_iff.1 Zo).1
                have Za := hpA Za (.cells #[.int .u32 0, .int .i64 0, .int .i64 0, .bool false, .int .u32 0, .int .i64 0, .int .i64 0, .int .i64 0, .int .i64 0, .slice none 0 0, .slice none 0 0, .int .i64 0, .int .i64 0, .int .i64 0, .int .u64 0, .bool false] 39)
                have Zw := hpA Zw (.cells #[.int .u32 0, .int .i64 0, .int .i64 0, .bool false, .int .u32 0, .int .i64 0, .int .i64 0, .int .i64 0, .int .i64 0, .slice none 0 0, .slice none 0 0, .int .i64 0, .int .i64 0, .int .i64 0, .int .u64 0, .bool false] 39)
                have Zo := hpA Zo (.cells #[.int .u32 0, .int .i64 0, .int .i64 0, .bool false, .int .u32 0, .int .i64 0, .int .i64 0, .int .i64 0, .int .i64 0, .slice none 0 0, .slice none 0 0, .int .i64 0, .int .i64 0, .int .i64 0, .int .u64 0, .bool false] 39)
                have ee := ee.alloc ee.size (.cells #[.int .u32 0, .int .i64 0, .int .i64 0, .bool false, .int .u32 0, .int .i64 0, .int .i64 0, .int .i64 0, .int .i64 0, .slice none 0 0, .slice none 0 0, .int .i64 0, .int .i64 0, .int .i64 0, .int .u64 0, .bool false] 39)
                have Zn := hpN z10 (.cells #[.int .u32 0, .int .i64 0, .int .i64 0, .bool false, .int .u32 0, .int .i64 0, .int .i64 0, .int .i64 0, .int .i64 0, .slice none 0 0, .slice none 0 0, .int .i64 0, .int .i64 0, .int .i64 0, .int .u64 0, .bool false] 39) rfl
                generalize z10.alloc (.cells #[.int .u32 0, .int .i64 0, .int .i64 0, .bool false, .int .u32 0, .int .i64 0, .int .i64 0, .int .i64 0, .int .i64 0, .slice none 0 0, .slice none 0 0, .int .i64 0, .int .i64 0, .int .i64 0, .int .u64 0, .bool false] 39) = z11 at Za Zw Zo Zn  ee ⊢
                refine hK.out _ _ ⟨rowAt Za, rowAt Zw, rangeB hr ee hbo⟩ (fun hH => ?_)
                clear hK K hH
                try simp only [Act.put, List.getElem_toArray, List.getElem_cons_zero, List.getElem_cons_succ, List.setIfInBounds_toArray, List.set_cons_zero, List.set_cons_succ]
                refine wpAnyH_ready (rs := [6, 12]) (by kernel_rfl) (by simp) ?_
                refine AllReadyH.cons rfl (fun K hK => ?_) (AllReadyH.cons rfl (fun K hK => ?_) AllReadyH.nil)
                · rw [if_pos (by rfl)]
                  go_simp
                  go_wp2_with (go_at_call 17; refine (HACT.out z11 ee).mono ?_; rintro e z12 ⟨rfl, t⟩)
                  have Za := hpB Za t
                  have Zw := hpB Zw t
                  have Zo := hpB Zo t
                  have Zn := hpB Zn t
                  have ee := ee.trans (t.mono ee.size)
                  clear t
                  refine hK.out _ _ ⟨rowAt Za, rowAt Zw, rangeB hr ee hbo⟩ (fun hH => ?_)
                  clear hK K hH
                  try simp only [Act.put, List.getElem_toArray, List.getElem_cons_zero, List.getElem_cons_succ, List.setIfInBounds_toArray, List.set_cons_zero, List.set_cons_succ]
                  refine wpAnyH_take (i := 7) (v := .tuple #[.agg (a.step o).cells.toArray, .agg (a.step o).cells.toArray, .bool true]) rfl (by kernel_rfl) (by kernel_rfl) (by kernel_rfl) (fun _ _ _ h => h) (Or.inl ⟨by rfl, fun w_ hS_ => by (first | (go_simp; done) | (go_simp; rfl))⟩) ⟨rowAt Za, rowAt Zw, rangeB hr ee hbo⟩ ?_
                  try simp only [Act.put, List.getElem_toArray, List.getElem_cons_zero, List.getElem_cons_succ, List.setIfInBounds_toArray, List.set_cons_zero, List.set_cons_succ]
                  refine wpAnyH_take (i := 8) (v := .agg (a.step o).cells.toArray) rfl (by kernel_rfl) (by kernel_rfl) (by kernel_rfl) (fun _ _ _ h => h) (Or.inl ⟨by rfl, fun w_ hS_ => by (first | (go_simp; done) | (go_simp; rfl))⟩) ⟨rowAt Za, rowAt Zw, rangeB hr ee hbo⟩ ?_
                  try simp only [Act.put, List.getElem_toArray, List.getElem_cons_zero, List.getElem_cons_succ, List.setIfInBounds_toArray, List.set_cons_zero, List.set_cons_succ]
                  refine wpAnyH_take (i := 9) (v := .agg (a.step o).cells.toArray) rfl (by kernel_rfl) (by kernel_rfl) (by kernel_rfl) (fun _ _ _ h => h) (Or.inl ⟨by rfl, fun w_ hS_ => by (first | (go_simp; done) | (go_simp; rfl))⟩) ⟨rowAt Za, rowAt Zw, rangeB hr ee hbo⟩ ?_
                  try simp only [Act.put, List.getElem_toArray, List.getElem_cons_zero, List.getElem_cons_succ, List.setIfInBounds_toArray, List.set_cons_zero, List.set_cons_succ]
                  refine wpAnyH_take (i := 10) (v := .bool true) rfl (by kernel_rfl) (by kernel_rfl) (by kernel_rfl) (fun _ _ _ h => h) (Or.inl ⟨by rfl, fun w_ hS_ => by (first | (go_simp; done) | (go_simp; rfl))⟩) ⟨rowAt Za, rowAt Zw, rangeB hr ee hbo⟩ ?_
                  try simp only [Act.put, List.getElem_toArray, List.getElem_cons_zero, List.getElem_cons_succ, List.setIfInBounds_toArray, List.set_cons_zero, List.set_cons_succ]
                  refine wpAnyH_ready (rs := [12]) (by kernel_rfl) (by simp) ?_
                  refine AllReadyH.cons rfl (fun K hK => ?_) AllReadyH.nil
                  rw [if_pos (by rfl)]
                  go_simp
                  have lZa := (Array.getElem?_eq_some_iff.1 Za).1
                  have lZw := (Array.getElem?_eq_some_iff.1 Zw).1
                  have lZo := (Array.getElem?_eq_some_iff.1 Zo).1
                  have lZn := (Array.getElem?_eq_some_iff.1 Zn).1
                  have Za := hpA Za (.cells #[.int .u32 0, .int .i64 0, .int .i64 0, .bool false, .int .u32 0, .int .i64 0, .int .i64 0, .int .i64 0, .int .i64 0, .slice none 0 0, .slice none 0 0, .int .i64 0, .int .i64 0, .int .i64 0, .int .u64 0, .bool false] 43)
                  have Zw := hpA Zw (.cells #[.int .u32 0, .int .i64 0, .int .i64 0, .bool false, .int .u32 0, .int .i64 0, .int .i64 0, .int .i64 0, .int .i64 0, .slice none 0 0, .slice none 0 0, .int .i64 0, .int .i64 0, .int .i64 0, .int .u64 0, .bool false] 43)
                  have Zo := hpA Zo (.cells #[.int .u32 0, .int .i64 0, .int .i64 0, .bool false, .int .u32 0, .int .i64 0, .int .i64 0, .int .i64 0, .int .i64 0, .slice none 0 0, .slice none 0 0, .int .i64 0, .int .i64 0, .int .i64 0, .int .u64 0, .bool false] 43)
                  have Zn := hpA Zn (.cells #[.int .u32 0, .int .i64 0, .int .i64 0, .bool false, .int .u32 0, .int .i64 0, .int .i64 0, .int .i64 0, .int .i64 0, .slice none 0 0, .slice none 0 0, .int .i64 0, .int .i64 0, .int .i64 0, .int .u64 0, .bool false] 43)
                  have ee := ee.alloc ee.size (.cells #[.int .u32 0, .int .i64 0, .int .i64 0, .bool false, .int .u32 0, .int .i64 0, .int .i64 0, .int .i64 0, .int .i64 0, .slice none 0 0, .slice none 0 0, .int .i64 0, .int .i64 0, .int .i64 0, .int .u64 0, .bool false] 43)
                  have Zm := hpN z12 (.cells #[.int .u32 0, .int .i64 0, .int .i64 0, .bool false, .int .u32 0, .int .i64 0, .int .i64 0, .int .i64 0, .int .i64 0, .slice none 0 0, .slice none 0 0, .int .i64 0, .int .i64 0, .int .i64 0, .int .u64 0, .bool false] 43) rfl
                  generalize z12.alloc (.cells #[.int .u32 0, .int .i64 0, .int .i64 0, .bool false, .int .u32 0, .int .i64 0, .int .i64 0, .int .i64 0, .int .i64 0, .slice none 0 0, .slice none 0 0, .int .i64 0, .int .i64 0, .int .i64 0, .int .u64 0, .bool false] 43) = z13 at Za Zw Zo Zn Zm  ee ⊢
                  refine hK.out _ _ ⟨rowAt Za, rowAt Zw, rangeB hr ee hbo⟩ (fun hH => ?_)
                  clear hK K hH
                  try simp only [Act.put, List.getElem_toArray, List.getElem_cons_zero, List.getElem_cons_succ, List.setIfInBounds_toArray, List.set_cons_zero, List.set_cons_succ]
                  refine wpAnyH_ready (rs := [13]) (by kernel_rfl) (by simp) ?_
                  refine AllReadyH.cons rfl (fun K hK => ?_) AllReadyH.nil
                  rw [if_pos (by rfl)]
                  refine wp_store_row 39 _ _ rfl (z10.heap.size) ((a.step o).cells).toArray rfl rfl 39 _ Zn sizeAc (by rfl) (Ac.one _) ?_
                  have N_ := setRow_heap z13 (z10.heap.size) _ ((a.step o).cells).toArray _ _ Zn
                  have ee := belowSet (cs := ((a.step o).cells).toArray) ee Zn (by omega)
                  have Za := hpR Za (g' := z10.heap.size) (by omega) ((a.step o).cells).toArray
                  have Zw := hpR Zw (g' := z10.heap.size) (by omega) ((a.step o).cells).toArray
                  have Zo := hpR Zo (g' := z10.heap.size) (by omega) ((a.step o).cells).toArray
                  have Zm := hpR Zm (g' := z10.heap.size) (by omega) ((a.step o).cells).toArray
                  clear Zn
                  have Zn := N_
                  clear N_
                  generalize z13.setRow (z10.heap.size) ((a.step o).cells).toArray = z14 at Za Zw Zo Zn Zm ee ⊢
                  refine hK.out _ _ ⟨rowAt Za, rowAt Zw, rangeB hr ee hbo⟩ (fun hH => ?_)
                  clear hK K hH
                  try simp only [Act.put, List.getElem_toArray, List.getElem_cons_zero, List.getElem_cons_succ, List.setIfInBounds_toArray, List.set_cons_zero, List.set_cons_succ]
                  refine wpAnyH_ready (rs := [14]) (by kernel_rfl) (by simp) ?_
                  refine AllReadyH.cons rfl (fun K hK => ?_) AllReadyH.nil
                  rw [if_pos (by rfl)]
                  refine wp_store_row 43 _ _ rfl (z12.heap.size) ((a.step o).cells).toArray rfl rfl 43 _ Zm sizeRAc (by rfl) (Ac.one _) ?_
                  have N_ := setRow_heap z14 (z12.heap.size) _ ((a.step o).cells).toArray _ _ Zm
                  have ee := belowSet (cs := ((a.step o).cells).toArray) ee Zm (by omega)
                  have Za := hpR Za (g' := z12.heap.size) (by omega) ((a.step o).cells).toArray
                  have Zw := hpR Zw (g' := z12.heap.size) (by omega) ((a.step o).cells).toArray
                  have Zo := hpR Zo (g' := z12.heap.size) (by omega) ((a.step o).cells).toArray
                  have Zn := hpR Zn (g' := z12.heap.size) (by omega) ((a.step o).cells).toArray
                  clear Zm
                  have Zm := N_
                  clear N_
                  generalize z14.setRow (z12.heap.size) ((a.step o).cells).toArray = z15 at Za Zw Zo Zn Zm ee ⊢
                  refine hK.out _ _ ⟨rowAt Za, rowAt Zw, rangeB hr ee hbo⟩ (fun hH => ?_)
                  clear hK K hH
                  try simp only [Act.put, List.getElem_toArray, List.getElem_cons_zero, List.getElem_cons_succ, List.setIfInBounds_toArray, List.set_cons_zero, List.set_cons_succ]
                  refine wpAnyH_take (i := 15) (v := .bool true) rfl (by kernel_rfl) (by kernel_rfl) (by kernel_rfl) (fun _ _ _ h => h) (Or.inl ⟨by rfl, fun w_ hS_ => by (first | (go_simp; done) | (go_simp; rfl))⟩) ⟨rowAt Za, rowAt Zw, rangeB hr ee hbo⟩ ?_
                  try simp only [Act.put, List.getElem_toArray, List.getElem_cons_zero, List.getElem_cons_succ, List.setIfInBounds_toArray, List.set_cons_zero, List.set_cons_succ]
                  refine wpAnyH_done (by kernel_rfl) ?_ _
                  go_wp2_with fail
                  go_meet
                  exact ⟨_, _, rfl, rfl, rfl, by show _ < _; omega, by show _ < _; omega, Za, Zw, Zn, Zm, Zo, ee⟩
                · rw [if_pos (by rfl)]
                  go_simp
                  have lZa := (Array.getElem?_eq_some_iff.1 Za).1
                  have lZw := (Array.getElem?_eq_some_iff.1 Zw).1
                  have lZo := (Array.getElem?_eq_some_iff.1 Zo).1
                  have lZn := (Array.getElem?_eq_some_iff.1 Zn).1
                  have Za := hpA Za (.cells #[.int .u32 0, .int .i64 0, .int .i64 0, .bool false, .int .u32 0, .int .i64 0, .int .i64 0, .int .i64 0, .int .i64 0, .slice none 0 0, .slice none 0 0, .int .i64 0, .int .i64 0, .int .i64 0, .int .u64 0, .bool false] 43)
                  have Zw := hpA Zw (.cells #[.int .u32 0, .int .i64 0, .int .i64 0, .bool false, .int .u32 0, .int .i64 0, .int .i64 0, .int .i64 0, .int .i64 0, .slice none 0 0, .slice none 0 0, .int .i64 0, .int .i64 0, .int .i64 0, .int .u64 0, .bool false] 43)
                  have Zo := hpA Zo (.cells #[.int .u32 0, .int .i64 0, .int .i64 0, .bool false, .int .u32 0, .int .i64 0, .int .i64 0, .int .i64 0, .int .i64 0, .slice none 0 0, .slice none 0 0, .int .i64 0, .int .i64 0, .int .i64 0, .int .u64 0, .bool false] 43)
                  have Zn := hpA Zn (.cells #[.int .u32 0, .int .i64 0, .int .i64 0, .bool false, .int .u32 0, .int .i64 0, .int .i64 0, .int .i64 0, .int .i64 0, .slice none 0 0, .slice none 0 0, .int .i64 0, .int .i64 0, .int .i64 0, .int .u64 0, .bool false] 43)
                  have ee := ee.alloc ee.size (.cells #[.int .u32 0, .int .i64 0, .int .i64 0, .bool false, .int .u32 0, .int .i64 0, .int .i64 0, .int .i64 0, .int .i64 0, .slice none 0 0, .slice none 0 0, .int .i64 0, .int .i64 0, .int .i64 0, .int .u64 0, .bool false] 43)
                  have Zm := hpN z11 (.cells #[.int .u32 0, .int .i64 0, .int .i64 0, .bool false, .int .u32 0, .int .i64 0, .int .i64 0, .int .i64 0, .int .i64 0, .slice none 0 0, .slice none 0 0, .int .i64 0, .int .i64 0, .int .i64 0, .int .u64 0, .bool false] 43) rfl
                  generalize z11.alloc (.cells #[.int .u32 0, .int .i64 0, .int .i64 0, .bool false, .int .u32 0, .int .i64 0, .int .i64 0, .int .i64 0, .int .i64 0, .slice none 0 0, .slice none 0 0, .int .i64 0, .int .i64 0, .int .i64 0, .int .u64 0, .bool false] 43) = z12 at Za Zw Zo Zn Zm  ee ⊢
                  refine hK.out _ _ ⟨rowAt Za, rowAt Zw, rangeB hr ee hbo⟩ (fun hH => ?_)
                  clear hK K hH
                  try simp only [Act.put, List.getElem_toArray, List.getElem_cons_zero, List.getElem_cons_succ, List.setIfInBounds_toArray, List.set_cons_zero, List.set_cons_succ]
                  refine wpAnyH_ready (rs := [6]) (by kernel_rfl) (by simp) ?_
                  refine AllReadyH.cons rfl (fun K hK => ?_) AllReadyH.nil
                  rw [if_pos (by rfl)]
                  go_simp
                  go_wp2_with (go_at_call 17; refine (HACT.out z12 ee).mono ?_; rintro e z13 ⟨rfl, t⟩)
                  have Za := hpB Za t
                  have Zw := hpB Zw t
                  have Zo := hpB Zo t
                  have Zn := hpB Zn t
                  have Zm := hpB Zm t
                  have ee := ee.trans (t.mono ee.size)
                  clear t
                  refine hK.out _ _ ⟨rowAt Za, rowAt Zw, rangeB hr ee hbo⟩ (fun hH => ?_)
                  clear hK K hH
                  try simp only [Act.put, List.getElem_toArray, List.getElem_cons_zero, List.getElem_cons_succ, List.setIfInBounds_toArray, List.set_cons_zero, List.set_cons_succ]
                  refine wpAnyH_take (i := 7) (v := .tuple #[.agg (a.step o).cells.toArray, .agg (a.step o).cells.toArray, .bool true]) rfl (by kernel_rfl) (by kernel_rfl) (by kernel_rfl) (fun _ _ _ h => h) (Or.inl ⟨by rfl, fun w_ hS_ => by (first | (go_simp; done) | (go_simp; rfl))⟩) ⟨rowAt Za, rowAt Zw, rangeB hr ee hbo⟩ ?_
                  try simp only [Act.put, List.getElem_toArray, List.getElem_cons_zero, List.getElem_cons_succ, List.setIfInBounds_toArray, List.set_cons_zero, List.set_cons_succ]
                  refine wpAnyH_take (i := 8) (v := .agg (a.step o).cells.toArray) rfl (by kernel_rfl) (by kernel_rfl) (by kernel_rfl) (fun _ _ _ h => h) (Or.inl ⟨by rfl, fun w_ hS_ => by (first | (go_simp; done) | (go_simp; rfl))⟩) ⟨rowAt Za, rowAt Zw, rangeB hr ee hbo⟩ ?_
                  try simp only [Act.put, List.getElem_toArray, List.getElem_cons_zero, List.getElem_cons_succ, List.setIfInBounds_toArray, List.set_cons_zero, List.set_cons_succ]
                  refine wpAnyH_take (i := 9) (v := .agg (a.step o).cells.toArray) rfl (by kernel_rfl) (by kernel_rfl) (by kernel_rfl) (fun _ _ _ h => h) (Or.inl ⟨by rfl, fun w_ hS_ => by (first | (go_simp; done) | (go_simp; rfl))⟩) ⟨rowAt Za, rowAt Zw, rangeB hr ee hbo⟩ ?_
                  try simp only [Act.put, List.getElem_toArray, List.getElem_cons_zero, List.getElem_cons_succ, List.setIfInBounds_toArray, List.set_cons_zero, List.set_cons_succ]
                  refine wpAnyH_take (i := 10) (v := .bool true) rfl (by kernel_rfl) (by kernel_rfl) (by kernel_rfl) (fun _ _ _ h => h) (Or.inl ⟨by rfl, fun w_ hS_ => by (first | (go_simp; done) | (go_simp; rfl))⟩) ⟨rowAt Za, rowAt Zw, rangeB hr ee hbo⟩ ?_
                  try simp only [Act.put, List.getElem_toArray, List.getElem_cons_zero, List.getElem_cons_succ, List.setIfInBounds_toArray, List.set_cons_zero, List.set_cons_succ]
                  refine wpAnyH_ready (rs := [13]) (by kernel_rfl) (by simp) ?_
                  refine AllReadyH.cons rfl (fun K hK => ?_) AllReadyH.nil
                  rw [if_pos (by rfl)]
                  refine wp_store_row 39 _ _ rfl (z10.heap.size) ((a.step o).cells).toArray rfl rfl 39 _ Zn sizeAc (by rfl) (Ac.one _) ?_
                  have N_ := setRow_heap z13 (z10.heap.size) _ ((a.step o).cells).toArray _ _ Zn
                  have ee := belowSet (cs := ((a.step o).cells).toArray) ee Zn (by omega)
                  have Za := hpR Za (g' := z10.heap.size) (by omega) ((a.step o).cells).toArray
                  have Zw := hpR Zw (g' := z10.heap.size) (by omega) ((a.step o).cells).toArray
                  have Zo := hpR Zo (g' := z10.heap.size) (by omega) ((a.step o).cells).toArray
                  have Zm := hpR Zm (g' := z10.heap.size) (by omega) ((a.step o).cells).toArray
                  clear Zn
                  have Zn := N_
                  clear N_
                  generalize z13.setRow (z10.heap.size) ((a.step o).cells).toArray = z14 at Za Zw Zo Zn Zm ee ⊢
                  refine hK.out _ _ ⟨rowAt Za, rowAt Zw, rangeB hr ee hbo⟩ (fun hH => ?_)
                  clear hK K hH
                  try simp only [Act.put, List.getElem_toArray, List.getElem_cons_zero, List.getElem_cons_succ, List.setIfInBounds_toArray, List.set_cons_zero, List.set_cons_succ]
                  refine wpAnyH_ready (rs := [14]) (by kernel_rfl) (by simp) ?_
                  refine AllReadyH.cons rfl (fun K hK => ?_) AllReadyH.nil
                  rw [if_pos (by rfl)]
                  refine wp_store_row 43 _ _ rfl (z11.heap.size) ((a.step o).cells).toArray rfl rfl 43 _ Zm sizeRAc (by rfl) (Ac.one _) ?_
                  have N_ := setRow_heap z14 (z11.heap.size) _ ((a.step o).cells).toArray _ _ Zm
                  have ee := belowSet (cs := ((a.step o).cells).toArray) ee Zm (by omega)
                  have Za := hpR Za (g' := z11.heap.size) (by omega) ((a.step o).cells).toArray
                  have Zw := hpR Zw (g' := z11.heap.size) (by omega) ((a.step o).cells).toArray
                  have Zo := hpR Zo (g' := z11.heap.size) (by omega) ((a.step o).cells).toArray
                  have Zn := hpR Zn (g' := z11.heap.size) (by omega) ((a.step o).cells).toArray
                  clear Zm
                  have Zm := N_
                  clear N_
                  generalize z14.setRow (z11.heap.size) ((a.step o).cells).toArray = z15 at Za Zw Zo Zn Zm ee ⊢
                  refine hK.out _ _ ⟨rowAt Za, rowAt Zw, rangeB hr ee hbo⟩ (fun hH => ?_)
                  clear hK K hH
                  try simp only [Act.put, List.getElem_toArray, List.getElem_cons_zero, List.getElem_cons_succ, List.setIfInBounds_toArray, List.set_cons_zero, List.set_cons_succ]
                  refine wpAnyH_take (i := 15) (v := .bool true) rfl (by kernel_rfl) (by kernel_rfl) (by kernel_rfl) (fun _ _ _ h => h) (Or.inl ⟨by rfl, fun w_ hS_ => by (first | (go_simp; done) | (go_simp; rfl))⟩) ⟨rowAt Za, rowAt Zw, rangeB hr ee hbo⟩ ?_
                  try simp only [Act.put, List.getElem_toArray, List.getElem_cons_zero, List.getElem_cons_succ, List.setIfInBounds_toArray, List.set_cons_zero, List.set_cons_succ]
                  refine wpAnyH_done (by kernel_rfl) ?_ _
                  go_wp2_with fail
                  go_meet
                  exact ⟨_, _, rfl, rfl, rfl, by show _ < _; omega, by show _ < _; omega, Za, Zw, Zn, Zm, Zo, ee⟩
              · rw [if_pos (by rfl)]
                go_simp
                have lZa := (Array.getElem?_eq_some_iff.1 Za).1
                have lZw := (Array.getElem?_eq_some_iff.1 Zw).1
                have lZo := (Array.getElem?_eq_some_iff.1 Zo).1
                have Za := hpA Za (.cells #[.int .u32 0, .int .i64 0, .int .i64 0, .bool false, .int .u32 0, .int .i64 0, .int .i64 0, .int .i64 0, .int .i64 0, .slice none 0 0, .slice none 0 0, .int .i64 0, .int .i64 0, .int .i64 0, .int .u64 0, .bool false] 43)
                have Zw := hpA Zw (.cells #[.int .u32 0, .int .i64 0, .int .i64 0, .bool false, .int .u32 0, .int .i64 0, .int .i64 0, .int .i64 0, .int .i64 0, .slice none 0 0, .slice none 0 0, .int .i64 0, .int .i64 0, .int .i64 0, .int .u64 0, .bool false] 43)
                have Zo := hpA Zo (.cells #[.int .u32 0, .int .i64 0, .int .i64 0, .bool false, .int .u32 0, .int .i64 0, .int .i64 0, .int .i64 0, .int .i64 0, .slice none 0 0, .slice none 0 0, .int .i64 0, .int .i64 0, .int .i64 0, .int .u64 0, .bool false] 43)
                have ee := ee.alloc ee.size (.cells #[.int .u32 0, .int .i64 0, .int .i64 0, .bool false, .int .u32 0, .int .i64 0, .int .i64 0, .int .i64 0, .int .i64 0, .slice none 0 0, .slice none 0 0, .int .i64 0, .int .i64 0, .int .i64 0, .int .u64 0, .bool false] 43)
                have Zm := hpN z10 (.cells #[.int .u32 0, .int .i64 0, .int .i64 0, .bool false, .int .u32 0, .int .i64 0, .int .i64 0, .int .i64 0, .int .i64 0, .slice none 0 0, .slice none 0 0, .int .i64 0, .int .i64 0, .int .i64 0, .int .u64 0, .bool false] 43) rfl
                generalize z10.alloc (.cells #[.int .u32 0, .int .i64 0, .int .i64 0, .bool false, .int .u32 0, .int .i64 0, .int .i64 0, .int .i64 0, .int .i64 0, .slice none 0 0, .slice none 0 0, .int .i64 0, .int .i64 0, .int .i64 0, .int .u64 0, .bool false] 43) = z11 at Za Zw Zo Zm  ee ⊢
                refine hK.out _ _ ⟨rowAt Za, rowAt Zw, rangeB hr ee hbo⟩ (fun hH => ?_)
                clear hK K hH
                try simp only [Act.put, List.getElem_toArray, List.getElem_cons_zero, List.getElem_cons_succ, List.setIfInBounds_toArray, List.set_cons_zero, List.set_cons_succ]
                refine wpAnyH_ready (rs := [6, 11]) (by kernel_rfl) (by simp) ?_
                refine AllReadyH.cons rfl (fun K hK => ?_) (AllReadyH.cons rfl (fun K hK => ?_) AllReadyH.nil)
                · rw [if_pos (by rfl)]
                  go_simp
                  go_wp2_with (go_at_call 17; refine (HACT.out z11 ee).mono ?_; rintro e z12 ⟨rfl, t⟩)
                  have Za := hpB Za t
                  have Zw := hpB Zw t
                  have Zo := hpB Zo t
                  have Zm := hpB Zm t
                  have ee := ee.trans (t.mono ee.size)
                  clear t
                  refine hK.out _ _ ⟨rowAt Za, rowAt Zw, rangeB hr ee hbo⟩ (fun hH => ?_)
                  clear hK K hH
                  try simp only [Act.put, List.getElem_toArray, List.getElem_cons_zero, List.getElem_cons_succ, List.setIfInBounds_toArray, List.set_cons_zero, List.set_cons_succ]
                  refine wpAnyH_take (i := 7) (v := .tuple #[.agg (a.step o).cells.toArray, .agg (a.step o).cells.toArray, .bool true]) rfl (by kernel_rfl) (by kernel_rfl) (by kernel_rfl) (fun _ _ _ h => h) (Or.inl ⟨by rfl, fun w_ hS_ => by (first | (go_simp; done) | (go_simp; rfl))⟩) ⟨rowAt Za, rowAt Zw, rangeB hr ee hbo⟩ ?_
                  try simp only [Act.put, List.getElem_toArray, List.getElem_cons_zero, List.getElem_cons_succ, List.setIfInBounds_toArray, List.set_cons_zero, List.set_cons_succ]
                  refine wpAnyH_take (i := 8) (v := .agg (a.step o).cells.toArray) rfl (by kernel_rfl) (by kernel_rfl) (by kernel_rfl) (fun _ _ _ h => h) (Or.inl ⟨by rfl, fun w_ hS_ => by (first | (go_simp; done) | (go_simp; rfl))⟩) ⟨rowAt Za, rowAt Zw, rangeB hr ee hbo⟩ ?_
                  try simp only [Act.put, List.getElem_toArray, List.getElem_cons_zero, List.getElem_cons_succ, List.setIfInBounds_toArray, List.set_cons_zero, List.set_cons_succ]
                  refine wpAnyH_take (i := 9) (v := .agg (a.step o).cells.toArray) rfl (by kernel_rfl) (by kernel_rfl) (by kernel_rfl) (fun _ _ _ h => h) (Or.inl ⟨by rfl, fun w_ hS_ => by (first | (go_simp; done) | (go_simp; rfl))⟩) ⟨rowAt Za, rowAt Zw, rangeB hr ee hbo⟩ ?_
                  try simp only [Act.put, List.getElem_toArray, List.getElem_cons_zero, List.getElem_cons_succ, List.setIfInBounds_toArray, List.set_cons_zero, List.set_cons_succ]
                  refine wpAnyH_take (i := 10) (v := .bool true) rfl (by kernel_rfl) (by kernel_rfl) (by kernel_rfl) (fun _ _ _ h => h) (Or.inl ⟨by rfl, fun w_ hS_ => by (first | (go_simp; done) | (go_simp; rfl))⟩) ⟨rowAt Za, rowAt Zw, rangeB hr ee hbo⟩ ?_
                  try simp only [Act.put, List.getElem_toArray, List.getElem_cons_zero, List.getElem_cons_succ, List.setIfInBounds_toArray, List.set_cons_zero, List.set_cons_succ]
                  refine wpAnyH_ready (rs := [11]) (by kernel_rfl) (by simp) ?_
                  refine AllReadyH.cons rfl (fun K hK => ?_) AllReadyH.nil
                  rw [if_pos (by rfl)]
                  go_simp
                  have lZa := (Array.getElem?_eq_some_iff.1 Za).1
                  have lZw := (Array.getElem?_eq_some_iff.1 Zw).1
                  have lZo := (Array.getElem?_eq_some_iff.1 Zo).1
                  have lZm := (Array.getElem?_eq_some_iff.1 Zm).1
                  have Za := hpA Za (.cells #[.int .u32 0, .int .i64 0, .int .i64 0, .bool false, .int .u32 0, .int .i64 0, .int .i64 0, .int .i64 0, .int .i64 0, .slice none 0 0, .slice none 0 0, .int .i64 0, .int .i64 0, .int .i64 0, .int .u64 0, .bool false] 39)
                  have Zw := hpA Zw (.cells #[.int .u32 0, .int .i64 0, .int .i64 0, .bool false, .int .u32 0, .int .i64 0, .int .i64 0, .int .i64 0, .int .i64 0, .slice none 0 0, .slice none 0 0, .int .i64 0, .int .i64 0, .int .i64 0, .int .u64 0, .bool false] 39)
                  have Zo := hpA Zo (.cells #[.int .u32 0, .int .i64 0, .int .i64 0, .bool false, .int .u32 0, .int .i64 0, .int .i64 0, .int .i64 0, .int .i64 0, .slice none 0 0, .slice none 0 0, .int .i64 0, .int .i64 0, .int .i64 0, .int .u64 0, .bool false] 39)
                  have Zm := hpA Zm (.cells #[.int .u32 0, .int .i64 0, .int .i64 0, .bool false, .int .u32 0, .int .i64 0, .int .i64 0, .int .i64 0, .int .i64 0, .slice none 0 0, .slice none 0 0, .int .i64 0, .int .i64 0, .int .i64 0, .int .u64 0, .bool false] 39)
                  have ee := ee.alloc ee.size (.cells #[.int .u32 0, .int .i64 0, .int .i64 0, .bool false, .int .u32 0, .int .i64 0, .int .i64 0, .int .i64 0, .int .i64 0, .slice none 0 0, .slice none 0 0, .int .i64 0, .int .i64 0, .int .i64 0, .int .u64 0, .bool false] 39)
                  have Zn := hpN z12 (.cells #[.int .u32 0, .int .i64 0, .int .i64 0, .bool false, .int .u32 0, .int .i64 0, .int .i64 0, .int .i64 0, .int .i64 0, .slice none 0 0, .slice none 0 0, .int .i64 0, .int .i64 0, .int .i64 0, .int .u64 0, .bool false] 39) rfl
                  generalize z12.alloc (.cells #[.int .u32 0, .int .i64 0, .int .i64 0, .bool false, .int .u32 0, .int .i64 0, .int .i64 0, .int .i64 0, .int .i64 0, .slice none 0 0, .slice none 0 0, .int .i64 0, .int .i64 0, .int .i64 0, .int .u64 0, .bool false] 39) = z13 at Za Zw Zo Zm Zn  ee ⊢
                  refine hK.out _ _ ⟨rowAt Za, rowAt Zw, rangeB hr ee hbo⟩ (fun hH => ?_)
                  clear hK K hH
                  try simp only [Act.put, List.getElem_toArray, List.getElem_cons_zero, List.getElem_cons_succ, List.setIfInBounds_toArray, List.set_cons_zero, List.set_cons_succ]
                  refine wpAnyH_ready (rs := [13]) (by kernel_rfl) (by simp) ?_
                  refine AllReadyH.cons rfl (fun K hK => ?_) AllReadyH.nil
                  rw [if_pos (by rfl)]
                  refine wp_store_row 39 _ _ rfl (z12.heap.size) ((a.step o).cells).toArray rfl rfl 39 _ Zn sizeAc (by rfl) (Ac.one _) ?_
                  have N_ := setRow_heap z13 (z12.heap.size) _ ((a.step o).cells).toArray _ _ Zn
                  have ee := belowSet (cs := ((a.step o).cells).toArray) ee Zn (by omega)
                  have Za := hpR Za (g' := z12.heap.size) (by omega) ((a.step o).cells).toArray
                  have Zw := hpR Zw (g' := z12.heap.size) (by omega) ((a.step o).cells).toArray
                  have Zo := hpR Zo (g' := z12.heap.size) (by omega) ((a.step o).cells).toArray
                  have Zm := hpR Zm (g' := z12.heap.size) (by omega) ((a.step o).cells).toArray
                  clear Zn
                  have Zn := N_
                  clear N_
                  generalize z13.setRow (z12.heap.size) ((a.step o).cells).toArray = z14 at Za Zw Zo Zm Zn ee ⊢
                  refine hK.out _ _ ⟨rowAt Za, rowAt Zw, rangeB hr ee hbo⟩ (fun hH => ?_)
                  clear hK K hH
                  try simp only [Act.put, List.getElem_toArray, List.getElem_cons_zero, List.getElem_cons_succ, List.setIfInBounds_toArray, List.set_cons_zero, List.set_cons_succ]
                  refine wpAnyH_ready (rs := [14]) (by kernel_rfl) (by simp) ?_
                  refine AllReadyH.cons rfl (fun K hK => ?_) AllReadyH.nil
                  rw [if_pos (by rfl)]
                  refine wp_store_row 43 _ _ rfl (z10.heap.size) ((a.step o).cells).toArray rfl rfl 43 _ Zm sizeRAc (by rfl) (Ac.one _) ?_
                  have N_ := setRow_heap z14 (z10.heap.size) _ ((a.step o).cells).toArray _ _ Zm
                  have ee := belowSet (cs := ((a.step o).cells).toArray) ee Zm (by omega)
                  have Za := hpR Za (g' := z10.heap.size) (by omega) ((a.step o).cells).toArray
                  have Zw := hpR Zw (g' := z10.heap.size) (by omega) ((a.step o).cells).toArray
                  have Zo := hpR Zo (g' := z10.heap.size) (by omega) ((a.step o).cells).toArray
                  have Zn := hpR Zn (g' := z10.heap.size) (by omega) ((a.step o).cells).toArray
                  clear Zm
                  have Zm := N_
                  clear N_
                  generalize z14.setRow (z10.heap.size) ((a.step o).cells).toArray = z15 at Za Zw Zo Zm Zn ee ⊢
                  refine hK.out _ _ ⟨rowAt Za, rowAt Zw, rangeB hr ee hbo⟩ (fun hH => ?_)
                  clear hK K hH
                  try simp only [Act.put, List.getElem_toArray, List.getElem_cons_zero, List.getElem_cons_succ, List.setIfInBounds_toArray, List.set_cons_zero, List.set_cons_succ]
                  refine wpAnyH_take (i := 15) (v := .bool true) rfl (by kernel_rfl) (by kernel_rfl) (by kernel_rfl) (fun _ _ _ h => h) (Or.inl ⟨by rfl, fun w_ hS_ => by (first | (go_simp; done) | (go_simp; rfl))⟩) ⟨rowAt Za, rowAt Zw, rangeB hr ee hbo⟩ ?_
                  try simp only [Act.put, List.getElem_toArray, List.getElem_cons_zero, List.getElem_cons_succ, List.setIfInBounds_toArray, List.set_cons_zero, List.set_cons_succ]
                  refine wpAnyH_done (by kernel_rfl) ?_ _
                  go_wp2_with fail
                  go_meet
                  exact ⟨_, _, rfl, rfl, rfl, by show _ < _; omega, by show _ < _; omega, Za, Zw, Zn, Zm, Zo, ee⟩
                · rw [if_pos (by rfl)]
                  go_simp
                  have lZa := (Array.getElem?_eq_some_iff.1 Za).1
                  have lZw := (Array.getElem?_eq_some_iff.1 Zw).1
                  have lZo := (Array.getElem?_eq_some_iff.1 Zo).1
                  have lZm := (Array.getElem?_eq_some_iff.1 Zm).1
                  have Za := hpA Za (.cells #[.int .u32 0, .int .i64 0, .int .i64 0, .bool false, .int .u32 0, .int .i64 0, .int .i64 0, .int .i64 0, .int .i64 0, .slice none 0 0, .slice none 0 0, .int .i64 0, .int .i64 0, .int .i64 0, .int .u64 0, .bool false] 39)
                  have Zw := hpA Zw (.cells #[.int .u32 0, .int .i64 0, .int .i64 0, .bool false, .int .u32 0, .int .i64 0, .int .i64 0, .int .i64 0, .int .i64 0, .slice none 0 0, .slice none 0 0, .int .i64 0, .int .i64 0, .int .i64 0, .int .u64 0, .bool false] 39)
                  have Zo := hpA Zo (.cells #[.int .u32 0, .int .i64 0, .int .i64 0, .bool false, .int .u32 0, .int .i64 0, .int .i64 0, .int .i64 0, .int .i64 0, .slice none 0 0, .slice none 0 0, .int .i64 0, .int .i64 0, .int .i64 0, .int .u64 0, .bool false] 39)
                  have Zm := hpA Zm (.cells #[.int .u32 0, .int .i64 0, .int .i64 0, .bool false, .int .u32 0, .int .i64 0, .int .i64 0, .int .i64 0, .int .i64 0, .slice none 0 0, .slice none 0 0, .int .i64 0, .int .i64 0, .int .i64 0, .int .u64 0, .bool false] 39)
                  have ee := ee.alloc ee.size (.cells #[.int .u32 0, .int .i64 0, .int .i64 0, .bool false, .int .u32 0, .int .i64 0, .int .i64 0, .int .i64 0, .int .i64 0, .slice none 0 0, .slice none 0 0, .int .i64 0, .int .i64 0, .int .i64 0, .int .u64 0, .bool false] 39)
                  have Zn := hpN z11 (.cells #[.int .u32 0, .int .i64 0, .int .i64 0, .bool false, .int .u32 0, .int .i64 0, .int .i64 0, .int .i64 0, .int .i64 0, .slice none 0 0, .slice none 0 0, .int .i64 0, .int .i64 0, .int .i64 0, .int .u64 0, .bool false] 39) rfl
                  generalize z11.alloc (.cells #[.int .u32 0, .int .i64 0, .int .i64 0, .bool false, .int .u32 0, .int .i64 0, .int .i64 0, .int .i64 0, .int .i64 0, .slice none 0 0, .slice none 0 0, .int .i64 0, .int .i64 0, .int .i64 0, .int .u64 0, .bool false] 39) = z12 at Za Zw Zo Zm Zn  ee ⊢
                  refine hK.out _ _ ⟨rowAt Za, rowAt Zw, rangeB hr ee hbo⟩ (fun hH => ?_)
                  clear hK K hH
                  try simp only [Act.put, List.getElem_toArray, List.getElem_cons_zero, List.getElem_cons_succ, List.setIfInBounds_toArray, List.set_cons_zero, List.set_cons_succ]
                  refine wpAnyH_ready (rs := [6]) (by kernel_rfl) (by simp) ?_
                  refine AllReadyH.cons rfl (fun K hK => ?_) AllReadyH.nil
                  rw [if_pos (by rfl)]
                  go_simp
                  go_wp2_with (go_at_call 17; refine (HACT.out z12 ee).mono ?_; rintro e z13 ⟨rfl, t⟩)
                  have Za := hpB Za t
                  have Zw := hpB Zw t
                  have Zo := hpB Zo t
                  have Zm := hpB Zm t
                  have Zn := hpB Zn t
                  have ee := ee.trans (t.mono ee.size)
                  clear t
                  refine hK.out _ _ ⟨rowAt Za, rowAt Zw, rangeB hr ee hbo⟩ (fun hH => ?_)
                  clear hK K hH
                  try simp only [Act.put, List.getElem_toArray, List.getElem_cons_zero, List.getElem_cons_succ, List.setIfInBounds_toArray, List.set_cons_zero, List.set_cons_succ]
                  refine wpAnyH_take (i := 7) (v := .tuple #[.agg (a.step o).cells.toArray, .agg (a.step o).cells.toArray, .bool true]) rfl (by kernel_rfl) (by kernel_rfl) (by kernel_rfl) (fun _ _ _ h => h) (Or.inl ⟨by rfl, fun w_ hS_ => by (first | (go_simp; done) | (go_simp; rfl))⟩) ⟨rowAt Za, rowAt Zw, rangeB hr ee hbo⟩ ?_
                  try simp only [Act.put, List.getElem_toArray, List.getElem_cons_zero, List.getElem_cons_succ, List.setIfInBounds_toArray, List.set_cons_zero, List.set_cons_succ]
                  refine wpAnyH_take (i := 8) (v := .agg (a.step o).cells.toArray) rfl (by kernel_rfl) (by kernel_rfl) (by kernel_rfl) (fun _ _ _ h => h) (Or.inl ⟨by rfl, fun w_ hS_ => by (first | (go_simp; done) | (go_simp; rfl))⟩) ⟨rowAt Za, rowAt Zw, rangeB hr ee hbo⟩ ?_
                  try simp only [Act.put, List.getElem_toArray, List.getElem_cons_zero, List.getElem_cons_succ, List.setIfInBounds_toArray, List.set_cons_zero, List.set_cons_succ]
                  refine wpAnyH_take (i := 9) (v := .agg (a.step o).cells.toArray) rfl (by kernel_rfl) (by kernel_rfl) (by kernel_rfl) (fun _ _ _ h => h) (Or.inl ⟨by rfl, fun w_ hS_ => by (first | (go_simp; done) | (go_simp; rfl))⟩) ⟨rowAt Za, rowAt Zw, rangeB hr ee hbo⟩ ?_
                  try simp only [Act.put, List.getElem_toArray, List.getElem_cons_zero, List.getElem_cons_succ, List.setIfInBounds_toArray, List.set_cons_zero, List.set_cons_succ]
                  refine wpAnyH_take (i := 10) (v := .bool true) rfl (by kernel_rfl) (by kernel_rfl) (by kernel_rfl) (fun _ _ _ h => h) (Or.inl ⟨by rfl, fun w_ hS_ => by (first | (go_simp; done) | (go_simp; rfl))⟩) ⟨rowAt Za, rowAt Zw, rangeB hr ee hbo⟩ ?_
                  try simp only [Act.put, List.getElem_toArray, List.getElem_cons_zero, List.getElem_cons_succ, List.setIfInBounds_toArray, List.set_cons_zero, List.set_cons_succ]
                  refine wpAnyH_ready (rs := [13]) (by kernel_rfl) (by simp) ?_
                  refine AllReadyH.cons rfl (fun K hK => ?_) AllReadyH.nil
                  rw [if_pos (by rfl)]
                  refine wp_store_row 39 _ _ rfl (z11.heap.size) ((a.step o).cells).toArray rfl rfl 39 _ Zn sizeAc (by rfl) (Ac.one _) ?_
                  have N_ := setRow_heap z13 (z11.heap.size) _ ((a.step o).cells).toArray _ _ Zn
                  have ee := belowSet (cs := ((a.step o).cells).toArray) ee Zn (by omega)
                  have Za := hpR Za (g' := z11.heap.size) (by omega) ((a.step o).cells).toArray
                  have Zw := hpR Zw (g' := z11.heap.size) (by omega) ((a.step o).cells).toArray
                  have Zo := hpR Zo (g' := z11.heap.size) (by omega) ((a.step o).cells).toArray
                  have Zm := hpR Zm (g' := z11.heap.size) (by omega) ((a.step o).cells).toArray
                  clear Zn
                  have Zn := N_
                  clear N_
                  generalize z13.setRow (z11.heap.size) ((a.step o).cells).toArray = z14 at Za Zw Zo Zm Zn ee ⊢
                  refine hK.out _ _ ⟨rowAt Za, rowAt Zw, rangeB hr ee hbo⟩ (fun hH => ?_)
                  clear hK K hH
                  try simp only [Act.put, List.getElem_toArray, List.getElem_cons_zero, List.getElem_cons_succ, List.setIfInBounds_toArray, List.set_cons_zero, List.set_cons_succ]
                  refine wpAnyH_ready (rs := [14]) (by kernel_rfl) (by simp) ?_
                  refine AllReadyH.cons rfl (fun K hK => ?_) AllReadyH.nil
                  rw [if_pos (by rfl)]
                  refine wp_store_row 43 _ _ rfl (z10.heap.size) ((a.step o).cells).toArray rfl rfl 43 _ Zm sizeRAc (by rfl) (Ac.one _) ?_
                  have N_ := setRow_heap z14 (z10.heap.size) _ ((a.step o).cells).toArray _ _ Zm
                  have ee := belowSet (cs := ((a.step o).cells).toArray) ee Zm (by omega)
                  have Za := hpR Za (g' := z10.heap.size) (by omega) ((a.step o).cells).toArray
                  have Zw := hpR Zw (g' := z10.heap.size) (by omega) ((a.step o).cells).toArray
                  have Zo := hpR Zo (g' := z10.heap.size) (by omega) ((a.step o).cells).toArray
                  have Zn := hpR Zn (g' := z10.heap.size) (by omega) ((a.step o).cells).toArray
                  clear Zm
                  have Zm := N_
                  clear N_
                  generalize z14.setRow (z10.heap.size) ((a.step o).cells).toArray = z15 at Za Zw Zo Zm Zn ee ⊢
                  refine hK.out _ _ ⟨rowAt Za, rowAt Zw, rangeB hr ee hbo⟩ (fun hH => ?_)
                  clear hK K hH
                  try simp only [Act.put, List.getElem_toArray, List.getElem_cons_zero, List.getElem_cons_succ, List.setIfInBounds_toArray, List.set_cons_zero, List.set_cons_succ]
                  refine wpAnyH_take (i := 15) (v := .bool true) rfl (by kernel_rfl) (by kernel_rfl) (by kernel_rfl) (fun _ _ _ h => h) (Or.inl ⟨by rfl, fun w_ hS_ => by (first | (go_simp; done) | (go_simp; rfl))⟩) ⟨rowAt Za, rowAt Zw, rangeB hr ee hbo⟩ ?_
                  try simp only [Act.put, List.getElem_toArray, List.getElem_cons_zero, List.getElem_cons_succ, List.setIfInBounds_toArray, List.set_cons_zero, List.set_cons_succ]
                  refine wpAnyH_done (by kernel_rfl) ?_ _
                  go_wp2_with fail
                  go_meet
                  exact ⟨_, _, rfl, rfl, rfl, by show _ < _; omega, by show _ < _; omega, Za, Zw, Zn, Zm, Zo, ee⟩
            case rest =>
              obtain ⟨g1, g2, rfl, rfl, rfl, hg1, hg2, Za, Zw, Zn, Zm, Zo, ee⟩ := hcut
              have nm : ∀ z : World, Below w.heap.size w z → ∃ z', z' = z := fun z _ => ⟨z, rfl⟩
              obtain ⟨y0, hy0⟩ := nm _ ee.out
              subst hy0
              clear nm HACT
              have hg1 := hg1.out
              have hg2 := hg2.out
              have Za := Za.out
              have Zw := Zw.out
              have Zn := Zn.out
              have Zm := Zm.out
              have ee := ee.out
              have Zo := Zo.out
              go_upto_region 11 with fail
              refine wp_region_lit ?_
              iterate 27 (first | with_reducible refine isLoad (ty := 39) rfl ?_ | go_step)
              refine wpList_load_mid rfl 39 _ rfl (g1) 0 rfl ((a.step o).cells) _ (rowAt Zn) Tryd.underlying39 rfl sizeAc ?_
              clear Zn
              iterate 27 (first | with_reducible refine isStore (ty := 39) rfl ?_ | go_step)
              refine wpList_store_row rfl 39 _ _ rfl (ga) ((a.step o).cells).toArray rfl rfl 39 _ Za sizeAc (by rfl) (Ac.one _) ?_
              have N_ := setRow_heap y0 (ga) _ ((a.step o).cells).toArray _ _ Za
              have ee := belowSet (cs := ((a.step o).cells).toArray) ee Za (by omega)
              have Zw := hpR Zw (g' := ga) (by omega) ((a.step o).cells).toArray
              have Zo := hpR Zo (g' := ga) (by omega) ((a.step o).cells).toArray
              have Zm := hpR Zm (g' := ga) (by omega) ((a.step o).cells).toArray
              clear Za
              have Za := N_
              clear N_
              generalize y0.setRow (ga) ((a.step o).cells).toArray = z50 at Za Zw Zo Zm ee ⊢
              go_upto_region 12 with fail
              refine wp_region_lit ?_
              iterate 27 (first | with_reducible refine isLoad (ty := 43) rfl ?_ | go_step)
              refine wpList_load_mid rfl 43 _ rfl (g2) 0 rfl ((a.step o).cells) _ (rowAt Zm) Tryd.underlying43 rfl sizeRAc ?_
              clear Zm
              iterate 27 (first | with_reducible refine isStore (ty := 43) rfl ?_ | go_step)
              refine wpList_store_row rfl 43 _ _ rfl (gb) ((a.step o).cells).toArray rfl rfl 43 _ Zw sizeRAc (by rfl) (Ac.one _) ?_
              have N_ := setRow_heap z50 (gb) _ ((a.step o).cells).toArray _ _ Zw
              have ee := belowSet (cs := ((a.step o).cells).toArray) ee Zw (by omega)
              have Za := hpR Za (g' := gb) (by omega) ((a.step o).cells).toArray
              have Zo := hpR Zo (g' := gb) (by omega) ((a.step o).cells).toArray
              clear Zw
              have Zw := N_
              clear N_
              generalize z50.setRow (gb) ((a.step o).cells).toArray = z51 at Za Zw Zo ee ⊢
              go_wp2_with fail
              go_roundw
              case rel => exact ⟨k + 1, a.step o, by omega, by go_num, Za, Zw, Zo, HC2, ee⟩
              case measure => simp [intOf]; omega
        · obtain rfl : k = n := by omega
          clear Zw
          have HAG := Lib.hid (Ac.prep_again a oo.br oo.bn)
          have HAV := Lib.hid (Ac.vote_again a oo.br oo.bn oo.sn oo.x)
          have HAL := Lib.hid (Ac.learn_once a oo.sn)
          have HCP := Lib.hid (Ac.prep_ok HC.out oo.br oo.bn)
          have HCV := Lib.hid (Ac.vote_ok HC.out oo.br oo.bn oo.sn HO.out)
          have HCL := Lib.hid (Ac.learn_ok HC.out oo.sn)
          have H1 := Lib.hid (fun z (hz : Below w.heap.size w z) => c_prep a oo.br oo.bn z w.heap.size hz.size (HC.out.below hz (Nat.le_refl _)) (HT.out.below hz))
          have H2 : Hid (∀ z, Below w.heap.size w z → Calls Tryd.prog 23 #[.agg (a.prep oo.br oo.bn).cells.toArray, .agg #[.int .u32 (oo.br : Int), .int .i64 oo.bn]] z fun e w' => e = .returned (.tuple #[.agg (a.prep oo.br oo.bn).cells.toArray, .bool (a.may oo.br oo.bn)]) ∧ Below z.heap.size z w') := fun z hz => by
            have := c_prep (a.prep oo.br oo.bn) oo.br oo.bn z w.heap.size hz.size (HCP.out.below hz (Nat.le_refl _)) (HT.out.below hz)
            rw [HAG.out.1, HAG.out.2] at this
            exact this
          have H3 := Lib.hid (fun z (hz : Below w.heap.size w z) => c_vote a oo.br oo.bn oo.sn oo.x z w.heap.size hz.size (HC.out.below hz (Nat.le_refl _)) (HO.out.below hz (Nat.le_refl _)) (HT.out.below hz))
          have H4 : Hid (∀ z, Below w.heap.size w z → Calls Tryd.prog 24 #[.agg (a.vote oo.br oo.bn oo.sn oo.x).cells.toArray, .agg #[.int .u32 (oo.br : Int), .int .i64 oo.bn], .int .i64 oo.sn, .agg oo.x.cells.toArray] z fun e w' => e = .returned (.tuple #[.agg (a.vote oo.br oo.bn oo.sn oo.x).cells.toArray, .int .i64 (a.how oo.br oo.bn oo.sn oo.x)]) ∧ Below z.heap.size z w') := fun z hz => by
            have := c_vote (a.vote oo.br oo.bn oo.sn oo.x) oo.br oo.bn oo.sn oo.x z w.heap.size hz.size (HCV.out.below hz (Nat.le_refl _)) (HO.out.below hz (Nat.le_refl _)) (HT.out.below hz)
            rw [HAV.out.1, HAV.out.2] at this
            exact this
          have H5 := Lib.hid (fun z (hz : Below w.heap.size w z) => c_learn a oo.sn z w.heap.size hz.size (HC.out.below hz (Nat.le_refl _)) (HT.out.below hz))
          have H6 := Lib.hid (fun z (hz : Below w.heap.size w z) => c_learn (a.learn oo.sn) oo.sn z w.heap.size hz.size (HCL.out.below hz (Nat.le_refl _)) (HT.out.below hz))
          have HS1 : Hid (∀ z, Below w.heap.size w z → Calls Tryd.prog 18 #[.agg (a.prep oo.br oo.bn).cells.toArray, .agg (a.prep oo.br oo.bn).cells.toArray] z fun e w' => e = .returned (.bool true) ∧ Below z.heap.size z w') := fun z hz => by
            have := cr_same (a.prep oo.br oo.bn) (a.prep oo.br oo.bn) z w.heap.size hz.size (HCP.out.below hz (Nat.le_refl _)) (HCP.out.below hz (Nat.le_refl _))
            rw [SameA.refl] at this
            exact this
          have HS2 : Hid (∀ z, Below w.heap.size w z → Calls Tryd.prog 18 #[.agg (a.vote oo.br oo.bn oo.sn oo.x).cells.toArray, .agg (a.vote oo.br oo.bn oo.sn oo.x).cells.toArray] z fun e w' => e = .returned (.bool true) ∧ Below z.heap.size z w') := fun z hz => by
            have := cr_same (a.vote oo.br oo.bn oo.sn oo.x) (a.vote oo.br oo.bn oo.sn oo.x) z w.heap.size hz.size (HCV.out.below hz (Nat.le_refl _)) (HCV.out.below hz (Nat.le_refl _))
            rw [SameA.refl] at this
            exact this
          generalize a.prep oo.br oo.bn = x1 at *
          generalize a.may oo.br oo.bn = m1 at *
          generalize a.vote oo.br oo.bn oo.sn oo.x = x2 at *
          generalize a.how oo.br oo.bn oo.sn oo.x = m2 at *
          generalize (a.learn oo.sn).learn oo.sn = x4 at *
          generalize (a.learn oo.sn).learns oo.sn = m4 at *
          generalize a.learn oo.sn = x3 at *
          generalize a.learns oo.sn = m3 at *
          clear HAG HAV HCP HCV HCL HC
          go_upto_region 13 with fail
          refine wp_region_lit ?_
          have k1 := rowCell Zo 1 (v := .int .u32 (oo.br : Int)) rfl
          have k2 := rowCell Zo 2 (v := .int .i64 oo.bn) rfl
          iterate 27 (first | with_reducible refine isLoad (ty := 39) rfl ?_ | go_step)
          refine wpList_load_mid rfl 39 _ rfl (ga) 0 rfl (a.cells) _ (rowAt Za) Tryd.underlying39 rfl sizeAc ?_
          go_wp2_with fail
          refine (H1.out wr ee).mono ?_
          rintro e z9 ⟨rfl, t⟩
          have Za := hpB Za t
          have Zo := hpB Zo t
          have ee := ee.trans (t.mono ee.size)
          clear t
          clear k1 k2
          dsimp only
          rename_i hK
          refine hK _ _ ?_
          clear hK
          have e0s := ee.size
          iterate 12 go_step
          have lZa := (Array.getElem?_eq_some_iff.1 Za).1
          have lZo := (Array.getElem?_eq_some_iff.1 Zo).1
          have Za := hpA Za (.cells #[.int .u32 0, .int .i64 0, .int .i64 0, .bool false, .int .u32 0, .int .i64 0, .int .i64 0, .int .i64 0, .int .i64 0, .slice none 0 0, .slice none 0 0, .int .i64 0, .int .i64 0, .int .i64 0, .int .u64 0, .bool false] 39)
          have Zo := hpA Zo (.cells #[.int .u32 0, .int .i64 0, .int .i64 0, .bool false, .int .u32 0, .int .i64 0, .int .i64 0, .int .i64 0, .int .i64 0, .slice none 0 0, .slice none 0 0, .int .i64 0, .int .i64 0, .int .i64 0, .int .u64 0, .bool false] 39)
          have ee := ee.alloc ee.size (.cells #[.int .u32 0, .int .i64 0, .int .i64 0, .bool false, .int .u32 0, .int .i64 0, .int .i64 0, .int .i64 0, .int .i64 0, .slice none 0 0, .slice none 0 0, .int .i64 0, .int .i64 0, .int .i64 0, .int .u64 0, .bool false] 39)
          have Z1 := hpN z9 (.cells #[.int .u32 0, .int .i64 0, .int .i64 0, .bool false, .int .u32 0, .int .i64 0, .int .i64 0, .int .i64 0, .int .i64 0, .slice none 0 0, .slice none 0 0, .int .i64 0, .int .i64 0, .int .i64 0, .int .u64 0, .bool false] 39) rfl
          generalize z9.alloc (.cells #[.int .u32 0, .int .i64 0, .int .i64 0, .bool false, .int .u32 0, .int .i64 0, .int .i64 0, .int .i64 0, .int .i64 0, .slice none 0 0, .slice none 0 0, .int .i64 0, .int .i64 0, .int .i64 0, .int .u64 0, .bool false] 39) = z10 at Za Zo Z1 ee ⊢
          iterate 27 (first | with_reducible refine isStore (ty := 39) rfl ?_ | go_step)
          refine wpList_store_row rfl 39 _ _ rfl (z9.heap.size) (x1.cells).toArray rfl rfl 39 _ Z1 sizeAc (by rfl) (Ac.one _) ?_
          have N_ := setRow_heap z10 (z9.heap.size) _ (x1.cells).toArray _ _ Z1
          have ee := belowSet (cs := (x1.cells).toArray) ee Z1 (by omega)
          have Za := hpR Za (g' := z9.heap.size) (by omega) (x1.cells).toArray
          have Zo := hpR Zo (g' := z9.heap.size) (by omega) (x1.cells).toArray
          clear Z1
          have Z1 := N_
          clear N_
          generalize z10.setRow (z9.heap.size) (x1.cells).toArray = z11 at Za Zo Z1 ee ⊢
          clear e0s
          iterate 3 go_step
          go_upto_region 14 with fail
          refine wp_region_lit ?_
          have k1 := rowCell Zo 1 (v := .int .u32 (oo.br : Int)) rfl
          have k2 := rowCell Zo 2 (v := .int .i64 oo.bn) rfl
          iterate 27 (first | with_reducible refine isLoad (ty := 39) rfl ?_ | go_step)
          refine wpList_load_mid rfl 39 _ rfl (z9.heap.size) 0 rfl ((x1.cells)) _ (rowAt Z1) Tryd.underlying39 rfl sizeAc ?_
          go_wp2_with fail
          refine (H2.out z11 ee).mono ?_
          rintro e z12 ⟨rfl, t⟩
          have Za := hpB Za t
          have Zo := hpB Zo t
          have Z1 := hpB Z1 t
          have ee := ee.trans (t.mono ee.size)
          clear t
          clear k1 k2
          dsimp only
          rename_i hK
          refine hK _ _ ?_
          clear hK
          have e0s := ee.size
          iterate 12 go_step
          have lZa := (Array.getElem?_eq_some_iff.1 Za).1
          have lZo := (Array.getElem?_eq_some_iff.1 Zo).1
          have lZ1 := (Array.getElem?_eq_some_iff.1 Z1).1
          have Za := hpA Za (.cells #[.int .u32 0, .int .i64 0, .int .i64 0, .bool false, .int .u32 0, .int .i64 0, .int .i64 0, .int .i64 0, .int .i64 0, .slice none 0 0, .slice none 0 0, .int .i64 0, .int .i64 0, .int .i64 0, .int .u64 0, .bool false] 39)
          have Zo := hpA Zo (.cells #[.int .u32 0, .int .i64 0, .int .i64 0, .bool false, .int .u32 0, .int .i64 0, .int .i64 0, .int .i64 0, .int .i64 0, .slice none 0 0, .slice none 0 0, .int .i64 0, .int .i64 0, .int .i64 0, .int .u64 0, .bool false] 39)
          have Z1 := hpA Z1 (.cells #[.int .u32 0, .int .i64 0, .int .i64 0, .bool false, .int .u32 0, .int .i64 0, .int .i64 0, .int .i64 0, .int .i64 0, .slice none 0 0, .slice none 0 0, .int .i64 0, .int .i64 0, .int .i64 0, .int .u64 0, .bool false] 39)
          have ee := ee.alloc ee.size (.cells #[.int .u32 0, .int .i64 0, .int .i64 0, .bool false, .int .u32 0, .int .i64 0, .int .i64 0, .int .i64 0, .int .i64 0, .slice none 0 0, .slice none 0 0, .int .i64 0, .int .i64 0, .int .i64 0, .int .u64 0, .bool false] 39)
          have Z2 := hpN z12 (.cells #[.int .u32 0, .int .i64 0, .int .i64 0, .bool false, .int .u32 0, .int .i64 0, .int .i64 0, .int .i64 0, .int .i64 0, .slice none 0 0, .slice none 0 0, .int .i64 0, .int .i64 0, .int .i64 0, .int .u64 0, .bool false] 39) rfl
          generalize z12.alloc (.cells #[.int .u32 0, .int .i64 0, .int .i64 0, .bool false, .int .u32 0, .int .i64 0, .int .i64 0, .int .i64 0, .int .i64 0, .slice none 0 0, .slice none 0 0, .int .i64 0, .int .i64 0, .int .i64 0, .int .u64 0, .bool false] 39) = z13 at Za Zo Z1 Z2 ee ⊢
          iterate 27 (first | with_reducible refine isStore (ty := 39) rfl ?_ | go_step)
          refine wpList_store_row rfl 39 _ _ rfl (z12.heap.size) (x1.cells).toArray rfl rfl 39 _ Z2 sizeAc (by rfl) (Ac.one _) ?_
          have N_ := setRow_heap z13 (z12.heap.size) _ (x1.cells).toArray _ _ Z2
          have ee := belowSet (cs := (x1.cells).toArray) ee Z2 (by omega)
          have Za := hpR Za (g' := z12.heap.size) (by omega) (x1.cells).toArray
          have Zo := hpR Zo (g' := z12.heap.size) (by omega) (x1.cells).toArray
          have Z1 := hpR Z1 (g' := z12.heap.size) (by omega) (x1.cells).toArray
          clear Z2
          have Z2 := N_
          clear N_
          generalize z13.setRow (z12.heap.size) (x1.cells).toArray = z14 at Za Zo Z1 Z2 ee ⊢
          clear e0s
          iterate 3 go_step
          go_upto_region 15 with fail
          refine wp_region_lit ?_
          have k1 := rowCell Zo 1 (v := .int .u32 (oo.br : Int)) rfl
          have k2 := rowCell Zo 2 (v := .int .i64 oo.bn) rfl
          have k3 := rowCell Zo 3 (v := .int .i64 oo.sn) rfl
          iterate 27 (first | with_reducible refine isLoad (ty := 39) rfl ?_ | go_step)
          refine wpList_load_mid rfl 39 _ rfl (ga) 0 rfl (a.cells) _ (rowAt Za) Tryd.underlying39 rfl sizeAc ?_
          iterate 27 (first | with_reducible refine isLoad (ty := 37) rfl ?_ | go_step)
          refine wpList_load_mid rfl 37 _ rfl (w.heap.size) 4 rfl (oo.x.cells) _ (rowMid Zo 4 (AOp.part oo)) Tryd.underlying37 rfl sizeCm ?_
          go_wp2_with fail
          refine (H3.out z14 ee).mono ?_
          rintro e z15 ⟨rfl, t⟩
          have Za := hpB Za t
          have Zo := hpB Zo t
          have Z1 := hpB Z1 t
          have Z2 := hpB Z2 t
          have ee := ee.trans (t.mono ee.size)
          clear t
          clear k1 k2 k3
          dsimp only
          rename_i hK
          refine hK _ _ ?_
          clear hK
          have e0s := ee.size
          iterate 12 go_step
          have lZa := (Array.getElem?_eq_some_iff.1 Za).1
          have lZo := (Array.getElem?_eq_some_iff.1 Zo).1
          have lZ1 := (Array.getElem?_eq_some_iff.1 Z1).1
          have lZ2 := (Array.getElem?_eq_some_iff.1 Z2).1
          have Za := hpA Za (.cells #[.int .u32 0, .int .i64 0, .int .i64 0, .bool false, .int .u32 0, .int .i64 0, .int .i64 0, .int .i64 0, .int .i64 0, .slice none 0 0, .slice none 0 0, .int .i64 0, .int .i64 0, .int .i64 0, .int .u64 0, .bool false] 39)
          have Zo := hpA Zo (.cells #[.int .u32 0, .int .i64 0, .int .i64 0, .bool false, .int .u32 0, .int .i64 0, .int .i64 0, .int .i64 0, .int .i64 0, .slice none 0 0, .slice none 0 0, .int .i64 0, .int .i64 0, .int .i64 0, .int .u64 0, .bool false] 39)
          have Z1 := hpA Z1 (.cells #[.int .u32 0, .int .i64 0, .int .i64 0, .bool false, .int .u32 0, .int .i64 0, .int .i64 0, .int .i64 0, .int .i64 0, .slice none 0 0, .slice none 0 0, .int .i64 0, .int .i64 0, .int .i64 0, .int .u64 0, .bool false] 39)
          have Z2 := hpA Z2 (.cells #[.int .u32 0, .int .i64 0, .int .i64 0, .bool false, .int .u32 0, .int .i64 0, .int .i64 0, .int .i64 0, .int .i64 0, .slice none 0 0, .slice none 0 0, .int .i64 0, .int .i64 0, .int .i64 0, .int .u64 0, .bool false] 39)
          have ee := ee.alloc ee.size (.cells #[.int .u32 0, .int .i64 0, .int .i64 0, .bool false, .int .u32 0, .int .i64 0, .int .i64 0, .int .i64 0, .int .i64 0, .slice none 0 0, .slice none 0 0, .int .i64 0, .int .i64 0, .int .i64 0, .int .u64 0, .bool false] 39)
          have Z3 := hpN z15 (.cells #[.int .u32 0, .int .i64 0, .int .i64 0, .bool false, .int .u32 0, .int .i64 0, .int .i64 0, .int .i64 0, .int .i64 0, .slice none 0 0, .slice none 0 0, .int .i64 0, .int .i64 0, .int .i64 0, .int .u64 0, .bool false] 39) rfl
          generalize z15.alloc (.cells #[.int .u32 0, .int .i64 0, .int .i64 0, .bool false, .int .u32 0, .int .i64 0, .int .i64 0, .int .i64 0, .int .i64 0, .slice none 0 0, .slice none 0 0, .int .i64 0, .int .i64 0, .int .i64 0, .int .u64 0, .bool false] 39) = z16 at Za Zo Z1 Z2 Z3 ee ⊢
          iterate 27 (first | with_reducible refine isStore (ty := 39) rfl ?_ | go_step)
          refine wpList_store_row rfl 39 _ _ rfl (z15.heap.size) (x2.cells).toArray rfl rfl 39 _ Z3 sizeAc (by rfl) (Ac.one _) ?_
          have N_ := setRow_heap z16 (z15.heap.size) _ (x2.cells).toArray _ _ Z3
          have ee := belowSet (cs := (x2.cells).toArray) ee Z3 (by omega)
          have Za := hpR Za (g' := z15.heap.size) (by omega) (x2.cells).toArray
          have Zo := hpR Zo (g' := z15.heap.size) (by omega) (x2.cells).toArray
          have Z1 := hpR Z1 (g' := z15.heap.size) (by omega) (x2.cells).toArray
          have Z2 := hpR Z2 (g' := z15.heap.size) (by omega) (x2.cells).toArray
          clear Z3
          have Z3 := N_
          clear N_
          generalize z16.setRow (z15.heap.size) (x2.cells).toArray = z17 at Za Zo Z1 Z2 Z3 ee ⊢
          clear e0s
          iterate 3 go_step
          go_upto_region 16 with fail
          refine wp_region_lit ?_
          have k1 := rowCell Zo 1 (v := .int .u32 (oo.br : Int)) rfl
          have k2 := rowCell Zo 2 (v := .int .i64 oo.bn) rfl
          have k3 := rowCell Zo 3 (v := .int .i64 oo.sn) rfl
          iterate 27 (first | with_reducible refine isLoad (ty := 39) rfl ?_ | go_step)
          refine wpList_load_mid rfl 39 _ rfl (z15.heap.size) 0 rfl ((x2.cells)) _ (rowAt Z3) Tryd.underlying39 rfl sizeAc ?_
          iterate 27 (first | with_reducible refine isLoad (ty := 37) rfl ?_ | go_step)
          refine wpList_load_mid rfl 37 _ rfl (w.heap.size) 4 rfl (oo.x.cells) _ (rowMid Zo 4 (AOp.part oo)) Tryd.underlying37 rfl sizeCm ?_
          go_wp2_with fail
          refine (H4.out z17 ee).mono ?_
          rintro e z18 ⟨rfl, t⟩
          have Za := hpB Za t
          have Zo := hpB Zo t
          have Z1 := hpB Z1 t
          have Z2 := hpB Z2 t
          have Z3 := hpB Z3 t
          have ee := ee.trans (t.mono ee.size)
          clear t
          clear k1 k2 k3
          dsimp only
          rename_i hK
          refine hK _ _ ?_
          clear hK
          have e0s := ee.size
          iterate 12 go_step
          have lZa := (Array.getElem?_eq_some_iff.1 Za).1
          have lZo := (Array.getElem?_eq_some_iff.1 Zo).1
          have lZ1 := (Array.getElem?_eq_some_iff.1 Z1).1
          have lZ2 := (Array.getElem?_eq_some_iff.1 Z2).1
          have lZ3 := (Array.getElem?_eq_some_iff.1 Z3).1
          have Za := hpA Za (.cells #[.int .u32 0, .int .i64 0, .int .i64 0, .bool false, .int .u32 0, .int .i64 0, .int .i64 0, .int .i64 0, .int .i64 0, .slice none 0 0, .slice none 0 0, .int .i64 0, .int .i64 0, .int .i64 0, .int .u64 0, .bool false] 39)
          have Zo := hpA Zo (.cells #[.int .u32 0, .int .i64 0, .int .i64 0, .bool false, .int .u32 0, .int .i64 0, .int .i64 0, .int .i64 0, .int .i64 0, .slice none 0 0, .slice none 0 0, .int .i64 0, .int .i64 0, .int .i64 0, .int .u64 0, .bool false] 39)
          have Z1 := hpA Z1 (.cells #[.int .u32 0, .int .i64 0, .int .i64 0, .bool false, .int .u32 0, .int .i64 0, .int .i64 0, .int .i64 0, .int .i64 0, .slice none 0 0, .slice none 0 0, .int .i64 0, .int .i64 0, .int .i64 0, .int .u64 0, .bool false] 39)
          have Z2 := hpA Z2 (.cells #[.int .u32 0, .int .i64 0, .int .i64 0, .bool false, .int .u32 0, .int .i64 0, .int .i64 0, .int .i64 0, .int .i64 0, .slice none 0 0, .slice none 0 0, .int .i64 0, .int .i64 0, .int .i64 0, .int .u64 0, .bool false] 39)
          have Z3 := hpA Z3 (.cells #[.int .u32 0, .int .i64 0, .int .i64 0, .bool false, .int .u32 0, .int .i64 0, .int .i64 0, .int .i64 0, .int .i64 0, .slice none 0 0, .slice none 0 0, .int .i64 0, .int .i64 0, .int .i64 0, .int .u64 0, .bool false] 39)
          have ee := ee.alloc ee.size (.cells #[.int .u32 0, .int .i64 0, .int .i64 0, .bool false, .int .u32 0, .int .i64 0, .int .i64 0, .int .i64 0, .int .i64 0, .slice none 0 0, .slice none 0 0, .int .i64 0, .int .i64 0, .int .i64 0, .int .u64 0, .bool false] 39)
          have Z4 := hpN z18 (.cells #[.int .u32 0, .int .i64 0, .int .i64 0, .bool false, .int .u32 0, .int .i64 0, .int .i64 0, .int .i64 0, .int .i64 0, .slice none 0 0, .slice none 0 0, .int .i64 0, .int .i64 0, .int .i64 0, .int .u64 0, .bool false] 39) rfl
          generalize z18.alloc (.cells #[.int .u32 0, .int .i64 0, .int .i64 0, .bool false, .int .u32 0, .int .i64 0, .int .i64 0, .int .i64 0, .int .i64 0, .slice none 0 0, .slice none 0 0, .int .i64 0, .int .i64 0, .int .i64 0, .int .u64 0, .bool false] 39) = z19 at Za Zo Z1 Z2 Z3 Z4 ee ⊢
          iterate 27 (first | with_reducible refine isStore (ty := 39) rfl ?_ | go_step)
          refine wpList_store_row rfl 39 _ _ rfl (z18.heap.size) (x2.cells).toArray rfl rfl 39 _ Z4 sizeAc (by rfl) (Ac.one _) ?_
          have N_ := setRow_heap z19 (z18.heap.size) _ (x2.cells).toArray _ _ Z4
          have ee := belowSet (cs := (x2.cells).toArray) ee Z4 (by omega)
          have Za := hpR Za (g' := z18.heap.size) (by omega) (x2.cells).toArray
          have Zo := hpR Zo (g' := z18.heap.size) (by omega) (x2.cells).toArray
          have Z1 := hpR Z1 (g' := z18.heap.size) (by omega) (x2.cells).toArray
          have Z2 := hpR Z2 (g' := z18.heap.size) (by omega) (x2.cells).toArray
          have Z3 := hpR Z3 (g' := z18.heap.size) (by omega) (x2.cells).toArray
          clear Z4
          have Z4 := N_
          clear N_
          generalize z19.setRow (z18.heap.size) (x2.cells).toArray = z20 at Za Zo Z1 Z2 Z3 Z4 ee ⊢
          clear e0s
          iterate 3 go_step
          go_upto_region 17 with fail
          refine wp_region_lit ?_
          have k3 := rowCell Zo 3 (v := .int .i64 oo.sn) rfl
          iterate 27 (first | with_reducible refine isLoad (ty := 39) rfl ?_ | go_step)
          refine wpList_load_mid rfl 39 _ rfl (ga) 0 rfl (a.cells) _ (rowAt Za) Tryd.underlying39 rfl sizeAc ?_
          go_wp2_with fail
          refine (H5.out z20 ee).mono ?_
          rintro e z21 ⟨rfl, t⟩
          have Za := hpB Za t
          have Zo := hpB Zo t
          have Z1 := hpB Z1 t
          have Z2 := hpB Z2 t
          have Z3 := hpB Z3 t
          have Z4 := hpB Z4 t
          have ee := ee.trans (t.mono ee.size)
          clear t
          clear k3
          dsimp only
          rename_i hK
          refine hK _ _ ?_
          clear hK
          have e0s := ee.size
          iterate 12 go_step
          have lZa := (Array.getElem?_eq_some_iff.1 Za).1
          have lZo := (Array.getElem?_eq_some_iff.1 Zo).1
          have lZ1 := (Array.getElem?_eq_some_iff.1 Z1).1
          have lZ2 := (Array.getElem?_eq_some_iff.1 Z2).1
          have lZ3 := (Array.getElem?_eq_some_iff.1 Z3).1
          have lZ4 := (Array.getElem?_eq_some_iff.1 Z4).1
          have Za := hpA Za (.cells #[.int .u32 0, .int .i64 0, .int .i64 0, .bool false, .int .u32 0, .int .i64 0, .int .i64 0, .int .i64 0, .int .i64 0, .slice none 0 0, .slice none 0 0, .int .i64 0, .int .i64 0, .int .i64 0, .int .u64 0, .bool false] 39)
          have Zo := hpA Zo (.cells #[.int .u32 0, .int .i64 0, .int .i64 0, .bool false, .int .u32 0, .int .i64 0, .int .i64 0, .int .i64 0, .int .i64 0, .slice none 0 0, .slice none 0 0, .int .i64 0, .int .i64 0, .int .i64 0, .int .u64 0, .bool false] 39)
          have Z1 := hpA Z1 (.cells #[.int .u32 0, .int .i64 0, .int .i64 0, .bool false, .int .u32 0, .int .i64 0, .int .i64 0, .int .i64 0, .int .i64 0, .slice none 0 0, .slice none 0 0, .int .i64 0, .int .i64 0, .int .i64 0, .int .u64 0, .bool false] 39)
          have Z2 := hpA Z2 (.cells #[.int .u32 0, .int .i64 0, .int .i64 0, .bool false, .int .u32 0, .int .i64 0, .int .i64 0, .int .i64 0, .int .i64 0, .slice none 0 0, .slice none 0 0, .int .i64 0, .int .i64 0, .int .i64 0, .int .u64 0, .bool false] 39)
          have Z3 := hpA Z3 (.cells #[.int .u32 0, .int .i64 0, .int .i64 0, .bool false, .int .u32 0, .int .i64 0, .int .i64 0, .int .i64 0, .int .i64 0, .slice none 0 0, .slice none 0 0, .int .i64 0, .int .i64 0, .int .i64 0, .int .u64 0, .bool false] 39)
          have Z4 := hpA Z4 (.cells #[.int .u32 0, .int .i64 0, .int .i64 0, .bool false, .int .u32 0, .int .i64 0, .int .i64 0, .int .i64 0, .int .i64 0, .slice none 0 0, .slice none 0 0, .int .i64 0, .int .i64 0, .int .i64 0, .int .u64 0, .bool false] 39)
          have ee := ee.alloc ee.size (.cells #[.int .u32 0, .int .i64 0, .int .i64 0, .bool false, .int .u32 0, .int .i64 0, .int .i64 0, .int .i64 0, .int .i64 0, .slice none 0 0, .slice none 0 0, .int .i64 0, .int .i64 0, .int .i64 0, .int .u64 0, .bool false] 39)
          have Z5 := hpN z21 (.cells #[.int .u32 0, .int .i64 0, .int .i64 0, .bool false, .int .u32 0, .int .i64 0, .int .i64 0, .int .i64 0, .int .i64 0, .slice none 0 0, .slice none 0 0, .int .i64 0, .int .i64 0, .int .i64 0, .int .u64 0, .bool false] 39) rfl
          generalize z21.alloc (.cells #[.int .u32 0, .int .i64 0, .int .i64 0, .bool false, .int .u32 0, .int .i64 0, .int .i64 0, .int .i64 0, .int .i64 0, .slice none 0 0, .slice none 0 0, .int .i64 0, .int .i64 0, .int .i64 0, .int .u64 0, .bool false] 39) = z22 at Za Zo Z1 Z2 Z3 Z4 Z5 ee ⊢
          iterate 27 (first | with_reducible refine isStore (ty := 39) rfl ?_ | go_step)
          refine wpList_store_row rfl 39 _ _ rfl (z21.heap.size) (x3.cells).toArray rfl rfl 39 _ Z5 sizeAc (by rfl) (Ac.one _) ?_
          have N_ := setRow_heap z22 (z21.heap.size) _ (x3.cells).toArray _ _ Z5
          have ee := belowSet (cs := (x3.cells).toArray) ee Z5 (by omega)
          have Za := hpR Za (g' := z21.heap.size) (by omega) (x3.cells).toArray
          have Zo := hpR Zo (g' := z21.heap.size) (by omega) (x3.cells).toArray
          have Z1 := hpR Z1 (g' := z21.heap.size) (by omega) (x3.cells).toArray
          have Z2 := hpR Z2 (g' := z21.heap.size) (by omega) (x3.cells).toArray
          have Z3 := hpR Z3 (g' := z21.heap.size) (by omega) (x3.cells).toArray
          have Z4 := hpR Z4 (g' := z21.heap.size) (by omega) (x3.cells).toArray
          clear Z5
          have Z5 := N_
          clear N_
          generalize z22.setRow (z21.heap.size) (x3.cells).toArray = z23 at Za Zo Z1 Z2 Z3 Z4 Z5 ee ⊢
          clear e0s
          iterate 3 go_step
          go_upto_region 18 with fail
          refine wp_region_lit ?_
          have k3 := rowCell Zo 3 (v := .int .i64 oo.sn) rfl
          iterate 27 (first | with_reducible refine isLoad (ty := 39) rfl ?_ | go_step)
          refine wpList_load_mid rfl 39 _ rfl (z21.heap.size) 0 rfl ((x3.cells)) _ (rowAt Z5) Tryd.underlying39 rfl sizeAc ?_
          go_wp2_with fail
          refine (H6.out z23 ee).mono ?_
          rintro e z24 ⟨rfl, t⟩
          have Za := hpB Za t
          have Zo := hpB Zo t
          have Z1 := hpB Z1 t
          have Z2 := hpB Z2 t
          have Z3 := hpB Z3 t
          have Z4 := hpB Z4 t
          have Z5 := hpB Z5 t
          have ee := ee.trans (t.mono ee.size)
          clear t
          clear k3
          dsimp only
          rename_i hK
          refine hK _ _ ?_
          clear hK
          have e0s := ee.size
          iterate 12 go_step
          have lZa := (Array.getElem?_eq_some_iff.1 Za).1
          have lZo := (Array.getElem?_eq_some_iff.1 Zo).1
          have lZ1 := (Array.getElem?_eq_some_iff.1 Z1).1
          have lZ2 := (Array.getElem?_eq_some_iff.1 Z2).1
          have lZ3 := (Array.getElem?_eq_some_iff.1 Z3).1
          have lZ4 := (Array.getElem?_eq_some_iff.1 Z4).1
          have lZ5 := (Array.getElem?_eq_some_iff.1 Z5).1
          have Za := hpA Za (.cells #[.int .u32 0, .int .i64 0, .int .i64 0, .bool false, .int .u32 0, .int .i64 0, .int .i64 0, .int .i64 0, .int .i64 0, .slice none 0 0, .slice none 0 0, .int .i64 0, .int .i64 0, .int .i64 0, .int .u64 0, .bool false] 39)
          have Zo := hpA Zo (.cells #[.int .u32 0, .int .i64 0, .int .i64 0, .bool false, .int .u32 0, .int .i64 0, .int .i64 0, .int .i64 0, .int .i64 0, .slice none 0 0, .slice none 0 0, .int .i64 0, .int .i64 0, .int .i64 0, .int .u64 0, .bool false] 39)
          have Z1 := hpA Z1 (.cells #[.int .u32 0, .int .i64 0, .int .i64 0, .bool false, .int .u32 0, .int .i64 0, .int .i64 0, .int .i64 0, .int .i64 0, .slice none 0 0, .slice none 0 0, .int .i64 0, .int .i64 0, .int .i64 0, .int .u64 0, .bool false] 39)
          have Z2 := hpA Z2 (.cells #[.int .u32 0, .int .i64 0, .int .i64 0, .bool false, .int .u32 0, .int .i64 0, .int .i64 0, .int .i64 0, .int .i64 0, .slice none 0 0, .slice none 0 0, .int .i64 0, .int .i64 0, .int .i64 0, .int .u64 0, .bool false] 39)
          have Z3 := hpA Z3 (.cells #[.int .u32 0, .int .i64 0, .int .i64 0, .bool false, .int .u32 0, .int .i64 0, .int .i64 0, .int .i64 0, .int .i64 0, .slice none 0 0, .slice none 0 0, .int .i64 0, .int .i64 0, .int .i64 0, .int .u64 0, .bool false] 39)
          have Z4 := hpA Z4 (.cells #[.int .u32 0, .int .i64 0, .int .i64 0, .bool false, .int .u32 0, .int .i64 0, .int .i64 0, .int .i64 0, .int .i64 0, .slice none 0 0, .slice none 0 0, .int .i64 0, .int .i64 0, .int .i64 0, .int .u64 0, .bool false] 39)
          have Z5 := hpA Z5 (.cells #[.int .u32 0, .int .i64 0, .int .i64 0, .bool false, .int .u32 0, .int .i64 0, .int .i64 0, .int .i64 0, .int .i64 0, .slice none 0 0, .slice none 0 0, .int .i64 0, .int .i64 0, .int .i64 0, .int .u64 0, .bool false] 39)
          have ee := ee.alloc ee.size (.cells #[.int .u32 0, .int .i64 0, .int .i64 0, .bool false, .int .u32 0, .int .i64 0, .int .i64 0, .int .i64 0, .int .i64 0, .slice none 0 0, .slice none 0 0, .int .i64 0, .int .i64 0, .int .i64 0, .int .u64 0, .bool false] 39)
          have Z6 := hpN z24 (.cells #[.int .u32 0, .int .i64 0, .int .i64 0, .bool false, .int .u32 0, .int .i64 0, .int .i64 0, .int .i64 0, .int .i64 0, .slice none 0 0, .slice none 0 0, .int .i64 0, .int .i64 0, .int .i64 0, .int .u64 0, .bool false] 39) rfl
          generalize z24.alloc (.cells #[.int .u32 0, .int .i64 0, .int .i64 0, .bool false, .int .u32 0, .int .i64 0, .int .i64 0, .int .i64 0, .int .i64 0, .slice none 0 0, .slice none 0 0, .int .i64 0, .int .i64 0, .int .i64 0, .int .u64 0, .bool false] 39) = z25 at Za Zo Z1 Z2 Z3 Z4 Z5 Z6 ee ⊢
          iterate 27 (first | with_reducible refine isStore (ty := 39) rfl ?_ | go_step)
          refine wpList_store_row rfl 39 _ _ rfl (z24.heap.size) (x4.cells).toArray rfl rfl 39 _ Z6 sizeAc (by rfl) (Ac.one _) ?_
          have N_ := setRow_heap z25 (z24.heap.size) _ (x4.cells).toArray _ _ Z6
          have ee := belowSet (cs := (x4.cells).toArray) ee Z6 (by omega)
          have Za := hpR Za (g' := z24.heap.size) (by omega) (x4.cells).toArray
          have Zo := hpR Zo (g' := z24.heap.size) (by omega) (x4.cells).toArray
          have Z1 := hpR Z1 (g' := z24.heap.size) (by omega) (x4.cells).toArray
          have Z2 := hpR Z2 (g' := z24.heap.size) (by omega) (x4.cells).toArray
          have Z3 := hpR Z3 (g' := z24.heap.size) (by omega) (x4.cells).toArray
          have Z4 := hpR Z4 (g' := z24.heap.size) (by omega) (x4.cells).toArray
          have Z5 := hpR Z5 (g' := z24.heap.size) (by omega) (x4.cells).toArray
          clear Z6
          have Z6 := N_
          clear N_
          generalize z25.setRow (z24.heap.size) (x4.cells).toArray = z26 at Za Zo Z1 Z2 Z3 Z4 Z5 Z6 ee ⊢
          clear e0s
          iterate 3 go_step
          go_upto_region 19 with fail
          clear H1 H2 H3 H4 H5 H6 Za Zo Z5 Z6
          cases m3 with
          | false =>
            clear HAL
            have Z1 : z26.drew.heap[z9.heap.size]? = some (.cells (x1.cells).toArray 39) := Z1
            have Z2 : z26.drew.heap[z12.heap.size]? = some (.cells (x1.cells).toArray 39) := Z2
            have Z3 : z26.drew.heap[z15.heap.size]? = some (.cells (x2.cells).toArray 39) := Z3
            have Z4 : z26.drew.heap[z18.heap.size]? = some (.cells (x2.cells).toArray 39) := Z4
            have ee := belowDrewS ee
            refine wp_region_held_drew (S := fun z' => z'.rangeAt (z9.heap.size) 0 x1.cells ∧ z'.rangeAt (z12.heap.size) 0 x1.cells ∧ z'.rangeAt (z15.heap.size) 0 x2.cells ∧ z'.rangeAt (z18.heap.size) 0 x2.cells) (by kernel_rfl) ⟨rowAt Z1, rowAt Z2, rowAt Z3, rowAt Z4⟩ (fun hH => ?_)
            clear hH
            generalize z26.drew = z27 at Z1 Z2 Z3 Z4  ee ⊢
            refine wpAnyH_take (i := 0) (v := .bool m1) rfl (by kernel_rfl) (by kernel_rfl) (by kernel_rfl) (fun _ _ _ h => h) (Or.inl ⟨by rfl, fun w_ hS_ => by (first | (go_simp; done) | (go_simp; rfl))⟩) ⟨rowAt Z1, rowAt Z2, rowAt Z3, rowAt Z4⟩ ?_
            try simp only [Act.put, List.getElem_toArray, List.getElem_cons_zero, List.getElem_cons_succ, List.setIfInBounds_toArray, List.set_cons_zero, List.set_cons_succ]
            refine wpAnyH_take (i := 1) (v := .bool m1) rfl (by kernel_rfl) (by kernel_rfl) (by kernel_rfl) (fun _ _ _ h => h) (Or.inl ⟨by rfl, fun w_ hS_ => by (first | (go_simp; done) | (go_simp; rfl))⟩) ⟨rowAt Z1, rowAt Z2, rowAt Z3, rowAt Z4⟩ ?_
            try simp only [Act.put, List.getElem_toArray, List.getElem_cons_zero, List.getElem_cons_succ, List.setIfInBounds_toArray, List.set_cons_zero, List.set_cons_succ]
            refine wpAnyH_take (i := 2) (v := .bool true) rfl (by kernel_rfl) (by kernel_rfl) (by kernel_rfl) (fun _ _ _ h => h) (Or.inl ⟨by rfl, fun w_ hS_ => by (go_simp; first | done | rfl | simp)⟩) ⟨rowAt Z1, rowAt Z2, rowAt Z3, rowAt Z4⟩ ?_
            try simp only [Act.put, List.getElem_toArray, List.getElem_cons_zero, List.getElem_cons_succ, List.setIfInBounds_toArray, List.set_cons_zero, List.set_cons_succ]
            refine wpAnyH_take (i := 3) (v := .bool true) rfl (by kernel_rfl) (by kernel_rfl) (by kernel_rfl) (fun _ _ _ h => h) (Or.inl ⟨by rfl, fun w_ hS_ => by (first | (go_simp; done) | (go_simp; rfl))⟩) ⟨rowAt Z1, rowAt Z2, rowAt Z3, rowAt Z4⟩ ?_
            try simp only [Act.put, List.getElem_toArray, List.getElem_cons_zero, List.getElem_cons_succ, List.setIfInBounds_toArray, List.set_cons_zero, List.set_cons_succ]
            refine wpAnyH_take (i := 4) (v := .agg ((x1.cells)).toArray) rfl (by kernel_rfl) (by kernel_rfl) (by kernel_rfl) (fun _ _ _ h => h) (yieldsIf_load_mid (by rfl) 39 _ rfl (z9.heap.size) 0 rfl ((x1.cells)) _ (fun _ h => h.1) Tryd.underlying39 rfl sizeAc) ⟨rowAt Z1, rowAt Z2, rowAt Z3, rowAt Z4⟩ ?_
            try simp only [Act.put, List.getElem_toArray, List.getElem_cons_zero, List.getElem_cons_succ, List.setIfInBounds_toArray, List.set_cons_zero, List.set_cons_succ]
            refine wpAnyH_take (i := 6) (v := .agg ((x1.cells)).toArray) rfl (by kernel_rfl) (by kernel_rfl) (by kernel_rfl) (fun _ _ _ h => h) (yieldsIf_load_mid (by rfl) 39 _ rfl (z12.heap.size) 0 rfl ((x1.cells)) _ (fun _ h => h.2.1) Tryd.underlying39 rfl sizeAc) ⟨rowAt Z1, rowAt Z2, rowAt Z3, rowAt Z4⟩ ?_
            try simp only [Act.put, List.getElem_toArray, List.getElem_cons_zero, List.getElem_cons_succ, List.setIfInBounds_toArray, List.set_cons_zero, List.set_cons_succ]
            refine wpAnyH_ready (rs := [5]) (by kernel_rfl) (by simp) ?_
            refine AllReadyH.cons rfl (fun K hK => ?_) AllReadyH.nil
            rw [if_pos (by rfl)]
            go_simp
            go_wp2_with (go_at_call 13; refine (c_plain x1 z27).mono ?_; rintro e z28 ⟨rfl, t⟩)
            have Z1 := hpB Z1 t
            have Z2 := hpB Z2 t
            have Z3 := hpB Z3 t
            have Z4 := hpB Z4 t
            have ee := ee.trans (t.mono ee.size)
            clear t
            refine hK.out _ _ ⟨rowAt Z1, rowAt Z2, rowAt Z3, rowAt Z4⟩ (fun hH => ?_)
            clear hK K hH
            try simp only [Act.put, List.getElem_toArray, List.getElem_cons_zero, List.getElem_cons_succ, List.setIfInBounds_toArray, List.set_cons_zero, List.set_cons_succ]
            refine wpAnyH_ready (rs := [7]) (by kernel_rfl) (by simp) ?_
            refine AllReadyH.cons rfl (fun K hK => ?_) AllReadyH.nil
            rw [if_pos (by rfl)]
            go_simp
            go_wp2_with (go_at_call 13; refine (c_plain x1 z28).mono ?_; rintro e z29 ⟨rfl, t⟩)
            have Z1 := hpB Z1 t
            have Z2 := hpB Z2 t
            have Z3 := hpB Z3 t
            have Z4 := hpB Z4 t
            have ee := ee.trans (t.mono ee.size)
            clear t
            refine hK.out _ _ ⟨rowAt Z1, rowAt Z2, rowAt Z3, rowAt Z4⟩ (fun hH => ?_)
            clear hK K hH
            try simp only [Act.put, List.getElem_toArray, List.getElem_cons_zero, List.getElem_cons_succ, List.setIfInBounds_toArray, List.set_cons_zero, List.set_cons_succ]
            refine wpAnyH_ready (rs := [8]) (by kernel_rfl) (by simp) ?_
            refine AllReadyH.cons rfl (fun K hK => ?_) AllReadyH.nil
            rw [if_pos (by rfl)]
            go_simp
            go_wp2_with (go_at_call 18; refine (HS1.out z29 ee).mono ?_; rintro e z30 ⟨rfl, t⟩)
            have Z1 := hpB Z1 t
            have Z2 := hpB Z2 t
            have Z3 := hpB Z3 t
            have Z4 := hpB Z4 t
            have ee := ee.trans (t.mono ee.size)
            clear t
            refine hK.out _ _ ⟨rowAt Z1, rowAt Z2, rowAt Z3, rowAt Z4⟩ (fun hH => ?_)
            clear hK K hH
            try simp only [Act.put, List.getElem_toArray, List.getElem_cons_zero, List.getElem_cons_succ, List.setIfInBounds_toArray, List.set_cons_zero, List.set_cons_succ]
            refine wpAnyH_take (i := 9) (v := .bool true) rfl (by kernel_rfl) (by kernel_rfl) (by kernel_rfl) (fun _ _ _ h => h) (Or.inl ⟨by rfl, fun w_ hS_ => by (first | (go_simp; done) | (go_simp; rfl))⟩) ⟨rowAt Z1, rowAt Z2, rowAt Z3, rowAt Z4⟩ ?_
            try simp only [Act.put, List.getElem_toArray, List.getElem_cons_zero, List.getElem_cons_succ, List.setIfInBounds_toArray, List.set_cons_zero, List.set_cons_succ]
            refine wpAnyH_take (i := 10) (v := .bool true) rfl (by kernel_rfl) (by kernel_rfl) (by kernel_rfl) (fun _ _ _ h => h) (Or.inl ⟨by rfl, fun w_ hS_ => by (first | (go_simp; done) | (go_simp; rfl))⟩) ⟨rowAt Z1, rowAt Z2, rowAt Z3, rowAt Z4⟩ ?_
            try simp only [Act.put, List.getElem_toArray, List.getElem_cons_zero, List.getElem_cons_succ, List.setIfInBounds_toArray, List.set_cons_zero, List.set_cons_succ]
            refine wpAnyH_take (i := 11) (v := .int .i64 m2) rfl (by kernel_rfl) (by kernel_rfl) (by kernel_rfl) (fun _ _ _ h => h) (Or.inl ⟨by rfl, fun w_ hS_ => by (first | (go_simp; done) | (go_simp; rfl))⟩) ⟨rowAt Z1, rowAt Z2, rowAt Z3, rowAt Z4⟩ ?_
            try simp only [Act.put, List.getElem_toArray, List.getElem_cons_zero, List.getElem_cons_succ, List.setIfInBounds_toArray, List.set_cons_zero, List.set_cons_succ]
            refine wpAnyH_take (i := 12) (v := .int .i64 m2) rfl (by kernel_rfl) (by kernel_rfl) (by kernel_rfl) (fun _ _ _ h => h) (Or.inl ⟨by rfl, fun w_ hS_ => by (first | (go_simp; done) | (go_simp; rfl))⟩) ⟨rowAt Z1, rowAt Z2, rowAt Z3, rowAt Z4⟩ ?_
            try simp only [Act.put, List.getElem_toArray, List.getElem_cons_zero, List.getElem_cons_succ, List.setIfInBounds_toArray, List.set_cons_zero, List.set_cons_succ]
            refine wpAnyH_take (i := 13) (v := .bool true) rfl (by kernel_rfl) (by kernel_rfl) (by kernel_rfl) (fun _ _ _ h => h) (Or.inl ⟨by rfl, fun w_ hS_ => by (go_simp; first | done | rfl | simp)⟩) ⟨rowAt Z1, rowAt Z2, rowAt Z3, rowAt Z4⟩ ?_
            try simp only [Act.put, List.getElem_toArray, List.getElem_cons_zero, List.getElem_cons_succ, List.setIfInBounds_toArray, List.set_cons_zero, List.set_cons_succ]
            refine wpAnyH_take (i := 14) (v := .bool true) rfl (by kernel_rfl) (by kernel_rfl) (by kernel_rfl) (fun _ _ _ h => h) (Or.inl ⟨by rfl, fun w_ hS_ => by (first | (go_simp; done) | (go_simp; rfl))⟩) ⟨rowAt Z1, rowAt Z2, rowAt Z3, rowAt Z4⟩ ?_
            try simp only [Act.put, List.getElem_toArray, List.getElem_cons_zero, List.getElem_cons_succ, List.setIfInBounds_toArray, List.set_cons_zero, List.set_cons_succ]
            refine wpAnyH_take (i := 15) (v := .bool true) rfl (by kernel_rfl) (by kernel_rfl) (by kernel_rfl) (fun _ _ _ h => h) (Or.inl ⟨by rfl, fun w_ hS_ => by (first | (go_simp; done) | (go_simp; rfl))⟩) ⟨rowAt Z1, rowAt Z2, rowAt Z3, rowAt Z4⟩ ?_
            try simp only [Act.put, List.getElem_toArray, List.getElem_cons_zero, List.getElem_cons_succ, List.setIfInBounds_toArray, List.set_cons_zero, List.set_cons_succ]
            refine wpAnyH_take (i := 16) (v := .agg ((x2.cells)).toArray) rfl (by kernel_rfl) (by kernel_rfl) (by kernel_rfl) (fun _ _ _ h => h) (yieldsIf_load_mid (by rfl) 39 _ rfl (z15.heap.size) 0 rfl ((x2.cells)) _ (fun _ h => h.2.2.1) Tryd.underlying39 rfl sizeAc) ⟨rowAt Z1, rowAt Z2, rowAt Z3, rowAt Z4⟩ ?_
            try simp only [Act.put, List.getElem_toArray, List.getElem_cons_zero, List.getElem_cons_succ, List.setIfInBounds_toArray, List.set_cons_zero, List.set_cons_succ]
            refine wpAnyH_take (i := 18) (v := .agg ((x2.cells)).toArray) rfl (by kernel_rfl) (by kernel_rfl) (by kernel_rfl) (fun _ _ _ h => h) (yieldsIf_load_mid (by rfl) 39 _ rfl (z18.heap.size) 0 rfl ((x2.cells)) _ (fun _ h => h.2.2.2) Tryd.underlying39 rfl sizeAc) ⟨rowAt Z1, rowAt Z2, rowAt Z3, rowAt Z4⟩ ?_
            try simp only [Act.put, List.getElem_toArray, List.getElem_cons_zero, List.getElem_cons_succ, List.setIfInBounds_toArray, List.set_cons_zero, List.set_cons_succ]
            refine wpAnyH_ready (rs := [17]) (by kernel_rfl) (by simp) ?_
            refine AllReadyH.cons rfl (fun K hK => ?_) AllReadyH.nil
            rw [if_pos (by rfl)]
            go_simp
            go_wp2_with (go_at_call 13; refine (c_plain x2 z30).mono ?_; rintro e z31 ⟨rfl, t⟩)
            have Z1 := hpB Z1 t
            have Z2 := hpB Z2 t
            have Z3 := hpB Z3 t
            have Z4 := hpB Z4 t
            have ee := ee.trans (t.mono ee.size)
            clear t
            refine hK.out _ _ ⟨rowAt Z1, rowAt Z2, rowAt Z3, rowAt Z4⟩ (fun hH => ?_)
            clear hK K hH
            try simp only [Act.put, List.getElem_toArray, List.getElem_cons_zero, List.getElem_cons_succ, List.setIfInBounds_toArray, List.set_cons_zero, List.set_cons_succ]
            refine wpAnyH_ready (rs := [19]) (by kernel_rfl) (by simp) ?_
            refine AllReadyH.cons rfl (fun K hK => ?_) AllReadyH.nil
            rw [if_pos (by rfl)]
            go_simp
            go_wp2_with (go_at_call 13; refine (c_plain x2 z31).mono ?_; rintro e z32 ⟨rfl, t⟩)
            have Z1 := hpB Z1 t
            have Z2 := hpB Z2 t
            have Z3 := hpB Z3 t
            have Z4 := hpB Z4 t
            have ee := ee.trans (t.mono ee.size)
            clear t
            refine hK.out _ _ ⟨rowAt Z1, rowAt Z2, rowAt Z3, rowAt Z4⟩ (fun hH => ?_)
            clear hK K hH
            try simp only [Act.put, List.getElem_toArray, List.getElem_cons_zero, List.getElem_cons_succ, List.setIfInBounds_toArray, List.set_cons_zero, List.set_cons_succ]
            refine wpAnyH_ready (rs := [20]) (by kernel_rfl) (by simp) ?_
            refine AllReadyH.cons rfl (fun K hK => ?_) AllReadyH.nil
            rw [if_pos (by rfl)]
            go_simp
            go_wp2_with (go_at_call 18; refine (HS2.out z32 ee).mono ?_; rintro e z33 ⟨rfl, t⟩)
            have Z1 := hpB Z1 t
            have Z2 := hpB Z2 t
            have Z3 := hpB Z3 t
            have Z4 := hpB Z4 t
            have ee := ee.trans (t.mono ee.size)
            clear t
            refine hK.out _ _ ⟨rowAt Z1, rowAt Z2, rowAt Z3, rowAt Z4⟩ (fun hH => ?_)
            clear hK K hH
            try simp only [Act.put, List.getElem_toArray, List.getElem_cons_zero, List.getElem_cons_succ, List.setIfInBounds_toArray, List.set_cons_zero, List.set_cons_succ]
            refine wpAnyH_take (i := 21) (v := .bool true) rfl (by kernel_rfl) (by kernel_rfl) (by kernel_rfl) (fun _ _ _ h => h) (Or.inl ⟨by rfl, fun w_ hS_ => by (first | (go_simp; done) | (go_simp; rfl))⟩) ⟨rowAt Z1, rowAt Z2, rowAt Z3, rowAt Z4⟩ ?_
            try simp only [Act.put, List.getElem_toArray, List.getElem_cons_zero, List.getElem_cons_succ, List.setIfInBounds_toArray, List.set_cons_zero, List.set_cons_succ]
            refine wpAnyH_take (i := 22) (v := .bool true) rfl (by kernel_rfl) (by kernel_rfl) (by kernel_rfl) (fun _ _ _ h => h) (Or.inl ⟨by rfl, fun w_ hS_ => by (first | (go_simp; done) | (go_simp; rfl))⟩) ⟨rowAt Z1, rowAt Z2, rowAt Z3, rowAt Z4⟩ ?_
            try simp only [Act.put, List.getElem_toArray, List.getElem_cons_zero, List.getElem_cons_succ, List.setIfInBounds_toArray, List.set_cons_zero, List.set_cons_succ]
            refine wpAnyH_take (i := 23) (v := .bool false) rfl (by kernel_rfl) (by kernel_rfl) (by kernel_rfl) (fun _ _ _ h => h) (Or.inl ⟨by rfl, fun w_ hS_ => by (first | (go_simp; done) | (go_simp; rfl))⟩) ⟨rowAt Z1, rowAt Z2, rowAt Z3, rowAt Z4⟩ ?_
            try simp only [Act.put, List.getElem_toArray, List.getElem_cons_zero, List.getElem_cons_succ, List.setIfInBounds_toArray, List.set_cons_zero, List.set_cons_succ]
            refine wpAnyH_take (i := 24) (v := .bool true) rfl (by kernel_rfl) (by kernel_rfl) (by kernel_rfl) (fun _ _ _ h => h) (Or.inl ⟨by rfl, fun w_ hS_ => by (first | (go_simp; done) | (go_simp; rfl))⟩) ⟨rowAt Z1, rowAt Z2, rowAt Z3, rowAt Z4⟩ ?_
            try simp only [Act.put, List.getElem_toArray, List.getElem_cons_zero, List.getElem_cons_succ, List.setIfInBounds_toArray, List.set_cons_zero, List.set_cons_succ]
            refine wpAnyH_take (i := 25) (v := .bool true) rfl (by kernel_rfl) (by kernel_rfl) (by kernel_rfl) (fun _ _ _ h => h) (Or.inl ⟨by rfl, fun w_ hS_ => by (first | (go_simp; done) | (go_simp; rfl))⟩) ⟨rowAt Z1, rowAt Z2, rowAt Z3, rowAt Z4⟩ ?_
            try simp only [Act.put, List.getElem_toArray, List.getElem_cons_zero, List.getElem_cons_succ, List.setIfInBounds_toArray, List.set_cons_zero, List.set_cons_succ]
            refine wpAnyH_take (i := 26) (v := undef) rfl (by kernel_rfl) (by kernel_rfl) (by kernel_rfl) (fun _ _ _ h => h) (Or.inr ⟨by rfl, rfl⟩) ⟨rowAt Z1, rowAt Z2, rowAt Z3, rowAt Z4⟩ ?_
            try simp only [Act.put, List.getElem_toArray, List.getElem_cons_zero, List.getElem_cons_succ, List.setIfInBounds_toArray, List.set_cons_zero, List.set_cons_succ]
            refine wpAnyH_take (i := 27) (v := undef) rfl (by kernel_rfl) (by kernel_rfl) (by kernel_rfl) (fun _ _ _ h => h) (Or.inr ⟨by rfl, rfl⟩) ⟨rowAt Z1, rowAt Z2, rowAt Z3, rowAt Z4⟩ ?_
            try simp only [Act.put, List.getElem_toArray, List.getElem_cons_zero, List.getElem_cons_succ, List.setIfInBounds_toArray, List.set_cons_zero, List.set_cons_succ]
            refine wpAnyH_take (i := 28) (v := .bool true) rfl (by kernel_rfl) (by kernel_rfl) (by kernel_rfl) (fun _ _ _ h => h) (Or.inl ⟨by rfl, fun w_ hS_ => by (first | (go_simp; done) | (go_simp; rfl))⟩) ⟨rowAt Z1, rowAt Z2, rowAt Z3, rowAt Z4⟩ ?_
            try simp only [Act.put, List.getElem_toArray, List.getElem_cons_zero, List.getElem_cons_succ, List.setIfInBounds_toArray, List.set_cons_zero, List.set_cons_succ]
            refine wpAnyH_take (i := 29) (v := .bool true) rfl (by kernel_rfl) (by kernel_rfl) (by kernel_rfl) (fun _ _ _ h => h) (Or.inl ⟨by rfl, fun w_ hS_ => by (first | (go_simp; done) | (go_simp; rfl))⟩) ⟨rowAt Z1, rowAt Z2, rowAt Z3, rowAt Z4⟩ ?_
            try simp only [Act.put, List.getElem_toArray, List.getElem_cons_zero, List.getElem_cons_succ, List.setIfInBounds_toArray, List.set_cons_zero, List.set_cons_succ]
            refine wpAnyH_take (i := 30) (v := .bool true) rfl (by kernel_rfl) (by kernel_rfl) (by kernel_rfl) (fun _ _ _ h => h) (Or.inl ⟨by rfl, fun w_ hS_ => by (first | (go_simp; done) | (go_simp; rfl))⟩) ⟨rowAt Z1, rowAt Z2, rowAt Z3, rowAt Z4⟩ ?_
            try simp only [Act.put, List.getElem_toArray, List.getElem_cons_zero, List.getElem_cons_succ, List.setIfInBounds_toArray, List.set_cons_zero, List.set_cons_succ]
            refine wpAnyH_done (by kernel_rfl) ?_ _
            go_wp2_with fail
            go_ret
            exact ⟨rfl, ee⟩
          | true =>
            have h4 : m4 = false := HAL.out rfl
            subst h4
            clear HAL
            have Z1 : z26.drew.heap[z9.heap.size]? = some (.cells (x1.cells).toArray 39) := Z1
            have Z2 : z26.drew.heap[z12.heap.size]? = some (.cells (x1.cells).toArray 39) := Z2
            have Z3 : z26.drew.heap[z15.heap.size]? = some (.cells (x2.cells).toArray 39) := Z3
            have Z4 : z26.drew.heap[z18.heap.size]? = some (.cells (x2.cells).toArray 39) := Z4
            have ee := belowDrewS ee
            refine wp_region_held_drew (S := fun z' => z'.rangeAt (z9.heap.size) 0 x1.cells ∧ z'.rangeAt (z12.heap.size) 0 x1.cells ∧ z'.rangeAt (z15.heap.size) 0 x2.cells ∧ z'.rangeAt (z18.heap.size) 0 x2.cells) (by kernel_rfl) ⟨rowAt Z1, rowAt Z2, rowAt Z3, rowAt Z4⟩ (fun hH => ?_)
            clear hH
            generalize z26.drew = z27 at Z1 Z2 Z3 Z4  ee ⊢
            refine wpAnyH_take (i := 0) (v := .bool m1) rfl (by kernel_rfl) (by kernel_rfl) (by kernel_rfl) (fun _ _ _ h => h) (Or.inl ⟨by rfl, fun w_ hS_ => by (first | (go_simp; done) | (go_simp; rfl))⟩) ⟨rowAt Z1, rowAt Z2, rowAt Z3, rowAt Z4⟩ ?_
            try simp only [Act.put, List.getElem_toArray, List.getElem_cons_zero, List.getElem_cons_succ, List.setIfInBounds_toArray, List.set_cons_zero, List.set_cons_succ]
            refine wpAnyH_take (i := 1) (v := .bool m1) rfl (by kernel_rfl) (by kernel_rfl) (by kernel_rfl) (fun _ _ _ h => h) (Or.inl ⟨by rfl, fun w_ hS_ => by (first | (go_simp; done) | (go_simp; rfl))⟩) ⟨rowAt Z1, rowAt Z2, rowAt Z3, rowAt Z4⟩ ?_
            try simp only [Act.put, List.getElem_toArray, List.getElem_cons_zero, List.getElem_cons_succ, List.setIfInBounds_toArray, List.set_cons_zero, List.set_cons_succ]
            refine wpAnyH_take (i := 2) (v := .bool true) rfl (by kernel_rfl) (by kernel_rfl) (by kernel_rfl) (fun _ _ _ h => h) (Or.inl ⟨by rfl, fun w_ hS_ => by (go_simp; first | done | rfl | simp)⟩) ⟨rowAt Z1, rowAt Z2, rowAt Z3, rowAt Z4⟩ ?_
            try simp only [Act.put, List.getElem_toArray, List.getElem_cons_zero, List.getElem_cons_succ, List.setIfInBounds_toArray, List.set_cons_zero, List.set_cons_succ]
            refine wpAnyH_take (i := 3) (v := .bool true) rfl (by kernel_rfl) (by kernel_rfl) (by kernel_rfl) (fun _ _ _ h => h) (Or.inl ⟨by rfl, fun w_ hS_ => by (first | (go_simp; done) | (go_simp; rfl))⟩) ⟨rowAt Z1, rowAt Z2, rowAt Z3, rowAt Z4⟩ ?_
            try simp only [Act.put, List.getElem_toArray, List.getElem_cons_zero, List.getElem_cons_succ, List.setIfInBounds_toArray, List.set_cons_zero, List.set_cons_succ]
            refine wpAnyH_take (i := 4) (v := .agg ((x1.cells)).toArray) rfl (by kernel_rfl) (by kernel_rfl) (by kernel_rfl) (fun _ _ _ h => h) (yieldsIf_load_mid (by rfl) 39 _ rfl (z9.heap.size) 0 rfl ((x1.cells)) _ (fun _ h => h.1) Tryd.underlying39 rfl sizeAc) ⟨rowAt Z1, rowAt Z2, rowAt Z3, rowAt Z4⟩ ?_
            try simp only [Act.put, List.getElem_toArray, List.getElem_cons_zero, List.getElem_cons_succ, List.setIfInBounds_toArray, List.set_cons_zero, List.set_cons_succ]
            refine wpAnyH_take (i := 6) (v := .agg ((x1.cells)).toArray) rfl (by kernel_rfl) (by kernel_rfl) (by kernel_rfl) (fun _ _ _ h => h) (yieldsIf_load_mid (by rfl) 39 _ rfl (z12.heap.size) 0 rfl ((x1.cells)) _ (fun _ h => h.2.1) Tryd.underlying39 rfl sizeAc) ⟨rowAt Z1, rowAt Z2, rowAt Z3, rowAt Z4⟩ ?_
            try simp only [Act.put, List.getElem_toArray, List.getElem_cons_zero, List.getElem_cons_succ, List.setIfInBounds_toArray, List.set_cons_zero, List.set_cons_succ]
            refine wpAnyH_ready (rs := [5]) (by kernel_rfl) (by simp) ?_
            refine AllReadyH.cons rfl (fun K hK => ?_) AllReadyH.nil
            rw [if_pos (by rfl)]
            go_simp
            go_wp2_with (go_at_call 13; refine (c_plain x1 z27).mono ?_; rintro e z28 ⟨rfl, t⟩)
            have Z1 := hpB Z1 t
            have Z2 := hpB Z2 t
            have Z3 := hpB Z3 t
            have Z4 := hpB Z4 t
            have ee := ee.trans (t.mono ee.size)
            clear t
            refine hK.out _ _ ⟨rowAt Z1, rowAt Z2, rowAt Z3, rowAt Z4⟩ (fun hH => ?_)
            clear hK K hH
            try simp only [Act.put, List.getElem_toArray, List.getElem_cons_zero, List.getElem_cons_succ, List.setIfInBounds_toArray, List.set_cons_zero, List.set_cons_succ]
            refine wpAnyH_ready (rs := [7]) (by kernel_rfl) (by simp) ?_
            refine AllReadyH.cons rfl (fun K hK => ?_) AllReadyH.nil
            rw [if_pos (by rfl)]
            go_simp
            go_wp2_with (go_at_call 13; refine (c_plain x1 z28).mono ?_; rintro e z29 ⟨rfl, t⟩)
            have Z1 := hpB Z1 t
            have Z2 := hpB Z2 t
            have Z3 := hpB Z3 t
            have Z4 := hpB Z4 t
            have ee := ee.trans (t.mono ee.size)
            clear t
            refine hK.out _ _ ⟨rowAt Z1, rowAt Z2, rowAt Z3, rowAt Z4⟩ (fun hH => ?_)
            clear hK K hH
            try simp only [Act.put, List.getElem_toArray, List.getElem_cons_zero, List.getElem_cons_succ, List.setIfInBounds_toArray, List.set_cons_zero, List.set_cons_succ]
            refine wpAnyH_ready (rs := [8]) (by kernel_rfl) (by simp) ?_
            refine AllReadyH.cons rfl (fun K hK => ?_) AllReadyH.nil
            rw [if_pos (by rfl)]
            go_simp
            go_wp2_with (go_at_call 18; refine (HS1.out z29 ee).mono ?_; rintro e z30 ⟨rfl, t⟩)
            have Z1 := hpB Z1 t
            have Z2 := hpB Z2 t
            have Z3 := hpB Z3 t
            have Z4 := hpB Z4 t
            have ee := ee.trans (t.mono ee.size)
            clear t
            refine hK.out _ _ ⟨rowAt Z1, rowAt Z2, rowAt Z3, rowAt Z4⟩ (fun hH => ?_)
            clear hK K hH
            try simp only [Act.put, List.getElem_toArray, List.getElem_cons_zero, List.getElem_cons_succ, List.setIfInBounds_toArray, List.set_cons_zero, List.set_cons_succ]
            refine wpAnyH_take (i := 9) (v := .bool true) rfl (by kernel_rfl) (by kernel_rfl) (by kernel_rfl) (fun _ _ _ h => h) (Or.inl ⟨by rfl, fun w_ hS_ => by (first | (go_simp; done) | (go_simp; rfl))⟩) ⟨rowAt Z1, rowAt Z2, rowAt Z3, rowAt Z4⟩ ?_
            try simp only [Act.put, List.getElem_toArray, List.getElem_cons_zero, List.getElem_cons_succ, List.setIfInBounds_toArray, List.set_cons_zero, List.set_cons_succ]
            refine wpAnyH_take (i := 10) (v := .bool true) rfl (by kernel_rfl) (by kernel_rfl) (by kernel_rfl) (fun _ _ _ h => h) (Or.inl ⟨by rfl, fun w_ hS_ => by (first | (go_simp; done) | (go_simp; rfl))⟩) ⟨rowAt Z1, rowAt Z2, rowAt Z3, rowAt Z4⟩ ?_
            try simp only [Act.put, List.getElem_toArray, List.getElem_cons_zero, List.getElem_cons_succ, List.setIfInBounds_toArray, List.set_cons_zero, List.set_cons_succ]
            refine wpAnyH_take (i := 11) (v := .int .i64 m2) rfl (by kernel_rfl) (by kernel_rfl) (by kernel_rfl) (fun _ _ _ h => h) (Or.inl ⟨by rfl, fun w_ hS_ => by (first | (go_simp; done) | (go_simp; rfl))⟩) ⟨rowAt Z1, rowAt Z2, rowAt Z3, rowAt Z4⟩ ?_
            try simp only [Act.put, List.getElem_toArray, List.getElem_cons_zero, List.getElem_cons_succ, List.setIfInBounds_toArray, List.set_cons_zero, List.set_cons_succ]
            refine wpAnyH_take (i := 12) (v := .int .i64 m2) rfl (by kernel_rfl) (by kernel_rfl) (by kernel_rfl) (fun _ _ _ h => h) (Or.inl ⟨by rfl, fun w_ hS_ => by (first | (go_simp; done) | (go_simp; rfl))⟩) ⟨rowAt Z1, rowAt Z2, rowAt Z3, rowAt Z4⟩ ?_
            try simp only [Act.put, List.getElem_toArray, List.getElem_cons_zero, List.getElem_cons_succ, List.setIfInBounds_toArray, List.set_cons_zero, List.set_cons_succ]
            refine wpAnyH_take (i := 13) (v := .bool true) rfl (by kernel_rfl) (by kernel_rfl) (by kernel_rfl) (fun _ _ _ h => h) (Or.inl ⟨by rfl, fun w_ hS_ => by (go_simp; first | done | rfl | simp)⟩) ⟨rowAt Z1, rowAt Z2, rowAt Z3, rowAt Z4⟩ ?_
            try simp only [Act.put, List.getElem_toArray, List.getElem_cons_zero, List.getElem_cons_succ, List.setIfInBounds_toArray, List.set_cons_zero, List.set_cons_succ]
            refine wpAnyH_take (i := 14) (v := .bool true) rfl (by kernel_rfl) (by kernel_rfl) (by kernel_rfl) (fun _ _ _ h => h) (Or.inl ⟨by rfl, fun w_ hS_ => by (first | (go_simp; done) | (go_simp; rfl))⟩) ⟨rowAt Z1, rowAt Z2, rowAt Z3, rowAt Z4⟩ ?_
            try simp only [Act.put, List.getElem_toArray, List.getElem_cons_zero, List.getElem_cons_succ, List.setIfInBounds_toArray, List.set_cons_zero, List.set_cons_succ]
            refine wpAnyH_take (i := 15) (v := .bool true) rfl (by kernel_rfl) (by kernel_rfl) (by kernel_rfl) (fun _ _ _ h => h) (Or.inl ⟨by rfl, fun w_ hS_ => by (first | (go_simp; done) | (go_simp; rfl))⟩) ⟨rowAt Z1, rowAt Z2, rowAt Z3, rowAt Z4⟩ ?_
            try simp only [Act.put, List.getElem_toArray, List.getElem_cons_zero, List.getElem_cons_succ, List.setIfInBounds_toArray, List.set_cons_zero, List.set_cons_succ]
            refine wpAnyH_take (i := 16) (v := .agg ((x2.cells)).toArray) rfl (by kernel_rfl) (by kernel_rfl) (by kernel_rfl) (fun _ _ _ h => h) (yieldsIf_load_mid (by rfl) 39 _ rfl (z15.heap.size) 0 rfl ((x2.cells)) _ (fun _ h => h.2.2.1) Tryd.underlying39 rfl sizeAc) ⟨rowAt Z1, rowAt Z2, rowAt Z3, rowAt Z4⟩ ?_
            try simp only [Act.put, List.getElem_toArray, List.getElem_cons_zero, List.getElem_cons_succ, List.setIfInBounds_toArray, List.set_cons_zero, List.set_cons_succ]
            refine wpAnyH_take (i := 18) (v := .agg ((x2.cells)).toArray) rfl (by kernel_rfl) (by kernel_rfl) (by kernel_rfl) (fun _ _ _ h => h) (yieldsIf_load_mid (by rfl) 39 _ rfl (z18.heap.size) 0 rfl ((x2.cells)) _ (fun _ h => h.2.2.2) Tryd.underlying39 rfl sizeAc) ⟨rowAt Z1, rowAt Z2, rowAt Z3, rowAt Z4⟩ ?_
            try simp only [Act.put, List.getElem_toArray, List.getElem_cons_zero, List.getElem_cons_succ, List.setIfInBounds_toArray, List.set_cons_zero, List.set_cons_succ]
            refine wpAnyH_ready (rs := [17]) (by kernel_rfl) (by simp) ?_
            refine AllReadyH.cons rfl (fun K hK => ?_) AllReadyH.nil
            rw [if_pos (by rfl)]
            go_simp
            go_wp2_with (go_at_call 13; refine (c_plain x2 z30).mono ?_; rintro e z31 ⟨rfl, t⟩)
            have Z1 := hpB Z1 t
            have Z2 := hpB Z2 t
            have Z3 := hpB Z3 t
            have Z4 := hpB Z4 t
            have ee := ee.trans (t.mono ee.size)
            clear t
            refine hK.out _ _ ⟨rowAt Z1, rowAt Z2, rowAt Z3, rowAt Z4⟩ (fun hH => ?_)
            clear hK K hH
            try simp only [Act.put, List.getElem_toArray, List.getElem_cons_zero, List.getElem_cons_succ, List.setIfInBounds_toArray, List.set_cons_zero, List.set_cons_succ]
            refine wpAnyH_ready (rs := [19]) (by kernel_rfl) (by simp) ?_
            refine AllReadyH.cons rfl (fun K hK => ?_) AllReadyH.nil
            rw [if_pos (by rfl)]
            go_simp
            go_wp2_with (go_at_call 13; refine (c_plain x2 z31).mono ?_; rintro e z32 ⟨rfl, t⟩)
            have Z1 := hpB Z1 t
            have Z2 := hpB Z2 t
            have Z3 := hpB Z3 t
            have Z4 := hpB Z4 t
            have ee := ee.trans (t.mono ee.size)
            clear t
            refine hK.out _ _ ⟨rowAt Z1, rowAt Z2, rowAt Z3, rowAt Z4⟩ (fun hH => ?_)
            clear hK K hH
            try simp only [Act.put, List.getElem_toArray, List.getElem_cons_zero, List.getElem_cons_succ, List.setIfInBounds_toArray, List.set_cons_zero, List.set_cons_succ]
            refine wpAnyH_ready (rs := [20]) (by kernel_rfl) (by simp) ?_
            refine AllReadyH.cons rfl (fun K hK => ?_) AllReadyH.nil
            rw [if_pos (by rfl)]
            go_simp
            go_wp2_with (go_at_call 18; refine (HS2.out z32 ee).mono ?_; rintro e z33 ⟨rfl, t⟩)
            have Z1 := hpB Z1 t
            have Z2 := hpB Z2 t
            have Z3 := hpB Z3 t
            have Z4 := hpB Z4 t
            have ee := ee.trans (t.mono ee.size)
            clear t
            refine hK.out _ _ ⟨rowAt Z1, rowAt Z2, rowAt Z3, rowAt Z4⟩ (fun hH => ?_)
            clear hK K hH
            try simp only [Act.put, List.getElem_toArray, List.getElem_cons_zero, List.getElem_cons_succ, List.setIfInBounds_toArray, List.set_cons_zero, List.set_cons_succ]
            refine wpAnyH_take (i := 21) (v := .bool true) rfl (by kernel_rfl) (by kernel_rfl) (by kernel_rfl) (fun _ _ _ h => h) (Or.inl ⟨by rfl, fun w_ hS_ => by (first | (go_simp; done) | (go_simp; rfl))⟩) ⟨rowAt Z1, rowAt Z2, rowAt Z3, rowAt Z4⟩ ?_
            try simp only [Act.put, List.getElem_toArray, List.getElem_cons_zero, List.getElem_cons_succ, List.setIfInBounds_toArray, List.set_cons_zero, List.set_cons_succ]
            refine wpAnyH_take (i := 22) (v := .bool true) rfl (by kernel_rfl) (by kernel_rfl) (by kernel_rfl) (fun _ _ _ h => h) (Or.inl ⟨by rfl, fun w_ hS_ => by (first | (go_simp; done) | (go_simp; rfl))⟩) ⟨rowAt Z1, rowAt Z2, rowAt Z3, rowAt Z4⟩ ?_
            try simp only [Act.put, List.getElem_toArray, List.getElem_cons_zero, List.getElem_cons_succ, List.setIfInBounds_toArray, List.set_cons_zero, List.set_cons_succ]
            refine wpAnyH_take (i := 23) (v := .bool true) rfl (by kernel_rfl) (by kernel_rfl) (by kernel_rfl) (fun _ _ _ h => h) (Or.inl ⟨by rfl, fun w_ hS_ => by (first | (go_simp; done) | (go_simp; rfl))⟩) ⟨rowAt Z1, rowAt Z2, rowAt Z3, rowAt Z4⟩ ?_
            try simp only [Act.put, List.getElem_toArray, List.getElem_cons_zero, List.getElem_cons_succ, List.setIfInBounds_toArray, List.set_cons_zero, List.set_cons_succ]
            refine wpAnyH_take (i := 24) (v := .bool false) rfl (by kernel_rfl) (by kernel_rfl) (by kernel_rfl) (fun _ _ _ h => h) (Or.inl ⟨by rfl, fun w_ hS_ => by (first | (go_simp; done) | (go_simp; rfl))⟩) ⟨rowAt Z1, rowAt Z2, rowAt Z3, rowAt Z4⟩ ?_
            try simp only [Act.put, List.getElem_toArray, List.getElem_cons_zero, List.getElem_cons_succ, List.setIfInBounds_toArray, List.set_cons_zero, List.set_cons_succ]
            refine wpAnyH_take (i := 25) (v := .bool false) rfl (by kernel_rfl) (by kernel_rfl) (by kernel_rfl) (fun _ _ _ h => h) (Or.inl ⟨by rfl, fun w_ hS_ => by (first | (go_simp; done) | (go_simp; rfl))⟩) ⟨rowAt Z1, rowAt Z2, rowAt Z3, rowAt Z4⟩ ?_
            try simp only [Act.put, List.getElem_toArray, List.getElem_cons_zero, List.getElem_cons_succ, List.setIfInBounds_toArray, List.set_cons_zero, List.set_cons_succ]
            refine wpAnyH_take (i := 26) (v := .bool false) rfl (by kernel_rfl) (by kernel_rfl) (by kernel_rfl) (fun _ _ _ h => h) (Or.inl ⟨by rfl, fun w_ hS_ => by (first | (go_simp; done) | (go_simp; rfl))⟩) ⟨rowAt Z1, rowAt Z2, rowAt Z3, rowAt Z4⟩ ?_
            try simp only [Act.put, List.getElem_toArray, List.getElem_cons_zero, List.getElem_cons_succ, List.setIfInBounds_toArray, List.set_cons_zero, List.set_cons_succ]
            refine wpAnyH_take (i := 27) (v := .bool true) rfl (by kernel_rfl) (by kernel_rfl) (by kernel_rfl) (fun _ _ _ h => h) (Or.inl ⟨by rfl, fun w_ hS_ => by (first | (go_simp; done) | (go_simp; rfl))⟩) ⟨rowAt Z1, rowAt Z2, rowAt Z3, rowAt Z4⟩ ?_
            try simp only [Act.put, List.getElem_toArray, List.getElem_cons_zero, List.getElem_cons_succ, List.setIfInBounds_toArray, List.set_cons_zero, List.set_cons_succ]
            refine wpAnyH_take (i := 28) (v := .bool true) rfl (by kernel_rfl) (by kernel_rfl) (by kernel_rfl) (fun _ _ _ h => h) (Or.inl ⟨by rfl, fun w_ hS_ => by (first | (go_simp; done) | (go_simp; rfl))⟩) ⟨rowAt Z1, rowAt Z2, rowAt Z3, rowAt Z4⟩ ?_
            try simp only [Act.put, List.getElem_toArray, List.getElem_cons_zero, List.getElem_cons_succ, List.setIfInBounds_toArray, List.set_cons_zero, List.set_cons_succ]
            refine wpAnyH_take (i := 29) (v := .bool true) rfl (by kernel_rfl) (by kernel_rfl) (by kernel_rfl) (fun _ _ _ h => h) (Or.inl ⟨by rfl, fun w_ hS_ => by (first | (go_simp; done) | (go_simp; rfl))⟩) ⟨rowAt Z1, rowAt Z2, rowAt Z3, rowAt Z4⟩ ?_
            try simp only [Act.put, List.getElem_toArray, List.getElem_cons_zero, List.getElem_cons_succ, List.setIfInBounds_toArray, List.set_cons_zero, List.set_cons_succ]
            refine wpAnyH_take (i := 30) (v := .bool true) rfl (by kernel_rfl) (by kernel_rfl) (by kernel_rfl) (fun _ _ _ h => h) (Or.inl ⟨by rfl, fun w_ hS_ => by (first | (go_simp; done) | (go_simp; rfl))⟩) ⟨rowAt Z1, rowAt Z2, rowAt Z3, rowAt Z4⟩ ?_
            try simp only [Act.put, List.getElem_toArray, List.getElem_cons_zero, List.getElem_cons_succ, List.setIfInBounds_toArray, List.set_cons_zero, List.set_cons_succ]
            refine wpAnyH_done (by kernel_rfl) ?_ _
            go_wp2_with fail
            go_ret
            exact ⟨rfl, ee⟩

theorem acceptAgain_walk (W : World) (hT : Tabs W) (v0 v1 : Value) (h0 : Arg W 51 v0) (h1 : Arg W 53 v1) :
    Calls Tryd.prog 6 #[v0, v1] W fun e W' => e = .returned (.bool true) ∧ Below W.heap.size W W' := by
  obtain ⟨A, c, ls, rfl, h2, h3, h4, h5⟩ := h0.aops
  obtain ⟨oo, rfl, ho⟩ := h1.aop
  exact again_mid A c ls oo W h2 h3 h4 h5 hT ho
end Go.Proofs.YtkfnepmiigkdfaaDoor
