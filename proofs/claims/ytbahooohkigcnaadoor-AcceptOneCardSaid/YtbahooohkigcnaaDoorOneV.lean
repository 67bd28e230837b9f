/- parishlaw18.single: at most one command is chosen. Conditions: what lies, lies below; the tables lie. (Printed by gen_one.py.) -/
import Derived.Test.YtbahooohkigcnaaDoorOneSM
import Derived.Test.YtbahooohkigcnaaDoorTxnD
namespace Go.Proofs.YtbahooohkigcnaaDoor
set_option maxRecDepth 20000
open Go.RowKit T
set_option linter.unusedSimpArgs false
set_option linter.unusedVariables false

theorem c_csame (x y : Cm) (w : World) (B0 : Nat) (hB : B0 ≤ w.heap.size) (ok : CmOk w B0 x) (ok' : CmOk w B0 y) :
    Calls Tryd.prog 32 #[.agg x.cells.toArray, .agg y.cells.toArray] w fun e w' => e = .returned (.bool (SameC x y)) ∧ Below w.heap.size w w' := csame_any x.k x.s x.q x.rs x.ws x.A1 x.c1 x.A2 x.c2 x.i x.j x.g x.st x.y y.k y.s y.q y.rs y.ws y.A1 y.c1 y.A2 y.c2 y.i y.j y.g y.st y.y w B0 hB ok ok'
theorem infoCm2 : (Tryd.prog.info? 37).map (fun i => (i.zero, i.size, i.bytes)) = some (some (.agg #[.int .i64 0, .int .i64 0, .int .i64 0, .slice none 0 0, .slice none 0 0, .int .i64 0, .int .i64 0, .int .i64 0, .int .u64 0, .bool false]), 10, 112) := by kernel_rfl
theorem oneCm2 (x : Cm) : ∀ u ∈ x.cells, u.oneCell' = true := fun u hu => (Array.all_eq_true_iff_forall_mem.1 (Cm.one x)) u (by simpa using hu)
set_option maxHeartbeats 6400000 in
theorem osingle (A : Option Addr) (c n : Nat) (all : List One.Pq) (w : World) (hn : n ≤ 5) (hl : all.length ≤ 100) (hc : all.length ≤ c) (hR : RowsAt w w.heap.size A 17 (all.map One.Pq.cells)) (hS : ∀ x y, x ∈ One.chosen n all all.length → y ∈ One.chosen n all all.length → x = y ∧ flatC x) :
    Calls Tryd.prog 25 #[.slice A all.length c, .int .i64 (n : Int)] w fun e w' => e = .returned (.bool true) ∧ Below w.heap.size w w' := by
  obtain ⟨i1, hi1, hz10, hz11, hz12⟩ := info_parts infoCm2
  obtain ⟨m, hm⟩ : ∃ m, m = all.length := ⟨_, rfl⟩
  have HM := Lib.hid hm
  have HR := Lib.hid hR
  have HS := Lib.hid hS
  rw [← hm] at hc hl ⊢
  clear hm hR hS
  have ee : Below w.heap.size w w := Below.refl _ _
  go_enter Tryd.func25, Tryd.ntmps25
  have hu : w.ownsRow w.heap.size 37 10 (.slice none 0 0) 0 (flat Cm.cells []) := World.ownsRow_nil _ _ _ _
  go_wp2_with fail
  go_loopw [5, 6] (fun p i wr => ∃ (k : Nat) (D : Option Addr) (d : Nat), k ≤ m ∧ i = .int .i64 (k : Int) ∧ p = .slice D (One.chosen n all k).length d ∧ Hid (wr.ownsRow w.heap.size 37 10 (.slice D (One.chosen n all k).length d) (One.chosen n all k).length (flat Cm.cells (One.chosen n all k))) ∧ Hid (Below w.heap.size w wr)) (fun _ i _ => m - (intOf i).toNat)
  case atStart => exact ⟨0, none, 0, Nat.zero_le _, rfl, rfl, hu, ee⟩
  case round =>
    clear hu ee
    obtain ⟨k, D, d, hk, rfl, rfl, hu, ee⟩ := hrel
    have hu := hu.out
    have ee := ee.out
    have HCL : Hid ((One.chosen n all k).length ≤ k) := One.chosen_len k
    by_cases hlt : k < m
    · have hkl : k < all.length := by rw [← HM.out]; exact hlt
      obtain ⟨bo, off, rfl, hbo, hr⟩ := rowsGet HR.out hkl
      have HC : Hid (One.chosen n all (k + 1) = if n < 2 * One.votes (all[k]'hkl) n then One.chosen n all k ++ [(all[k]'hkl).x] else One.chosen n all k) := by
        show _ = _
        rw [One.chosen, List.getElem?_eq_getElem hkl]
      generalize hcn : One.chosen n all k = ch at HC HCL hu ⊢
      clear hcn
      generalize all[k] = x at hr HC
      have hcl : ch.length ≤ 100 := by have := HCL.out; omega
      have hr2 := Lib.hid (rangeB hr ee hbo)
      have hk0 : (0 : Int) ≤ (k : Int) := by omega
      have hk1 : (k : Int) < (m : Int) := by omega
      clear hr
      go_upto_region 7 with fail
      go_wp2_with fail
      go_loop [7, 8] (fun q j => ∃ t : Nat, t ≤ n ∧ j = .int .i64 (t : Int) ∧ q = .int .i64 (Px.cnt t (fun j => x.vo.getD j false) : Int)) (fun _ j => n - (intOf j).toNat)
      case atStart => exact ⟨0, Nat.zero_le _, rfl, rfl⟩
      case round =>
        obtain ⟨t, ht, rfl, rfl⟩ := hrel
        have HT := Lib.hid (Px.cnt_succ t (fun j => x.vo.getD j false))
        have htl := Px.cnt_le t (fun j => x.vo.getD j false)
        have HV : Hid (One.votes x n = Px.cnt n (fun j => x.vo.getD j false)) := rfl
        by_cases hlt2 : t < n
        · have cv := rangeCell hr2.out (12 + t) (pqV x t (by omega))
          rw [← Nat.add_assoc] at cv
          have ht0 : (0 : Int) ≤ (t : Int) := by omega
          have ht5 : (t : Int) < 5 := by omega
          clear HV
          generalize hcn : Px.cnt t (fun j => x.vo.getD j false) = q at HT htl ⊢
          clear hcn
          have hw1 : IntKind.i64.wrap ((q : Int) + 1) = (q : Int) + 1 := by rw [IntKind.wrap_i64]; omega
          generalize hvv : x.vo.getD t false = vv at cv HT
          cases vv with
          | true =>
            rw [if_pos rfl] at HT
            clear hvv
            go_wp2_with fail
            go_round
            case rel => exact ⟨t + 1, by omega, by go_num, by rw [HT.out]; go_num⟩
            case measure => simp [intOf]; omega
          | false =>
            rw [if_neg (by simp)] at HT
            clear hvv
            go_wp2_with fail
            go_round
            case rel => exact ⟨t + 1, by omega, by go_num, by rw [HT.out]; rfl⟩
            case measure => simp [intOf]; omega
        · obtain rfl : n = t := by omega
          clear hlt2 ht HT
          generalize hcn : Px.cnt n (fun j => x.vo.getD j false) = q at HV htl ⊢
          clear hcn
          rw [HV.out] at HC
          clear HV
          have hw1 : IntKind.i64.wrap (2 * (q : Int)) = 2 * (q : Int) := by rw [IntKind.wrap_i64]; omega
          by_cases hmj : n < 2 * q
          · rw [if_pos hmj] at HC
            have hd : decide ((n : Int) < 2 * (q : Int)) = true := by simp; omega
            clear hmj
            go_upto_region 12 with fail
            clear hd hw1
            refine wp_region_lit ?_
            iterate 27 (first | with_reducible refine isLoad (ty := 37) rfl ?_ | go_step)
            refine wpList_load_mid rfl 37 _ rfl (bo) (off + k * 17 + 2) rfl (x.x.cells) _ (rangePart hr2.out (pqC x)) Tryd.underlying37 rfl sizeCm ?_
            refine wpList_buildSlice rfl 119 37 1 #[(0, .tmp 39)] rfl (x.x.cells).toArray i1 (.agg #[.int .i64 0, .int .i64 0, .int .i64 0, .slice none 0 0, .slice none 0 0, .int .i64 0, .int .i64 0, .int .i64 0, .int .u64 0, .bool false]) Tryd.underlying119 hi1 hz10 (by rw [hz11]; decide) (by rw [hz11]; decide) (by rw [hz11]; simp only [List.map_toArray, List.map_cons, List.map_nil]; exact ogFill (by omega) _ (Cm.cells_len _) _ (by simp)) ?_
            have sz_ := ee.size
            have ne_hu_Zm : (Value.slice D ch.length d).ownBlock ≠ some (wr.heap.size) := fun hb_ => by have hh_ := (hu.lt _ hb_).2; omega
            have hu := hu.alloc (.cells (x.x.cells).toArray 37)
            have ee := ee.alloc ee.size (.cells (x.x.cells).toArray 37)
            have Zm := hpN wr (.cells (x.x.cells).toArray 37) rfl
            generalize wr.alloc (.cells (x.x.cells).toArray 37) = z1 at Zm hu ee ⊢
            refine wpList_append_own _ rfl (.tmp 34) (.tmp 40) 119 rfl w.heap.size 37 i1 (.agg #[.int .i64 0, .int .i64 0, .int .i64 0, .slice none 0 0, .slice none 0 0, .int .i64 0, .int .i64 0, .int .i64 0, .int .u64 0, .bool false]) 10 112 Tryd.underlying119 hi1 hz10 hz11 hz12 rfl (by decide) _ _ _ rfl hu ⟨wr.heap.size, 0, none⟩ 1 1 (x.x.cells) rfl rfl (ogRowAdd Zm) (oneCm2 _) (by unfold maxLen; omega) (by omega) ee.size ?_
            intro u_ z2 ho_ hg_ _
            clear Zm
            have ee := ee.grown hg_ ee.size (fun g_ hg2_ => by have hh_ := (hu.lt g_ hg2_).1; omega)
            clear hg_ hu
            obtain ⟨A9, c9, hu9, hc9, _, _⟩ := ownShape ho_
            subst hu9
            have hu := ho_
            clear ho_
            go_wp2_with fail
            go_roundw
            case rel =>
              have hl2 : (ch ++ [x.x]).length = ch.length + 1 := by simp
              exact ⟨k + 1, A9, c9, by omega, by go_num, by rw [HC.out, hl2], by rw [HC.out, hl2, flat_snoc]; exact hu, ee⟩
            case measure => simp [intOf]; omega
          · rw [if_neg hmj] at HC
            have hd : decide ((n : Int) < 2 * (q : Int)) = false := by simp; omega
            clear hmj
            go_wp2_with fail
            go_roundw
            case rel => exact ⟨k + 1, D, d, by omega, by go_num, by rw [HC.out], by rw [HC.out]; exact hu, ee⟩
            case measure => simp [intOf]; omega
    · obtain rfl : m = k := by omega
      clear hlt hk
      rw [← HM.out] at HS
      generalize One.chosen n all m = ch at HS HCL hu ⊢
      have hcl : ch.length ≤ 100 := by have := HCL.out; omega
      obtain ⟨D8, d8, e8, hd8, hR8, _⟩ := flatOwn Cm.cells_len (by omega) hu
      injection e8 with e81 e82 e83
      subst e81
      subst e83
      clear e82 hu
      have HR8 := Lib.hid hR8
      have HEE := Lib.hid ee.size
      clear hR8
      obtain ⟨w1, hw1⟩ : ∃ w1, w1 = wr := ⟨_, rfl⟩
      subst hw1
      obtain ⟨cl, hcl2⟩ : ∃ cl, cl = ch.length := ⟨_, rfl⟩
      have HCL2 := Lib.hid hcl2
      rw [← hcl2] at hcl hd8 ⊢
      clear hcl2 HCL
      go_wp2_with fail
      go_loopw [9] (fun i wx => ∃ j : Nat, i = .int .i64 (j : Int) ∧ 1 ≤ j ∧ Hid (Below w.heap.size w wx) ∧ Hid (Below w1.heap.size w1 wx)) (fun i _ => cl + 1 - (intOf i).toNat)
      case atStart => exact ⟨1, rfl, Nat.le_refl _, ee, Below.refl _ _⟩
      case round =>
        clear ee
        obtain ⟨j, rfl, hj1, ee, e2⟩ := hrel
        have ee := ee.out
        have e2 := e2.out
        by_cases hlt2 : j < cl
        · have hltc : j < ch.length := by rw [← HCL2.out]; exact hlt2
          obtain ⟨bo, off, hA, hbo, hr⟩ := rowsGet HR8.out hltc
          subst hA
          have hr0 := rowsAtK HR8.out (k := 0) (x := ch[0]'(by omega)) (List.getElem?_eq_getElem _)
          have HE := Lib.hid (HS.out (ch[0]'(by omega)) (ch[j]'hltc) (List.getElem_mem _) (List.getElem_mem _))
          generalize ch[0] = x0 at hr0 HE
          generalize ch[j] = x at hr HE
          have hj0 : (0 : Int) ≤ (j : Int) := by omega
          have hj6 : (j : Int) < (cl : Int) := by omega
          have hc0 : 0 < cl := by omega
          clear hltc
          have SAME := Lib.hid (fun z => c_csame x0 x z z.heap.size (Nat.le_refl _) (CmOk.flat HE.out.2) (CmOk.flat (HE.out.1 ▸ HE.out.2)))
          rw [show SameC x0 x = true by rw [HE.out.1]; exact SameC.refl _] at SAME
          clear HE
          go_upto_region 16 with fail
          have ee := belowDrewS ee
          have e2 := belowDrewS e2
          refine wp_region_held_drew (S := fun z' => z'.rangeAt bo off x0.cells ∧ z'.rangeAt bo (off + j * 10) x.cells) (by kernel_rfl) ⟨rangeB hr0 e2 hbo, rangeB hr e2 hbo⟩ (fun hH => ?_)
          clear hH
          generalize wr.drew = y1 at ee e2 ⊢
          refine wpAnyH_take (i := 0) (v := .slice (some ⟨bo, off, none⟩) cl d) rfl (by kernel_rfl) (by kernel_rfl) (by kernel_rfl) (fun _ _ _ h => h) (Or.inl ⟨by rfl, fun w_ hS_ => by (first | (go_simp; done) | (go_simp; rfl))⟩) ⟨rangeB hr0 e2 hbo, rangeB hr e2 hbo⟩ ?_
          try simp only [Act.put, List.getElem_toArray, List.getElem_cons_zero, List.getElem_cons_succ, List.setIfInBounds_toArray, List.set_cons_zero, List.set_cons_succ]
          refine wpAnyH_take (i := 1) (v := .pointer (some ⟨bo, off, none⟩)) rfl (by kernel_rfl) (by kernel_rfl) (by kernel_rfl) (fun _ _ _ h => h) (Or.inl ⟨by rfl, fun w_ hS_ => by (first | (go_simp; done) | (go_simp; rfl))⟩) ⟨rangeB hr0 e2 hbo, rangeB hr e2 hbo⟩ ?_
          try simp only [Act.put, List.getElem_toArray, List.getElem_cons_zero, List.getElem_cons_succ, List.setIfInBounds_toArray, List.set_cons_zero, List.set_cons_succ]
          refine wpAnyH_take (i := 2) (v := .agg (x0.cells).toArray) rfl (by kernel_rfl) (by kernel_rfl) (by kernel_rfl) (fun _ _ _ h => h) (yieldsIf_load_mid (by rfl) 37 _ rfl (bo) (off) rfl (x0.cells) _ (fun _ h => h.1) Tryd.underlying37 rfl sizeCm) ⟨rangeB hr0 e2 hbo, rangeB hr e2 hbo⟩ ?_
          try simp only [Act.put, List.getElem_toArray, List.getElem_cons_zero, List.getElem_cons_succ, List.setIfInBounds_toArray, List.set_cons_zero, List.set_cons_succ]
          refine wpAnyH_take (i := 3) (v := .slice (some ⟨bo, off, none⟩) cl d) rfl (by kernel_rfl) (by kernel_rfl) (by kernel_rfl) (fun _ _ _ h => h) (Or.inl ⟨by rfl, fun w_ hS_ => by (first | (go_simp; done) | (go_simp; rfl))⟩) ⟨rangeB hr0 e2 hbo, rangeB hr e2 hbo⟩ ?_
          try simp only [Act.put, List.getElem_toArray, List.getElem_cons_zero, List.getElem_cons_succ, List.setIfInBounds_toArray, List.set_cons_zero, List.set_cons_succ]
          refine wpAnyH_take (i := 4) (v := .int .i64 (j : Int)) rfl (by kernel_rfl) (by kernel_rfl) (by kernel_rfl) (fun _ _ _ h => h) (Or.inl ⟨by rfl, fun w_ hS_ => by (first | (go_simp; done) | (go_simp; rfl))⟩) ⟨rangeB hr0 e2 hbo, rangeB hr e2 hbo⟩ ?_
          try simp only [Act.put, List.getElem_toArray, List.getElem_cons_zero, List.getElem_cons_succ, List.setIfInBounds_toArray, List.set_cons_zero, List.set_cons_succ]
          refine wpAnyH_take (i := 5) (v := .pointer (some ⟨bo, off + j * 10, none⟩)) rfl (by kernel_rfl) (by kernel_rfl) (by kernel_rfl) (fun _ _ _ h => h) (Or.inl ⟨by rfl, fun w_ hS_ => by (first | (go_simp; done) | (go_simp; rfl))⟩) ⟨rangeB hr0 e2 hbo, rangeB hr e2 hbo⟩ ?_
          try simp only [Act.put, List.getElem_toArray, List.getElem_cons_zero, List.getElem_cons_succ, List.setIfInBounds_toArray, List.set_cons_zero, List.set_cons_succ]
          refine wpAnyH_take (i := 6) (v := .agg (x.cells).toArray) rfl (by kernel_rfl) (by kernel_rfl) (by kernel_rfl) (fun _ _ _ h => h) (yieldsIf_load_mid (by rfl) 37 _ rfl (bo) (off + j * 10) rfl (x.cells) _ (fun _ h => h.2) Tryd.underlying37 rfl sizeCm) ⟨rangeB hr0 e2 hbo, rangeB hr e2 hbo⟩ ?_
          try simp only [Act.put, List.getElem_toArray, List.getElem_cons_zero, List.getElem_cons_succ, List.setIfInBounds_toArray, List.set_cons_zero, List.set_cons_succ]
          refine wpAnyH_ready (rs := [7]) (by kernel_rfl) (by simp) ?_
          refine AllReadyH.cons rfl (fun K hK => ?_) AllReadyH.nil
          rw [if_pos (by rfl)]
          go_simp
          go_wp2_with (go_at_call 32; refine (SAME.out y1).mono ?_; rintro e y2 ⟨rfl, t⟩)
          have ee := ee.trans (t.mono ee.size)
          have e2 := e2.trans (t.mono e2.size)
          clear t
          refine hK.out _ _ ⟨rangeB hr0 e2 hbo, rangeB hr e2 hbo⟩ (fun hH => ?_)
          clear hK K hH
          try simp only [Act.put, List.getElem_toArray, List.getElem_cons_zero, List.getElem_cons_succ, List.setIfInBounds_toArray, List.set_cons_zero, List.set_cons_succ]
          refine wpAnyH_take (i := 8) (v := .bool false) rfl (by kernel_rfl) (by kernel_rfl) (by kernel_rfl) (fun _ _ _ h => h) (Or.inl ⟨by rfl, fun w_ hS_ => by (first | (go_simp; done) | (go_simp; rfl))⟩) ⟨rangeB hr0 e2 hbo, rangeB hr e2 hbo⟩ ?_
          try simp only [Act.put, List.getElem_toArray, List.getElem_cons_zero, List.getElem_cons_succ, List.setIfInBounds_toArray, List.set_cons_zero, List.set_cons_succ]
          refine wpAnyH_done (by kernel_rfl) ?_ _
          go_wp2_with fail
          go_roundw
          case rel => exact ⟨j + 1, by go_num, by omega, ee, e2⟩
          case measure => simp [intOf]; omega
        · go_wp2_with fail
          go_ret
          exact ⟨rfl, ee⟩
end Go.Proofs.YtbahooohkigcnaaDoor
