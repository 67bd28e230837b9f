/- parishlaw18.lead: promises are asked for. Conditions: what lies, lies below; the tables lie. (Printed by gen_one.py.) -/
import Derived.Test.YtbahooohkigcnaaDoorOneSM
namespace Go.Proofs.YtbahooohkigcnaaDoor
set_option maxRecDepth 20000
open Go.RowKit T
set_option linter.unusedSimpArgs false
set_option linter.unusedVariables false

theorem infoAc2 : (Tryd.prog.info? 39).map (fun i => (i.zero, i.size, i.bytes)) = some (some (.agg #[.int .u32 0, .int .i64 0, .int .i64 0, .bool false, .int .u32 0, .int .i64 0, .int .i64 0, .int .i64 0, .int .i64 0, .slice none 0 0, .slice none 0 0, .int .i64 0, .int .i64 0, .int .i64 0, .int .u64 0, .bool false]), 16, 160) := by kernel_rfl
theorem oneOf2 (a : Ac) : ∀ u ∈ a.cells, u.oneCell' = true := fun u hu => (Array.all_eq_true_iff_forall_mem.1 (Ac.one a)) u (by simpa using hu)
/-- is the bit j set? -/
def tb (m j : Nat) : Bool := m.testBit j
set_option maxHeartbeats 6400000 in
theorem olead (g n : Nat) (s : OSt) (br : Nat) (bn : Int) (ls : List Ac) (w : World) (hZ : w.heap[g]? = some (.cells (flat Ac.cells ls).toArray 62 (0, 0))) (h5 : n ≤ 5) (hl : ls.length = 5) (hs : s.ak < 256) (hbr : br < 1000) (hbn : 0 ≤ bn ∧ bn < 5)
    (hfl : ∀ a ∈ ls, flatC a.c) (B : Nat) (hB : B ≤ w.heap.size) (hBg : B ≤ g) (hT : ∀ z, Below B w z → Tabs z) :
    Calls Tryd.prog 23 #[.pointer (some ⟨g, 0, none⟩), .int .i64 (n : Int), .agg s.cells.toArray, .agg #[.int .u32 (br : Int), .int .i64 bn]] w fun e w' => e = .returned (.tuple #[.agg (bif decide (n < 2 * (One.ask (tb s.ak) br bn ls n).2.length) then One.picked (One.ask (tb s.ak) br bn ls n).2 br bn else Cm.zero).cells.toArray, .bool (decide (n < 2 * (One.ask (tb s.ak) br bn ls n).2.length))]) ∧ w'.heap[g]? = some (.cells (flat Ac.cells (One.ask (tb s.ak) br bn ls n).1).toArray 62 (0, 0)) ∧ OgF w w' (fun i => i = g) := by
  obtain ⟨i1, hi1, hz10, hz11, hz12⟩ := info_parts infoAc2
  have HT := Lib.hid hT
  have HF := Lib.hid hfl
  have HL := Lib.hid hl
  clear hT hfl hl
  generalize hM : decide (n < 2 * (One.ask (tb s.ak) br bn ls n).2.length) = M
  generalize hX : (bif M then One.picked (One.ask (tb s.ak) br bn ls n).2 br bn else Cm.zero) = X
  generalize hG : (One.ask (tb s.ak) br bn ls n).1 = G
  have HM := Lib.hid hM
  have HX := Lib.hid hX
  have HG := Lib.hid hG
  clear hM hX hG
  have hlg : g < w.heap.size := (Array.getElem?_eq_some_iff.1 hZ).1
  obtain ⟨w0, hw0⟩ : ∃ w0, w0 = ((w.alloc (.cells s.cells.toArray 66)).alloc (.cells [.int .u32 (br : Int), .int .i64 bn].toArray 28)).alloc (.cells #[.int .i64 0, .int .i64 0, .int .i64 0, .slice none 0 0, .slice none 0 0, .int .i64 0, .int .i64 0, .int .i64 0, .int .u64 0, .bool false] 37) := ⟨_, rfl⟩
  have ff : OgF w w0 (fun i => i = g) := by rw [hw0]; exact ogAlloc (ogAlloc (ogAlloc (OgF.refl _ _) _) _) _
  have ee : Below B w w0 := by rw [hw0]; exact (((Below.refl _ _).alloc (Nat.le_refl _) _).alloc (by simp) _).alloc (by simp; omega) _ |>.mono hB
  have Zg : w0.heap[g]? = some (.cells (flat Ac.cells ls).toArray 62) := by rw [hw0]; exact hpA (hpA (hpA hZ _) _) _
  have Zs : w0.heap[w.heap.size]? = some (.cells s.cells.toArray 66) := by rw [hw0]; exact hpA (hpA (hpN _ _ rfl) _) _
  have Zb : w0.heap[w.heap.size + 1]? = some (.cells [.int .u32 (br : Int), .int .i64 bn].toArray 28) := by rw [hw0]; exact hpA (hpN _ _ (by simp)) _
  have Zr : w0.heap[w.heap.size + 1 + 1]? = some (.cells #[.int .i64 0, .int .i64 0, .int .i64 0, .slice none 0 0, .slice none 0 0, .int .i64 0, .int .i64 0, .int .i64 0, .int .u64 0, .bool false] 37) := by rw [hw0]; exact hpN _ _ (by simp)
  go_enter Tryd.func23, Tryd.ntmps23
  go_upto_region 1 with fail
  change Code.wp _ _ _ _ (((w.alloc (.cells s.cells.toArray 66)).alloc (.cells [.int .u32 (br : Int), .int .i64 bn].toArray 28)).alloc (.cells #[.int .i64 0, .int .i64 0, .int .i64 0, .slice none 0 0, .slice none 0 0, .int .i64 0, .int .i64 0, .int .i64 0, .int .u64 0, .bool false] 37))
  rw [← hw0]
  clear hw0 hZ
  have hu : w0.ownsRow w.heap.size 39 16 (.slice none 0 0) 0 (flat Ac.cells []) := World.ownsRow_nil _ _ _ _
  go_wp2_with fail
  go_loopw [10, 11] (fun p i wr => ∃ (k : Nat) (A : Option Addr) (c : Nat), k ≤ n ∧ i = .int .i64 (k : Int) ∧ p = .slice A (One.ask (tb s.ak) br bn ls k).2.length c ∧ Hid (wr.heap[g]? = some (.cells (flat Ac.cells (One.ask (tb s.ak) br bn ls k).1).toArray 62 (0, 0))) ∧ Hid (wr.ownsRow w.heap.size 39 16 (.slice A (One.ask (tb s.ak) br bn ls k).2.length c) (One.ask (tb s.ak) br bn ls k).2.length (flat Ac.cells (One.ask (tb s.ak) br bn ls k).2)) ∧ Hid (wr.heap[w.heap.size]? = some (.cells s.cells.toArray 66 (0, 0))) ∧ Hid (wr.heap[w.heap.size + 1]? = some (.cells [.int .u32 (br : Int), .int .i64 bn].toArray 28 (0, 0))) ∧ Hid (wr.heap[w.heap.size + 1 + 1]? = some (.cells #[.int .i64 0, .int .i64 0, .int .i64 0, .slice none 0 0, .slice none 0 0, .int .i64 0, .int .i64 0, .int .i64 0, .int .u64 0, .bool false] 37 (0, 0))) ∧ Hid (OgF w wr (fun i => i = g)) ∧ Hid (Below B w wr)) (fun _ i _ => n - (intOf i).toNat)
  case atStart => exact ⟨0, none, 0, Nat.zero_le _, rfl, rfl, Zg, hu, Zs, Zb, Zr, ff, ee⟩
  case round =>
    clear Zg hu Zs Zb Zr ff ee
    obtain ⟨k, A, c, hk, rfl, rfl, Zg, hu, Zs, Zb, Zr, ff, ee⟩ := hrel
    have Zg := Zg.out
    have hu := hu.out
    have Zs := Zs.out
    have Zb := Zb.out
    have Zr := Zr.out
    have ff := ff.out
    have ee := ee.out
    have HLK : Hid ((One.ask (tb s.ak) br bn ls k).1.length = 5 ∧ (One.ask (tb s.ak) br bn ls k).2.length ≤ k ∧ (∀ a ∈ (One.ask (tb s.ak) br bn ls k).1, flatC a.c) ∧ ∀ a ∈ (One.ask (tb s.ak) br bn ls k).2, flatC a.c) := One.ask_facts (tb s.ak) br bn ls HL.out HF.out k (by omega)
    by_cases hlt : k < n
    · have HA : Hid (One.ask (tb s.ak) br bn ls (k + 1) = bif tb s.ak k then ((One.ask (tb s.ak) br bn ls k).1.set k ((One.at_ (One.ask (tb s.ak) br bn ls k).1 k).prep br bn), bif (One.at_ (One.ask (tb s.ak) br bn ls k).1 k).may br bn then (One.ask (tb s.ak) br bn ls k).2 ++ [(One.at_ (One.ask (tb s.ak) br bn ls k).1 k).prep br bn] else (One.ask (tb s.ak) br bn ls k).2) else One.ask (tb s.ak) br bn ls k) := rfl
      generalize hR : One.ask (tb s.ak) br bn ls k = R at HA HLK hu Zg ⊢
      clear hR
      obtain ⟨l', pr⟩ := R
      simp only at HA HLK hu Zg ⊢
      have hk5 : k < l'.length := by rw [HLK.out.1]; omega
      have hpl : pr.length ≤ 5 := by have := HLK.out.2.1; omega
      have hk0 : (0 : Int) ≤ (k : Int) := by omega
      have hk6 : (k : Int) < 5 := by omega
      have HB := Lib.hid (bit8 s.ak k hs)
      have c2 := rowCell Zs 2 (v := .int .u8 (s.ak : Int)) rfl
      have hka : l'[k]? = some (One.at_ l' k) := by unfold One.at_; rw [List.getD_eq_getElem?_getD, List.getElem?_eq_getElem hk5]; rfl
      have HFA : Hid (flatC (One.at_ l' k).c) := HLK.out.2.2.1 _ (List.mem_of_getElem? hka)
      generalize One.at_ l' k = a at HA hka HFA
      cases hb : tb s.ak k with
      | false =>
        rw [hb, cond_false] at HA
        have hx : (bits BinOp.and IntKind.u8 ((s.ak : Int) / 2 ^ k) 1 == 0) = true := by rw [HB.out]; show (!tb s.ak k) = true; rw [hb]; rfl
        clear hb HB
        go_wp2_with fail
        go_roundw
        case rel => exact ⟨k + 1, A, c, by omega, by go_num, by rw [HA.out], by rw [HA.out]; exact Zg, by rw [HA.out]; exact hu, Zs, Zb, Zr, ff, ee⟩
        case measure => simp [intOf]; omega
      | true =>
        rw [hb, cond_true] at HA
        have hx : (bits BinOp.and IntKind.u8 ((s.ak : Int) / 2 ^ k) 1 == 0) = false := by rw [HB.out]; show (!tb s.ak k) = false; rw [hb]; rfl
        clear hb HB
        go_upto_region 6 with fail
        clear hx c2
        have Zg : wr.drew.heap[g]? = some (.cells (flat Ac.cells l').toArray 62) := Zg
        have Zs : wr.drew.heap[w.heap.size]? = some (.cells s.cells.toArray 66) := Zs
        have Zb : wr.drew.heap[w.heap.size + 1]? = some (.cells [.int .u32 (br : Int), .int .i64 bn].toArray 28) := Zb
        have Zr : wr.drew.heap[w.heap.size + 1 + 1]? = some (.cells #[.int .i64 0, .int .i64 0, .int .i64 0, .slice none 0 0, .slice none 0 0, .int .i64 0, .int .i64 0, .int .i64 0, .int .u64 0, .bool false] 37) := Zr
        have hu := World.ownsRow.drew hu
        have ee := belowDrewS ee
        have ff := ogDrew ff
        refine wp_region_held_drew (S := fun z' => z'.rangeAt g (k * 16) a.cells ∧ z'.rangeAt (w.heap.size + 1) 0 [.int .u32 (br : Int), .int .i64 bn]) (by kernel_rfl) ⟨flatMid acL Zg hka, rowAt Zb⟩ (fun hH => ?_)
        clear hH
        generalize wr.drew = z1 at Zg Zs Zb Zr hu ee ff ⊢
        refine wpAnyH_take (i := 0) (v := .pointer (some ⟨g, 0, none⟩)) rfl (by kernel_rfl) (by kernel_rfl) (by kernel_rfl) (fun _ _ _ h => h) (Or.inl ⟨by rfl, fun w_ hS_ => by (first | (go_simp; done) | (go_simp; rfl))⟩) ⟨flatMid acL Zg hka, rowAt Zb⟩ ?_
        try simp only [Act.put, List.getElem_toArray, List.getElem_cons_zero, List.getElem_cons_succ, List.setIfInBounds_toArray, List.set_cons_zero, List.set_cons_succ]
        refine wpAnyH_take (i := 1) (v := .int .i64 (k : Int)) rfl (by kernel_rfl) (by kernel_rfl) (by kernel_rfl) (fun _ _ _ h => h) (Or.inl ⟨by rfl, fun w_ hS_ => by (first | (go_simp; done) | (go_simp; rfl))⟩) ⟨flatMid acL Zg hka, rowAt Zb⟩ ?_
        try simp only [Act.put, List.getElem_toArray, List.getElem_cons_zero, List.getElem_cons_succ, List.setIfInBounds_toArray, List.set_cons_zero, List.set_cons_succ]
        refine wpAnyH_take (i := 2) (v := .pointer (some ⟨g, 0, none⟩)) rfl (by kernel_rfl) (by kernel_rfl) (by kernel_rfl) (fun _ _ _ h => h) (Or.inl ⟨by rfl, fun w_ hS_ => by (first | (go_simp; done) | (go_simp; rfl))⟩) ⟨flatMid acL Zg hka, rowAt Zb⟩ ?_
        try simp only [Act.put, List.getElem_toArray, List.getElem_cons_zero, List.getElem_cons_succ, List.setIfInBounds_toArray, List.set_cons_zero, List.set_cons_succ]
        refine wpAnyH_take (i := 3) (v := .pointer (some ⟨g, k * 16, none⟩)) rfl (by kernel_rfl) (by kernel_rfl) (by kernel_rfl) (fun _ _ _ h => h) (Or.inl ⟨by rfl, fun w_ hS_ => by (first | (go_simp; done) | (go_simp; rfl))⟩) ⟨flatMid acL Zg hka, rowAt Zb⟩ ?_
        try simp only [Act.put, List.getElem_toArray, List.getElem_cons_zero, List.getElem_cons_succ, List.setIfInBounds_toArray, List.set_cons_zero, List.set_cons_succ]
        refine wpAnyH_take (i := 4) (v := .agg (a.cells).toArray) rfl (by kernel_rfl) (by kernel_rfl) (by kernel_rfl) (fun _ _ _ h => h) (yieldsIf_load_mid (by rfl) 39 _ rfl (g) (k * 16) rfl (a.cells) _ (fun _ h => h.1) Tryd.underlying39 rfl sizeAc) ⟨flatMid acL Zg hka, rowAt Zb⟩ ?_
        try simp only [Act.put, List.getElem_toArray, List.getElem_cons_zero, List.getElem_cons_succ, List.setIfInBounds_toArray, List.set_cons_zero, List.set_cons_succ]
        refine wpAnyH_take (i := 5) (v := .agg ([.int .u32 (br : Int), .int .i64 bn]).toArray) rfl (by kernel_rfl) (by kernel_rfl) (by kernel_rfl) (fun _ _ _ h => h) (yieldsIf_load_mid (by rfl) 28 _ rfl (w.heap.size + 1) (0) rfl ([.int .u32 (br : Int), .int .i64 bn]) _ (fun _ h => h.2) Tryd.underlying28 rfl sizeBal) ⟨flatMid acL Zg hka, rowAt Zb⟩ ?_
        try simp only [Act.put, List.getElem_toArray, List.getElem_cons_zero, List.getElem_cons_succ, List.setIfInBounds_toArray, List.set_cons_zero, List.set_cons_succ]
        refine wpAnyH_ready (rs := [6, 10]) (by kernel_rfl) (by simp) ?_
        refine AllReadyH.cons rfl (fun K hK => ?_) (AllReadyH.cons rfl (fun K hK => ?_) AllReadyH.nil)
        · rw [if_pos (by rfl)]
          go_simp
          go_wp2_with (go_at_call 65; refine (c_prep a br bn z1 z1.heap.size (Nat.le_refl _) (CmOk.flat HFA.out) (HT.out _ ee)).mono ?_; rintro e z2 ⟨rfl, t⟩)
          have Zg := hpB Zg t
          have Zs := hpB Zs t
          have Zb := hpB Zb t
          have Zr := hpB Zr t
          have hu := ownBelow hu t
          have ee := ee.trans (t.mono (Nat.le_trans hB ee.size))
          have ff := ogBelow ff t
          clear t
          refine hK.out _ _ ⟨flatMid acL Zg hka, rowAt Zb⟩ (fun hH => ?_)
          clear hK K hH
          try simp only [Act.put, List.getElem_toArray, List.getElem_cons_zero, List.getElem_cons_succ, List.setIfInBounds_toArray, List.set_cons_zero, List.set_cons_succ]
          refine wpAnyH_take (i := 7) (v := .tuple #[.agg (a.prep br bn).cells.toArray, .bool (a.may br bn)]) rfl (by kernel_rfl) (by kernel_rfl) (by kernel_rfl) (fun _ _ _ h => h) (Or.inl ⟨by rfl, fun w_ hS_ => by (first | (go_simp; done) | (go_simp; rfl))⟩) ⟨flatMid acL Zg hka, rowAt Zb⟩ ?_
          try simp only [Act.put, List.getElem_toArray, List.getElem_cons_zero, List.getElem_cons_succ, List.setIfInBounds_toArray, List.set_cons_zero, List.set_cons_succ]
          refine wpAnyH_take (i := 8) (v := .agg (a.prep br bn).cells.toArray) rfl (by kernel_rfl) (by kernel_rfl) (by kernel_rfl) (fun _ _ _ h => h) (Or.inl ⟨by rfl, fun w_ hS_ => by (first | (go_simp; done) | (go_simp; rfl))⟩) ⟨flatMid acL Zg hka, rowAt Zb⟩ ?_
          try simp only [Act.put, List.getElem_toArray, List.getElem_cons_zero, List.getElem_cons_succ, List.setIfInBounds_toArray, List.set_cons_zero, List.set_cons_succ]
          refine wpAnyH_take (i := 9) (v := .bool (a.may br bn)) rfl (by kernel_rfl) (by kernel_rfl) (by kernel_rfl) (fun _ _ _ h => h) (Or.inl ⟨by rfl, fun w_ hS_ => by (first | (go_simp; done) | (go_simp; rfl))⟩) ⟨flatMid acL Zg hka, rowAt Zb⟩ ?_
          try simp only [Act.put, List.getElem_toArray, List.getElem_cons_zero, List.getElem_cons_succ, List.setIfInBounds_toArray, List.set_cons_zero, List.set_cons_succ]
          refine wpAnyH_ready (rs := [10]) (by kernel_rfl) (by simp) ?_
          refine AllReadyH.cons rfl (fun K hK => ?_) AllReadyH.nil
          rw [if_pos (by rfl)]
          go_simp
          have lZg := (Array.getElem?_eq_some_iff.1 Zg).1
          have lZs := (Array.getElem?_eq_some_iff.1 Zs).1
          have lZb := (Array.getElem?_eq_some_iff.1 Zb).1
          have lZr := (Array.getElem?_eq_some_iff.1 Zr).1
          have sz_ := ff.size
          have ne_hu_Zn : (Value.slice A pr.length c).ownBlock ≠ some (z2.heap.size) := fun hb_ => by have hh_ := (hu.lt _ hb_).2; omega
          have Zg := hpA Zg (.cells #[.int .u32 0, .int .i64 0, .int .i64 0, .bool false, .int .u32 0, .int .i64 0, .int .i64 0, .int .i64 0, .int .i64 0, .slice none 0 0, .slice none 0 0, .int .i64 0, .int .i64 0, .int .i64 0, .int .u64 0, .bool false] 39)
          have Zs := hpA Zs (.cells #[.int .u32 0, .int .i64 0, .int .i64 0, .bool false, .int .u32 0, .int .i64 0, .int .i64 0, .int .i64 0, .int .i64 0, .slice none 0 0, .slice none 0 0, .int .i64 0, .int .i64 0, .int .i64 0, .int .u64 0, .bool false] 39)
          have Zb := hpA Zb (.cells #[.int .u32 0, .int .i64 0, .int .i64 0, .bool false, .int .u32 0, .int .i64 0, .int .i64 0, .int .i64 0, .int .i64 0, .slice none 0 0, .slice none 0 0, .int .i64 0, .int .i64 0, .int .i64 0, .int .u64 0, .bool false] 39)
          have Zr := hpA Zr (.cells #[.int .u32 0, .int .i64 0, .int .i64 0, .bool false, .int .u32 0, .int .i64 0, .int .i64 0, .int .i64 0, .int .i64 0, .slice none 0 0, .slice none 0 0, .int .i64 0, .int .i64 0, .int .i64 0, .int .u64 0, .bool false] 39)
          have hu := hu.alloc (.cells #[.int .u32 0, .int .i64 0, .int .i64 0, .bool false, .int .u32 0, .int .i64 0, .int .i64 0, .int .i64 0, .int .i64 0, .slice none 0 0, .slice none 0 0, .int .i64 0, .int .i64 0, .int .i64 0, .int .u64 0, .bool false] 39)
          have ee := ee.alloc (Nat.le_trans hB ee.size) (.cells #[.int .u32 0, .int .i64 0, .int .i64 0, .bool false, .int .u32 0, .int .i64 0, .int .i64 0, .int .i64 0, .int .i64 0, .slice none 0 0, .slice none 0 0, .int .i64 0, .int .i64 0, .int .i64 0, .int .u64 0, .bool false] 39)
          have ff := ogAlloc ff (.cells #[.int .u32 0, .int .i64 0, .int .i64 0, .bool false, .int .u32 0, .int .i64 0, .int .i64 0, .int .i64 0, .int .i64 0, .slice none 0 0, .slice none 0 0, .int .i64 0, .int .i64 0, .int .i64 0, .int .u64 0, .bool false] 39)
          have Zn := hpN z2 (.cells #[.int .u32 0, .int .i64 0, .int .i64 0, .bool false, .int .u32 0, .int .i64 0, .int .i64 0, .int .i64 0, .int .i64 0, .slice none 0 0, .slice none 0 0, .int .i64 0, .int .i64 0, .int .i64 0, .int .u64 0, .bool false] 39) rfl
          generalize z2.alloc (.cells #[.int .u32 0, .int .i64 0, .int .i64 0, .bool false, .int .u32 0, .int .i64 0, .int .i64 0, .int .i64 0, .int .i64 0, .slice none 0 0, .slice none 0 0, .int .i64 0, .int .i64 0, .int .i64 0, .int .u64 0, .bool false] 39) = z3 at Zg Zs Zb Zr Zn hu ee ff ⊢
          refine hK.out _ _ ⟨flatMid acL Zg hka, rowAt Zb⟩ (fun hH => ?_)
          clear hK K hH
          try simp only [Act.put, List.getElem_toArray, List.getElem_cons_zero, List.getElem_cons_succ, List.setIfInBounds_toArray, List.set_cons_zero, List.set_cons_succ]
          refine wpAnyH_ready (rs := [11]) (by kernel_rfl) (by simp) ?_
          refine AllReadyH.cons rfl (fun K hK => ?_) AllReadyH.nil
          rw [if_pos (by rfl)]
          refine wp_store_row 39 _ _ rfl (z2.heap.size) ((a.prep br bn).cells).toArray rfl rfl 39 _ Zn sizeAc (by rfl) (Ac.one _) ?_
          have N_ := setRow_heap z3 (z2.heap.size) _ ((a.prep br bn).cells).toArray _ _ Zn
          have hu := ogOwnR (cs := ((a.prep br bn).cells).toArray) hu ne_hu_Zn
          have ee := belowSet (cs := ((a.prep br bn).cells).toArray) ee Zn (by omega)
          have ff := ogRow (cs := ((a.prep br bn).cells).toArray) (by first | (right; omega) | (left; first | rfl | omega)) Zn ff
          have Zg := hpR Zg (g' := z2.heap.size) (by omega) ((a.prep br bn).cells).toArray
          have Zs := hpR Zs (g' := z2.heap.size) (by omega) ((a.prep br bn).cells).toArray
          have Zb := hpR Zb (g' := z2.heap.size) (by omega) ((a.prep br bn).cells).toArray
          have Zr := hpR Zr (g' := z2.heap.size) (by omega) ((a.prep br bn).cells).toArray
          clear Zn
          have Zn := N_
          clear N_
          generalize z3.setRow (z2.heap.size) ((a.prep br bn).cells).toArray = z4 at Zg Zs Zb Zr Zn hu ee ff ⊢
          refine hK.out _ _ ⟨flatMid acL Zg hka, rowAt Zb⟩ (fun hH => ?_)
          clear hK K hH
          try simp only [Act.put, List.getElem_toArray, List.getElem_cons_zero, List.getElem_cons_succ, List.setIfInBounds_toArray, List.set_cons_zero, List.set_cons_succ]
          refine wpAnyH_take (i := 12) (v := .bool (a.may br bn)) rfl (by kernel_rfl) (by kernel_rfl) (by kernel_rfl) (fun _ _ _ h => h) (Or.inl ⟨by rfl, fun w_ hS_ => by (first | (go_simp; done) | (go_simp; rfl))⟩) ⟨flatMid acL Zg hka, rowAt Zb⟩ ?_
          try simp only [Act.put, List.getElem_toArray, List.getElem_cons_zero, List.getElem_cons_succ, List.setIfInBounds_toArray, List.set_cons_zero, List.set_cons_succ]
          refine wpAnyH_done (by kernel_rfl) ?_ _
          go_upto_region 7 with fail
          have Zg : z4.drew.heap[g]? = some (.cells (flat Ac.cells l').toArray 62) := Zg
          have Zs : z4.drew.heap[w.heap.size]? = some (.cells s.cells.toArray 66) := Zs
          have Zb : z4.drew.heap[w.heap.size + 1]? = some (.cells [.int .u32 (br : Int), .int .i64 bn].toArray 28) := Zb
          have Zr : z4.drew.heap[w.heap.size + 1 + 1]? = some (.cells #[.int .i64 0, .int .i64 0, .int .i64 0, .slice none 0 0, .slice none 0 0, .int .i64 0, .int .i64 0, .int .i64 0, .int .u64 0, .bool false] 37) := Zr
          have Zn : z4.drew.heap[z2.heap.size]? = some (.cells ((a.prep br bn).cells).toArray 39) := Zn
          have hu := World.ownsRow.drew hu
          have ee := belowDrewS ee
          have ff := ogDrew ff
          refine wp_region_held_drew (S := fun z' => z'.rangeAt (z2.heap.size) 0 (a.prep br bn).cells) (by kernel_rfl) (rowAt Zn) (fun hH => ?_)
          clear hH
          generalize z4.drew = z5 at Zg Zs Zb Zr Zn hu ee ff ⊢
          refine wpAnyH_take (i := 0) (v := .pointer (some ⟨g, 0, none⟩)) rfl (by kernel_rfl) (by kernel_rfl) (by kernel_rfl) (fun _ _ _ h => h) (Or.inl ⟨by rfl, fun w_ hS_ => by (first | (go_simp; done) | (go_simp; rfl))⟩) (rowAt Zn) ?_
          try simp only [Act.put, List.getElem_toArray, List.getElem_cons_zero, List.getElem_cons_succ, List.setIfInBounds_toArray, List.set_cons_zero, List.set_cons_succ]
          refine wpAnyH_take (i := 1) (v := .int .i64 (k : Int)) rfl (by kernel_rfl) (by kernel_rfl) (by kernel_rfl) (fun _ _ _ h => h) (Or.inl ⟨by rfl, fun w_ hS_ => by (first | (go_simp; done) | (go_simp; rfl))⟩) (rowAt Zn) ?_
          try simp only [Act.put, List.getElem_toArray, List.getElem_cons_zero, List.getElem_cons_succ, List.setIfInBounds_toArray, List.set_cons_zero, List.set_cons_succ]
          refine wpAnyH_take (i := 2) (v := .agg (((a.prep br bn).cells)).toArray) rfl (by kernel_rfl) (by kernel_rfl) (by kernel_rfl) (fun _ _ _ h => h) (yieldsIf_load_mid (by rfl) 39 _ rfl (z2.heap.size) (0) rfl (((a.prep br bn).cells)) _ (fun _ h => h) Tryd.underlying39 rfl sizeAc) (rowAt Zn) ?_
          try simp only [Act.put, List.getElem_toArray, List.getElem_cons_zero, List.getElem_cons_succ, List.setIfInBounds_toArray, List.set_cons_zero, List.set_cons_succ]
          refine wpAnyH_take (i := 3) (v := .pointer (some ⟨g, 0, none⟩)) rfl (by kernel_rfl) (by kernel_rfl) (by kernel_rfl) (fun _ _ _ h => h) (Or.inl ⟨by rfl, fun w_ hS_ => by (first | (go_simp; done) | (go_simp; rfl))⟩) (rowAt Zn) ?_
          try simp only [Act.put, List.getElem_toArray, List.getElem_cons_zero, List.getElem_cons_succ, List.setIfInBounds_toArray, List.set_cons_zero, List.set_cons_succ]
          refine wpAnyH_take (i := 4) (v := .pointer (some ⟨g, k * 16, none⟩)) rfl (by kernel_rfl) (by kernel_rfl) (by kernel_rfl) (fun _ _ _ h => h) (Or.inl ⟨by rfl, fun w_ hS_ => by (first | (go_simp; done) | (go_simp; rfl))⟩) (rowAt Zn) ?_
          try simp only [Act.put, List.getElem_toArray, List.getElem_cons_zero, List.getElem_cons_succ, List.setIfInBounds_toArray, List.set_cons_zero, List.set_cons_succ]
          refine wpAnyH_ready (rs := [5]) (by kernel_rfl) (by simp) ?_
          refine AllReadyH.cons rfl (fun K hK => ?_) AllReadyH.nil
          rw [if_pos (by rfl)]
          refine wp_store_mid 39 _ _ rfl (g) (k * 16) (Ac.cells (a.prep br bn)).toArray rfl rfl (flatThere acL Zg hka) sizeAc (Ac.one _) ?_
          have N_ : (z5.setCells (g) (k * 16) (Ac.cells (a.prep br bn))).heap[g]? = some (.cells (flat Ac.cells (l'.set k (a.prep br bn))).toArray 62) := ogPut acL Zg hka (a.prep br bn)
          have hu := ogOwnC hu (ogKind hu Zg (by decide)) (Ac.cells (a.prep br bn)) (k * 16)
          have ee := belowC (g := g) (by omega) (Ac.cells (a.prep br bn)) (k * 16) z5 ee
          have ff := ogCells (k := g) (by first | (right; omega) | (left; first | rfl | omega)) (Ac.cells (a.prep br bn)) (k * 16) z5 ff
          have Zs := hpCo (g' := g) (by omega) (Ac.cells (a.prep br bn)) (k * 16) z5 Zs
          have Zb := hpCo (g' := g) (by omega) (Ac.cells (a.prep br bn)) (k * 16) z5 Zb
          have Zr := hpCo (g' := g) (by omega) (Ac.cells (a.prep br bn)) (k * 16) z5 Zr
          have Zn := hpCo (g' := g) (by omega) (Ac.cells (a.prep br bn)) (k * 16) z5 Zn
          clear Zg
          have Zg := N_
          clear N_
          change K _ (z5.setCells (g) (k * 16) (Ac.cells (a.prep br bn)))
          generalize z5.setCells (g) (k * 16) (Ac.cells (a.prep br bn)) = z6 at Zg Zs Zb Zr Zn hu ee ff ⊢
          refine hK.out _ _ (rowAt Zn) (fun hH => ?_)
          clear hK K hH
          try simp only [Act.put, List.getElem_toArray, List.getElem_cons_zero, List.getElem_cons_succ, List.setIfInBounds_toArray, List.set_cons_zero, List.set_cons_succ]
          refine wpAnyH_done (by kernel_rfl) ?_ _
          clear hk0 hk6
          generalize hM : a.may br bn = m at HA ⊢
          cases m with
          | false =>
            rw [cond_false] at HA
            go_wp2_with fail
            go_roundw
            case rel => exact ⟨k + 1, A, c, by omega, by go_num, by rw [HA.out], by rw [HA.out]; exact Zg, by rw [HA.out]; exact hu, Zs, Zb, Zr, ff, ee⟩
            case measure => simp [intOf]; omega
          | true =>
            rw [cond_true] at HA
            go_upto_region 9 with fail
            refine wp_region_lit ?_
            iterate 27 (first | with_reducible refine isLoad (ty := 39) rfl ?_ | go_step)
            refine wpList_load_mid rfl 39 _ rfl (z2.heap.size) 0 rfl (((a.prep br bn).cells)) _ (rowAt Zn) Tryd.underlying39 rfl sizeAc ?_
            refine wpList_buildSlice rfl 22 39 1 #[(0, .tmp 45)] rfl ((a.prep br bn).cells).toArray i1 (.agg #[.int .u32 0, .int .i64 0, .int .i64 0, .bool false, .int .u32 0, .int .i64 0, .int .i64 0, .int .i64 0, .int .i64 0, .slice none 0 0, .slice none 0 0, .int .i64 0, .int .i64 0, .int .i64 0, .int .u64 0, .bool false]) Tryd.underlying22 hi1 hz10 (by rw [hz11]; decide) (by rw [hz11]; decide) (by rw [hz11]; simp only [List.map_toArray, List.map_cons, List.map_nil]; exact ogFill (by omega) _ (acL _) _ (by simp)) ?_
            have lZg := (Array.getElem?_eq_some_iff.1 Zg).1
            have lZs := (Array.getElem?_eq_some_iff.1 Zs).1
            have lZb := (Array.getElem?_eq_some_iff.1 Zb).1
            have lZr := (Array.getElem?_eq_some_iff.1 Zr).1
            have lZn := (Array.getElem?_eq_some_iff.1 Zn).1
            have sz_ := ff.size
            have ne_hu_Zm : (Value.slice A pr.length c).ownBlock ≠ some (z6.heap.size) := fun hb_ => by have hh_ := (hu.lt _ hb_).2; omega
            have Zg := hpA Zg (.cells ((a.prep br bn).cells).toArray 39)
            have Zs := hpA Zs (.cells ((a.prep br bn).cells).toArray 39)
            have Zb := hpA Zb (.cells ((a.prep br bn).cells).toArray 39)
            have Zr := hpA Zr (.cells ((a.prep br bn).cells).toArray 39)
            have Zn := hpA Zn (.cells ((a.prep br bn).cells).toArray 39)
            have hu := hu.alloc (.cells ((a.prep br bn).cells).toArray 39)
            have ee := ee.alloc (Nat.le_trans hB ee.size) (.cells ((a.prep br bn).cells).toArray 39)
            have ff := ogAlloc ff (.cells ((a.prep br bn).cells).toArray 39)
            have Zm := hpN z6 (.cells ((a.prep br bn).cells).toArray 39) rfl
            generalize z6.alloc (.cells ((a.prep br bn).cells).toArray 39) = z7 at Zg Zs Zb Zr Zn Zm hu ee ff ⊢
            refine wpList_append_own _ rfl (.tmp 44) (.tmp 46) 22 rfl w.heap.size 39 i1 (.agg #[.int .u32 0, .int .i64 0, .int .i64 0, .bool false, .int .u32 0, .int .i64 0, .int .i64 0, .int .i64 0, .int .i64 0, .slice none 0 0, .slice none 0 0, .int .i64 0, .int .i64 0, .int .i64 0, .int .u64 0, .bool false]) 16 160 Tryd.underlying22 hi1 hz10 hz11 hz12 rfl (by decide) _ _ _ rfl hu ⟨z6.heap.size, 0, none⟩ 1 1 ((a.prep br bn).cells) rfl rfl (ogRowAdd Zm) (oneOf2 _) (by unfold maxLen; omega) (by omega) ff.size ?_
            intro u_ z8 ho_ hg_ _
            clear Zm
            clear Zn
            have Zg := ogHeap Zg hu (by decide) hg_
            have Zs := ogHeap Zs hu (by decide) hg_
            have Zb := ogHeap Zb hu (by decide) hg_
            have Zr := ogHeap Zr hu (by decide) hg_
            have ee := ee.grown hg_ (Nat.le_trans hB ee.size) (fun g_ hg2_ => by have hh_ := (hu.lt g_ hg2_).1; omega)
            have ff := ogOwnE ff hg_ (fun i_ hi_ => by have hh_ := (hu.lt i_ hi_).1; first | (right; omega) | (left; first | rfl | omega))
            clear hg_ hu
            obtain ⟨A9, c9, hu9, hc9, _, _⟩ := ownShape ho_
            subst hu9
            have hu := ho_
            clear ho_
            go_wp2_with fail
            go_roundw
            case rel =>
              have hl2 : (pr ++ [a.prep br bn]).length = pr.length + 1 := by simp
              exact ⟨k + 1, A9, c9, by omega, by go_num, by rw [HA.out, hl2], by rw [HA.out]; exact Zg, by rw [HA.out, hl2, flat_snoc]; exact hu, Zs, Zb, Zr, ff, ee⟩
            case measure => simp [intOf]; omega
        · rw [if_pos (by rfl)]
          go_simp
          have lZg := (Array.getElem?_eq_some_iff.1 Zg).1
          have lZs := (Array.getElem?_eq_some_iff.1 Zs).1
          have lZb := (Array.getElem?_eq_some_iff.1 Zb).1
          have lZr := (Array.getElem?_eq_some_iff.1 Zr).1
          have sz_ := ff.size
          have ne_hu_Zn : (Value.slice A pr.length c).ownBlock ≠ some (z1.heap.size) := fun hb_ => by have hh_ := (hu.lt _ hb_).2; omega
          have Zg := hpA Zg (.cells #[.int .u32 0, .int .i64 0, .int .i64 0, .bool false, .int .u32 0, .int .i64 0, .int .i64 0, .int .i64 0, .int .i64 0, .slice none 0 0, .slice none 0 0, .int .i64 0, .int .i64 0, .int .i64 0, .int .u64 0, .bool false] 39)
          have Zs := hpA Zs (.cells #[.int .u32 0, .int .i64 0, .int .i64 0, .bool false, .int .u32 0, .int .i64 0, .int .i64 0, .int .i64 0, .int .i64 0, .slice none 0 0, .slice none 0 0, .int .i64 0, .int .i64 0, .int .i64 0, .int .u64 0, .bool false] 39)
          have Zb := hpA Zb (.cells #[.int .u32 0, .int .i64 0, .int .i64 0, .bool false, .int .u32 0, .int .i64 0, .int .i64 0, .int .i64 0, .int .i64 0, .slice none 0 0, .slice none 0 0, .int .i64 0, .int .i64 0, .int .i64 0, .int .u64 0, .bool false] 39)
          have Zr := hpA Zr (.cells #[.int .u32 0, .int .i64 0, .int .i64 0, .bool false, .int .u32 0, .int .i64 0, .int .i64 0, .int .i64 0, .int .i64 0, .slice none 0 0, .slice none 0 0, .int .i64 0, .int .i64 0, .int .i64 0, .int .u64 0, .bool false] 39)
          have hu := hu.alloc (.cells #[.int .u32 0, .int .i64 0, .int .i64 0, .bool false, .int .u32 0, .int .i64 0, .int .i64 0, .int .i64 0, .int .i64 0, .slice none 0 0, .slice none 0 0, .int .i64 0, .int .i64 0, .int .i64 0, .int .u64 0, .bool false] 39)
          have ee := ee.alloc (Nat.le_trans hB ee.size) (.cells #[.int .u32 0, .int .i64 0, .int .i64 0, .bool false, .int .u32 0, .int .i64 0, .int .i64 0, .int .i64 0, .int .i64 0, .slice none 0 0, .slice none 0 0, .int .i64 0, .int .i64 0, .int .i64 0, .int .u64 0, .bool false] 39)
          have ff := ogAlloc ff (.cells #[.int .u32 0, .int .i64 0, .int .i64 0, .bool false, .int .u32 0, .int .i64 0, .int .i64 0, .int .i64 0, .int .i64 0, .slice none 0 0, .slice none 0 0, .int .i64 0, .int .i64 0, .int .i64 0, .int .u64 0, .bool false] 39)
          have Zn := hpN z1 (.cells #[.int .u32 0, .int .i64 0, .int .i64 0, .bool false, .int .u32 0, .int .i64 0, .int .i64 0, .int .i64 0, .int .i64 0, .slice none 0 0, .slice none 0 0, .int .i64 0, .int .i64 0, .int .i64 0, .int .u64 0, .bool false] 39) rfl
          generalize z1.alloc (.cells #[.int .u32 0, .int .i64 0, .int .i64 0, .bool false, .int .u32 0, .int .i64 0, .int .i64 0, .int .i64 0, .int .i64 0, .slice none 0 0, .slice none 0 0, .int .i64 0, .int .i64 0, .int .i64 0, .int .u64 0, .bool false] 39) = z2 at Zg Zs Zb Zr Zn hu ee ff ⊢
          refine hK.out _ _ ⟨flatMid acL Zg hka, rowAt Zb⟩ (fun hH => ?_)
          clear hK K hH
          try simp only [Act.put, List.getElem_toArray, List.getElem_cons_zero, List.getElem_cons_succ, List.setIfInBounds_toArray, List.set_cons_zero, List.set_cons_succ]
          refine wpAnyH_ready (rs := [6]) (by kernel_rfl) (by simp) ?_
          refine AllReadyH.cons rfl (fun K hK => ?_) AllReadyH.nil
          rw [if_pos (by rfl)]
          go_simp
          go_wp2_with (go_at_call 65; refine (c_prep a br bn z2 z2.heap.size (Nat.le_refl _) (CmOk.flat HFA.out) (HT.out _ ee)).mono ?_; rintro e z3 ⟨rfl, t⟩)
          have Zg := hpB Zg t
          have Zs := hpB Zs t
          have Zb := hpB Zb t
          have Zr := hpB Zr t
          have Zn := hpB Zn t
          have hu := ownBelow hu t
          have ee := ee.trans (t.mono (Nat.le_trans hB ee.size))
          have ff := ogBelow ff t
          clear t
          refine hK.out _ _ ⟨flatMid acL Zg hka, rowAt Zb⟩ (fun hH => ?_)
          clear hK K hH
          try simp only [Act.put, List.getElem_toArray, List.getElem_cons_zero, List.getElem_cons_succ, List.setIfInBounds_toArray, List.set_cons_zero, List.set_cons_succ]
          refine wpAnyH_take (i := 7) (v := .tuple #[.agg (a.prep br bn).cells.toArray, .bool (a.may br bn)]) rfl (by kernel_rfl) (by kernel_rfl) (by kernel_rfl) (fun _ _ _ h => h) (Or.inl ⟨by rfl, fun w_ hS_ => by (first | (go_simp; done) | (go_simp; rfl))⟩) ⟨flatMid acL Zg hka, rowAt Zb⟩ ?_
          try simp only [Act.put, List.getElem_toArray, List.getElem_cons_zero, List.getElem_cons_succ, List.setIfInBounds_toArray, List.set_cons_zero, List.set_cons_succ]
          refine wpAnyH_take (i := 8) (v := .agg (a.prep br bn).cells.toArray) rfl (by kernel_rfl) (by kernel_rfl) (by kernel_rfl) (fun _ _ _ h => h) (Or.inl ⟨by rfl, fun w_ hS_ => by (first | (go_simp; done) | (go_simp; rfl))⟩) ⟨flatMid acL Zg hka, rowAt Zb⟩ ?_
          try simp only [Act.put, List.getElem_toArray, List.getElem_cons_zero, List.getElem_cons_succ, List.setIfInBounds_toArray, List.set_cons_zero, List.set_cons_succ]
          refine wpAnyH_take (i := 9) (v := .bool (a.may br bn)) rfl (by kernel_rfl) (by kernel_rfl) (by kernel_rfl) (fun _ _ _ h => h) (Or.inl ⟨by rfl, fun w_ hS_ => by (first | (go_simp; done) | (go_simp; rfl))⟩) ⟨flatMid acL Zg hka, rowAt Zb⟩ ?_
          try simp only [Act.put, List.getElem_toArray, List.getElem_cons_zero, List.getElem_cons_succ, List.setIfInBounds_toArray, List.set_cons_zero, List.set_cons_succ]
          refine wpAnyH_ready (rs := [11]) (by kernel_rfl) (by simp) ?_
          refine AllReadyH.cons rfl (fun K hK => ?_) AllReadyH.nil
          rw [if_pos (by rfl)]
          refine wp_store_row 39 _ _ rfl (z1.heap.size) ((a.prep br bn).cells).toArray rfl rfl 39 _ Zn sizeAc (by rfl) (Ac.one _) ?_
          have N_ := setRow_heap z3 (z1.heap.size) _ ((a.prep br bn).cells).toArray _ _ Zn
          have hu := ogOwnR (cs := ((a.prep br bn).cells).toArray) hu ne_hu_Zn
          have ee := belowSet (cs := ((a.prep br bn).cells).toArray) ee Zn (by omega)
          have ff := ogRow (cs := ((a.prep br bn).cells).toArray) (by first | (right; omega) | (left; first | rfl | omega)) Zn ff
          have Zg := hpR Zg (g' := z1.heap.size) (by omega) ((a.prep br bn).cells).toArray
          have Zs := hpR Zs (g' := z1.heap.size) (by omega) ((a.prep br bn).cells).toArray
          have Zb := hpR Zb (g' := z1.heap.size) (by omega) ((a.prep br bn).cells).toArray
          have Zr := hpR Zr (g' := z1.heap.size) (by omega) ((a.prep br bn).cells).toArray
          clear Zn
          have Zn := N_
          clear N_
          generalize z3.setRow (z1.heap.size) ((a.prep br bn).cells).toArray = z4 at Zg Zs Zb Zr Zn hu ee ff ⊢
          refine hK.out _ _ ⟨flatMid acL Zg hka, rowAt Zb⟩ (fun hH => ?_)
          clear hK K hH
          try simp only [Act.put, List.getElem_toArray, List.getElem_cons_zero, List.getElem_cons_succ, List.setIfInBounds_toArray, List.set_cons_zero, List.set_cons_succ]
          refine wpAnyH_take (i := 12) (v := .bool (a.may br bn)) rfl (by kernel_rfl) (by kernel_rfl) (by kernel_rfl) (fun _ _ _ h => h) (Or.inl ⟨by rfl, fun w_ hS_ => by (first | (go_simp; done) | (go_simp; rfl))⟩) ⟨flatMid acL Zg hka, rowAt Zb⟩ ?_
          try simp only [Act.put, List.getElem_toArray, List.getElem_cons_zero, List.getElem_cons_succ, List.setIfInBounds_toArray, List.set_cons_zero, List.set_cons_succ]
          refine wpAnyH_done (by kernel_rfl) ?_ _
          go_upto_region 7 with fail
          have Zg : z4.drew.heap[g]? = some (.cells (flat Ac.cells l').toArray 62) := Zg
          have Zs : z4.drew.heap[w.heap.size]? = some (.cells s.cells.toArray 66) := Zs
          have Zb : z4.drew.heap[w.heap.size + 1]? = some (.cells [.int .u32 (br : Int), .int .i64 bn].toArray 28) := Zb
          have Zr : z4.drew.heap[w.heap.size + 1 + 1]? = some (.cells #[.int .i64 0, .int .i64 0, .int .i64 0, .slice none 0 0, .slice none 0 0, .int .i64 0, .int .i64 0, .int .i64 0, .int .u64 0, .bool false] 37) := Zr
          have Zn : z4.drew.heap[z1.heap.size]? = some (.cells ((a.prep br bn).cells).toArray 39) := Zn
          have hu := World.ownsRow.drew hu
          have ee := belowDrewS ee
          have ff := ogDrew ff
          refine wp_region_held_drew (S := fun z' => z'.rangeAt (z1.heap.size) 0 (a.prep br bn).cells) (by kernel_rfl) (rowAt Zn) (fun hH => ?_)
          clear hH
          generalize z4.drew = z5 at Zg Zs Zb Zr Zn hu ee ff ⊢
          refine wpAnyH_take (i := 0) (v := .pointer (some ⟨g, 0, none⟩)) rfl (by kernel_rfl) (by kernel_rfl) (by kernel_rfl) (fun _ _ _ h => h) (Or.inl ⟨by rfl, fun w_ hS_ => by (first | (go_simp; done) | (go_simp; rfl))⟩) (rowAt Zn) ?_
          try simp only [Act.put, List.getElem_toArray, List.getElem_cons_zero, List.getElem_cons_succ, List.setIfInBounds_toArray, List.set_cons_zero, List.set_cons_succ]
          refine wpAnyH_take (i := 1) (v := .int .i64 (k : Int)) rfl (by kernel_rfl) (by kernel_rfl) (by kernel_rfl) (fun _ _ _ h => h) (Or.inl ⟨by rfl, fun w_ hS_ => by (first | (go_simp; done) | (go_simp; rfl))⟩) (rowAt Zn) ?_
          try simp only [Act.put, List.getElem_toArray, List.getElem_cons_zero, List.getElem_cons_succ, List.setIfInBounds_toArray, List.set_cons_zero, List.set_cons_succ]
          refine wpAnyH_take (i := 2) (v := .agg (((a.prep br bn).cells)).toArray) rfl (by kernel_rfl) (by kernel_rfl) (by kernel_rfl) (fun _ _ _ h => h) (yieldsIf_load_mid (by rfl) 39 _ rfl (z1.heap.size) (0) rfl (((a.prep br bn).cells)) _ (fun _ h => h) Tryd.underlying39 rfl sizeAc) (rowAt Zn) ?_
          try simp only [Act.put, List.getElem_toArray, List.getElem_cons_zero, List.getElem_cons_succ, List.setIfInBounds_toArray, List.set_cons_zero, List.set_cons_succ]
          refine wpAnyH_take (i := 3) (v := .pointer (some ⟨g, 0, none⟩)) rfl (by kernel_rfl) (by kernel_rfl) (by kernel_rfl) (fun _ _ _ h => h) (Or.inl ⟨by rfl, fun w_ hS_ => by (first | (go_simp; done) | (go_simp; rfl))⟩) (rowAt Zn) ?_
          try simp only [Act.put, List.getElem_toArray, List.getElem_cons_zero, List.getElem_cons_succ, List.setIfInBounds_toArray, List.set_cons_zero, List.set_cons_succ]
          refine wpAnyH_take (i := 4) (v := .pointer (some ⟨g, k * 16, none⟩)) rfl (by kernel_rfl) (by kernel_rfl) (by kernel_rfl) (fun _ _ _ h => h) (Or.inl ⟨by rfl, fun w_ hS_ => by (first | (go_simp; done) | (go_simp; rfl))⟩) (rowAt Zn) ?_
          try simp only [Act.put, List.getElem_toArray, List.getElem_cons_zero, List.getElem_cons_succ, List.setIfInBounds_toArray, List.set_cons_zero, List.set_cons_succ]
          refine wpAnyH_ready (rs := [5]) (by kernel_rfl) (by simp) ?_
          refine AllReadyH.cons rfl (fun K hK => ?_) AllReadyH.nil
          rw [if_pos (by rfl)]
          refine wp_store_mid 39 _ _ rfl (g) (k * 16) (Ac.cells (a.prep br bn)).toArray rfl rfl (flatThere acL Zg hka) sizeAc (Ac.one _) ?_
          have N_ : (z5.setCells (g) (k * 16) (Ac.cells (a.prep br bn))).heap[g]? = some (.cells (flat Ac.cells (l'.set k (a.prep br bn))).toArray 62) := ogPut acL Zg hka (a.prep br bn)
          have hu := ogOwnC hu (ogKind hu Zg (by decide)) (Ac.cells (a.prep br bn)) (k * 16)
          have ee := belowC (g := g) (by omega) (Ac.cells (a.prep br bn)) (k * 16) z5 ee
          have ff := ogCells (k := g) (by first | (right; omega) | (left; first | rfl | omega)) (Ac.cells (a.prep br bn)) (k * 16) z5 ff
          have Zs := hpCo (g' := g) (by omega) (Ac.cells (a.prep br bn)) (k * 16) z5 Zs
          have Zb := hpCo (g' := g) (by omega) (Ac.cells (a.prep br bn)) (k * 16) z5 Zb
          have Zr := hpCo (g' := g) (by omega) (Ac.cells (a.prep br bn)) (k * 16) z5 Zr
          have Zn := hpCo (g' := g) (by omega) (Ac.cells (a.prep br bn)) (k * 16) z5 Zn
          clear Zg
          have Zg := N_
          clear N_
          change K _ (z5.setCells (g) (k * 16) (Ac.cells (a.prep br bn)))
          generalize z5.setCells (g) (k * 16) (Ac.cells (a.prep br bn)) = z6 at Zg Zs Zb Zr Zn hu ee ff ⊢
          refine hK.out _ _ (rowAt Zn) (fun hH => ?_)
          clear hK K hH
          try simp only [Act.put, List.getElem_toArray, List.getElem_cons_zero, List.getElem_cons_succ, List.setIfInBounds_toArray, List.set_cons_zero, List.set_cons_succ]
          refine wpAnyH_done (by kernel_rfl) ?_ _
          clear hk0 hk6
          generalize hM : a.may br bn = m at HA ⊢
          cases m with
          | false =>
            rw [cond_false] at HA
            go_wp2_with fail
            go_roundw
            case rel => exact ⟨k + 1, A, c, by omega, by go_num, by rw [HA.out], by rw [HA.out]; exact Zg, by rw [HA.out]; exact hu, Zs, Zb, Zr, ff, ee⟩
            case measure => simp [intOf]; omega
          | true =>
            rw [cond_true] at HA
            go_upto_region 9 with fail
            refine wp_region_lit ?_
            iterate 27 (first | with_reducible refine isLoad (ty := 39) rfl ?_ | go_step)
            refine wpList_load_mid rfl 39 _ rfl (z1.heap.size) 0 rfl (((a.prep br bn).cells)) _ (rowAt Zn) Tryd.underlying39 rfl sizeAc ?_
            refine wpList_buildSlice rfl 22 39 1 #[(0, .tmp 45)] rfl ((a.prep br bn).cells).toArray i1 (.agg #[.int .u32 0, .int .i64 0, .int .i64 0, .bool false, .int .u32 0, .int .i64 0, .int .i64 0, .int .i64 0, .int .i64 0, .slice none 0 0, .slice none 0 0, .int .i64 0, .int .i64 0, .int .i64 0, .int .u64 0, .bool false]) Tryd.underlying22 hi1 hz10 (by rw [hz11]; decide) (by rw [hz11]; decide) (by rw [hz11]; simp only [List.map_toArray, List.map_cons, List.map_nil]; exact ogFill (by omega) _ (acL _) _ (by simp)) ?_
            have lZg := (Array.getElem?_eq_some_iff.1 Zg).1
            have lZs := (Array.getElem?_eq_some_iff.1 Zs).1
            have lZb := (Array.getElem?_eq_some_iff.1 Zb).1
            have lZr := (Array.getElem?_eq_some_iff.1 Zr).1
            have lZn := (Array.getElem?_eq_some_iff.1 Zn).1
            have sz_ := ff.size
            have ne_hu_Zm : (Value.slice A pr.length c).ownBlock ≠ some (z6.heap.size) := fun hb_ => by have hh_ := (hu.lt _ hb_).2; omega
            have Zg := hpA Zg (.cells ((a.prep br bn).cells).toArray 39)
            have Zs := hpA Zs (.cells ((a.prep br bn).cells).toArray 39)
            have Zb := hpA Zb (.cells ((a.prep br bn).cells).toArray 39)
            have Zr := hpA Zr (.cells ((a.prep br bn).cells).toArray 39)
            have Zn := hpA Zn (.cells ((a.prep br bn).cells).toArray 39)
            have hu := hu.alloc (.cells ((a.prep br bn).cells).toArray 39)
            have ee := ee.alloc (Nat.le_trans hB ee.size) (.cells ((a.prep br bn).cells).toArray 39)
            have ff := ogAlloc ff (.cells ((a.prep br bn).cells).toArray 39)
            have Zm := hpN z6 (.cells ((a.prep br bn).cells).toArray 39) rfl
            generalize z6.alloc (.cells ((a.prep br bn).cells).toArray 39) = z7 at Zg Zs Zb Zr Zn Zm hu ee ff ⊢
            refine wpList_append_own _ rfl (.tmp 44) (.tmp 46) 22 rfl w.heap.size 39 i1 (.agg #[.int .u32 0, .int .i64 0, .int .i64 0, .bool false, .int .u32 0, .int .i64 0, .int .i64 0, .int .i64 0, .int .i64 0, .slice none 0 0, .slice none 0 0, .int .i64 0, .int .i64 0, .int .i64 0, .int .u64 0, .bool false]) 16 160 Tryd.underlying22 hi1 hz10 hz11 hz12 rfl (by decide) _ _ _ rfl hu ⟨z6.heap.size, 0, none⟩ 1 1 ((a.prep br bn).cells) rfl rfl (ogRowAdd Zm) (oneOf2 _) (by unfold maxLen; omega) (by omega) ff.size ?_
            intro u_ z8 ho_ hg_ _
            clear Zm
            clear Zn
            have Zg := ogHeap Zg hu (by decide) hg_
            have Zs := ogHeap Zs hu (by decide) hg_
            have Zb := ogHeap Zb hu (by decide) hg_
            have Zr := ogHeap Zr hu (by decide) hg_
            have ee := ee.grown hg_ (Nat.le_trans hB ee.size) (fun g_ hg2_ => by have hh_ := (hu.lt g_ hg2_).1; omega)
            have ff := ogOwnE ff hg_ (fun i_ hi_ => by have hh_ := (hu.lt i_ hi_).1; first | (right; omega) | (left; first | rfl | omega))
            clear hg_ hu
            obtain ⟨A9, c9, hu9, hc9, _, _⟩ := ownShape ho_
            subst hu9
            have hu := ho_
            clear ho_
            go_wp2_with fail
            go_roundw
            case rel =>
              have hl2 : (pr ++ [a.prep br bn]).length = pr.length + 1 := by simp
              exact ⟨k + 1, A9, c9, by omega, by go_num, by rw [HA.out, hl2], by rw [HA.out]; exact Zg, by rw [HA.out, hl2, flat_snoc]; exact hu, Zs, Zb, Zr, ff, ee⟩
            case measure => simp [intOf]; omega
    · obtain rfl : n = k := by omega
      clear hlt hk
      generalize One.ask (tb s.ak) br bn ls n = R at HLK hu Zg HM HX HG
      obtain ⟨l', pr⟩ := R
      simp only at HLK hu Zg HM HX HG
      rw [HG.out] at Zg
      have hpl : pr.length ≤ 5 := by have := HLK.out.2.1; omega
      have hw1 : IntKind.i64.wrap (2 * (pr.length : Int)) = 2 * (pr.length : Int) := by rw [IntKind.wrap_i64]; omega
      by_cases hm : n < 2 * pr.length
      · obtain rfl : true = M := by rw [← HM.out]; exact (decide_eq_true hm).symm
        rw [cond_true] at HX
        have hd : decide (2 * (pr.length : Int) ≤ (n : Int)) = false := by simp; omega
        have HPK := Lib.hid (fun z (hz : RowsAt z z.heap.size A 16 (pr.map Ac.cells)) (hc : pr.length ≤ c) => pick_any A c pr z z.heap.size (by omega) hc hz (Nat.le_refl _))
        obtain ⟨A8, c8, e8, hc8, hR8, _⟩ := flatOwn acL (by omega) hu
        injection e8 with e81 e82 e83
        subst e81
        subst e83
        have HR8 := Lib.hid hR8
        have HPI : Hid (X = bif (best (topOf pr) pr).ha then (best (topOf pr) pr).c else stampC (1 + bn) (br : Int)) := HX.out.symm
        clear HX
        clear hu e82 hR8 hm
        generalize best (topOf pr) pr = b at HPK HPI
        go_upto_region 12 with fail
        clear hd hw1
        refine wp_region_lit ?_
        go_wp2_with fail
        refine (HPK.out wr HR8.out hc8).mono ?_
        rintro e z1 ⟨rfl, t⟩
        have Zg := hpB Zg t
        have Zs := hpB Zs t
        have Zb := hpB Zb t
        have Zr := hpB Zr t
        have ee := ee.trans (t.mono (Nat.le_trans hB ee.size))
        have ff := ogBelow ff t
        clear t
        clear HPK HR8
        try dsimp only
        rename_i hK
        refine hK _ _ ?_
        clear hK
        iterate 12 go_step
        have lZg := (Array.getElem?_eq_some_iff.1 Zg).1
        have lZs := (Array.getElem?_eq_some_iff.1 Zs).1
        have lZb := (Array.getElem?_eq_some_iff.1 Zb).1
        have lZr := (Array.getElem?_eq_some_iff.1 Zr).1
        have sz_ := ff.size
        have Zg := hpA Zg (.cells #[.int .i64 0, .int .i64 0, .int .i64 0, .slice none 0 0, .slice none 0 0, .int .i64 0, .int .i64 0, .int .i64 0, .int .u64 0, .bool false] 37)
        have Zs := hpA Zs (.cells #[.int .i64 0, .int .i64 0, .int .i64 0, .slice none 0 0, .slice none 0 0, .int .i64 0, .int .i64 0, .int .i64 0, .int .u64 0, .bool false] 37)
        have Zb := hpA Zb (.cells #[.int .i64 0, .int .i64 0, .int .i64 0, .slice none 0 0, .slice none 0 0, .int .i64 0, .int .i64 0, .int .i64 0, .int .u64 0, .bool false] 37)
        have Zr := hpA Zr (.cells #[.int .i64 0, .int .i64 0, .int .i64 0, .slice none 0 0, .slice none 0 0, .int .i64 0, .int .i64 0, .int .i64 0, .int .u64 0, .bool false] 37)
        have ee := ee.alloc (Nat.le_trans hB ee.size) (.cells #[.int .i64 0, .int .i64 0, .int .i64 0, .slice none 0 0, .slice none 0 0, .int .i64 0, .int .i64 0, .int .i64 0, .int .u64 0, .bool false] 37)
        have ff := ogAlloc ff (.cells #[.int .i64 0, .int .i64 0, .int .i64 0, .slice none 0 0, .slice none 0 0, .int .i64 0, .int .i64 0, .int .i64 0, .int .u64 0, .bool false] 37)
        have Zi := hpN z1 (.cells #[.int .i64 0, .int .i64 0, .int .i64 0, .slice none 0 0, .slice none 0 0, .int .i64 0, .int .i64 0, .int .i64 0, .int .u64 0, .bool false] 37) rfl
        generalize z1.alloc (.cells #[.int .i64 0, .int .i64 0, .int .i64 0, .slice none 0 0, .slice none 0 0, .int .i64 0, .int .i64 0, .int .i64 0, .int .u64 0, .bool false] 37) = z2 at Zg Zs Zb Zr Zi ee ff ⊢
        iterate 27 (first | with_reducible refine isStore (ty := 37) rfl ?_ | go_step)
        refine wpList_store_row rfl 37 _ _ rfl (z1.heap.size) (b.c.cells).toArray rfl rfl 37 _ Zi sizeCm (by rfl) (Cm.one _) ?_
        have N_ := setRow_heap z2 (z1.heap.size) _ (b.c.cells).toArray _ _ Zi
        have ee := belowSet (cs := (b.c.cells).toArray) ee Zi (by omega)
        have ff := ogRow (cs := (b.c.cells).toArray) (by first | (right; omega) | (left; first | rfl | omega)) Zi ff
        have Zg := hpR Zg (g' := z1.heap.size) (by omega) (b.c.cells).toArray
        have Zs := hpR Zs (g' := z1.heap.size) (by omega) (b.c.cells).toArray
        have Zb := hpR Zb (g' := z1.heap.size) (by omega) (b.c.cells).toArray
        have Zr := hpR Zr (g' := z1.heap.size) (by omega) (b.c.cells).toArray
        clear Zi
        have Zi := N_
        clear N_
        generalize z2.setRow (z1.heap.size) (b.c.cells).toArray = z3 at Zg Zs Zb Zr Zi ee ff ⊢
        cases hh : b.ha with
        | true =>
          rw [hh, cond_true] at HPI
          obtain rfl : X = b.c := HPI.out
          clear HPI
          go_upto_region 15 with fail
          refine wp_region_lit ?_
          iterate 27 (first | with_reducible refine isLoad (ty := 37) rfl ?_ | go_step)
          refine wpList_load_mid rfl 37 _ rfl (z1.heap.size) 0 rfl ((b.c.cells)) _ (rowAt Zi) Tryd.underlying37 rfl sizeCm ?_
          iterate 27 (first | with_reducible refine isStore (ty := 37) rfl ?_ | go_step)
          refine wpList_store_row rfl 37 _ _ rfl (w.heap.size + 1 + 1) (b.c.cells).toArray rfl rfl 37 _ Zr sizeCm (by rfl) (Cm.one _) ?_
          have N_ := setRow_heap z3 (w.heap.size + 1 + 1) _ (b.c.cells).toArray _ _ Zr
          have ee := belowSet (cs := (b.c.cells).toArray) ee Zr (by omega)
          have ff := ogRow (cs := (b.c.cells).toArray) (by first | (right; omega) | (left; first | rfl | omega)) Zr ff
          have Zg := hpR Zg (g' := w.heap.size + 1 + 1) (by omega) (b.c.cells).toArray
          have Zs := hpR Zs (g' := w.heap.size + 1 + 1) (by omega) (b.c.cells).toArray
          have Zb := hpR Zb (g' := w.heap.size + 1 + 1) (by omega) (b.c.cells).toArray
          have Zi := hpR Zi (g' := w.heap.size + 1 + 1) (by omega) (b.c.cells).toArray
          clear Zr
          have Zr := N_
          clear N_
          generalize z3.setRow (w.heap.size + 1 + 1) (b.c.cells).toArray = z4 at Zg Zs Zb Zr Zi ee ff ⊢
          go_wp2_with fail
          refine bodyPost_ret (v := .tuple #[.agg (b.c).cells.toArray, .bool true]) (res_ct rfl rfl rfl Zr Tryd.underlying37 rfl sizeCm) rfl ⟨rfl, Zg, ff⟩
        | false =>
          rw [hh, cond_false] at HPI
          obtain rfl : X = stampC (1 + bn) (br : Int) := HPI.out
          clear HPI
          have c0 := rowCell Zb 0 (v := .int .u32 (br : Int)) rfl
          have c1 := rowCell Zb 1 (v := .int .i64 bn) rfl
          have hw3 : IntKind.i64.wrap (br : Int) = (br : Int) := by rw [IntKind.wrap_i64]; omega
          have hn0 := hbn.1
          have hn1 := hbn.2
          go_upto_region 14 with fail
          refine wp_region_lit ?_
          iterate 40 (first | with_reducible refine isStore (ty := 37) rfl ?_ | go_step)
          clear c0 c1 hw3
          iterate 27 (first | with_reducible refine isStore (ty := 37) rfl ?_ | go_step)
          refine wpList_store_row rfl 37 _ _ rfl (z1.heap.size) ((stampC (1 + bn) (br : Int)).cells).toArray rfl rfl 37 _ Zi sizeCm (by rfl) (Cm.one _) ?_
          have N_ := setRow_heap z3 (z1.heap.size) _ ((stampC (1 + bn) (br : Int)).cells).toArray _ _ Zi
          have ee := belowSet (cs := ((stampC (1 + bn) (br : Int)).cells).toArray) ee Zi (by omega)
          have ff := ogRow (cs := ((stampC (1 + bn) (br : Int)).cells).toArray) (by first | (right; omega) | (left; first | rfl | omega)) Zi ff
          have Zg := hpR Zg (g' := z1.heap.size) (by omega) ((stampC (1 + bn) (br : Int)).cells).toArray
          have Zs := hpR Zs (g' := z1.heap.size) (by omega) ((stampC (1 + bn) (br : Int)).cells).toArray
          have Zb := hpR Zb (g' := z1.heap.size) (by omega) ((stampC (1 + bn) (br : Int)).cells).toArray
          have Zr := hpR Zr (g' := z1.heap.size) (by omega) ((stampC (1 + bn) (br : Int)).cells).toArray
          clear Zi
          have Zi := N_
          clear N_
          generalize z3.setRow (z1.heap.size) ((stampC (1 + bn) (br : Int)).cells).toArray = z4 at Zg Zs Zb Zr Zi ee ff ⊢
          go_upto_region 15 with fail
          refine wp_region_lit ?_
          iterate 27 (first | with_reducible refine isLoad (ty := 37) rfl ?_ | go_step)
          refine wpList_load_mid rfl 37 _ rfl (z1.heap.size) 0 rfl (((stampC (1 + bn) (br : Int)).cells)) _ (rowAt Zi) Tryd.underlying37 rfl sizeCm ?_
          iterate 27 (first | with_reducible refine isStore (ty := 37) rfl ?_ | go_step)
          refine wpList_store_row rfl 37 _ _ rfl (w.heap.size + 1 + 1) ((stampC (1 + bn) (br : Int)).cells).toArray rfl rfl 37 _ Zr sizeCm (by rfl) (Cm.one _) ?_
          have N_ := setRow_heap z4 (w.heap.size + 1 + 1) _ ((stampC (1 + bn) (br : Int)).cells).toArray _ _ Zr
          have ee := belowSet (cs := ((stampC (1 + bn) (br : Int)).cells).toArray) ee Zr (by omega)
          have ff := ogRow (cs := ((stampC (1 + bn) (br : Int)).cells).toArray) (by first | (right; omega) | (left; first | rfl | omega)) Zr ff
          have Zg := hpR Zg (g' := w.heap.size + 1 + 1) (by omega) ((stampC (1 + bn) (br : Int)).cells).toArray
          have Zs := hpR Zs (g' := w.heap.size + 1 + 1) (by omega) ((stampC (1 + bn) (br : Int)).cells).toArray
          have Zb := hpR Zb (g' := w.heap.size + 1 + 1) (by omega) ((stampC (1 + bn) (br : Int)).cells).toArray
          have Zi := hpR Zi (g' := w.heap.size + 1 + 1) (by omega) ((stampC (1 + bn) (br : Int)).cells).toArray
          clear Zr
          have Zr := N_
          clear N_
          generalize z4.setRow (w.heap.size + 1 + 1) ((stampC (1 + bn) (br : Int)).cells).toArray = z5 at Zg Zs Zb Zr Zi ee ff ⊢
          go_wp2_with fail
          refine bodyPost_ret (v := .tuple #[.agg ((stampC (1 + bn) (br : Int))).cells.toArray, .bool true]) (res_ct rfl rfl rfl Zr Tryd.underlying37 rfl sizeCm) rfl ⟨rfl, Zg, ff⟩
      · obtain rfl : false = M := by rw [← HM.out]; exact (decide_eq_false hm).symm
        obtain rfl : Cm.zero = X := HX.out
        have hd : decide (2 * (pr.length : Int) ≤ (n : Int)) = true := by simp; omega
        clear hm
        go_upto_region 11 with fail
        clear hd hw1
        refine wp_region_lit ?_
        iterate 27 (first | with_reducible refine isStore (ty := 37) rfl ?_ | go_step)
        refine wpList_store_row rfl 37 _ _ rfl (w.heap.size + 1 + 1) (Cm.zero.cells).toArray rfl rfl 37 _ Zr sizeCm (by rfl) (Cm.one _) ?_
        have N_ := setRow_heap wr (w.heap.size + 1 + 1) _ (Cm.zero.cells).toArray _ _ Zr
        have hu := ogOwnR (cs := (Cm.zero.cells).toArray) hu (ogKind hu Zr (by decide))
        have ee := belowSet (cs := (Cm.zero.cells).toArray) ee Zr (by omega)
        have ff := ogRow (cs := (Cm.zero.cells).toArray) (by first | (right; omega) | (left; first | rfl | omega)) Zr ff
        have Zg := hpR Zg (g' := w.heap.size + 1 + 1) (by omega) (Cm.zero.cells).toArray
        have Zs := hpR Zs (g' := w.heap.size + 1 + 1) (by omega) (Cm.zero.cells).toArray
        have Zb := hpR Zb (g' := w.heap.size + 1 + 1) (by omega) (Cm.zero.cells).toArray
        clear Zr
        have Zr := N_
        clear N_
        generalize wr.setRow (w.heap.size + 1 + 1) (Cm.zero.cells).toArray = z1 at Zg Zs Zb Zr hu ee ff ⊢
        go_wp2_with fail
        refine bodyPost_ret (v := .tuple #[.agg Cm.zero.cells.toArray, .bool false]) (res_ct rfl rfl rfl Zr Tryd.underlying37 rfl sizeCm) rfl ⟨rfl, Zg, ff⟩
end Go.Proofs.YtbahooohkigcnaaDoor
