/- The walk of accept.Pick. Conditions: the script lies below; the tables lie. (Printed by gen_accp.py.) -/
import Derived.Test.YtkfnepmiigkdfaaDoorAccPk
namespace Go.Proofs.YtkfnepmiigkdfaaDoor
set_option maxRecDepth 20000
open Go.RowKit T
set_option linter.unusedSimpArgs false
set_option linter.unusedVariables false

set_option maxHeartbeats 6400000 in
theorem pick_any (A : Option Addr) (c : Nat) (l : List Ac) (w : World) (B0 : Nat) (hl : l.length ≤ 1000000) (hc : l.length ≤ c) (hR : RowsAt w B0 A 16 (l.map Ac.cells)) (hB : B0 ≤ w.heap.size) :
    Calls Tryd.prog 14 #[.slice A l.length c] w fun e w' => e = .returned (.tuple #[.agg (best (topOf l) l).c.cells.toArray, .bool (best (topOf l) l).ha]) ∧ Below w.heap.size w w' := by
  obtain ⟨n, hn⟩ : ∃ n, n = l.length := ⟨_, rfl⟩
  have HN := Lib.hid hn
  have HR := Lib.hid hR
  rw [← hn] at hc hl ⊢
  clear hn hR
  obtain ⟨w0, hw0⟩ : ∃ w0, w0 = w.alloc (.cells #[.int .i64 0, .int .i64 0, .int .i64 0, .slice none 0 0, .slice none 0 0, .int .i64 0, .int .i64 0, .int .i64 0, .int .u64 0, .bool false] 37) := ⟨_, rfl⟩
  have ee : Below w.heap.size w w0 := by rw [hw0]; exact (Below.refl _ _).alloc (Nat.le_refl _) _
  have Zr : w0.heap[w.heap.size]? = some (.cells #[.int .i64 0, .int .i64 0, .int .i64 0, .slice none 0 0, .slice none 0 0, .int .i64 0, .int .i64 0, .int .i64 0, .int .u64 0, .bool false] 37) := by rw [hw0]; exact hpN _ _ rfl
  go_enter Tryd.func14, Tryd.ntmps14
  go_upto_region 1 with fail
  rw [← hw0]
  clear hw0
  go_wp2_with fail
  go_loopw [4, 12] (fun t i wr => ∃ k : Nat, k ≤ n ∧ i = .int .i64 (k : Int) ∧ t = .int .i64 (topOf (l.take k)) ∧ Hid (wr.heap[w.heap.size]? = some (.cells #[.int .i64 0, .int .i64 0, .int .i64 0, .slice none 0 0, .slice none 0 0, .int .i64 0, .int .i64 0, .int .i64 0, .int .u64 0, .bool false] 37)) ∧ Hid (Below w.heap.size w wr)) (fun _ i _ => n - (intOf i).toNat)
  case atStart => exact ⟨0, Nat.zero_le _, rfl, rfl, Zr, ee⟩
  case round =>
    clear Zr ee
    obtain ⟨k, hk, rfl, rfl, Zr, ee⟩ := hrel
    have Zr := Zr.out
    have ee := ee.out
    by_cases hlt : k < n
    · have hkl : k < l.length := by rw [← HN.out]; exact hlt
      obtain ⟨bo, off, rfl, hbo, hr⟩ := rowsGet HR.out hkl
      have HK : Hid (l.take (k + 1) = l.take k ++ [l[k]'hkl]) := List.take_succ_eq_append_getElem hkl
      have HMEM : Hid (l[k]'hkl ∈ l) := List.getElem_mem hkl
      have hbo : bo < w.heap.size := Nat.lt_of_lt_of_le hbo hB
      generalize l[k] = x at hr HK HMEM
      have HT : Hid (topOf (l.take (k + 1)) = if l.take k = [] then x.sl else if topOf (l.take k) < x.sl then x.sl else topOf (l.take k)) := by
        show _ = _
        rw [HK.out]; exact topOf_snoc _ _
      have HE : Hid (l.take k = [] ↔ k = 0) := by
        constructor
        · intro h
          have h2 : (l.take k).length = 0 := by rw [h]; rfl
          rw [List.length_take] at h2; omega
        · intro h; rw [h]; rfl
      clear HK HMEM
      generalize topOf (l.take k) = u at HT ⊢
      go_upto_region 4 with fail
      refine wp_region_lit ?_
      iterate 27 (first | with_reducible refine isLoad (ty := 39) rfl ?_ | go_step)
      refine wpList_load_mid rfl 39 _ rfl (bo) (off + k * 16) rfl (x.cells) _ (rangeB hr ee hbo) Tryd.underlying39 rfl sizeAc ?_
      have e0s := ee.size
      iterate 3 go_step
      have lZr := (Array.getElem?_eq_some_iff.1 Zr).1
      have Zr := hpA Zr (.cells #[.int .u32 0, .int .i64 0, .int .i64 0, .bool false, .int .u32 0, .int .i64 0, .int .i64 0, .int .i64 0, .int .i64 0, .slice none 0 0, .slice none 0 0, .int .i64 0, .int .i64 0, .int .i64 0, .int .u64 0, .bool false] 39)
      have ee := ee.alloc ee.size (.cells #[.int .u32 0, .int .i64 0, .int .i64 0, .bool false, .int .u32 0, .int .i64 0, .int .i64 0, .int .i64 0, .int .i64 0, .slice none 0 0, .slice none 0 0, .int .i64 0, .int .i64 0, .int .i64 0, .int .u64 0, .bool false] 39)
      have Zi := hpN wr (.cells #[.int .u32 0, .int .i64 0, .int .i64 0, .bool false, .int .u32 0, .int .i64 0, .int .i64 0, .int .i64 0, .int .i64 0, .slice none 0 0, .slice none 0 0, .int .i64 0, .int .i64 0, .int .i64 0, .int .u64 0, .bool false] 39) rfl
      generalize wr.alloc (.cells #[.int .u32 0, .int .i64 0, .int .i64 0, .bool false, .int .u32 0, .int .i64 0, .int .i64 0, .int .i64 0, .int .i64 0, .slice none 0 0, .slice none 0 0, .int .i64 0, .int .i64 0, .int .i64 0, .int .u64 0, .bool false] 39) = z1 at Zr Zi ee ⊢
      iterate 27 (first | with_reducible refine isStore (ty := 39) rfl ?_ | go_step)
      refine wpList_store_row rfl 39 _ _ rfl (wr.heap.size) (x.cells).toArray rfl rfl 39 _ Zi sizeAc (by rfl) (Ac.one _) ?_
      have N_ := setRow_heap z1 (wr.heap.size) _ (x.cells).toArray _ _ Zi
      have ee := belowSet (cs := (x.cells).toArray) ee Zi (by omega)
      have Zr := hpR Zr (g' := wr.heap.size) (by omega) (x.cells).toArray
      clear Zi
      have Zi := N_
      clear N_
      generalize z1.setRow (wr.heap.size) (x.cells).toArray = z2 at Zr Zi ee ⊢
      have i2 := rowCell Zi 2 (v := .int .i64 x.sl) rfl
      clear Zi e0s
      by_cases hk0 : k = 0
      · have HT2 : Hid (topOf (l.take (k + 1)) = x.sl) := by show _ = _; rw [HT.out, if_pos (HE.out.2 hk0)]
        clear HT HE
        have hkb : ((k : Int) == 0) = true := by simp [hk0]
        clear hk0
        go_wp2_with fail
        go_roundw
        case rel => exact ⟨k + 1, by omega, by go_num, by rw [HT2.out], Zr, ee⟩
        case measure => simp [intOf]; omega
      · have hkb : ((k : Int) == 0) = false := by simp [hk0]
        by_cases hs : u < x.sl
        · have HT2 : Hid (topOf (l.take (k + 1)) = x.sl) := by show _ = _; rw [HT.out, if_neg (fun h => hk0 (HE.out.1 h)), if_pos hs]
          clear HT HE hk0
          have f1 : decide (u < x.sl) = true := by simpa using hs
          clear hs
          go_wp2_with fail
          go_roundw
          case rel => exact ⟨k + 1, by omega, by go_num, by rw [HT2.out], Zr, ee⟩
          case measure => simp [intOf]; omega
        · have HT2 : Hid (topOf (l.take (k + 1)) = u) := by show _ = _; rw [HT.out, if_neg (fun h => hk0 (HE.out.1 h)), if_neg hs]
          clear HT HE hk0
          have f1 : decide (u < x.sl) = false := by simpa using hs
          clear hs
          go_wp2_with fail
          go_roundw
          case rel => exact ⟨k + 1, by omega, by go_num, by rw [HT2.out], Zr, ee⟩
          case measure => simp [intOf]; omega
    · obtain rfl : k = n := by omega
      have htk : l.take k = l := by rw [HN.out]; exact List.take_length
      rw [htk]
      clear htk hlt
      obtain ⟨u, hu⟩ : ∃ u, u = topOf l := ⟨_, rfl⟩
      have HU : Hid (topOf l = u) := hu.symm
      rw [← hu]
      clear hu
      go_upto_region 8 with fail
      refine wp_region_lit ?_
      have e0s := ee.size
      iterate 3 go_step
      have lZr := (Array.getElem?_eq_some_iff.1 Zr).1
      have Zr := hpA Zr (.cells #[.int .u32 0, .int .i64 0, .int .i64 0, .bool false, .int .u32 0, .int .i64 0, .int .i64 0, .int .i64 0, .int .i64 0, .slice none 0 0, .slice none 0 0, .int .i64 0, .int .i64 0, .int .i64 0, .int .u64 0, .bool false] 39)
      have ee := ee.alloc ee.size (.cells #[.int .u32 0, .int .i64 0, .int .i64 0, .bool false, .int .u32 0, .int .i64 0, .int .i64 0, .int .i64 0, .int .i64 0, .slice none 0 0, .slice none 0 0, .int .i64 0, .int .i64 0, .int .i64 0, .int .u64 0, .bool false] 39)
      have Zb := hpN wr (.cells #[.int .u32 0, .int .i64 0, .int .i64 0, .bool false, .int .u32 0, .int .i64 0, .int .i64 0, .int .i64 0, .int .i64 0, .slice none 0 0, .slice none 0 0, .int .i64 0, .int .i64 0, .int .i64 0, .int .u64 0, .bool false] 39) rfl
      generalize wr.alloc (.cells #[.int .u32 0, .int .i64 0, .int .i64 0, .bool false, .int .u32 0, .int .i64 0, .int .i64 0, .int .i64 0, .int .i64 0, .slice none 0 0, .slice none 0 0, .int .i64 0, .int .i64 0, .int .i64 0, .int .u64 0, .bool false] 39) = z1 at Zr Zb ee ⊢
      obtain ⟨gb, hg_⟩ : ∃ g_, g_ = wr.heap.size := ⟨_, rfl⟩
      have lgb : w.heap.size < gb := by rw [hg_]; exact lZr
      rw [← hg_] at Zb ⊢
      clear hg_ lZr e0s
      go_wp2_with fail
      clear hk
      go_loopw [30] (fun i wr => ∃ m : Nat, m ≤ k ∧ i = .int .i64 (m : Int) ∧ Hid (wr.heap[w.heap.size]? = some (.cells #[.int .i64 0, .int .i64 0, .int .i64 0, .slice none 0 0, .slice none 0 0, .int .i64 0, .int .i64 0, .int .i64 0, .int .u64 0, .bool false] 37)) ∧ Hid (wr.heap[gb]? = some (.cells (best u (l.take m)).cells.toArray 39)) ∧ Hid (Below w.heap.size w wr)) (fun i _ => k - (intOf i).toNat)
      case atStart => exact ⟨0, Nat.zero_le _, rfl, Zr, Zb, ee⟩
      case round =>
        clear Zr Zb ee
        obtain ⟨m, hm, rfl, Zr, Zb, ee⟩ := hrel
        have Zr := Zr.out
        have Zb := Zb.out
        have ee := ee.out
        by_cases hlt : m < k
        · have hkl : m < l.length := by rw [← HN.out]; exact hlt
          obtain ⟨bo, off, rfl, hbo, hr⟩ := rowsGet HR.out hkl
          have hbo : bo < w.heap.size := Nat.lt_of_lt_of_le hbo hB
          have HBS : Hid (best u (l.take (m + 1)) = bif takes u (best u (l.take m)) (l[m]'hkl) then l[m]'hkl else best u (l.take m)) := by
            show _ = _
            rw [List.take_succ_eq_append_getElem hkl]; exact best_snoc _ _ _
          generalize l[m] = x at hr HBS
          generalize best u (l.take m) = b at HBS Zb
          go_upto_region 11 with fail
          refine wp_region_lit ?_
          iterate 27 (first | with_reducible refine isLoad (ty := 39) rfl ?_ | go_step)
          refine wpList_load_mid rfl 39 _ rfl (bo) (off + m * 16) rfl (x.cells) _ (rangeB hr ee hbo) Tryd.underlying39 rfl sizeAc ?_
          have e0s := ee.size
          iterate 3 go_step
          have lZr := (Array.getElem?_eq_some_iff.1 Zr).1
          have lZb := (Array.getElem?_eq_some_iff.1 Zb).1
          have Zr := hpA Zr (.cells #[.int .u32 0, .int .i64 0, .int .i64 0, .bool false, .int .u32 0, .int .i64 0, .int .i64 0, .int .i64 0, .int .i64 0, .slice none 0 0, .slice none 0 0, .int .i64 0, .int .i64 0, .int .i64 0, .int .u64 0, .bool false] 39)
          have Zb := hpA Zb (.cells #[.int .u32 0, .int .i64 0, .int .i64 0, .bool false, .int .u32 0, .int .i64 0, .int .i64 0, .int .i64 0, .int .i64 0, .slice none 0 0, .slice none 0 0, .int .i64 0, .int .i64 0, .int .i64 0, .int .u64 0, .bool false] 39)
          have ee := ee.alloc ee.size (.cells #[.int .u32 0, .int .i64 0, .int .i64 0, .bool false, .int .u32 0, .int .i64 0, .int .i64 0, .int .i64 0, .int .i64 0, .slice none 0 0, .slice none 0 0, .int .i64 0, .int .i64 0, .int .i64 0, .int .u64 0, .bool false] 39)
          have Zi := hpN wr (.cells #[.int .u32 0, .int .i64 0, .int .i64 0, .bool false, .int .u32 0, .int .i64 0, .int .i64 0, .int .i64 0, .int .i64 0, .slice none 0 0, .slice none 0 0, .int .i64 0, .int .i64 0, .int .i64 0, .int .u64 0, .bool false] 39) rfl
          generalize wr.alloc (.cells #[.int .u32 0, .int .i64 0, .int .i64 0, .bool false, .int .u32 0, .int .i64 0, .int .i64 0, .int .i64 0, .int .i64 0, .slice none 0 0, .slice none 0 0, .int .i64 0, .int .i64 0, .int .i64 0, .int .u64 0, .bool false] 39) = z2 at Zr Zb Zi ee ⊢
          iterate 27 (first | with_reducible refine isStore (ty := 39) rfl ?_ | go_step)
          refine wpList_store_row rfl 39 _ _ rfl (wr.heap.size) (x.cells).toArray rfl rfl 39 _ Zi sizeAc (by rfl) (Ac.one _) ?_
          have N_ := setRow_heap z2 (wr.heap.size) _ (x.cells).toArray _ _ Zi
          have ee := belowSet (cs := (x.cells).toArray) ee Zi (by omega)
          have Zr := hpR Zr (g' := wr.heap.size) (by omega) (x.cells).toArray
          have Zb := hpR Zb (g' := wr.heap.size) (by omega) (x.cells).toArray
          clear Zi
          have Zi := N_
          clear N_
          generalize z2.setRow (wr.heap.size) (x.cells).toArray = z3 at Zr Zb Zi ee ⊢
          have i2 := rowCell Zi 2 (v := .int .i64 x.sl) rfl
          by_cases hs : x.sl = u
          · have f1 : (x.sl == u) = true := by simpa using hs
            cases hx : x.ha with
            | false =>
              have i3 := rowCell Zi 3 (v := .bool false) (by rw [← hx]; rfl)
              have HB2 : Hid (best u (l.take (m + 1)) = b) := by show _ = _; rw [HBS.out]; simp [takes, hx]
              clear HBS hs hx
              go_wp2_with fail
              go_roundw
              case rel => exact ⟨m + 1, by omega, by go_num, Zr, HB2.out ▸ Zb, ee⟩
              case measure => simp [intOf]; omega
            | true =>
              have i3 := rowCell Zi 3 (v := .bool true) (by rw [← hx]; rfl)
              cases hb : b.ha with
              | false =>
                have b3 := rowCell Zb 3 (v := .bool false) (by rw [← hb]; rfl)
                have HB2 : Hid (best u (l.take (m + 1)) = x) := by show _ = _; rw [HBS.out]; simp [takes, hx, hb, hs]
                clear HBS hs hx hb
                go_upto_region 13 with fail
                refine wp_region_lit ?_
                iterate 27 (first | with_reducible refine isLoad (ty := 39) rfl ?_ | go_step)
                refine wpList_load_mid rfl 39 _ rfl (wr.heap.size) 0 rfl ((x.cells)) _ (rowAt Zi) Tryd.underlying39 rfl sizeAc ?_
                iterate 27 (first | with_reducible refine isStore (ty := 39) rfl ?_ | go_step)
                refine wpList_store_row rfl 39 _ _ rfl (gb) (x.cells).toArray rfl rfl 39 _ Zb sizeAc (by rfl) (Ac.one _) ?_
                have N_ := setRow_heap z3 (gb) _ (x.cells).toArray _ _ Zb
                have ee := belowSet (cs := (x.cells).toArray) ee Zb (by omega)
                have Zr := hpR Zr (g' := gb) (by omega) (x.cells).toArray
                have Zi := hpR Zi (g' := gb) (by omega) (x.cells).toArray
                clear Zb
                have Zb := N_
                clear N_
                generalize z3.setRow (gb) (x.cells).toArray = z4 at Zr Zb Zi ee ⊢
                go_wp2_with fail
                go_roundw
                case rel => exact ⟨m + 1, by omega, by go_num, Zr, HB2.out ▸ Zb, ee⟩
                case measure => simp [intOf]; omega
              | true =>
                have b3 := rowCell Zb 3 (v := .bool true) (by rw [← hb]; rfl)
                have b4 := rowCell Zb 4 (v := .int .u32 (b.vr : Int)) rfl
                have b5 := rowCell Zb 5 (v := .int .i64 b.vn) rfl
                have i4 := rowCell Zi 4 (v := .int .u32 (x.vr : Int)) rfl
                have i5 := rowCell Zi 5 (v := .int .i64 x.vn) rfl
                have HLE := Lib.hid (fun z => bless_any b.vr b.vn x.vr x.vn z)
                have HLT : Hid (b.bless x = B.less b.vr b.vn x.vr x.vn) := rfl
                generalize B.less b.vr b.vn x.vr x.vn = ml at HLE HLT
                go_wp2_with fail
                refine (HLE.out z3).mono ?_
                rintro e z4 ⟨rfl, t⟩
                have Zr := hpB Zr t
                have Zb := hpB Zb t
                have Zi := hpB Zi t
                have ee := ee.trans (t.mono ee.size)
                clear t
                clear b3 b4 b5 i2 i3 i4 i5 HLE
                cases ml with
                | false =>
                  have HB2 : Hid (best u (l.take (m + 1)) = b) := by show _ = _; rw [HBS.out]; simp [takes, hx, hb, hs, HLT.out]
                  clear HBS hs hx hb HLT
                  go_wp2_with fail
                  go_roundw
                  case rel => exact ⟨m + 1, by omega, by go_num, Zr, HB2.out ▸ Zb, ee⟩
                  case measure => simp [intOf]; omega
                | true =>
                  have HB2 : Hid (best u (l.take (m + 1)) = x) := by show _ = _; rw [HBS.out]; simp [takes, hx, hb, hs, HLT.out]
                  clear HBS hs hx hb HLT
                  go_upto_region 13 with fail
                  refine wp_region_lit ?_
                  iterate 27 (first | with_reducible refine isLoad (ty := 39) rfl ?_ | go_step)
                  refine wpList_load_mid rfl 39 _ rfl (wr.heap.size) 0 rfl ((x.cells)) _ (rowAt Zi) Tryd.underlying39 rfl sizeAc ?_
                  iterate 27 (first | with_reducible refine isStore (ty := 39) rfl ?_ | go_step)
                  refine wpList_store_row rfl 39 _ _ rfl (gb) (x.cells).toArray rfl rfl 39 _ Zb sizeAc (by rfl) (Ac.one _) ?_
                  have N_ := setRow_heap z4 (gb) _ (x.cells).toArray _ _ Zb
                  have ee := belowSet (cs := (x.cells).toArray) ee Zb (by omega)
                  have Zr := hpR Zr (g' := gb) (by omega) (x.cells).toArray
                  have Zi := hpR Zi (g' := gb) (by omega) (x.cells).toArray
                  clear Zb
                  have Zb := N_
                  clear N_
                  generalize z4.setRow (gb) (x.cells).toArray = z5 at Zr Zb Zi ee ⊢
                  go_wp2_with fail
                  go_roundw
                  case rel => exact ⟨m + 1, by omega, by go_num, Zr, HB2.out ▸ Zb, ee⟩
                  case measure => simp [intOf]; omega
          · have f1 : (x.sl == u) = false := by simpa using hs
            have HB2 : Hid (best u (l.take (m + 1)) = b) := by show _ = _; rw [HBS.out]; simp [takes, hs]
            clear HBS hs
            go_wp2_with fail
            go_roundw
            case rel => exact ⟨m + 1, by omega, by go_num, Zr, HB2.out ▸ Zb, ee⟩
            case measure => simp [intOf]; omega
        · obtain rfl : m = k := by omega
          have htk : l.take m = l := by rw [HN.out]; exact List.take_length
          rw [htk] at Zb
          clear htk hlt
          obtain ⟨b, hb⟩ : ∃ b, b = best u l := ⟨_, rfl⟩
          have HBB : Hid (best u l = b) := hb.symm
          rw [← hb] at Zb
          clear hb
          go_upto_region 15 with fail
          have Zr : wr.drew.heap[w.heap.size]? = some (.cells #[.int .i64 0, .int .i64 0, .int .i64 0, .slice none 0 0, .slice none 0 0, .int .i64 0, .int .i64 0, .int .i64 0, .int .u64 0, .bool false] 37) := Zr
          have Zb : wr.drew.heap[gb]? = some (.cells b.cells.toArray 39) := Zb
          have ee := belowDrewS ee
          refine wp_region_held_drew (S := fun z' => z'.rangeAt gb 6 b.c.cells ∧ z'.cell? ⟨gb, 3, none⟩ = some (.bool b.ha)) (by kernel_rfl) ⟨rowMid Zb 6 (Ac.part b), rowCell Zb 3 rfl⟩ (fun hH => ?_)
          clear hH
          generalize wr.drew = z2 at Zr Zb  ee ⊢
          refine wpAnyH_take (i := 0) (v := .pointer (some ⟨gb, 6, none⟩)) rfl (by kernel_rfl) (by kernel_rfl) (by kernel_rfl) (fun _ _ _ h => h) (Or.inl ⟨by rfl, fun w_ hS_ => by (first | (go_simp; done) | (go_simp; rfl))⟩) ⟨rowMid Zb 6 (Ac.part b), rowCell Zb 3 rfl⟩ ?_
          try simp only [Act.put, List.getElem_toArray, List.getElem_cons_zero, List.getElem_cons_succ, List.setIfInBounds_toArray, List.set_cons_zero, List.set_cons_succ]
          refine wpAnyH_take (i := 1) (v := .agg (b.c.cells).toArray) rfl (by kernel_rfl) (by kernel_rfl) (by kernel_rfl) (fun _ _ _ h => h) (yieldsIf_load_mid (by rfl) 37 _ rfl (gb) (6) rfl (b.c.cells) _ (fun _ h => h.1) Tryd.underlying37 rfl sizeCm) ⟨rowMid Zb 6 (Ac.part b), rowCell Zb 3 rfl⟩ ?_
          try simp only [Act.put, List.getElem_toArray, List.getElem_cons_zero, List.getElem_cons_succ, List.setIfInBounds_toArray, List.set_cons_zero, List.set_cons_succ]
          refine wpAnyH_take (i := 2) (v := .pointer (some ⟨gb, 3, none⟩)) rfl (by kernel_rfl) (by kernel_rfl) (by kernel_rfl) (fun _ _ _ h => h) (Or.inl ⟨by rfl, fun w_ hS_ => by (first | (go_simp; done) | (go_simp; rfl))⟩) ⟨rowMid Zb 6 (Ac.part b), rowCell Zb 3 rfl⟩ ?_
          try simp only [Act.put, List.getElem_toArray, List.getElem_cons_zero, List.getElem_cons_succ, List.setIfInBounds_toArray, List.set_cons_zero, List.set_cons_succ]
          refine wpAnyH_take (i := 3) (v := .bool b.ha) rfl (by kernel_rfl) (by kernel_rfl) (by kernel_rfl) (fun _ _ _ h => h) (Or.inl ⟨by rfl, fun w_ hS_ => by (obtain ⟨h1_, h2_⟩ := hS_; go_simp)⟩) ⟨rowMid Zb 6 (Ac.part b), rowCell Zb 3 rfl⟩ ?_
          try simp only [Act.put, List.getElem_toArray, List.getElem_cons_zero, List.getElem_cons_succ, List.setIfInBounds_toArray, List.set_cons_zero, List.set_cons_succ]
          refine wpAnyH_ready (rs := [4]) (by kernel_rfl) (by simp) ?_
          refine AllReadyH.cons rfl (fun K hK => ?_) AllReadyH.nil
          rw [if_pos (by rfl)]
          refine wp_store_row 37 _ _ rfl (w.heap.size) (b.c.cells).toArray rfl rfl 37 _ Zr sizeCm (by rfl) (Cm.one _) ?_
          have N_ := setRow_heap z2 (w.heap.size) _ (b.c.cells).toArray _ _ Zr
          have ee := belowSet (cs := (b.c.cells).toArray) ee Zr (by omega)
          have Zb := hpR Zb (g' := w.heap.size) (by omega) (b.c.cells).toArray
          clear Zr
          have Zr := N_
          clear N_
          generalize z2.setRow (w.heap.size) (b.c.cells).toArray = z3 at Zr Zb ee ⊢
          refine hK.out _ _ ⟨rowMid Zb 6 (Ac.part b), rowCell Zb 3 rfl⟩ (fun hH => ?_)
          clear hK K hH
          try simp only [Act.put, List.getElem_toArray, List.getElem_cons_zero, List.getElem_cons_succ, List.setIfInBounds_toArray, List.set_cons_zero, List.set_cons_succ]
          refine wpAnyH_take (i := 5) (v := .bool b.ha) rfl (by kernel_rfl) (by kernel_rfl) (by kernel_rfl) (fun _ _ _ h => h) (Or.inl ⟨by rfl, fun w_ hS_ => by (first | (go_simp; done) | (go_simp; rfl))⟩) ⟨rowMid Zb 6 (Ac.part b), rowCell Zb 3 rfl⟩ ?_
          try simp only [Act.put, List.getElem_toArray, List.getElem_cons_zero, List.getElem_cons_succ, List.setIfInBounds_toArray, List.set_cons_zero, List.set_cons_succ]
          refine wpAnyH_done (by kernel_rfl) ?_ _
          go_wp2_with fail
          refine bodyPost_ret (v := .tuple #[.agg b.c.cells.toArray, .bool b.ha]) (res_ct rfl rfl rfl Zr Tryd.underlying37 rfl sizeCm) rfl ⟨by rw [HU.out, HBB.out], ee⟩
end Go.Proofs.YtkfnepmiigkdfaaDoor
