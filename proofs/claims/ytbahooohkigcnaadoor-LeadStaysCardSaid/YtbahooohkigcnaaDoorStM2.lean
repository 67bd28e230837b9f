/- Is what any two have learnt the same? Conditions: what lies, lies below; the tables lie. (Printed by gen_agree.py.) -/
import Derived.Test.YtbahooohkigcnaaDoorStM1
import Derived.Test.YtbahooohkigcnaaDoorRowLaws
import Derived.Great.BuildSlice
import Derived.Test.YtbahooohkigcnaaDoorTxnD
namespace Go.Proofs.YtbahooohkigcnaaDoor
set_option maxRecDepth 20000
open Go.RowKit T
set_option linter.unusedSimpArgs false
set_option linter.unusedVariables false

set_option maxHeartbeats 6400000 in
theorem pick_any (A : Option Addr) (c : Nat) (l : List Ac) (w : World) (B0 : Nat) (hl : l.length ≤ 1000000) (hc : l.length ≤ c) (hR : RowsAt w B0 A 16 (l.map Ac.cells)) (hB : B0 ≤ w.heap.size) :
    Calls Tryd.prog 15 #[.slice A l.length c] w fun e w' => e = .returned (.tuple #[.agg (best (topOf l) l).c.cells.toArray, .bool (best (topOf l) l).ha]) ∧ Below w.heap.size w w' := by
  obtain ⟨n, hn⟩ : ∃ n, n = l.length := ⟨_, rfl⟩
  have HN := Lib.hid hn
  have HR := Lib.hid hR
  rw [← hn] at hc hl ⊢
  clear hn hR
  obtain ⟨w0, hw0⟩ : ∃ w0, w0 = w.alloc (.cells #[.int .i64 0, .int .i64 0, .int .i64 0, .slice none 0 0, .slice none 0 0, .int .i64 0, .int .i64 0, .int .i64 0, .int .u64 0, .bool false] 37) := ⟨_, rfl⟩
  have ee : Below w.heap.size w w0 := by rw [hw0]; exact (Below.refl _ _).alloc (Nat.le_refl _) _
  have Zr : w0.heap[w.heap.size]? = some (.cells #[.int .i64 0, .int .i64 0, .int .i64 0, .slice none 0 0, .slice none 0 0, .int .i64 0, .int .i64 0, .int .i64 0, .int .u64 0, .bool false] 37) := by rw [hw0]; exact hpN _ _ rfl
  go_enter Tryd.func15, Tryd.ntmps15
  go_upto_region 1 with fail
  rw [← hw0]
  clear hw0
  go_wp2_with fail
  go_loopw [4, 12] (fun t i wr => ∃ k : Nat, k ≤ n ∧ i = .int .i64 (k : Int) ∧ t = .int .i64 (topOf (l.take k)) ∧ Hid (wr.heap[w.heap.size]? = some (.cells #[.int .i64 0, .int .i64 0, .int .i64 0, .slice none 0 0, .slice none 0 0, .int .i64 0, .int .i64 0, .int .i64 0, .int .u64 0, .bool false] 37)) ∧ Hid (Below w.heap.size w wr)) (fun _ i _ => n - (intOf i).toNat)
  case atStart => exact ⟨0, Nat.zero_le _, rfl, rfl, Zr, ee⟩
  case round =>
    clear Zr ee
    obtain ⟨k, hk, rfl, rfl, Zr, ee⟩ := hrel
    have Zr := Zr.out
    have ee := ee.out
    by_cases hlt : k < n
    · have hkl : k < l.length := by rw [← HN.out]; exact hlt
      obtain ⟨bo, off, rfl, hbo, hr⟩ := rowsGet HR.out hkl
      have HK : Hid (l.take (k + 1) = l.take k ++ [l[k]'hkl]) := List.take_succ_eq_append_getElem hkl
      have HMEM : Hid (l[k]'hkl ∈ l) := List.getElem_mem hkl
      have hbo : bo < w.heap.size := Nat.lt_of_lt_of_le hbo hB
      generalize l[k] = x at hr HK HMEM
      have HT : Hid (topOf (l.take (k + 1)) = if l.take k = [] then x.sl else if topOf (l.take k) < x.sl then x.sl else topOf (l.take k)) := by
        show _ = _
        rw [HK.out]; exact topOf_snoc _ _
      have HE : Hid (l.take k = [] ↔ k = 0) := by
        constructor
        · intro h
          have h2 : (l.take k).length = 0 := by rw [h]; rfl
          rw [List.length_take] at h2; omega
        · intro h; rw [h]; rfl
      clear HK HMEM
      generalize topOf (l.take k) = u at HT ⊢
      go_upto_region 4 with fail
      refine wp_region_lit ?_
      iterate 27 (first | with_reducible refine isLoad (ty := 39) rfl ?_ | go_step)
      refine wpList_load_mid rfl 39 _ rfl (bo) (off + k * 16) rfl (x.cells) _ (rangeB hr ee hbo) Tryd.underlying39 rfl sizeAc ?_
      have e0s := ee.size
      iterate 3 go_step
      have lZr := (Array.getElem?_eq_some_iff.1 Zr).1
      have Zr := hpA Zr (.cells #[.int .u32 0, .int .i64 0, .int .i64 0, .bool false, .int .u32 0, .int .i64 0, .int .i64 0, .int .i64 0, .int .i64 0, .slice none 0 0, .slice none 0 0, .int .i64 0, .int .i64 0, .int .i64 0, .int .u64 0, .bool false] 39)
      have ee := ee.alloc ee.size (.cells #[.int .u32 0, .int .i64 0, .int .i64 0, .bool false, .int .u32 0, .int .i64 0, .int .i64 0, .int .i64 0, .int .i64 0, .slice none 0 0, .slice none 0 0, .int .i64 0, .int .i64 0, .int .i64 0, .int .u64 0, .bool false] 39)
      have Zi := hpN wr (.cells #[.int .u32 0, .int .i64 0, .int .i64 0, .bool false, .int .u32 0, .int .i64 0, .int .i64 0, .int .i64 0, .int .i64 0, .slice none 0 0, .slice none 0 0, .int .i64 0, .int .i64 0, .int .i64 0, .int .u64 0, .bool false] 39) rfl
      generalize wr.alloc (.cells #[.int .u32 0, .int .i64 0, .int .i64 0, .bool false, .int .u32 0, .int .i64 0, .int .i64 0, .int .i64 0, .int .i64 0, .slice none 0 0, .slice none 0 0, .int .i64 0, .int .i64 0, .int .i64 0, .int .u64 0, .bool false] 39) = z1 at Zr Zi ee ⊢
      iterate 27 (first | with_reducible refine isStore (ty := 39) rfl ?_ | go_step)
      refine wpList_store_row rfl 39 _ _ rfl (wr.heap.size) (x.cells).toArray rfl rfl 39 _ Zi sizeAc (by rfl) (Ac.one _) ?_
      have N_ := setRow_heap z1 (wr.heap.size) _ (x.cells).toArray _ _ Zi
      have ee := belowSet (cs := (x.cells).toArray) ee Zi (by omega)
      have Zr := hpR Zr (g' := wr.heap.size) (by omega) (x.cells).toArray
      clear Zi
      have Zi := N_
      clear N_
      generalize z1.setRow (wr.heap.size) (x.cells).toArray = z2 at Zr Zi ee ⊢
      have i2 := rowCell Zi 2 (v := .int .i64 x.sl) rfl
      clear Zi e0s
      by_cases hk0 : k = 0
      · have HT2 : Hid (topOf (l.take (k + 1)) = x.sl) := by show _ = _; rw [HT.out, if_pos (HE.out.2 hk0)]
        clear HT HE
        have hkb : ((k : Int) == 0) = true := by simp [hk0]
        clear hk0
        go_wp2_with fail
        go_roundw
        case rel => exact ⟨k + 1, by omega, by go_num, by rw [HT2.out], Zr, ee⟩
        case measure => simp [intOf]; omega
      · have hkb : ((k : Int) == 0) = false := by simp [hk0]
        by_cases hs : u < x.sl
        · have HT2 : Hid (topOf (l.take (k + 1)) = x.sl) := by show _ = _; rw [HT.out, if_neg (fun h => hk0 (HE.out.1 h)), if_pos hs]
          clear HT HE hk0
          have f1 : decide (u < x.sl) = true := by simpa using hs
          clear hs
          go_wp2_with fail
          go_roundw
          case rel => exact ⟨k + 1, by omega, by go_num, by rw [HT2.out], Zr, ee⟩
          case measure => simp [intOf]; omega
        · have HT2 : Hid (topOf (l.take (k + 1)) = u) := by show _ = _; rw [HT.out, if_neg (fun h => hk0 (HE.out.1 h)), if_neg hs]
          clear HT HE hk0
          have f1 : decide (u < x.sl) = false := by simpa using hs
          clear hs
          go_wp2_with fail
          go_roundw
          case rel => exact ⟨k + 1, by omega, by go_num, by rw [HT2.out], Zr, ee⟩
          case measure => simp [intOf]; omega
    · obtain rfl : k = n := by omega
      have htk : l.take k = l := by rw [HN.out]; exact List.take_length
      rw [htk]
      clear htk hlt
      obtain ⟨u, hu⟩ : ∃ u, u = topOf l := ⟨_, rfl⟩
      have HU : Hid (topOf l = u) := hu.symm
      rw [← hu]
      clear hu
      go_upto_region 8 with fail
      refine wp_region_lit ?_
      have e0s := ee.size
      iterate 3 go_step
      have lZr := (Array.getElem?_eq_some_iff.1 Zr).1
      have Zr := hpA Zr (.cells #[.int .u32 0, .int .i64 0, .int .i64 0, .bool false, .int .u32 0, .int .i64 0, .int .i64 0, .int .i64 0, .int .i64 0, .slice none 0 0, .slice none 0 0, .int .i64 0, .int .i64 0, .int .i64 0, .int .u64 0, .bool false] 39)
      have ee := ee.alloc ee.size (.cells #[.int .u32 0, .int .i64 0, .int .i64 0, .bool false, .int .u32 0, .int .i64 0, .int .i64 0, .int .i64 0, .int .i64 0, .slice none 0 0, .slice none 0 0, .int .i64 0, .int .i64 0, .int .i64 0, .int .u64 0, .bool false] 39)
      have Zb := hpN wr (.cells #[.int .u32 0, .int .i64 0, .int .i64 0, .bool false, .int .u32 0, .int .i64 0, .int .i64 0, .int .i64 0, .int .i64 0, .slice none 0 0, .slice none 0 0, .int .i64 0, .int .i64 0, .int .i64 0, .int .u64 0, .bool false] 39) rfl
      generalize wr.alloc (.cells #[.int .u32 0, .int .i64 0, .int .i64 0, .bool false, .int .u32 0, .int .i64 0, .int .i64 0, .int .i64 0, .int .i64 0, .slice none 0 0, .slice none 0 0, .int .i64 0, .int .i64 0, .int .i64 0, .int .u64 0, .bool false] 39) = z1 at Zr Zb ee ⊢
      obtain ⟨gb, hg_⟩ : ∃ g_, g_ = wr.heap.size := ⟨_, rfl⟩
      have lgb : w.heap.size < gb := by rw [hg_]; exact lZr
      rw [← hg_] at Zb ⊢
      clear hg_ lZr e0s
      go_wp2_with fail
      clear hk
      go_loopw [30] (fun i wr => ∃ m : Nat, m ≤ k ∧ i = .int .i64 (m : Int) ∧ Hid (wr.heap[w.heap.size]? = some (.cells #[.int .i64 0, .int .i64 0, .int .i64 0, .slice none 0 0, .slice none 0 0, .int .i64 0, .int .i64 0, .int .i64 0, .int .u64 0, .bool false] 37)) ∧ Hid (wr.heap[gb]? = some (.cells (best u (l.take m)).cells.toArray 39)) ∧ Hid (Below w.heap.size w wr)) (fun i _ => k - (intOf i).toNat)
      case atStart => exact ⟨0, Nat.zero_le _, rfl, Zr, Zb, ee⟩
      case round =>
        clear Zr Zb ee
        obtain ⟨m, hm, rfl, Zr, Zb, ee⟩ := hrel
        have Zr := Zr.out
        have Zb := Zb.out
        have ee := ee.out
        by_cases hlt : m < k
        · have hkl : m < l.length := by rw [← HN.out]; exact hlt
          obtain ⟨bo, off, rfl, hbo, hr⟩ := rowsGet HR.out hkl
          have hbo : bo < w.heap.size := Nat.lt_of_lt_of_le hbo hB
          have HBS : Hid (best u (l.take (m + 1)) = bif takes u (best u (l.take m)) (l[m]'hkl) then l[m]'hkl else best u (l.take m)) := by
            show _ = _
            rw [List.take_succ_eq_append_getElem hkl]; exact best_snoc _ _ _
          generalize l[m] = x at hr HBS
          generalize best u (l.take m) = b at HBS Zb
          go_upto_region 11 with fail
          refine wp_region_lit ?_
          iterate 27 (first | with_reducible refine isLoad (ty := 39) rfl ?_ | go_step)
          refine wpList_load_mid rfl 39 _ rfl (bo) (off + m * 16) rfl (x.cells) _ (rangeB hr ee hbo) Tryd.underlying39 rfl sizeAc ?_
          have e0s := ee.size
          iterate 3 go_step
          have lZr := (Array.getElem?_eq_some_iff.1 Zr).1
          have lZb := (Array.getElem?_eq_some_iff.1 Zb).1
          have Zr := hpA Zr (.cells #[.int .u32 0, .int .i64 0, .int .i64 0, .bool false, .int .u32 0, .int .i64 0, .int .i64 0, .int .i64 0, .int .i64 0, .slice none 0 0, .slice none 0 0, .int .i64 0, .int .i64 0, .int .i64 0, .int .u64 0, .bool false] 39)
          have Zb := hpA Zb (.cells #[.int .u32 0, .int .i64 0, .int .i64 0, .bool false, .int .u32 0, .int .i64 0, .int .i64 0, .int .i64 0, .int .i64 0, .slice none 0 0, .slice none 0 0, .int .i64 0, .int .i64 0, .int .i64 0, .int .u64 0, .bool false] 39)
          have ee := ee.alloc ee.size (.cells #[.int .u32 0, .int .i64 0, .int .i64 0, .bool false, .int .u32 0, .int .i64 0, .int .i64 0, .int .i64 0, .int .i64 0, .slice none 0 0, .slice none 0 0, .int .i64 0, .int .i64 0, .int .i64 0, .int .u64 0, .bool false] 39)
          have Zi := hpN wr (.cells #[.int .u32 0, .int .i64 0, .int .i64 0, .bool false, .int .u32 0, .int .i64 0, .int .i64 0, .int .i64 0, .int .i64 0, .slice none 0 0, .slice none 0 0, .int .i64 0, .int .i64 0, .int .i64 0, .int .u64 0, .bool false] 39) rfl
          generalize wr.alloc (.cells #[.int .u32 0, .int .i64 0, .int .i64 0, .bool false, .int .u32 0, .int .i64 0, .int .i64 0, .int .i64 0, .int .i64 0, .slice none 0 0, .slice none 0 0, .int .i64 0, .int .i64 0, .int .i64 0, .int .u64 0, .bool false] 39) = z2 at Zr Zb Zi ee ⊢
          iterate 27 (first | with_reducible refine isStore (ty := 39) rfl ?_ | go_step)
          refine wpList_store_row rfl 39 _ _ rfl (wr.heap.size) (x.cells).toArray rfl rfl 39 _ Zi sizeAc (by rfl) (Ac.one _) ?_
          have N_ := setRow_heap z2 (wr.heap.size) _ (x.cells).toArray _ _ Zi
          have ee := belowSet (cs := (x.cells).toArray) ee Zi (by omega)
          have Zr := hpR Zr (g' := wr.heap.size) (by omega) (x.cells).toArray
          have Zb := hpR Zb (g' := wr.heap.size) (by omega) (x.cells).toArray
          clear Zi
          have Zi := N_
          clear N_
          generalize z2.setRow (wr.heap.size) (x.cells).toArray = z3 at Zr Zb Zi ee ⊢
          have i2 := rowCell Zi 2 (v := .int .i64 x.sl) rfl
          by_cases hs : x.sl = u
          · have f1 : (x.sl == u) = true := by simpa using hs
            cases hx : x.ha with
            | false =>
              have i3 := rowCell Zi 3 (v := .bool false) (by rw [← hx]; rfl)
              have HB2 : Hid (best u (l.take (m + 1)) = b) := by show _ = _; rw [HBS.out]; simp [takes, hx]
              clear HBS hs hx
              go_wp2_with fail
              go_roundw
              case rel => exact ⟨m + 1, by omega, by go_num, Zr, HB2.out ▸ Zb, ee⟩
              case measure => simp [intOf]; omega
            | true =>
              have i3 := rowCell Zi 3 (v := .bool true) (by rw [← hx]; rfl)
              cases hb : b.ha with
              | false =>
                have b3 := rowCell Zb 3 (v := .bool false) (by rw [← hb]; rfl)
                have HB2 : Hid (best u (l.take (m + 1)) = x) := by show _ = _; rw [HBS.out]; simp [takes, hx, hb, hs]
                clear HBS hs hx hb
                go_upto_region 13 with fail
                refine wp_region_lit ?_
                iterate 27 (first | with_reducible refine isLoad (ty := 39) rfl ?_ | go_step)
                refine wpList_load_mid rfl 39 _ rfl (wr.heap.size) 0 rfl ((x.cells)) _ (rowAt Zi) Tryd.underlying39 rfl sizeAc ?_
                iterate 27 (first | with_reducible refine isStore (ty := 39) rfl ?_ | go_step)
                refine wpList_store_row rfl 39 _ _ rfl (gb) (x.cells).toArray rfl rfl 39 _ Zb sizeAc (by rfl) (Ac.one _) ?_
                have N_ := setRow_heap z3 (gb) _ (x.cells).toArray _ _ Zb
                have ee := belowSet (cs := (x.cells).toArray) ee Zb (by omega)
                have Zr := hpR Zr (g' := gb) (by omega) (x.cells).toArray
                have Zi := hpR Zi (g' := gb) (by omega) (x.cells).toArray
                clear Zb
                have Zb := N_
                clear N_
                generalize z3.setRow (gb) (x.cells).toArray = z4 at Zr Zb Zi ee ⊢
                go_wp2_with fail
                go_roundw
                case rel => exact ⟨m + 1, by omega, by go_num, Zr, HB2.out ▸ Zb, ee⟩
                case measure => simp [intOf]; omega
              | true =>
                have b3 := rowCell Zb 3 (v := .bool true) (by rw [← hb]; rfl)
                have b4 := rowCell Zb 4 (v := .int .u32 (b.vr : Int)) rfl
                have b5 := rowCell Zb 5 (v := .int .i64 b.vn) rfl
                have i4 := rowCell Zi 4 (v := .int .u32 (x.vr : Int)) rfl
                have i5 := rowCell Zi 5 (v := .int .i64 x.vn) rfl
                have HLE := Lib.hid (fun z => bless_any b.vr b.vn x.vr x.vn z)
                have HLT : Hid (b.bless x = B.less b.vr b.vn x.vr x.vn) := rfl
                generalize B.less b.vr b.vn x.vr x.vn = ml at HLE HLT
                go_wp2_with fail
                refine (HLE.out z3).mono ?_
                rintro e z4 ⟨rfl, t⟩
                have Zr := hpB Zr t
                have Zb := hpB Zb t
                have Zi := hpB Zi t
                have ee := ee.trans (t.mono ee.size)
                clear t
                clear b3 b4 b5 i2 i3 i4 i5 HLE
                cases ml with
                | false =>
                  have HB2 : Hid (best u (l.take (m + 1)) = b) := by show _ = _; rw [HBS.out]; simp [takes, hx, hb, hs, HLT.out]
                  clear HBS hs hx hb HLT
                  go_wp2_with fail
                  go_roundw
                  case rel => exact ⟨m + 1, by omega, by go_num, Zr, HB2.out ▸ Zb, ee⟩
                  case measure => simp [intOf]; omega
                | true =>
                  have HB2 : Hid (best u (l.take (m + 1)) = x) := by show _ = _; rw [HBS.out]; simp [takes, hx, hb, hs, HLT.out]
                  clear HBS hs hx hb HLT
                  go_upto_region 13 with fail
                  refine wp_region_lit ?_
                  iterate 27 (first | with_reducible refine isLoad (ty := 39) rfl ?_ | go_step)
                  refine wpList_load_mid rfl 39 _ rfl (wr.heap.size) 0 rfl ((x.cells)) _ (rowAt Zi) Tryd.underlying39 rfl sizeAc ?_
                  iterate 27 (first | with_reducible refine isStore (ty := 39) rfl ?_ | go_step)
                  refine wpList_store_row rfl 39 _ _ rfl (gb) (x.cells).toArray rfl rfl 39 _ Zb sizeAc (by rfl) (Ac.one _) ?_
                  have N_ := setRow_heap z4 (gb) _ (x.cells).toArray _ _ Zb
                  have ee := belowSet (cs := (x.cells).toArray) ee Zb (by omega)
                  have Zr := hpR Zr (g' := gb) (by omega) (x.cells).toArray
                  have Zi := hpR Zi (g' := gb) (by omega) (x.cells).toArray
                  clear Zb
                  have Zb := N_
                  clear N_
                  generalize z4.setRow (gb) (x.cells).toArray = z5 at Zr Zb Zi ee ⊢
                  go_wp2_with fail
                  go_roundw
                  case rel => exact ⟨m + 1, by omega, by go_num, Zr, HB2.out ▸ Zb, ee⟩
                  case measure => simp [intOf]; omega
          · have f1 : (x.sl == u) = false := by simpa using hs
            have HB2 : Hid (best u (l.take (m + 1)) = b) := by show _ = _; rw [HBS.out]; simp [takes, hs]
            clear HBS hs
            go_wp2_with fail
            go_roundw
            case rel => exact ⟨m + 1, by omega, by go_num, Zr, HB2.out ▸ Zb, ee⟩
            case measure => simp [intOf]; omega
        · obtain rfl : m = k := by omega
          have htk : l.take m = l := by rw [HN.out]; exact List.take_length
          rw [htk] at Zb
          clear htk hlt
          obtain ⟨b, hb⟩ : ∃ b, b = best u l := ⟨_, rfl⟩
          have HBB : Hid (best u l = b) := hb.symm
          rw [← hb] at Zb
          clear hb
          go_upto_region 15 with fail
          have Zr : wr.drew.heap[w.heap.size]? = some (.cells #[.int .i64 0, .int .i64 0, .int .i64 0, .slice none 0 0, .slice none 0 0, .int .i64 0, .int .i64 0, .int .i64 0, .int .u64 0, .bool false] 37) := Zr
          have Zb : wr.drew.heap[gb]? = some (.cells b.cells.toArray 39) := Zb
          have ee := belowDrewS ee
          refine wp_region_held_drew (S := fun z' => z'.rangeAt gb 6 b.c.cells ∧ z'.cell? ⟨gb, 3, none⟩ = some (.bool b.ha)) (by kernel_rfl) ⟨rowMid Zb 6 (Ac.part b), rowCell Zb 3 rfl⟩ (fun hH => ?_)
          clear hH
          generalize wr.drew = z2 at Zr Zb  ee ⊢
          refine wpAnyH_take (i := 0) (v := .pointer (some ⟨gb, 6, none⟩)) rfl (by kernel_rfl) (by kernel_rfl) (by kernel_rfl) (fun _ _ _ h => h) (Or.inl ⟨by rfl, fun w_ hS_ => by (first | (go_simp; done) | (go_simp; rfl))⟩) ⟨rowMid Zb 6 (Ac.part b), rowCell Zb 3 rfl⟩ ?_
          try simp only [Act.put, List.getElem_toArray, List.getElem_cons_zero, List.getElem_cons_succ, List.setIfInBounds_toArray, List.set_cons_zero, List.set_cons_succ]
          refine wpAnyH_take (i := 1) (v := .agg (b.c.cells).toArray) rfl (by kernel_rfl) (by kernel_rfl) (by kernel_rfl) (fun _ _ _ h => h) (yieldsIf_load_mid (by rfl) 37 _ rfl (gb) (6) rfl (b.c.cells) _ (fun _ h => h.1) Tryd.underlying37 rfl sizeCm) ⟨rowMid Zb 6 (Ac.part b), rowCell Zb 3 rfl⟩ ?_
          try simp only [Act.put, List.getElem_toArray, List.getElem_cons_zero, List.getElem_cons_succ, List.setIfInBounds_toArray, List.set_cons_zero, List.set_cons_succ]
          refine wpAnyH_take (i := 2) (v := .pointer (some ⟨gb, 3, none⟩)) rfl (by kernel_rfl) (by kernel_rfl) (by kernel_rfl) (fun _ _ _ h => h) (Or.inl ⟨by rfl, fun w_ hS_ => by (first | (go_simp; done) | (go_simp; rfl))⟩) ⟨rowMid Zb 6 (Ac.part b), rowCell Zb 3 rfl⟩ ?_
          try simp only [Act.put, List.getElem_toArray, List.getElem_cons_zero, List.getElem_cons_succ, List.setIfInBounds_toArray, List.set_cons_zero, List.set_cons_succ]
          refine wpAnyH_take (i := 3) (v := .bool b.ha) rfl (by kernel_rfl) (by kernel_rfl) (by kernel_rfl) (fun _ _ _ h => h) (Or.inl ⟨by rfl, fun w_ hS_ => by (obtain ⟨h1_, h2_⟩ := hS_; go_simp)⟩) ⟨rowMid Zb 6 (Ac.part b), rowCell Zb 3 rfl⟩ ?_
          try simp only [Act.put, List.getElem_toArray, List.getElem_cons_zero, List.getElem_cons_succ, List.setIfInBounds_toArray, List.set_cons_zero, List.set_cons_succ]
          refine wpAnyH_ready (rs := [4]) (by kernel_rfl) (by simp) ?_
          refine AllReadyH.cons rfl (fun K hK => ?_) AllReadyH.nil
          rw [if_pos (by rfl)]
          refine wp_store_row 37 _ _ rfl (w.heap.size) (b.c.cells).toArray rfl rfl 37 _ Zr sizeCm (by rfl) (Cm.one _) ?_
          have N_ := setRow_heap z2 (w.heap.size) _ (b.c.cells).toArray _ _ Zr
          have ee := belowSet (cs := (b.c.cells).toArray) ee Zr (by omega)
          have Zb := hpR Zb (g' := w.heap.size) (by omega) (b.c.cells).toArray
          clear Zr
          have Zr := N_
          clear N_
          generalize z2.setRow (w.heap.size) (b.c.cells).toArray = z3 at Zr Zb ee ⊢
          refine hK.out _ _ ⟨rowMid Zb 6 (Ac.part b), rowCell Zb 3 rfl⟩ (fun hH => ?_)
          clear hK K hH
          try simp only [Act.put, List.getElem_toArray, List.getElem_cons_zero, List.getElem_cons_succ, List.setIfInBounds_toArray, List.set_cons_zero, List.set_cons_succ]
          refine wpAnyH_take (i := 5) (v := .bool b.ha) rfl (by kernel_rfl) (by kernel_rfl) (by kernel_rfl) (fun _ _ _ h => h) (Or.inl ⟨by rfl, fun w_ hS_ => by (first | (go_simp; done) | (go_simp; rfl))⟩) ⟨rowMid Zb 6 (Ac.part b), rowCell Zb 3 rfl⟩ ?_
          try simp only [Act.put, List.getElem_toArray, List.getElem_cons_zero, List.getElem_cons_succ, List.setIfInBounds_toArray, List.set_cons_zero, List.set_cons_succ]
          refine wpAnyH_done (by kernel_rfl) ?_ _
          go_wp2_with fail
          refine bodyPost_ret (v := .tuple #[.agg b.c.cells.toArray, .bool b.ha]) (res_ct rfl rfl rfl Zr Tryd.underlying37 rfl sizeCm) rfl ⟨by rw [HU.out, HBB.out], ee⟩
end Go.Proofs.YtbahooohkigcnaaDoor

namespace Go.Proofs.YtbahooohkigcnaaDoor
set_option maxRecDepth 20001
open Go.RowKit T
set_option linter.unusedSimpArgs false
set_option linter.unusedVariables false

theorem sizeRBal : (Tryd.prog.info? 40).map (·.size) = some 2 := by kernel_rfl
set_option maxHeartbeats 6400000 in
theorem rpick_any (A : Option Addr) (c : Nat) (l : List Ac) (w : World) (B0 : Nat) (hl : l.length ≤ 1000000) (hc : l.length ≤ c) (hR : RowsAt w B0 A 16 (l.map Ac.cells)) (hB : B0 ≤ w.heap.size) :
    Calls Tryd.prog 16 #[.slice A l.length c] w fun e w' => e = .returned (.tuple #[.agg (best (topOf l) l).c.cells.toArray, .bool (best (topOf l) l).ha]) ∧ Below w.heap.size w w' := by
  obtain ⟨n, hn⟩ : ∃ n, n = l.length := ⟨_, rfl⟩
  have HN := Lib.hid hn
  have HR := Lib.hid hR
  rw [← hn] at hc hl ⊢
  clear hn hR
  obtain ⟨u, hu⟩ : ∃ u, u = topOf l := ⟨_, rfl⟩
  have HU : Hid (topOf l = u) := hu.symm
  rw [← hu]
  clear hu
  obtain ⟨w0, hw0⟩ : ∃ w0, w0 = w.alloc (.cells #[.int .i64 0, .int .i64 0, .int .i64 0, .slice none 0 0, .slice none 0 0, .int .i64 0, .int .i64 0, .int .i64 0, .int .u64 0, .bool false] 41) := ⟨_, rfl⟩
  have ee : Below w.heap.size w w0 := by rw [hw0]; exact (Below.refl _ _).alloc (Nat.le_refl _) _
  have Zr : w0.heap[w.heap.size]? = some (.cells #[.int .i64 0, .int .i64 0, .int .i64 0, .slice none 0 0, .slice none 0 0, .int .i64 0, .int .i64 0, .int .i64 0, .int .u64 0, .bool false] 41) := by rw [hw0]; exact hpN _ _ rfl
  go_enter Tryd.func16, Tryd.ntmps16
  go_upto_region 1 with fail
  rw [← hw0]
  clear hw0
  go_wp2_with fail
  go_loopw [4, 5] (fun bv i wr => ∃ (k : Nat) (b : Int), k ≤ n ∧ i = .int .i64 (k : Int) ∧ bv = .int .i64 b ∧ Hid (PickAt u l k b) ∧ Hid (wr.heap[w.heap.size]? = some (.cells #[.int .i64 0, .int .i64 0, .int .i64 0, .slice none 0 0, .slice none 0 0, .int .i64 0, .int .i64 0, .int .i64 0, .int .u64 0, .bool false] 41)) ∧ Hid (Below w.heap.size w wr)) (fun _ i _ => n - (intOf i).toNat)
  case atStart => exact ⟨0, -1, Nat.zero_le _, rfl, rfl, PickAt.zero u l, Zr, ee⟩
  case round =>
    clear Zr ee
    obtain ⟨k, b, hk, rfl, rfl, HP, Zr, ee⟩ := hrel
    by_cases hlt : k < n
    · have hkl : k < l.length := by rw [← HN.out]; exact hlt
      obtain ⟨bo, off, rfl, hbo0, hr⟩ := rowsGet HR.out hkl
      have hbo : bo < w.heap.size := Nat.lt_of_lt_of_le hbo0 hB
      have HMEM : Hid (l[k]'hkl ∈ l) := List.getElem_mem hkl
      have HKE : Hid (takes u (best u (l.take k)) (l[k]'hkl) = false → PickAt u l (k + 1) b) := fun h => HP.out.keep hkl h
      have HTA : Hid (takes u (best u (l.take k)) (l[k]'hkl) = true → PickAt u l (k + 1) (k : Int)) := fun h => HP.out.take hkl h
      generalize l[k] = x at hr HMEM HKE HTA
      go_wp2_with fail
      go_loopw [6, 7] (fun f j wr => ∃ (m : Nat) (q : Bool), m ≤ n ∧ j = .int .i64 (m : Int) ∧ f = .bool q ∧ Hid (q = true ↔ ∀ y ∈ l.take m, y.sl ≤ x.sl) ∧ Hid (wr.heap[w.heap.size]? = some (.cells #[.int .i64 0, .int .i64 0, .int .i64 0, .slice none 0 0, .slice none 0 0, .int .i64 0, .int .i64 0, .int .i64 0, .int .u64 0, .bool false] 41)) ∧ Hid (Below w.heap.size w wr)) (fun _ j _ => n - (intOf j).toNat)
      case atStart => exact ⟨0, true, Nat.zero_le _, rfl, rfl, by show _ ↔ _; simp, Zr, ee⟩
      case round =>
        clear Zr ee
        obtain ⟨m, q, hm, rfl, rfl, HF, Zr, ee⟩ := hrel
        by_cases hmn : m < n
        · have hml : m < l.length := by rw [← HN.out]; exact hmn
          have hy := rowsAtK HR.out (List.getElem?_eq_getElem hml)
          have HY : Hid (∀ z, z ∈ l.take (m + 1) ↔ z ∈ l.take m ∨ z = l[m]'hml) := fun z => by
            rw [List.take_succ_eq_append_getElem hml, List.mem_append, List.mem_singleton]
          generalize l[m] = y at hy HY
          have y2 := rangeCell (rangeB hy ee.out hbo) 2 (v := .int .i64 y.sl) rfl
          have x2 := rangeCell (rangeB hr ee.out hbo) 2 (v := .int .i64 x.sl) rfl
          cases q with
          | false =>
            have HF2 : Hid (false = true ↔ ∀ z ∈ l.take (m + 1), z.sl ≤ x.sl) := by
              constructor
              · intro h; cases h
              · intro h; exact HF.out.2 fun z hz => h z ((HY.out z).2 (Or.inl hz))
            clear y2 x2
            go_wp2_with fail
            go_quiet (fail)
            go_wp2_with fail
            go_roundw
            case rel => exact ⟨m + 1, false, by omega, by go_num, rfl, HF2, Zr, belowDrewN ee.out _⟩
            case measure => simp [intOf]; omega
          | true =>
            have HF2 : Hid (decide (y.sl ≤ x.sl) = true ↔ ∀ z ∈ l.take (m + 1), z.sl ≤ x.sl) := by
              show _ ↔ _
              rw [decide_eq_true_eq]
              constructor
              · intro h z hz
                rcases (HY.out z).1 hz with hz | hz
                · exact HF.out.1 rfl z hz
                · rw [hz]; exact h
              · intro h; exact h y ((HY.out y).2 (Or.inr rfl))
            go_wp2_with fail
            go_quiet (fail)
            go_wp2_with fail
            go_roundw
            case rel => exact ⟨m + 1, _, by omega, by go_num, rfl, HF2, Zr, belowDrewN ee.out _⟩
            case measure => simp [intOf]; omega
        · obtain rfl : m = n := by omega
          have htk : l.take m = l := by rw [HN.out]; exact List.take_length
          rw [htk] at HF
          clear htk hmn
          have HQ : Hid (q = true ↔ x.sl = u) := by
            show _ ↔ _
            rw [HF.out, top_iff l x HMEM.out, HU.out]
          have x3 := rangeCell (rangeB hr ee.out hbo) 3 (v := .bool x.ha) rfl
          cases q with
          | false =>
            have HP2 : Hid (PickAt u l (k + 1) b) := HKE.out (by have h : x.sl ≠ u := fun h => Bool.noConfusion (HQ.out.2 h); simp [takes, h])
            clear HKE HTA x3
            go_wp2_with fail
            go_quiet (fail)
            go_wp2_with fail
            go_roundw
            case rel => exact ⟨k + 1, b, by omega, by go_num, rfl, HP2, Zr, belowDrewN ee.out _⟩
            case measure => simp [intOf]; omega
          | true =>
            have hxu : x.sl = u := HQ.out.1 rfl
            cases hx : x.ha with
            | false =>
              have HP2 : Hid (PickAt u l (k + 1) b) := HKE.out (by simp [takes, hx])
              rw [hx] at x3
              clear HKE HTA hx hxu
              go_wp2_with fail
              go_quiet (fail)
              go_wp2_with fail
              go_roundw
              case rel => exact ⟨k + 1, b, by omega, by go_num, rfl, HP2, Zr, belowDrewN ee.out _⟩
              case measure => simp [intOf]; omega
            | true =>
              rw [hx] at x3
              rcases HP.out with ⟨hb1, hb2⟩ | ⟨j, hb1, hb2, hb3⟩
              · have HP2 : Hid (PickAt u l (k + 1) (k : Int)) := HTA.out (by rw [hb2]; simp [takes, hx, hxu]; exact Or.inl rfl)
                subst hb1
                clear HKE HTA hx hxu hb2 HP
                go_wp2_with fail
                go_quiet (fail)
                go_wp2_with fail
                go_roundw
                case rel => exact ⟨k + 1, (k : Int), by omega, by go_num, rfl, HP2, Zr, belowDrewN ee.out _⟩
                case measure => simp [intOf]; omega
              · have hjl : j < l.length := (List.getElem?_eq_some_iff.1 hb2).1
                have hjm : j < m := by rw [HN.out]; exact hjl
                have hz := rowsAtK HR.out hb2
                subst hb1
                have HKE2 : Hid (B.less (best u (l.take k)).vr (best u (l.take k)).vn x.vr x.vn = false → PickAt u l (k + 1) (j : Int)) := fun h => HKE.out (by simp [takes, hx, hxu, hb3, Ac.bless, h])
                have HTA2 : Hid (B.less (best u (l.take k)).vr (best u (l.take k)).vn x.vr x.vn = true → PickAt u l (k + 1) (k : Int)) := fun h => HTA.out (by simp [takes, hx, hxu, hb3, Ac.bless, h])
                have hx3 := Lib.hid hx
                clear HKE HTA hb2 hb3 hx hxu HP
                generalize best u (l.take k) = b at hz HKE2 HTA2
                have HLE := Lib.hid (fun z => rbless_any b.vr b.vn x.vr x.vn z)
                generalize B.less b.vr b.vn x.vr x.vn = ml at HLE HKE2 HTA2
                have Zr := Zr.out
                have ee := ee.out
                have f1 : decide ((j : Int) < 0) = false := by simp
                clear x3
                go_upto_region 10 with fail
                have Zr : wr.drew.heap[w.heap.size]? = some (.cells #[.int .i64 0, .int .i64 0, .int .i64 0, .slice none 0 0, .slice none 0 0, .int .i64 0, .int .i64 0, .int .i64 0, .int .u64 0, .bool false] 41) := Zr
                have ee := belowDrewS ee
                refine wp_region_held_drew (S := fun z' => z'.cell? ⟨bo, off + k * 16 + 3, none⟩ = some (.bool true) ∧ z'.rangeAt bo (off + j * 16 + 4) [.int .u32 (b.vr : Int), .int .i64 b.vn] ∧ z'.rangeAt bo (off + k * 16 + 4) [.int .u32 (x.vr : Int), .int .i64 x.vn]) (by kernel_rfl) ⟨rangeCell (rangeB hr ee hbo) 3 (by rw [← hx3.out]; rfl), rangePart (rangeB hz ee hbo) (Ac.votes b), rangePart (rangeB hr ee hbo) (Ac.votes x)⟩ (fun hH => ?_)
                clear hH
                generalize wr.drew = z1 at Zr  ee ⊢
                refine wpAnyH_take (i := 0) (v := .bool true) rfl (by kernel_rfl) (by kernel_rfl) (by kernel_rfl) (fun _ _ _ h => h) (Or.inl ⟨by rfl, fun w_ hS_ => by (first | (go_simp; done) | (go_simp; rfl))⟩) ⟨rangeCell (rangeB hr ee hbo) 3 (by rw [← hx3.out]; rfl), rangePart (rangeB hz ee hbo) (Ac.votes b), rangePart (rangeB hr ee hbo) (Ac.votes x)⟩ ?_
                try simp only [Act.put, List.getElem_toArray, List.getElem_cons_zero, List.getElem_cons_succ, List.setIfInBounds_toArray, List.set_cons_zero, List.set_cons_succ]
                refine wpAnyH_take (i := 1) (v := .bool true) rfl (by kernel_rfl) (by kernel_rfl) (by kernel_rfl) (fun _ _ _ h => h) (Or.inl ⟨by rfl, fun w_ hS_ => by (first | (go_simp; done) | (go_simp; rfl))⟩) ⟨rangeCell (rangeB hr ee hbo) 3 (by rw [← hx3.out]; rfl), rangePart (rangeB hz ee hbo) (Ac.votes b), rangePart (rangeB hr ee hbo) (Ac.votes x)⟩ ?_
                try simp only [Act.put, List.getElem_toArray, List.getElem_cons_zero, List.getElem_cons_succ, List.setIfInBounds_toArray, List.set_cons_zero, List.set_cons_succ]
                refine wpAnyH_take (i := 2) (v := .slice (some ⟨bo, off, none⟩) m c) rfl (by kernel_rfl) (by kernel_rfl) (by kernel_rfl) (fun _ _ _ h => h) (Or.inl ⟨by rfl, fun w_ hS_ => by (first | (go_simp; done) | (go_simp; rfl))⟩) ⟨rangeCell (rangeB hr ee hbo) 3 (by rw [← hx3.out]; rfl), rangePart (rangeB hz ee hbo) (Ac.votes b), rangePart (rangeB hr ee hbo) (Ac.votes x)⟩ ?_
                try simp only [Act.put, List.getElem_toArray, List.getElem_cons_zero, List.getElem_cons_succ, List.setIfInBounds_toArray, List.set_cons_zero, List.set_cons_succ]
                refine wpAnyH_take (i := 3) (v := .int .i64 (k : Int)) rfl (by kernel_rfl) (by kernel_rfl) (by kernel_rfl) (fun _ _ _ h => h) (Or.inl ⟨by rfl, fun w_ hS_ => by (first | (go_simp; done) | (go_simp; rfl))⟩) ⟨rangeCell (rangeB hr ee hbo) 3 (by rw [← hx3.out]; rfl), rangePart (rangeB hz ee hbo) (Ac.votes b), rangePart (rangeB hr ee hbo) (Ac.votes x)⟩ ?_
                try simp only [Act.put, List.getElem_toArray, List.getElem_cons_zero, List.getElem_cons_succ, List.setIfInBounds_toArray, List.set_cons_zero, List.set_cons_succ]
                refine wpAnyH_take (i := 4) (v := .pointer (some ⟨bo, off + k * 16, none⟩)) rfl (by kernel_rfl) (by kernel_rfl) (by kernel_rfl) (fun _ _ _ h => h) (Or.inl ⟨by rfl, fun w_ hS_ => by (first | (go_simp; done) | (go_simp; rfl))⟩) ⟨rangeCell (rangeB hr ee hbo) 3 (by rw [← hx3.out]; rfl), rangePart (rangeB hz ee hbo) (Ac.votes b), rangePart (rangeB hr ee hbo) (Ac.votes x)⟩ ?_
                try simp only [Act.put, List.getElem_toArray, List.getElem_cons_zero, List.getElem_cons_succ, List.setIfInBounds_toArray, List.set_cons_zero, List.set_cons_succ]
                refine wpAnyH_take (i := 5) (v := .pointer (some ⟨bo, off + k * 16 + 3, none⟩)) rfl (by kernel_rfl) (by kernel_rfl) (by kernel_rfl) (fun _ _ _ h => h) (Or.inl ⟨by rfl, fun w_ hS_ => by (first | (go_simp; done) | (go_simp; rfl))⟩) ⟨rangeCell (rangeB hr ee hbo) 3 (by rw [← hx3.out]; rfl), rangePart (rangeB hz ee hbo) (Ac.votes b), rangePart (rangeB hr ee hbo) (Ac.votes x)⟩ ?_
                try simp only [Act.put, List.getElem_toArray, List.getElem_cons_zero, List.getElem_cons_succ, List.setIfInBounds_toArray, List.set_cons_zero, List.set_cons_succ]
                refine wpAnyH_take (i := 6) (v := .bool true) rfl (by kernel_rfl) (by kernel_rfl) (by kernel_rfl) (fun _ _ _ h => h) (Or.inl ⟨by rfl, fun w_ hS_ => by (obtain ⟨h1_, h2_, h3_⟩ := hS_; go_simp)⟩) ⟨rangeCell (rangeB hr ee hbo) 3 (by rw [← hx3.out]; rfl), rangePart (rangeB hz ee hbo) (Ac.votes b), rangePart (rangeB hr ee hbo) (Ac.votes x)⟩ ?_
                try simp only [Act.put, List.getElem_toArray, List.getElem_cons_zero, List.getElem_cons_succ, List.setIfInBounds_toArray, List.set_cons_zero, List.set_cons_succ]
                refine wpAnyH_take (i := 7) (v := .bool true) rfl (by kernel_rfl) (by kernel_rfl) (by kernel_rfl) (fun _ _ _ h => h) (Or.inl ⟨by rfl, fun w_ hS_ => by (first | (go_simp; done) | (go_simp; rfl))⟩) ⟨rangeCell (rangeB hr ee hbo) 3 (by rw [← hx3.out]; rfl), rangePart (rangeB hz ee hbo) (Ac.votes b), rangePart (rangeB hr ee hbo) (Ac.votes x)⟩ ?_
                try simp only [Act.put, List.getElem_toArray, List.getElem_cons_zero, List.getElem_cons_succ, List.setIfInBounds_toArray, List.set_cons_zero, List.set_cons_succ]
                refine wpAnyH_take (i := 8) (v := .bool true) rfl (by kernel_rfl) (by kernel_rfl) (by kernel_rfl) (fun _ _ _ h => h) (Or.inl ⟨by rfl, fun w_ hS_ => by (first | (go_simp; done) | (go_simp; rfl))⟩) ⟨rangeCell (rangeB hr ee hbo) 3 (by rw [← hx3.out]; rfl), rangePart (rangeB hz ee hbo) (Ac.votes b), rangePart (rangeB hr ee hbo) (Ac.votes x)⟩ ?_
                try simp only [Act.put, List.getElem_toArray, List.getElem_cons_zero, List.getElem_cons_succ, List.setIfInBounds_toArray, List.set_cons_zero, List.set_cons_succ]
                refine wpAnyH_take (i := 9) (v := .int .i64 (j : Int)) rfl (by kernel_rfl) (by kernel_rfl) (by kernel_rfl) (fun _ _ _ h => h) (Or.inl ⟨by rfl, fun w_ hS_ => by (first | (go_simp; done) | (go_simp; rfl))⟩) ⟨rangeCell (rangeB hr ee hbo) 3 (by rw [← hx3.out]; rfl), rangePart (rangeB hz ee hbo) (Ac.votes b), rangePart (rangeB hr ee hbo) (Ac.votes x)⟩ ?_
                try simp only [Act.put, List.getElem_toArray, List.getElem_cons_zero, List.getElem_cons_succ, List.setIfInBounds_toArray, List.set_cons_zero, List.set_cons_succ]
                refine wpAnyH_take (i := 10) (v := .bool false) rfl (by kernel_rfl) (by kernel_rfl) (by kernel_rfl) (fun _ _ _ h => h) (Or.inl ⟨by rfl, fun w_ hS_ => by (first | (go_simp; done) | (go_simp; rfl))⟩) ⟨rangeCell (rangeB hr ee hbo) 3 (by rw [← hx3.out]; rfl), rangePart (rangeB hz ee hbo) (Ac.votes b), rangePart (rangeB hr ee hbo) (Ac.votes x)⟩ ?_
                try simp only [Act.put, List.getElem_toArray, List.getElem_cons_zero, List.getElem_cons_succ, List.setIfInBounds_toArray, List.set_cons_zero, List.set_cons_succ]
                refine wpAnyH_take (i := 11) (v := .bool false) rfl (by kernel_rfl) (by kernel_rfl) (by kernel_rfl) (fun _ _ _ h => h) (Or.inl ⟨by rfl, fun w_ hS_ => by (first | (go_simp; done) | (go_simp; rfl))⟩) ⟨rangeCell (rangeB hr ee hbo) 3 (by rw [← hx3.out]; rfl), rangePart (rangeB hz ee hbo) (Ac.votes b), rangePart (rangeB hr ee hbo) (Ac.votes x)⟩ ?_
                try simp only [Act.put, List.getElem_toArray, List.getElem_cons_zero, List.getElem_cons_succ, List.setIfInBounds_toArray, List.set_cons_zero, List.set_cons_succ]
                refine wpAnyH_take (i := 12) (v := .slice (some ⟨bo, off, none⟩) m c) rfl (by kernel_rfl) (by kernel_rfl) (by kernel_rfl) (fun _ _ _ h => h) (Or.inl ⟨by rfl, fun w_ hS_ => by (first | (go_simp; done) | (go_simp; rfl))⟩) ⟨rangeCell (rangeB hr ee hbo) 3 (by rw [← hx3.out]; rfl), rangePart (rangeB hz ee hbo) (Ac.votes b), rangePart (rangeB hr ee hbo) (Ac.votes x)⟩ ?_
                try simp only [Act.put, List.getElem_toArray, List.getElem_cons_zero, List.getElem_cons_succ, List.setIfInBounds_toArray, List.set_cons_zero, List.set_cons_succ]
                refine wpAnyH_take (i := 13) (v := .int .i64 (j : Int)) rfl (by kernel_rfl) (by kernel_rfl) (by kernel_rfl) (fun _ _ _ h => h) (Or.inl ⟨by rfl, fun w_ hS_ => by (first | (go_simp; done) | (go_simp; rfl))⟩) ⟨rangeCell (rangeB hr ee hbo) 3 (by rw [← hx3.out]; rfl), rangePart (rangeB hz ee hbo) (Ac.votes b), rangePart (rangeB hr ee hbo) (Ac.votes x)⟩ ?_
                try simp only [Act.put, List.getElem_toArray, List.getElem_cons_zero, List.getElem_cons_succ, List.setIfInBounds_toArray, List.set_cons_zero, List.set_cons_succ]
                refine wpAnyH_take (i := 14) (v := .pointer (some ⟨bo, off + j * 16, none⟩)) rfl (by kernel_rfl) (by kernel_rfl) (by kernel_rfl) (fun _ _ _ h => h) (Or.inl ⟨by rfl, fun w_ hS_ => by (first | (go_simp; done) | (go_simp; rfl))⟩) ⟨rangeCell (rangeB hr ee hbo) 3 (by rw [← hx3.out]; rfl), rangePart (rangeB hz ee hbo) (Ac.votes b), rangePart (rangeB hr ee hbo) (Ac.votes x)⟩ ?_
                try simp only [Act.put, List.getElem_toArray, List.getElem_cons_zero, List.getElem_cons_succ, List.setIfInBounds_toArray, List.set_cons_zero, List.set_cons_succ]
                refine wpAnyH_take (i := 15) (v := .pointer (some ⟨bo, off + j * 16 + 4, none⟩)) rfl (by kernel_rfl) (by kernel_rfl) (by kernel_rfl) (fun _ _ _ h => h) (Or.inl ⟨by rfl, fun w_ hS_ => by (first | (go_simp; done) | (go_simp; rfl))⟩) ⟨rangeCell (rangeB hr ee hbo) 3 (by rw [← hx3.out]; rfl), rangePart (rangeB hz ee hbo) (Ac.votes b), rangePart (rangeB hr ee hbo) (Ac.votes x)⟩ ?_
                try simp only [Act.put, List.getElem_toArray, List.getElem_cons_zero, List.getElem_cons_succ, List.setIfInBounds_toArray, List.set_cons_zero, List.set_cons_succ]
                refine wpAnyH_take (i := 16) (v := .agg ([.int .u32 (b.vr : Int), .int .i64 b.vn]).toArray) rfl (by kernel_rfl) (by kernel_rfl) (by kernel_rfl) (fun _ _ _ h => h) (yieldsIf_load_mid (by rfl) 40 _ rfl (bo) (off + j * 16 + 4) rfl ([.int .u32 (b.vr : Int), .int .i64 b.vn]) _ (fun _ h => h.2.1) Tryd.underlying40 rfl sizeRBal) ⟨rangeCell (rangeB hr ee hbo) 3 (by rw [← hx3.out]; rfl), rangePart (rangeB hz ee hbo) (Ac.votes b), rangePart (rangeB hr ee hbo) (Ac.votes x)⟩ ?_
                try simp only [Act.put, List.getElem_toArray, List.getElem_cons_zero, List.getElem_cons_succ, List.setIfInBounds_toArray, List.set_cons_zero, List.set_cons_succ]
                refine wpAnyH_take (i := 17) (v := .slice (some ⟨bo, off, none⟩) m c) rfl (by kernel_rfl) (by kernel_rfl) (by kernel_rfl) (fun _ _ _ h => h) (Or.inl ⟨by rfl, fun w_ hS_ => by (first | (go_simp; done) | (go_simp; rfl))⟩) ⟨rangeCell (rangeB hr ee hbo) 3 (by rw [← hx3.out]; rfl), rangePart (rangeB hz ee hbo) (Ac.votes b), rangePart (rangeB hr ee hbo) (Ac.votes x)⟩ ?_
                try simp only [Act.put, List.getElem_toArray, List.getElem_cons_zero, List.getElem_cons_succ, List.setIfInBounds_toArray, List.set_cons_zero, List.set_cons_succ]
                refine wpAnyH_take (i := 18) (v := .int .i64 (k : Int)) rfl (by kernel_rfl) (by kernel_rfl) (by kernel_rfl) (fun _ _ _ h => h) (Or.inl ⟨by rfl, fun w_ hS_ => by (first | (go_simp; done) | (go_simp; rfl))⟩) ⟨rangeCell (rangeB hr ee hbo) 3 (by rw [← hx3.out]; rfl), rangePart (rangeB hz ee hbo) (Ac.votes b), rangePart (rangeB hr ee hbo) (Ac.votes x)⟩ ?_
                try simp only [Act.put, List.getElem_toArray, List.getElem_cons_zero, List.getElem_cons_succ, List.setIfInBounds_toArray, List.set_cons_zero, List.set_cons_succ]
                refine wpAnyH_take (i := 19) (v := .pointer (some ⟨bo, off + k * 16, none⟩)) rfl (by kernel_rfl) (by kernel_rfl) (by kernel_rfl) (fun _ _ _ h => h) (Or.inl ⟨by rfl, fun w_ hS_ => by (first | (go_simp; done) | (go_simp; rfl))⟩) ⟨rangeCell (rangeB hr ee hbo) 3 (by rw [← hx3.out]; rfl), rangePart (rangeB hz ee hbo) (Ac.votes b), rangePart (rangeB hr ee hbo) (Ac.votes x)⟩ ?_
                try simp only [Act.put, List.getElem_toArray, List.getElem_cons_zero, List.getElem_cons_succ, List.setIfInBounds_toArray, List.set_cons_zero, List.set_cons_succ]
                refine wpAnyH_take (i := 20) (v := .pointer (some ⟨bo, off + k * 16 + 4, none⟩)) rfl (by kernel_rfl) (by kernel_rfl) (by kernel_rfl) (fun _ _ _ h => h) (Or.inl ⟨by rfl, fun w_ hS_ => by (first | (go_simp; done) | (go_simp; rfl))⟩) ⟨rangeCell (rangeB hr ee hbo) 3 (by rw [← hx3.out]; rfl), rangePart (rangeB hz ee hbo) (Ac.votes b), rangePart (rangeB hr ee hbo) (Ac.votes x)⟩ ?_
                try simp only [Act.put, List.getElem_toArray, List.getElem_cons_zero, List.getElem_cons_succ, List.setIfInBounds_toArray, List.set_cons_zero, List.set_cons_succ]
                refine wpAnyH_take (i := 21) (v := .agg ([.int .u32 (x.vr : Int), .int .i64 x.vn]).toArray) rfl (by kernel_rfl) (by kernel_rfl) (by kernel_rfl) (fun _ _ _ h => h) (yieldsIf_load_mid (by rfl) 40 _ rfl (bo) (off + k * 16 + 4) rfl ([.int .u32 (x.vr : Int), .int .i64 x.vn]) _ (fun _ h => h.2.2) Tryd.underlying40 rfl sizeRBal) ⟨rangeCell (rangeB hr ee hbo) 3 (by rw [← hx3.out]; rfl), rangePart (rangeB hz ee hbo) (Ac.votes b), rangePart (rangeB hr ee hbo) (Ac.votes x)⟩ ?_
                try simp only [Act.put, List.getElem_toArray, List.getElem_cons_zero, List.getElem_cons_succ, List.setIfInBounds_toArray, List.set_cons_zero, List.set_cons_succ]
                refine wpAnyH_ready (rs := [22]) (by kernel_rfl) (by simp) ?_
                refine AllReadyH.cons rfl (fun K hK => ?_) AllReadyH.nil
                rw [if_pos (by rfl)]
                go_simp
                go_wp2_with (go_at_call 63; refine (HLE.out z1).mono ?_; rintro e z2 ⟨rfl, t⟩)
                have Zr := hpB Zr t
                have ee := ee.trans (t.mono ee.size)
                clear t
                refine hK.out _ _ ⟨rangeCell (rangeB hr ee hbo) 3 (by rw [← hx3.out]; rfl), rangePart (rangeB hz ee hbo) (Ac.votes b), rangePart (rangeB hr ee hbo) (Ac.votes x)⟩ (fun hH => ?_)
                clear hK K hH
                try simp only [Act.put, List.getElem_toArray, List.getElem_cons_zero, List.getElem_cons_succ, List.setIfInBounds_toArray, List.set_cons_zero, List.set_cons_succ]
                refine wpAnyH_take (i := 23) (v := .bool ml) rfl (by kernel_rfl) (by kernel_rfl) (by kernel_rfl) (fun _ _ _ h => h) (Or.inl ⟨by rfl, fun w_ hS_ => by (first | (go_simp; done) | (go_simp; rfl))⟩) ⟨rangeCell (rangeB hr ee hbo) 3 (by rw [← hx3.out]; rfl), rangePart (rangeB hz ee hbo) (Ac.votes b), rangePart (rangeB hr ee hbo) (Ac.votes x)⟩ ?_
                try simp only [Act.put, List.getElem_toArray, List.getElem_cons_zero, List.getElem_cons_succ, List.setIfInBounds_toArray, List.set_cons_zero, List.set_cons_succ]
                refine wpAnyH_take (i := 24) (v := .bool ml) rfl (by kernel_rfl) (by kernel_rfl) (by kernel_rfl) (fun _ _ _ h => h) (Or.inl ⟨by rfl, fun w_ hS_ => by (first | (go_simp; done) | (go_simp; rfl))⟩) ⟨rangeCell (rangeB hr ee hbo) 3 (by rw [← hx3.out]; rfl), rangePart (rangeB hz ee hbo) (Ac.votes b), rangePart (rangeB hr ee hbo) (Ac.votes x)⟩ ?_
                try simp only [Act.put, List.getElem_toArray, List.getElem_cons_zero, List.getElem_cons_succ, List.setIfInBounds_toArray, List.set_cons_zero, List.set_cons_succ]
                refine wpAnyH_done (by kernel_rfl) ?_ _
                cases ml with
                | false =>
                  have HP2 : Hid (PickAt u l (k + 1) (j : Int)) := HKE2.out rfl
                  clear HKE2 HTA2 HLE
                  go_wp2_with fail
                  go_roundw
                  case rel => exact ⟨k + 1, (j : Int), by omega, by go_num, rfl, HP2, Zr, ee⟩
                  case measure => simp [intOf]; omega
                | true =>
                  have HP2 : Hid (PickAt u l (k + 1) (k : Int)) := HTA2.out rfl
                  clear HKE2 HTA2 HLE
                  go_wp2_with fail
                  go_roundw
                  case rel => exact ⟨k + 1, (k : Int), by omega, by go_num, rfl, HP2, Zr, ee⟩
                  case measure => simp [intOf]; omega
    · obtain rfl : k = n := by omega
      have htk : l.take k = l := by rw [HN.out]; exact List.take_length
      have HPO := HP.out
      unfold PickAt at HPO
      rw [htk] at HPO
      clear htk hlt HP
      have Zr := Zr.out
      have ee := ee.out
      rcases HPO with ⟨hb1, hb2⟩ | ⟨j, hb1, hb2, hb3⟩
      · subst hb1
        have HB := Lib.hid hb2
        clear hb2
        go_upto_region 13 with fail
        refine wp_region_lit ?_
        iterate 27 (first | with_reducible refine isStore (ty := 41) rfl ?_ | go_step)
        refine wpList_store_row rfl 41 _ _ rfl (w.heap.size) (Cm.zero.cells).toArray rfl rfl 41 _ Zr sizeRCm (by rfl) (Cm.one _) ?_
        have N_ := setRow_heap wr (w.heap.size) _ (Cm.zero.cells).toArray _ _ Zr
        have ee := belowSet (cs := (Cm.zero.cells).toArray) ee Zr (by omega)
        clear Zr
        have Zr := N_
        clear N_
        generalize wr.setRow (w.heap.size) (Cm.zero.cells).toArray = z1 at Zr ee ⊢
        go_wp2_with fail
        refine bodyPost_ret (v := .tuple #[.agg Cm.zero.cells.toArray, .bool false]) (res_ct rfl rfl rfl Zr Tryd.underlying41 rfl sizeRCm) rfl ⟨by rw [HB.out]; rfl, ee⟩
      · subst hb1
        have hjl : j < l.length := (List.getElem?_eq_some_iff.1 hb2).1
        have hjm : j < k := by rw [HN.out]; exact hjl
        obtain ⟨bo, off, rfl, hbo0, _⟩ := rowsGet HR.out hjl
        have hbo : bo < w.heap.size := Nat.lt_of_lt_of_le hbo0 hB
        have hz := rowsAtK HR.out hb2
        have HB3 := Lib.hid hb3
        clear hb2 hb3
        have f1 : decide ((j : Int) < 0) = false := by simp
        obtain ⟨b, hbb⟩ : ∃ b, b = best u l := ⟨_, rfl⟩
        have HBB : Hid (best u l = b) := hbb.symm
        rw [← hbb] at hz HB3
        clear hbb
        go_upto_region 14 with fail
        refine wp_region_lit ?_
        iterate 27 (first | with_reducible refine isLoad (ty := 41) rfl ?_ | go_step)
        refine wpList_load_mid rfl 41 _ rfl (bo) (off + j * 16 + 6) rfl (b.c.cells) _ (rangePart (rangeB hz ee hbo) (Ac.part b)) Tryd.underlying41 rfl sizeRCm ?_
        iterate 27 (first | with_reducible refine isStore (ty := 41) rfl ?_ | go_step)
        refine wpList_store_row rfl 41 _ _ rfl (w.heap.size) (b.c.cells).toArray rfl rfl 41 _ Zr sizeRCm (by rfl) (Cm.one _) ?_
        have N_ := setRow_heap wr (w.heap.size) _ (b.c.cells).toArray _ _ Zr
        have ee := belowSet (cs := (b.c.cells).toArray) ee Zr (by omega)
        clear Zr
        have Zr := N_
        clear N_
        generalize wr.setRow (w.heap.size) (b.c.cells).toArray = z1 at Zr ee ⊢
        go_wp2_with fail
        refine bodyPost_ret (v := .tuple #[.agg b.c.cells.toArray, .bool true]) (res_ct rfl rfl rfl Zr Tryd.underlying41 rfl sizeRCm) rfl ⟨by rw [HBB.out, HB3.out], ee⟩
end Go.Proofs.YtbahooohkigcnaaDoor

namespace Go.Proofs.YtbahooohkigcnaaDoor
set_option maxRecDepth 20001
open Go.RowKit T
set_option linter.unusedSimpArgs false
set_option linter.unusedVariables false

/-- steps that change the blocks of P alone (and new ones) -/
def Fr (w w' : World) (P : Nat → Prop) : Prop := Below 0 w w' ∧ ∀ i, i < w.heap.size → ¬ P i → w'.heap[i]? = w.heap[i]?
section
variable {w z c z' : World} {h k : Nat} {old cs : Array Value} {t : TypeId} {P : Nat → Prop} {base e sz n : Nat} {v : Value} {xs : List Value}
theorem Fr.refl (w : World) (P : Nat → Prop) : Fr w w P := ⟨(Below.refl 0 w), fun _ _ _ => rfl⟩
theorem frTrans (p : Fr w z P) (q : Fr z c P) : Fr w c P := ⟨p.1.trans q.1, fun i hi hn => (q.2 i (Nat.lt_of_lt_of_le hi p.1.size) hn).trans (p.2 i hi hn)⟩
theorem frBelow (p : Fr w z P) (q : Below z.heap.size z c) : Fr w c P := frTrans p ⟨q.mono (Nat.zero_le _), fun i hi _ => q.block i hi⟩
theorem frAlloc (p : Fr w z P) (o : Obj) : Fr w (z.alloc o) P := frBelow p ((Below.refl _ _).alloc (Nat.le_refl _) o)
theorem frDrew (p : Fr w z P) : Fr w z.drew P := ⟨belowDrewS p.1, p.2⟩
theorem frCells (hk : P k ∨ w.heap.size ≤ k) : ∀ (vs : List Value) (i : Nat) (z : World), Fr w z P → Fr w (z.setCells k i vs) P
  | [], _, _, p => p
  | v :: r, i, z, p => frCells hk r (i + 1) (z.setCell ⟨k, i, none⟩ v) ⟨p.1.setCell (Nat.zero_le _) v, fun j hj hn => (Below.heap_setCell z ⟨k, i, none⟩ v j (fun e => by
    have e2 : j = k := e
    rcases hk with hk | hk
    · exact hn (by rw [e2]; exact hk)
    · omega)).trans (p.2 j hj hn)⟩
theorem frOwnE (p : Fr w z P) (_ : z.ownsRow base e sz v n xs) (hg : z.grownBy z' v.ownBlock) (hP : ∀ i, v.ownBlock = some i → P i ∨ w.heap.size ≤ i) : Fr w z' P :=
  ⟨p.1.grown hg (Nat.zero_le _) (fun _ _ => Nat.zero_le _), fun i hi hn => (hg.block i (Nat.lt_of_lt_of_le hi p.1.size) (fun e => by
    rcases hP i e.symm with h | h
    · exact hn h
    · omega)).trans (p.2 i hi hn)⟩
theorem lgKind {m : Nat × Nat} (hu : z.ownsRow base e sz v n xs) (hz : z.heap[k]? = some (.cells old t m)) (hne : t ≠ e) : v.ownBlock ≠ some k := by
  intro hb
  rcases hu.2 with ⟨hv, _⟩ | ⟨g, cap, cur, hv, _, hg, _⟩
  · rw [hv] at hb; cases hb
  · rw [hv] at hb
    have e1 : g = k := by injection hb
    subst e1
    rw [hz] at hg
    injection hg with hg
    injection hg with _ ht _
    exact hne ht
theorem lgOwnC (p : z.ownsRow base e sz v n xs) (hne : v.ownBlock ≠ some k) (vs : List Value) (i : Nat) : (z.setCells k i vs).ownsRow base e sz v n xs := p.kept (lgCells (h := k) (Or.inl rfl) vs i z (lgRefl z k)) (Or.inr hne)
theorem lgHeap {m : Nat × Nat} (p : z.heap[k]? = some (.cells cs t m)) (hu : z.ownsRow base e sz v n xs) (hne : t ≠ e) (hg : z.grownBy z' v.ownBlock) : z'.heap[k]? = some (.cells cs t m) :=
  (hg.block k (Array.getElem?_eq_some_iff.1 p).1 (fun e1 => lgKind hu p hne e1.symm)).trans p
theorem lgHeapB {m : Nat × Nat} (p : z.heap[k]? = some (.cells cs t m)) (hne : v.ownBlock ≠ some k) (hg : z.grownBy z' v.ownBlock) : z'.heap[k]? = some (.cells cs t m) :=
  (hg.block k (Array.getElem?_eq_some_iff.1 p).1 (fun e1 => hne e1.symm)).trans p
theorem lgRowAdd {cs : List Value} (p : z.heap[k]? = some (.cells cs.toArray t (0, 0))) : ∀ j u, cs[j]? = some u → z.cell? ((⟨k, 0, none⟩ : Addr).add j) = some u := fun j u hv => by
  rw [Addr.add_mid]; exact rowAt p j u hv
end
theorem run_eqBal9 (r : Nat) (n : Int) (r' : Nat) (n' : Int) (w : World) :
    (binOp .eql 28 (.agg #[.int .u32 r, .int .i64 n]) (.agg #[.int .u32 r', .int .i64 n'])).run Tryd.prog w = .ok (.bool (decide (r = r' ∧ n = n'))) w := B.run_eqBal r n r' n' w
theorem lgFill16 (x : Ac) (cells : Array Value) (hn : cells.size = 16) : Instr.fill (fun i => some (i * 16, 16)) cells [(0, .agg x.cells.toArray)] = some x.cells.toArray := by
  have := Great.fill_whole (s := 16) (by omega) [Value.agg x.cells.toArray] cells (by intro v hv; simp at hv; subst hv; rfl) (by simp [hn])
  simpa [Value.cells] using this
theorem lgInfoAc : (Tryd.prog.info? 39).map (fun i => (i.zero, i.size, i.bytes)) = some (some (.agg #[.int .u32 0, .int .i64 0, .int .i64 0, .bool false, .int .u32 0, .int .i64 0, .int .i64 0, .int .i64 0, .int .i64 0, .slice none 0 0, .slice none 0 0, .int .i64 0, .int .i64 0, .int .i64 0, .int .u64 0, .bool false]), 16, 160) := by kernel_rfl
namespace T
/-- what is proposed -/
def Ld.what (L : Ld) (s : Int) (x : Cm) : Cm := bif (best (topOf L.l) L.l).ha && decide (s = L.fs) then (best (topOf L.l) L.l).c else x
end T
set_option maxHeartbeats 6400000 in
theorem lpropose_yes (w : World) (h : Nat) (L : Ld) (s : Int) (x : Cm) (hL : LdAt w h L) (hR : ∀ z, w.grownBy z (some h) → RowsAt z z.heap.size L.A 16 (L.l.map Ac.cells)) (hl1 : L.l.length ≤ 1000000) (hl2 : L.l.length ≤ L.c)
    (hp : L.pr < 18446744073709551616) (hm : Q.majB L.pr L.n = true) (h0 : L.sl = 0) (h1 : L.fs ≤ s) (h2 : s ≤ 1000000) (ok : CmOk w w.heap.size x) (hf : x.formed = true) (hT : Tabs w) :
    Calls Tryd.prog 37 #[.pointer (some ⟨h, 0, none⟩), .int .i64 s, .agg x.cells.toArray] w fun e w' => e = .returned (.tuple #[.agg (L.what s x).cells.toArray, .bool true]) ∧ LdAt w' h { L with sl := s, x := L.what s x, vt := 0 } ∧ w.grownBy w' (some h) := by
  have hlt : h < w.heap.size := (Array.getElem?_eq_some_iff.1 hL).1
  have HPK := Lib.hid (fun z (hz : RowsAt z z.heap.size L.A 16 (L.l.map Ac.cells)) => pick_any L.A L.c L.l z z.heap.size hl1 hl2 hz (Nat.le_refl _))
  have HR := Lib.hid hR
  have HCF := Lib.hid (fun z (hz : Below w.heap.size w z) => c_cformed x z w.heap.size hz.size (ok.below hz (Nat.le_refl _)) (hT.below hz))
  rw [hf] at HCF
  have HLE := Lib.hid (fun z (hz : LdAt z h L) => lleads z h L hz hp)
  rw [hm] at HLE
  have HS : Hid (L.what s x = bif (best (topOf L.l) L.l).ha && decide (s = L.fs) then (best (topOf L.l) L.l).c else x) := rfl
  generalize L.what s x = X at HS ⊢
  generalize best (topOf L.l) L.l = bb at HPK HS
  obtain ⟨bpr, bpn, bsl, ba, bvr, bvn, y⟩ := bb
  simp only at HPK HS
  have e1 : decide (s < L.fs) = false := decide_eq_false (by omega)
  have e2 : decide (1000000 < s) = false := decide_eq_false (by omega)
  clear hf hm hp h1 h2 hl1 hl2 ok hT hR
  obtain ⟨w0, hw0⟩ : ∃ w0, w0 = (w.alloc (.cells x.cells.toArray 37)).alloc (.cells #[.int .i64 0, .int .i64 0, .int .i64 0, .slice none 0 0, .slice none 0 0, .int .i64 0, .int .i64 0, .int .i64 0, .int .u64 0, .bool false] 37) := ⟨_, rfl⟩
  have e0 : Below w.heap.size w w0 := by rw [hw0]; exact ((Below.refl _ _).alloc (Nat.le_refl _) _).alloc (by simp) _
  have ee : w.grownBy w0 (some h) := by rw [hw0]; exact lgAlloc (lgAlloc (lgRefl _ _) _) _
  have Zl : w0.heap[h]? = some (.cells L.cells.toArray 144) := by rw [hw0]; exact hpA (hpA hL _) _
  have Zx : w0.heap[w.heap.size]? = some (.cells x.cells.toArray 37) := by rw [hw0]; exact hpA (hpN _ _ rfl) _
  have Zr : w0.heap[w.heap.size + 1]? = some (.cells #[.int .i64 0, .int .i64 0, .int .i64 0, .slice none 0 0, .slice none 0 0, .int .i64 0, .int .i64 0, .int .i64 0, .int .u64 0, .bool false] 37) := by rw [hw0]; exact hpN _ _ (by simp)
  go_enter Tryd.func37, Tryd.ntmps37
  go_upto_region 1 with fail
  change Code.wp _ _ _ _ ((w.alloc (.cells x.cells.toArray 37)).alloc (.cells #[.int .i64 0, .int .i64 0, .int .i64 0, .slice none 0 0, .slice none 0 0, .int .i64 0, .int .i64 0, .int .i64 0, .int .u64 0, .bool false] 37))
  rw [← hw0]
  clear hw0 hL
  refine wp_region_lit ?_
  go_wp2_with fail
  refine (HLE.out w0 Zl).mono ?_
  rintro e z0 ⟨rfl, n_, rfl⟩
  have ee := lgDrewN ee n_
  have e0 := belowDrewN e0 n_
  have Zl : (w0.drewN n_).heap[h]? = some (.cells L.cells.toArray 144) := Zl
  have Zx : (w0.drewN n_).heap[w.heap.size]? = some (.cells x.cells.toArray 37) := Zx
  have Zr : (w0.drewN n_).heap[w.heap.size + 1]? = some (.cells #[.int .i64 0, .int .i64 0, .int .i64 0, .slice none 0 0, .slice none 0 0, .int .i64 0, .int .i64 0, .int .i64 0, .int .u64 0, .bool false] 37) := Zr
  generalize w0.drewN n_ = z1 at Zl Zx Zr ee e0 ⊢
  clear HLE
  dsimp only
  rename_i hK
  refine hK _ _ ?_
  clear hK
  have c7 := rowCell Zl 7 (v := .int .i64 0) (by rw [← h0]; rfl)
  have c6 := rowCell Zl 6 rfl
  iterate 90 (first | with_reducible refine isLoad (ty := 37) rfl ?_ | go_step)
  refine wpList_load_g (by rfl) 37 _ rfl (w.heap.size) 0 rfl (x.cells) _ (rowAt Zx) Tryd.underlying37 rfl sizeCm ?_
  clear c7 c6 e1 e2
  go_wp2_with fail
  refine (HCF.out z1 e0).mono ?_
  rintro e z2 ⟨rfl, t⟩
  clear e0 HCF
  have Zl := hpB Zl t
  have Zx := hpB Zx t
  have Zr := hpB Zr t
  have ee := lgBelow ee t
  clear t
  go_upto_region 3 with fail
  refine wp_region_lit ?_
  have c5 := rowCell Zl 5 rfl
  have hRz := HR.out _ ee
  go_wp2_with fail
  have szA := ee.size
  refine (HPK.out z2 hRz).mono ?_
  rintro e z3 ⟨rfl, t⟩
  clear HPK HR hRz c5 szA
  have Zl := hpB Zl t
  have Zx := hpB Zx t
  have Zr := hpB Zr t
  have ee := lgBelow ee t
  clear t
  dsimp only
  rename_i hK
  refine hK _ _ ?_
  clear hK
  iterate 12 go_step
  have kZl := (Array.getElem?_eq_some_iff.1 Zl).1
  have kZx := (Array.getElem?_eq_some_iff.1 Zx).1
  have kZr := (Array.getElem?_eq_some_iff.1 Zr).1
  have szB := ee.size
  have lZl := (Array.getElem?_eq_some_iff.1 Zl).1
  have lZx := (Array.getElem?_eq_some_iff.1 Zx).1
  have lZr := (Array.getElem?_eq_some_iff.1 Zr).1
  have Zl := hpA Zl (.cells #[.int .i64 0, .int .i64 0, .int .i64 0, .slice none 0 0, .slice none 0 0, .int .i64 0, .int .i64 0, .int .i64 0, .int .u64 0, .bool false] 37)
  have Zx := hpA Zx (.cells #[.int .i64 0, .int .i64 0, .int .i64 0, .slice none 0 0, .slice none 0 0, .int .i64 0, .int .i64 0, .int .i64 0, .int .u64 0, .bool false] 37)
  have Zr := hpA Zr (.cells #[.int .i64 0, .int .i64 0, .int .i64 0, .slice none 0 0, .slice none 0 0, .int .i64 0, .int .i64 0, .int .i64 0, .int .u64 0, .bool false] 37)
  have sz3 := ee.size
  have ee := lgAlloc ee (.cells #[.int .i64 0, .int .i64 0, .int .i64 0, .slice none 0 0, .slice none 0 0, .int .i64 0, .int .i64 0, .int .i64 0, .int .u64 0, .bool false] 37)
  have Zn := hpN z3 (.cells #[.int .i64 0, .int .i64 0, .int .i64 0, .slice none 0 0, .slice none 0 0, .int .i64 0, .int .i64 0, .int .i64 0, .int .u64 0, .bool false] 37) rfl
  generalize z3.alloc (.cells #[.int .i64 0, .int .i64 0, .int .i64 0, .slice none 0 0, .slice none 0 0, .int .i64 0, .int .i64 0, .int .i64 0, .int .u64 0, .bool false] 37) = z4 at Zl Zx Zr Zn ee ⊢
  iterate 27 (first | with_reducible refine isStore (ty := 37) rfl ?_ | go_step)
  refine wpList_store_row rfl 37 _ _ rfl (z3.heap.size) (y.cells).toArray rfl rfl 37 _ Zn sizeCm (by rfl) (Cm.one _) ?_
  have N_ := setRow_heap z4 (z3.heap.size) _ (y.cells).toArray _ _ Zn
  have ee := lgRow (cs := (y.cells).toArray) (by omega) Zn ee
  have Zl := hpR Zl (g' := z3.heap.size) (by omega) (y.cells).toArray
  have Zx := hpR Zx (g' := z3.heap.size) (by omega) (y.cells).toArray
  have Zr := hpR Zr (g' := z3.heap.size) (by omega) (y.cells).toArray
  clear Zn
  have Zn := N_
  clear N_
  generalize z4.setRow (z3.heap.size) (y.cells).toArray = z5 at Zl Zx Zr Zn ee ⊢
  go_upto_region 4 with fail
  cases ba with
  | false =>
    have HS2 : Hid (X = x) := HS.out
    clear HS
    have szC := ee.size
    go_upto_region 6 with fail
    have Zl : z5.drew.heap[h]? = some (.cells L.cells.toArray 144) := Zl
    have Zx : z5.drew.heap[w.heap.size]? = some (.cells x.cells.toArray 37) := Zx
    have Zr : z5.drew.heap[w.heap.size + 1]? = some (.cells #[.int .i64 0, .int .i64 0, .int .i64 0, .slice none 0 0, .slice none 0 0, .int .i64 0, .int .i64 0, .int .i64 0, .int .u64 0, .bool false] 37) := Zr
    have Zn : z5.drew.heap[z3.heap.size]? = some (.cells (y.cells).toArray 37) := Zn
    have ee := lgDrew ee
    refine wp_region_held_drew (S := fun z' => z'.rangeAt w.heap.size 0 x.cells) (by kernel_rfl) (rowAt Zx) (fun hH => ?_)
    clear hH
    generalize z5.drew = z6 at Zl Zx Zr Zn  ee ⊢
    refine wpAnyH_take (i := 0) (v := .pointer (some ⟨h, 0, none⟩)) rfl (by kernel_rfl) (by kernel_rfl) (by kernel_rfl) (fun _ _ _ h => h) (Or.inl ⟨by rfl, fun w_ hS_ => by (first | (go_simp; done) | (go_simp; rfl))⟩) (rowAt Zx) ?_
    try simp only [Act.put, List.getElem_toArray, List.getElem_cons_zero, List.getElem_cons_succ, List.setIfInBounds_toArray, List.set_cons_zero, List.set_cons_succ]
    refine wpAnyH_take (i := 1) (v := .pointer (some ⟨h, 0, none⟩)) rfl (by kernel_rfl) (by kernel_rfl) (by kernel_rfl) (fun _ _ _ h => h) (Or.inl ⟨by rfl, fun w_ hS_ => by (first | (go_simp; done) | (go_simp; rfl))⟩) (rowAt Zx) ?_
    try simp only [Act.put, List.getElem_toArray, List.getElem_cons_zero, List.getElem_cons_succ, List.setIfInBounds_toArray, List.set_cons_zero, List.set_cons_succ]
    refine wpAnyH_take (i := 2) (v := .pointer (some ⟨h, 0, none⟩)) rfl (by kernel_rfl) (by kernel_rfl) (by kernel_rfl) (fun _ _ _ h => h) (Or.inl ⟨by rfl, fun w_ hS_ => by (first | (go_simp; done) | (go_simp; rfl))⟩) (rowAt Zx) ?_
    try simp only [Act.put, List.getElem_toArray, List.getElem_cons_zero, List.getElem_cons_succ, List.setIfInBounds_toArray, List.set_cons_zero, List.set_cons_succ]
    refine wpAnyH_take (i := 3) (v := .int .i64 s) rfl (by kernel_rfl) (by kernel_rfl) (by kernel_rfl) (fun _ _ _ h => h) (Or.inl ⟨by rfl, fun w_ hS_ => by (first | (go_simp; done) | (go_simp; rfl))⟩) (rowAt Zx) ?_
    try simp only [Act.put, List.getElem_toArray, List.getElem_cons_zero, List.getElem_cons_succ, List.setIfInBounds_toArray, List.set_cons_zero, List.set_cons_succ]
    refine wpAnyH_take (i := 4) (v := .agg (x.cells).toArray) rfl (by kernel_rfl) (by kernel_rfl) (by kernel_rfl) (fun _ _ _ h => h) (yieldsIf_load_mid (by rfl) 37 _ rfl (w.heap.size) 0 rfl (x.cells) _ (fun _ h => h) Tryd.underlying37 rfl sizeCm) (rowAt Zx) ?_
    try simp only [Act.put, List.getElem_toArray, List.getElem_cons_zero, List.getElem_cons_succ, List.setIfInBounds_toArray, List.set_cons_zero, List.set_cons_succ]
    refine wpAnyH_take (i := 5) (v := .pointer (some ⟨h, 0, none⟩)) rfl (by kernel_rfl) (by kernel_rfl) (by kernel_rfl) (fun _ _ _ h => h) (Or.inl ⟨by rfl, fun w_ hS_ => by (first | (go_simp; done) | (go_simp; rfl))⟩) (rowAt Zx) ?_
    try simp only [Act.put, List.getElem_toArray, List.getElem_cons_zero, List.getElem_cons_succ, List.setIfInBounds_toArray, List.set_cons_zero, List.set_cons_succ]
    refine wpAnyH_take (i := 6) (v := .pointer (some ⟨h, 7, none⟩)) rfl (by kernel_rfl) (by kernel_rfl) (by kernel_rfl) (fun _ _ _ h => h) (Or.inl ⟨by rfl, fun w_ hS_ => by (first | (go_simp; done) | (go_simp; rfl))⟩) (rowAt Zx) ?_
    try simp only [Act.put, List.getElem_toArray, List.getElem_cons_zero, List.getElem_cons_succ, List.setIfInBounds_toArray, List.set_cons_zero, List.set_cons_succ]
    refine wpAnyH_ready (rs := [7]) (by kernel_rfl) (by simp) ?_
    refine AllReadyH.cons rfl (fun K hK => ?_) AllReadyH.nil
    rw [if_pos (by rfl)]
    have f_ : z6.frozen? ⟨h, 7, none⟩ = false := freeAt Zl 7
    have c_ := rowCell Zl 7 rfl
    go_simp
    clear f_ c_
    have N_ : (z6.setCells (h) 7 ([.int .i64 s])).heap[h]? = some (.cells ([.int .i64 L.n, .int .i64 L.nd, .int .u32 (L.br : Int), .int .i64 L.bn, .int .u64 (L.pr : Int), .slice L.A L.l.length L.c, .int .i64 L.fs, .int .i64 s, .int .i64 L.x.k, .int .i64 L.x.s, .int .i64 L.x.q, .slice L.x.A1 L.x.rs.length L.x.c1, .slice L.x.A2 L.x.ws.length L.x.c2, .int .i64 L.x.i, .int .i64 L.x.j, .int .i64 L.x.g, .int .u64 (L.x.st : Int), .bool L.x.y, .int .u64 (L.vt : Int)]).toArray 144) := hpC ([.int .i64 s]) 7 _ z6 Zl
    have ee := lgCells (k := h) (by omega) ([.int .i64 s]) 7 z6 ee
    have Zx := hpCo (g' := h) (by omega) ([.int .i64 s]) 7 z6 Zx
    have Zr := hpCo (g' := h) (by omega) ([.int .i64 s]) 7 z6 Zr
    have Zn := hpCo (g' := h) (by omega) ([.int .i64 s]) 7 z6 Zn
    clear Zl
    have Zl := N_
    clear N_
    change K _ (z6.setCells (h) 7 [.int .i64 s])
    generalize z6.setCells (h) 7 [.int .i64 s] = z7 at Zl Zx Zr Zn ee ⊢
    refine hK.out _ _ (rowAt Zx) (fun hH => ?_)
    clear hK K hH
    try simp only [Act.put, List.getElem_toArray, List.getElem_cons_zero, List.getElem_cons_succ, List.setIfInBounds_toArray, List.set_cons_zero, List.set_cons_succ]
    refine wpAnyH_take (i := 8) (v := .pointer (some ⟨h, 0, none⟩)) rfl (by kernel_rfl) (by kernel_rfl) (by kernel_rfl) (fun _ _ _ h => h) (Or.inl ⟨by rfl, fun w_ hS_ => by (first | (go_simp; done) | (go_simp; rfl))⟩) (rowAt Zx) ?_
    try simp only [Act.put, List.getElem_toArray, List.getElem_cons_zero, List.getElem_cons_succ, List.setIfInBounds_toArray, List.set_cons_zero, List.set_cons_succ]
    refine wpAnyH_take (i := 9) (v := .pointer (some ⟨h, 8, none⟩)) rfl (by kernel_rfl) (by kernel_rfl) (by kernel_rfl) (fun _ _ _ h => h) (Or.inl ⟨by rfl, fun w_ hS_ => by (first | (go_simp; done) | (go_simp; rfl))⟩) (rowAt Zx) ?_
    try simp only [Act.put, List.getElem_toArray, List.getElem_cons_zero, List.getElem_cons_succ, List.setIfInBounds_toArray, List.set_cons_zero, List.set_cons_succ]
    refine wpAnyH_ready (rs := [10]) (by kernel_rfl) (by simp) ?_
    refine AllReadyH.cons rfl (fun K hK => ?_) AllReadyH.nil
    rw [if_pos (by rfl)]
    refine wp_store_mid 37 _ _ rfl (h) 8 (x.cells).toArray rfl rfl (rowThere Zl (by simp [T.Ld.cells, T.Cm.cells])) sizeCm (Cm.one _) ?_
    have N_ : (z7.setCells (h) 8 (x.cells)).heap[h]? = some (.cells ([.int .i64 L.n, .int .i64 L.nd, .int .u32 (L.br : Int), .int .i64 L.bn, .int .u64 (L.pr : Int), .slice L.A L.l.length L.c, .int .i64 L.fs, .int .i64 s, .int .i64 x.k, .int .i64 x.s, .int .i64 x.q, .slice x.A1 x.rs.length x.c1, .slice x.A2 x.ws.length x.c2, .int .i64 x.i, .int .i64 x.j, .int .i64 x.g, .int .u64 (x.st : Int), .bool x.y, .int .u64 (L.vt : Int)]).toArray 144) := hpC (x.cells) 8 _ z7 Zl
    have ee := lgCells (k := h) (by omega) (x.cells) 8 z7 ee
    have Zx := hpCo (g' := h) (by omega) (x.cells) 8 z7 Zx
    have Zr := hpCo (g' := h) (by omega) (x.cells) 8 z7 Zr
    have Zn := hpCo (g' := h) (by omega) (x.cells) 8 z7 Zn
    clear Zl
    have Zl := N_
    clear N_
    change K _ (z7.setCells (h) 8 (x.cells))
    generalize z7.setCells (h) 8 (x.cells) = z8 at Zl Zx Zr Zn ee ⊢
    refine hK.out _ _ (rowAt Zx) (fun hH => ?_)
    clear hK K hH
    try simp only [Act.put, List.getElem_toArray, List.getElem_cons_zero, List.getElem_cons_succ, List.setIfInBounds_toArray, List.set_cons_zero, List.set_cons_succ]
    refine wpAnyH_take (i := 11) (v := .pointer (some ⟨h, 0, none⟩)) rfl (by kernel_rfl) (by kernel_rfl) (by kernel_rfl) (fun _ _ _ h => h) (Or.inl ⟨by rfl, fun w_ hS_ => by (first | (go_simp; done) | (go_simp; rfl))⟩) (rowAt Zx) ?_
    try simp only [Act.put, List.getElem_toArray, List.getElem_cons_zero, List.getElem_cons_succ, List.setIfInBounds_toArray, List.set_cons_zero, List.set_cons_succ]
    refine wpAnyH_take (i := 12) (v := .pointer (some ⟨h, 18, none⟩)) rfl (by kernel_rfl) (by kernel_rfl) (by kernel_rfl) (fun _ _ _ h => h) (Or.inl ⟨by rfl, fun w_ hS_ => by (first | (go_simp; done) | (go_simp; rfl))⟩) (rowAt Zx) ?_
    try simp only [Act.put, List.getElem_toArray, List.getElem_cons_zero, List.getElem_cons_succ, List.setIfInBounds_toArray, List.set_cons_zero, List.set_cons_succ]
    refine wpAnyH_ready (rs := [13]) (by kernel_rfl) (by simp) ?_
    refine AllReadyH.cons rfl (fun K hK => ?_) AllReadyH.nil
    rw [if_pos (by rfl)]
    have f_ : z8.frozen? ⟨h, 18, none⟩ = false := freeAt Zl 18
    have c_ := rowCell Zl 18 rfl
    go_simp
    clear f_ c_
    have N_ : (z8.setCells (h) 18 ([.int .u64 0])).heap[h]? = some (.cells ([.int .i64 L.n, .int .i64 L.nd, .int .u32 (L.br : Int), .int .i64 L.bn, .int .u64 (L.pr : Int), .slice L.A L.l.length L.c, .int .i64 L.fs, .int .i64 s, .int .i64 x.k, .int .i64 x.s, .int .i64 x.q, .slice x.A1 x.rs.length x.c1, .slice x.A2 x.ws.length x.c2, .int .i64 x.i, .int .i64 x.j, .int .i64 x.g, .int .u64 (x.st : Int), .bool x.y, .int .u64 0]).toArray 144) := hpC ([.int .u64 0]) 18 _ z8 Zl
    have ee := lgCells (k := h) (by omega) ([.int .u64 0]) 18 z8 ee
    have Zx := hpCo (g' := h) (by omega) ([.int .u64 0]) 18 z8 Zx
    have Zr := hpCo (g' := h) (by omega) ([.int .u64 0]) 18 z8 Zr
    have Zn := hpCo (g' := h) (by omega) ([.int .u64 0]) 18 z8 Zn
    clear Zl
    have Zl := N_
    clear N_
    change K _ (z8.setCells (h) 18 [.int .u64 0])
    generalize z8.setCells (h) 18 [.int .u64 0] = z9 at Zl Zx Zr Zn ee ⊢
    refine hK.out _ _ (rowAt Zx) (fun hH => ?_)
    clear hK K hH
    try simp only [Act.put, List.getElem_toArray, List.getElem_cons_zero, List.getElem_cons_succ, List.setIfInBounds_toArray, List.set_cons_zero, List.set_cons_succ]
    refine wpAnyH_done (by kernel_rfl) ?_ _
    go_upto_region 7 with fail
    refine wp_region_lit ?_
    iterate 27 (first | with_reducible refine isLoad (ty := 37) rfl ?_ | go_step)
    refine wpList_load_mid rfl 37 _ rfl (w.heap.size) 0 rfl (x.cells) _ (rowAt Zx) Tryd.underlying37 rfl sizeCm ?_
    iterate 27 (first | with_reducible refine isStore (ty := 37) rfl ?_ | go_step)
    refine wpList_store_row rfl 37 _ _ rfl (w.heap.size + 1) (x.cells).toArray rfl rfl 37 _ Zr sizeCm (by rfl) (Cm.one _) ?_
    have N_ := setRow_heap z9 (w.heap.size + 1) _ (x.cells).toArray _ _ Zr
    have ee := lgRow (cs := (x.cells).toArray) (by omega) Zr ee
    have Zl := hpR Zl (g' := w.heap.size + 1) (by omega) (x.cells).toArray
    have Zx := hpR Zx (g' := w.heap.size + 1) (by omega) (x.cells).toArray
    have Zn := hpR Zn (g' := w.heap.size + 1) (by omega) (x.cells).toArray
    clear Zr
    have Zr := N_
    clear N_
    generalize z9.setRow (w.heap.size + 1) (x.cells).toArray = z10 at Zl Zx Zr Zn ee ⊢
    go_wp2_with fail
    refine bodyPost_ret (v := .tuple #[.agg x.cells.toArray, .bool true]) (res_ct rfl rfl rfl Zr Tryd.underlying37 rfl sizeCm) rfl ?_
    rw [HS2.out]
    exact ⟨rfl, Zl, ee⟩
  | true =>
    by_cases hsf : s = L.fs
    · have HS2 : Hid (X = y) := by show _ = _; rw [HS.out, decide_eq_true hsf]; rfl
      clear HS
      have c6 := rowCell Zl 6 rfl
      have e6 : (s == L.fs) = true := by simp; exact hsf
      clear hsf
      have szD := ee.size
      go_upto_region 5 with fail
      clear e6 c6
      refine wp_region_lit ?_
      iterate 27 (first | with_reducible refine isLoad (ty := 37) rfl ?_ | go_step)
      refine wpList_load_mid rfl 37 _ rfl (z3.heap.size) 0 rfl ((y.cells)) _ (rowAt Zn) Tryd.underlying37 rfl sizeCm ?_
      iterate 27 (first | with_reducible refine isStore (ty := 37) rfl ?_ | go_step)
      refine wpList_store_row rfl 37 _ _ rfl (w.heap.size) (y.cells).toArray rfl rfl 37 _ Zx sizeCm (by rfl) (Cm.one _) ?_
      have N_ := setRow_heap z5 (w.heap.size) _ (y.cells).toArray _ _ Zx
      have ee := lgRow (cs := (y.cells).toArray) (by omega) Zx ee
      have Zl := hpR Zl (g' := w.heap.size) (by omega) (y.cells).toArray
      have Zr := hpR Zr (g' := w.heap.size) (by omega) (y.cells).toArray
      have Zn := hpR Zn (g' := w.heap.size) (by omega) (y.cells).toArray
      clear Zx
      have Zx := N_
      clear N_
      generalize z5.setRow (w.heap.size) (y.cells).toArray = z6 at Zl Zx Zr Zn ee ⊢
      have szC := ee.size
      go_upto_region 6 with fail
      have Zl : z6.drew.heap[h]? = some (.cells L.cells.toArray 144) := Zl
      have Zx : z6.drew.heap[w.heap.size]? = some (.cells (y.cells).toArray 37) := Zx
      have Zr : z6.drew.heap[w.heap.size + 1]? = some (.cells #[.int .i64 0, .int .i64 0, .int .i64 0, .slice none 0 0, .slice none 0 0, .int .i64 0, .int .i64 0, .int .i64 0, .int .u64 0, .bool false] 37) := Zr
      have Zn : z6.drew.heap[z3.heap.size]? = some (.cells (y.cells).toArray 37) := Zn
      have ee := lgDrew ee
      refine wp_region_held_drew (S := fun z' => z'.rangeAt w.heap.size 0 y.cells) (by kernel_rfl) (rowAt Zx) (fun hH => ?_)
      clear hH
      generalize z6.drew = z7 at Zl Zx Zr Zn  ee ⊢
      refine wpAnyH_take (i := 0) (v := .pointer (some ⟨h, 0, none⟩)) rfl (by kernel_rfl) (by kernel_rfl) (by kernel_rfl) (fun _ _ _ h => h) (Or.inl ⟨by rfl, fun w_ hS_ => by (first | (go_simp; done) | (go_simp; rfl))⟩) (rowAt Zx) ?_
      try simp only [Act.put, List.getElem_toArray, List.getElem_cons_zero, List.getElem_cons_succ, List.setIfInBounds_toArray, List.set_cons_zero, List.set_cons_succ]
      refine wpAnyH_take (i := 1) (v := .pointer (some ⟨h, 0, none⟩)) rfl (by kernel_rfl) (by kernel_rfl) (by kernel_rfl) (fun _ _ _ h => h) (Or.inl ⟨by rfl, fun w_ hS_ => by (first | (go_simp; done) | (go_simp; rfl))⟩) (rowAt Zx) ?_
      try simp only [Act.put, List.getElem_toArray, List.getElem_cons_zero, List.getElem_cons_succ, List.setIfInBounds_toArray, List.set_cons_zero, List.set_cons_succ]
      refine wpAnyH_take (i := 2) (v := .pointer (some ⟨h, 0, none⟩)) rfl (by kernel_rfl) (by kernel_rfl) (by kernel_rfl) (fun _ _ _ h => h) (Or.inl ⟨by rfl, fun w_ hS_ => by (first | (go_simp; done) | (go_simp; rfl))⟩) (rowAt Zx) ?_
      try simp only [Act.put, List.getElem_toArray, List.getElem_cons_zero, List.getElem_cons_succ, List.setIfInBounds_toArray, List.set_cons_zero, List.set_cons_succ]
      refine wpAnyH_take (i := 3) (v := .int .i64 s) rfl (by kernel_rfl) (by kernel_rfl) (by kernel_rfl) (fun _ _ _ h => h) (Or.inl ⟨by rfl, fun w_ hS_ => by (first | (go_simp; done) | (go_simp; rfl))⟩) (rowAt Zx) ?_
      try simp only [Act.put, List.getElem_toArray, List.getElem_cons_zero, List.getElem_cons_succ, List.setIfInBounds_toArray, List.set_cons_zero, List.set_cons_succ]
      refine wpAnyH_take (i := 4) (v := .agg ((y.cells)).toArray) rfl (by kernel_rfl) (by kernel_rfl) (by kernel_rfl) (fun _ _ _ h => h) (yieldsIf_load_mid (by rfl) 37 _ rfl (w.heap.size) 0 rfl ((y.cells)) _ (fun _ h => h) Tryd.underlying37 rfl sizeCm) (rowAt Zx) ?_
      try simp only [Act.put, List.getElem_toArray, List.getElem_cons_zero, List.getElem_cons_succ, List.setIfInBounds_toArray, List.set_cons_zero, List.set_cons_succ]
      refine wpAnyH_take (i := 5) (v := .pointer (some ⟨h, 0, none⟩)) rfl (by kernel_rfl) (by kernel_rfl) (by kernel_rfl) (fun _ _ _ h => h) (Or.inl ⟨by rfl, fun w_ hS_ => by (first | (go_simp; done) | (go_simp; rfl))⟩) (rowAt Zx) ?_
      try simp only [Act.put, List.getElem_toArray, List.getElem_cons_zero, List.getElem_cons_succ, List.setIfInBounds_toArray, List.set_cons_zero, List.set_cons_succ]
      refine wpAnyH_take (i := 6) (v := .pointer (some ⟨h, 7, none⟩)) rfl (by kernel_rfl) (by kernel_rfl) (by kernel_rfl) (fun _ _ _ h => h) (Or.inl ⟨by rfl, fun w_ hS_ => by (first | (go_simp; done) | (go_simp; rfl))⟩) (rowAt Zx) ?_
      try simp only [Act.put, List.getElem_toArray, List.getElem_cons_zero, List.getElem_cons_succ, List.setIfInBounds_toArray, List.set_cons_zero, List.set_cons_succ]
      refine wpAnyH_ready (rs := [7]) (by kernel_rfl) (by simp) ?_
      refine AllReadyH.cons rfl (fun K hK => ?_) AllReadyH.nil
      rw [if_pos (by rfl)]
      have f_ : z7.frozen? ⟨h, 7, none⟩ = false := freeAt Zl 7
      have c_ := rowCell Zl 7 rfl
      go_simp
      clear f_ c_
      have N_ : (z7.setCells (h) 7 ([.int .i64 s])).heap[h]? = some (.cells ([.int .i64 L.n, .int .i64 L.nd, .int .u32 (L.br : Int), .int .i64 L.bn, .int .u64 (L.pr : Int), .slice L.A L.l.length L.c, .int .i64 L.fs, .int .i64 s, .int .i64 L.x.k, .int .i64 L.x.s, .int .i64 L.x.q, .slice L.x.A1 L.x.rs.length L.x.c1, .slice L.x.A2 L.x.ws.length L.x.c2, .int .i64 L.x.i, .int .i64 L.x.j, .int .i64 L.x.g, .int .u64 (L.x.st : Int), .bool L.x.y, .int .u64 (L.vt : Int)]).toArray 144) := hpC ([.int .i64 s]) 7 _ z7 Zl
      have ee := lgCells (k := h) (by omega) ([.int .i64 s]) 7 z7 ee
      have Zx := hpCo (g' := h) (by omega) ([.int .i64 s]) 7 z7 Zx
      have Zr := hpCo (g' := h) (by omega) ([.int .i64 s]) 7 z7 Zr
      have Zn := hpCo (g' := h) (by omega) ([.int .i64 s]) 7 z7 Zn
      clear Zl
      have Zl := N_
      clear N_
      change K _ (z7.setCells (h) 7 [.int .i64 s])
      generalize z7.setCells (h) 7 [.int .i64 s] = z8 at Zl Zx Zr Zn ee ⊢
      refine hK.out _ _ (rowAt Zx) (fun hH => ?_)
      clear hK K hH
      try simp only [Act.put, List.getElem_toArray, List.getElem_cons_zero, List.getElem_cons_succ, List.setIfInBounds_toArray, List.set_cons_zero, List.set_cons_succ]
      refine wpAnyH_take (i := 8) (v := .pointer (some ⟨h, 0, none⟩)) rfl (by kernel_rfl) (by kernel_rfl) (by kernel_rfl) (fun _ _ _ h => h) (Or.inl ⟨by rfl, fun w_ hS_ => by (first | (go_simp; done) | (go_simp; rfl))⟩) (rowAt Zx) ?_
      try simp only [Act.put, List.getElem_toArray, List.getElem_cons_zero, List.getElem_cons_succ, List.setIfInBounds_toArray, List.set_cons_zero, List.set_cons_succ]
      refine wpAnyH_take (i := 9) (v := .pointer (some ⟨h, 8, none⟩)) rfl (by kernel_rfl) (by kernel_rfl) (by kernel_rfl) (fun _ _ _ h => h) (Or.inl ⟨by rfl, fun w_ hS_ => by (first | (go_simp; done) | (go_simp; rfl))⟩) (rowAt Zx) ?_
      try simp only [Act.put, List.getElem_toArray, List.getElem_cons_zero, List.getElem_cons_succ, List.setIfInBounds_toArray, List.set_cons_zero, List.set_cons_succ]
      refine wpAnyH_ready (rs := [10]) (by kernel_rfl) (by simp) ?_
      refine AllReadyH.cons rfl (fun K hK => ?_) AllReadyH.nil
      rw [if_pos (by rfl)]
      refine wp_store_mid 37 _ _ rfl (h) 8 (y.cells).toArray rfl rfl (rowThere Zl (by simp [T.Ld.cells, T.Cm.cells])) sizeCm (Cm.one _) ?_
      have N_ : (z8.setCells (h) 8 (y.cells)).heap[h]? = some (.cells ([.int .i64 L.n, .int .i64 L.nd, .int .u32 (L.br : Int), .int .i64 L.bn, .int .u64 (L.pr : Int), .slice L.A L.l.length L.c, .int .i64 L.fs, .int .i64 s, .int .i64 y.k, .int .i64 y.s, .int .i64 y.q, .slice y.A1 y.rs.length y.c1, .slice y.A2 y.ws.length y.c2, .int .i64 y.i, .int .i64 y.j, .int .i64 y.g, .int .u64 (y.st : Int), .bool y.y, .int .u64 (L.vt : Int)]).toArray 144) := hpC (y.cells) 8 _ z8 Zl
      have ee := lgCells (k := h) (by omega) (y.cells) 8 z8 ee
      have Zx := hpCo (g' := h) (by omega) (y.cells) 8 z8 Zx
      have Zr := hpCo (g' := h) (by omega) (y.cells) 8 z8 Zr
      have Zn := hpCo (g' := h) (by omega) (y.cells) 8 z8 Zn
      clear Zl
      have Zl := N_
      clear N_
      change K _ (z8.setCells (h) 8 (y.cells))
      generalize z8.setCells (h) 8 (y.cells) = z9 at Zl Zx Zr Zn ee ⊢
      refine hK.out _ _ (rowAt Zx) (fun hH => ?_)
      clear hK K hH
      try simp only [Act.put, List.getElem_toArray, List.getElem_cons_zero, List.getElem_cons_succ, List.setIfInBounds_toArray, List.set_cons_zero, List.set_cons_succ]
      refine wpAnyH_take (i := 11) (v := .pointer (some ⟨h, 0, none⟩)) rfl (by kernel_rfl) (by kernel_rfl) (by kernel_rfl) (fun _ _ _ h => h) (Or.inl ⟨by rfl, fun w_ hS_ => by (first | (go_simp; done) | (go_simp; rfl))⟩) (rowAt Zx) ?_
      try simp only [Act.put, List.getElem_toArray, List.getElem_cons_zero, List.getElem_cons_succ, List.setIfInBounds_toArray, List.set_cons_zero, List.set_cons_succ]
      refine wpAnyH_take (i := 12) (v := .pointer (some ⟨h, 18, none⟩)) rfl (by kernel_rfl) (by kernel_rfl) (by kernel_rfl) (fun _ _ _ h => h) (Or.inl ⟨by rfl, fun w_ hS_ => by (first | (go_simp; done) | (go_simp; rfl))⟩) (rowAt Zx) ?_
      try simp only [Act.put, List.getElem_toArray, List.getElem_cons_zero, List.getElem_cons_succ, List.setIfInBounds_toArray, List.set_cons_zero, List.set_cons_succ]
      refine wpAnyH_ready (rs := [13]) (by kernel_rfl) (by simp) ?_
      refine AllReadyH.cons rfl (fun K hK => ?_) AllReadyH.nil
      rw [if_pos (by rfl)]
      have f_ : z9.frozen? ⟨h, 18, none⟩ = false := freeAt Zl 18
      have c_ := rowCell Zl 18 rfl
      go_simp
      clear f_ c_
      have N_ : (z9.setCells (h) 18 ([.int .u64 0])).heap[h]? = some (.cells ([.int .i64 L.n, .int .i64 L.nd, .int .u32 (L.br : Int), .int .i64 L.bn, .int .u64 (L.pr : Int), .slice L.A L.l.length L.c, .int .i64 L.fs, .int .i64 s, .int .i64 y.k, .int .i64 y.s, .int .i64 y.q, .slice y.A1 y.rs.length y.c1, .slice y.A2 y.ws.length y.c2, .int .i64 y.i, .int .i64 y.j, .int .i64 y.g, .int .u64 (y.st : Int), .bool y.y, .int .u64 0]).toArray 144) := hpC ([.int .u64 0]) 18 _ z9 Zl
      have ee := lgCells (k := h) (by omega) ([.int .u64 0]) 18 z9 ee
      have Zx := hpCo (g' := h) (by omega) ([.int .u64 0]) 18 z9 Zx
      have Zr := hpCo (g' := h) (by omega) ([.int .u64 0]) 18 z9 Zr
      have Zn := hpCo (g' := h) (by omega) ([.int .u64 0]) 18 z9 Zn
      clear Zl
      have Zl := N_
      clear N_
      change K _ (z9.setCells (h) 18 [.int .u64 0])
      generalize z9.setCells (h) 18 [.int .u64 0] = z10 at Zl Zx Zr Zn ee ⊢
      refine hK.out _ _ (rowAt Zx) (fun hH => ?_)
      clear hK K hH
      try simp only [Act.put, List.getElem_toArray, List.getElem_cons_zero, List.getElem_cons_succ, List.setIfInBounds_toArray, List.set_cons_zero, List.set_cons_succ]
      refine wpAnyH_done (by kernel_rfl) ?_ _
      go_upto_region 7 with fail
      refine wp_region_lit ?_
      iterate 27 (first | with_reducible refine isLoad (ty := 37) rfl ?_ | go_step)
      refine wpList_load_mid rfl 37 _ rfl (w.heap.size) 0 rfl ((y.cells)) _ (rowAt Zx) Tryd.underlying37 rfl sizeCm ?_
      iterate 27 (first | with_reducible refine isStore (ty := 37) rfl ?_ | go_step)
      refine wpList_store_row rfl 37 _ _ rfl (w.heap.size + 1) (y.cells).toArray rfl rfl 37 _ Zr sizeCm (by rfl) (Cm.one _) ?_
      have N_ := setRow_heap z10 (w.heap.size + 1) _ (y.cells).toArray _ _ Zr
      have ee := lgRow (cs := (y.cells).toArray) (by omega) Zr ee
      have Zl := hpR Zl (g' := w.heap.size + 1) (by omega) (y.cells).toArray
      have Zx := hpR Zx (g' := w.heap.size + 1) (by omega) (y.cells).toArray
      have Zn := hpR Zn (g' := w.heap.size + 1) (by omega) (y.cells).toArray
      clear Zr
      have Zr := N_
      clear N_
      generalize z10.setRow (w.heap.size + 1) (y.cells).toArray = z11 at Zl Zx Zr Zn ee ⊢
      go_wp2_with fail
      refine bodyPost_ret (v := .tuple #[.agg y.cells.toArray, .bool true]) (res_ct rfl rfl rfl Zr Tryd.underlying37 rfl sizeCm) rfl ?_
      rw [HS2.out]
      exact ⟨rfl, Zl, ee⟩
    · have HS2 : Hid (X = x) := by show _ = _; rw [HS.out, decide_eq_false hsf]; rfl
      clear HS
      have c6 := rowCell Zl 6 rfl
      have e6 : (s == L.fs) = false := by simp; exact hsf
      clear hsf
      have szC := ee.size
      go_upto_region 6 with fail
      have Zl : z5.drew.heap[h]? = some (.cells L.cells.toArray 144) := Zl
      have Zx : z5.drew.heap[w.heap.size]? = some (.cells x.cells.toArray 37) := Zx
      have Zr : z5.drew.heap[w.heap.size + 1]? = some (.cells #[.int .i64 0, .int .i64 0, .int .i64 0, .slice none 0 0, .slice none 0 0, .int .i64 0, .int .i64 0, .int .i64 0, .int .u64 0, .bool false] 37) := Zr
      have Zn : z5.drew.heap[z3.heap.size]? = some (.cells (y.cells).toArray 37) := Zn
      have ee := lgDrew ee
      refine wp_region_held_drew (S := fun z' => z'.rangeAt w.heap.size 0 x.cells) (by kernel_rfl) (rowAt Zx) (fun hH => ?_)
      clear hH
      generalize z5.drew = z6 at Zl Zx Zr Zn  ee ⊢
      refine wpAnyH_take (i := 0) (v := .pointer (some ⟨h, 0, none⟩)) rfl (by kernel_rfl) (by kernel_rfl) (by kernel_rfl) (fun _ _ _ h => h) (Or.inl ⟨by rfl, fun w_ hS_ => by (first | (go_simp; done) | (go_simp; rfl))⟩) (rowAt Zx) ?_
      try simp only [Act.put, List.getElem_toArray, List.getElem_cons_zero, List.getElem_cons_succ, List.setIfInBounds_toArray, List.set_cons_zero, List.set_cons_succ]
      refine wpAnyH_take (i := 1) (v := .pointer (some ⟨h, 0, none⟩)) rfl (by kernel_rfl) (by kernel_rfl) (by kernel_rfl) (fun _ _ _ h => h) (Or.inl ⟨by rfl, fun w_ hS_ => by (first | (go_simp; done) | (go_simp; rfl))⟩) (rowAt Zx) ?_
      try simp only [Act.put, List.getElem_toArray, List.getElem_cons_zero, List.getElem_cons_succ, List.setIfInBounds_toArray, List.set_cons_zero, List.set_cons_succ]
      refine wpAnyH_take (i := 2) (v := .pointer (some ⟨h, 0, none⟩)) rfl (by kernel_rfl) (by kernel_rfl) (by kernel_rfl) (fun _ _ _ h => h) (Or.inl ⟨by rfl, fun w_ hS_ => by (first | (go_simp; done) | (go_simp; rfl))⟩) (rowAt Zx) ?_
      try simp only [Act.put, List.getElem_toArray, List.getElem_cons_zero, List.getElem_cons_succ, List.setIfInBounds_toArray, List.set_cons_zero, List.set_cons_succ]
      refine wpAnyH_take (i := 3) (v := .int .i64 s) rfl (by kernel_rfl) (by kernel_rfl) (by kernel_rfl) (fun _ _ _ h => h) (Or.inl ⟨by rfl, fun w_ hS_ => by (first | (go_simp; done) | (go_simp; rfl))⟩) (rowAt Zx) ?_
      try simp only [Act.put, List.getElem_toArray, List.getElem_cons_zero, List.getElem_cons_succ, List.setIfInBounds_toArray, List.set_cons_zero, List.set_cons_succ]
      refine wpAnyH_take (i := 4) (v := .agg (x.cells).toArray) rfl (by kernel_rfl) (by kernel_rfl) (by kernel_rfl) (fun _ _ _ h => h) (yieldsIf_load_mid (by rfl) 37 _ rfl (w.heap.size) 0 rfl (x.cells) _ (fun _ h => h) Tryd.underlying37 rfl sizeCm) (rowAt Zx) ?_
      try simp only [Act.put, List.getElem_toArray, List.getElem_cons_zero, List.getElem_cons_succ, List.setIfInBounds_toArray, List.set_cons_zero, List.set_cons_succ]
      refine wpAnyH_take (i := 5) (v := .pointer (some ⟨h, 0, none⟩)) rfl (by kernel_rfl) (by kernel_rfl) (by kernel_rfl) (fun _ _ _ h => h) (Or.inl ⟨by rfl, fun w_ hS_ => by (first | (go_simp; done) | (go_simp; rfl))⟩) (rowAt Zx) ?_
      try simp only [Act.put, List.getElem_toArray, List.getElem_cons_zero, List.getElem_cons_succ, List.setIfInBounds_toArray, List.set_cons_zero, List.set_cons_succ]
      refine wpAnyH_take (i := 6) (v := .pointer (some ⟨h, 7, none⟩)) rfl (by kernel_rfl) (by kernel_rfl) (by kernel_rfl) (fun _ _ _ h => h) (Or.inl ⟨by rfl, fun w_ hS_ => by (first | (go_simp; done) | (go_simp; rfl))⟩) (rowAt Zx) ?_
      try simp only [Act.put, List.getElem_toArray, List.getElem_cons_zero, List.getElem_cons_succ, List.setIfInBounds_toArray, List.set_cons_zero, List.set_cons_succ]
      refine wpAnyH_ready (rs := [7]) (by kernel_rfl) (by simp) ?_
      refine AllReadyH.cons rfl (fun K hK => ?_) AllReadyH.nil
      rw [if_pos (by rfl)]
      have f_ : z6.frozen? ⟨h, 7, none⟩ = false := freeAt Zl 7
      have c_ := rowCell Zl 7 rfl
      go_simp
      clear f_ c_
      have N_ : (z6.setCells (h) 7 ([.int .i64 s])).heap[h]? = some (.cells ([.int .i64 L.n, .int .i64 L.nd, .int .u32 (L.br : Int), .int .i64 L.bn, .int .u64 (L.pr : Int), .slice L.A L.l.length L.c, .int .i64 L.fs, .int .i64 s, .int .i64 L.x.k, .int .i64 L.x.s, .int .i64 L.x.q, .slice L.x.A1 L.x.rs.length L.x.c1, .slice L.x.A2 L.x.ws.length L.x.c2, .int .i64 L.x.i, .int .i64 L.x.j, .int .i64 L.x.g, .int .u64 (L.x.st : Int), .bool L.x.y, .int .u64 (L.vt : Int)]).toArray 144) := hpC ([.int .i64 s]) 7 _ z6 Zl
      have ee := lgCells (k := h) (by omega) ([.int .i64 s]) 7 z6 ee
      have Zx := hpCo (g' := h) (by omega) ([.int .i64 s]) 7 z6 Zx
      have Zr := hpCo (g' := h) (by omega) ([.int .i64 s]) 7 z6 Zr
      have Zn := hpCo (g' := h) (by omega) ([.int .i64 s]) 7 z6 Zn
      clear Zl
      have Zl := N_
      clear N_
      change K _ (z6.setCells (h) 7 [.int .i64 s])
      generalize z6.setCells (h) 7 [.int .i64 s] = z7 at Zl Zx Zr Zn ee ⊢
      refine hK.out _ _ (rowAt Zx) (fun hH => ?_)
      clear hK K hH
      try simp only [Act.put, List.getElem_toArray, List.getElem_cons_zero, List.getElem_cons_succ, List.setIfInBounds_toArray, List.set_cons_zero, List.set_cons_succ]
      refine wpAnyH_take (i := 8) (v := .pointer (some ⟨h, 0, none⟩)) rfl (by kernel_rfl) (by kernel_rfl) (by kernel_rfl) (fun _ _ _ h => h) (Or.inl ⟨by rfl, fun w_ hS_ => by (first | (go_simp; done) | (go_simp; rfl))⟩) (rowAt Zx) ?_
      try simp only [Act.put, List.getElem_toArray, List.getElem_cons_zero, List.getElem_cons_succ, List.setIfInBounds_toArray, List.set_cons_zero, List.set_cons_succ]
      refine wpAnyH_take (i := 9) (v := .pointer (some ⟨h, 8, none⟩)) rfl (by kernel_rfl) (by kernel_rfl) (by kernel_rfl) (fun _ _ _ h => h) (Or.inl ⟨by rfl, fun w_ hS_ => by (first | (go_simp; done) | (go_simp; rfl))⟩) (rowAt Zx) ?_
      try simp only [Act.put, List.getElem_toArray, List.getElem_cons_zero, List.getElem_cons_succ, List.setIfInBounds_toArray, List.set_cons_zero, List.set_cons_succ]
      refine wpAnyH_ready (rs := [10]) (by kernel_rfl) (by simp) ?_
      refine AllReadyH.cons rfl (fun K hK => ?_) AllReadyH.nil
      rw [if_pos (by rfl)]
      refine wp_store_mid 37 _ _ rfl (h) 8 (x.cells).toArray rfl rfl (rowThere Zl (by simp [T.Ld.cells, T.Cm.cells])) sizeCm (Cm.one _) ?_
      have N_ : (z7.setCells (h) 8 (x.cells)).heap[h]? = some (.cells ([.int .i64 L.n, .int .i64 L.nd, .int .u32 (L.br : Int), .int .i64 L.bn, .int .u64 (L.pr : Int), .slice L.A L.l.length L.c, .int .i64 L.fs, .int .i64 s, .int .i64 x.k, .int .i64 x.s, .int .i64 x.q, .slice x.A1 x.rs.length x.c1, .slice x.A2 x.ws.length x.c2, .int .i64 x.i, .int .i64 x.j, .int .i64 x.g, .int .u64 (x.st : Int), .bool x.y, .int .u64 (L.vt : Int)]).toArray 144) := hpC (x.cells) 8 _ z7 Zl
      have ee := lgCells (k := h) (by omega) (x.cells) 8 z7 ee
      have Zx := hpCo (g' := h) (by omega) (x.cells) 8 z7 Zx
      have Zr := hpCo (g' := h) (by omega) (x.cells) 8 z7 Zr
      have Zn := hpCo (g' := h) (by omega) (x.cells) 8 z7 Zn
      clear Zl
      have Zl := N_
      clear N_
      change K _ (z7.setCells (h) 8 (x.cells))
      generalize z7.setCells (h) 8 (x.cells) = z8 at Zl Zx Zr Zn ee ⊢
      refine hK.out _ _ (rowAt Zx) (fun hH => ?_)
      clear hK K hH
      try simp only [Act.put, List.getElem_toArray, List.getElem_cons_zero, List.getElem_cons_succ, List.setIfInBounds_toArray, List.set_cons_zero, List.set_cons_succ]
      refine wpAnyH_take (i := 11) (v := .pointer (some ⟨h, 0, none⟩)) rfl (by kernel_rfl) (by kernel_rfl) (by kernel_rfl) (fun _ _ _ h => h) (Or.inl ⟨by rfl, fun w_ hS_ => by (first | (go_simp; done) | (go_simp; rfl))⟩) (rowAt Zx) ?_
      try simp only [Act.put, List.getElem_toArray, List.getElem_cons_zero, List.getElem_cons_succ, List.setIfInBounds_toArray, List.set_cons_zero, List.set_cons_succ]
      refine wpAnyH_take (i := 12) (v := .pointer (some ⟨h, 18, none⟩)) rfl (by kernel_rfl) (by kernel_rfl) (by kernel_rfl) (fun _ _ _ h => h) (Or.inl ⟨by rfl, fun w_ hS_ => by (first | (go_simp; done) | (go_simp; rfl))⟩) (rowAt Zx) ?_
      try simp only [Act.put, List.getElem_toArray, List.getElem_cons_zero, List.getElem_cons_succ, List.setIfInBounds_toArray, List.set_cons_zero, List.set_cons_succ]
      refine wpAnyH_ready (rs := [13]) (by kernel_rfl) (by simp) ?_
      refine AllReadyH.cons rfl (fun K hK => ?_) AllReadyH.nil
      rw [if_pos (by rfl)]
      have f_ : z8.frozen? ⟨h, 18, none⟩ = false := freeAt Zl 18
      have c_ := rowCell Zl 18 rfl
      go_simp
      clear f_ c_
      have N_ : (z8.setCells (h) 18 ([.int .u64 0])).heap[h]? = some (.cells ([.int .i64 L.n, .int .i64 L.nd, .int .u32 (L.br : Int), .int .i64 L.bn, .int .u64 (L.pr : Int), .slice L.A L.l.length L.c, .int .i64 L.fs, .int .i64 s, .int .i64 x.k, .int .i64 x.s, .int .i64 x.q, .slice x.A1 x.rs.length x.c1, .slice x.A2 x.ws.length x.c2, .int .i64 x.i, .int .i64 x.j, .int .i64 x.g, .int .u64 (x.st : Int), .bool x.y, .int .u64 0]).toArray 144) := hpC ([.int .u64 0]) 18 _ z8 Zl
      have ee := lgCells (k := h) (by omega) ([.int .u64 0]) 18 z8 ee
      have Zx := hpCo (g' := h) (by omega) ([.int .u64 0]) 18 z8 Zx
      have Zr := hpCo (g' := h) (by omega) ([.int .u64 0]) 18 z8 Zr
      have Zn := hpCo (g' := h) (by omega) ([.int .u64 0]) 18 z8 Zn
      clear Zl
      have Zl := N_
      clear N_
      change K _ (z8.setCells (h) 18 [.int .u64 0])
      generalize z8.setCells (h) 18 [.int .u64 0] = z9 at Zl Zx Zr Zn ee ⊢
      refine hK.out _ _ (rowAt Zx) (fun hH => ?_)
      clear hK K hH
      try simp only [Act.put, List.getElem_toArray, List.getElem_cons_zero, List.getElem_cons_succ, List.setIfInBounds_toArray, List.set_cons_zero, List.set_cons_succ]
      refine wpAnyH_done (by kernel_rfl) ?_ _
      go_upto_region 7 with fail
      refine wp_region_lit ?_
      iterate 27 (first | with_reducible refine isLoad (ty := 37) rfl ?_ | go_step)
      refine wpList_load_mid rfl 37 _ rfl (w.heap.size) 0 rfl (x.cells) _ (rowAt Zx) Tryd.underlying37 rfl sizeCm ?_
      iterate 27 (first | with_reducible refine isStore (ty := 37) rfl ?_ | go_step)
      refine wpList_store_row rfl 37 _ _ rfl (w.heap.size + 1) (x.cells).toArray rfl rfl 37 _ Zr sizeCm (by rfl) (Cm.one _) ?_
      have N_ := setRow_heap z9 (w.heap.size + 1) _ (x.cells).toArray _ _ Zr
      have ee := lgRow (cs := (x.cells).toArray) (by omega) Zr ee
      have Zl := hpR Zl (g' := w.heap.size + 1) (by omega) (x.cells).toArray
      have Zx := hpR Zx (g' := w.heap.size + 1) (by omega) (x.cells).toArray
      have Zn := hpR Zn (g' := w.heap.size + 1) (by omega) (x.cells).toArray
      clear Zr
      have Zr := N_
      clear N_
      generalize z9.setRow (w.heap.size + 1) (x.cells).toArray = z10 at Zl Zx Zr Zn ee ⊢
      go_wp2_with fail
      refine bodyPost_ret (v := .tuple #[.agg x.cells.toArray, .bool true]) (res_ct rfl rfl rfl Zr Tryd.underlying37 rfl sizeCm) rfl ?_
      rw [HS2.out]
      exact ⟨rfl, Zl, ee⟩
end Go.Proofs.YtbahooohkigcnaaDoor

namespace Go.Proofs.YtbahooohkigcnaaDoor
set_option maxRecDepth 20001
open Go.RowKit T Px
set_option linter.unusedSimpArgs false
set_option linter.unusedVariables false
namespace Ag
/-- a command that bears no slices -/
def flatC (x : Cm) : Prop := x.rs = [] ∧ x.ws = [] ∧ x.A1 = none ∧ x.c1 = 0 ∧ x.A2 = none ∧ x.c2 = 0
theorem flatC_zero : flatC Cm.zero := ⟨rfl, rfl, rfl, rfl, rfl, rfl⟩
def updF {α : Type} (f : Nat → α) (i : Nat) (a : α) : Nat → α := fun k => if k = i then a else f k
theorem updF_same {α : Type} (f : Nat → α) (i : Nat) (a : α) : updF f i a i = a := by simp [updF]
theorem updF_ne {α : Type} (f : Nat → α) {i k : Nat} (a : α) (h : k ≠ i) : updF f i a k = f k := by simp [updF, h]
/-- a leader among replicas -/
structure Lok (n t : Nat) (A : Nat → Ac) (P : List Pr) (V : Vt) (i : Nat) (l : Ld) : Prop where
  num : l.n = (n : Int)
  nd : l.nd = (i : Int)
  br : l.br ≤ t
  z : l.br = 0 → l.bn = 0 ∧ l.pr = 0 ∧ l.sl = 0
  nz : l.br ≠ 0 → l.bn = (i : Int)
  pw : l.pr < 18446744073709551616 ∧ l.vt < 18446744073709551616
  ln : l.l.length ≤ 5
  fl : (∀ S ∈ l.l, flatC S.c) ∧ flatC l.x
  ev : ∀ j, j < n → Q.hasB l.pr (j : Int) = true → ∃ S, Ev A P V l.br l.bn j S ∧ 1 ≤ S.sl ∧ (S ∈ l.l ∧ S.sl ≤ l.fs ∨ S.sl < l.fs)
  top : l.l ≠ [] → topOf l.l = l.fs
  lhs : ∀ S ∈ l.l, S.ha = true → ∃ p ∈ P, p.br = S.vr ∧ p.bn = S.vn ∧ p.s = S.sl ∧ p.x = S.c
  own : ∀ p ∈ P, p.br = l.br → p.bn = l.bn → p.s < l.fs ∨ (l.sl ≠ 0 ∧ p.s = l.sl)
  slr : 0 ≤ l.sl ∧ l.sl ≤ 1000000
  pro : l.sl ≠ 0 → l.fs ≤ l.sl ∧ l.sl ≤ (A i).sl ∧ ∃ p ∈ P, p.br = l.br ∧ p.bn = l.bn ∧ p.s = l.sl ∧ p.x = l.x ∧ ∀ j, j < n → Q.hasB l.vt (j : Int) = true → V p.br p.bn p.s j = true
/-- all of it, behind t steps -/
structure Cinv (n t : Nat) (A : Nat → Ac) (L : Nat → Ld) (X : Nat → List Cm) (P : List Pr) (V : Vt) : Prop where
  core : Inv n A P V
  ac : ∀ j, j < n → flatC (A j).c ∧ (A j).sl ≤ (t : Int) + 1 ∧ 1 ≤ (A j).sl ∧ (A j).pr ≤ t
  ps : ∀ p ∈ P, flatC p.x ∧ 1 ≤ p.br ∧ 0 ≤ p.bn ∧ p.bn < (n : Int) ∧ ∀ i : Nat, (i : Int) = p.bn → p.br ≤ (L i).br
  xl : ∀ j, j < n → ((X j).length : Int) = (A j).sl - 1 ∧ ∀ (s : Nat) (x : Cm), (X j)[s]? = some x → flatC x ∧ ∃ p ∈ P, p.s = (s : Int) + 1 ∧ p.x = x ∧ Chosen n V p
  ld : ∀ i, i < n → Lok n t A P V i (L i)
theorem Lok.upA {n t : Nat} {A : Nat → Ac} {P : List Pr} {V : Vt} {i : Nat} {l : Ld} (h : Lok n t A P V i l) (k : Nat) {a : Ac} (hu : Up (A k) a) : Lok n t (upd A k a) P V i l := by
  refine { h with ev := fun j hj hb => ?_, pro := fun hs => ?_ }
  · obtain ⟨S, h1, h2⟩ := h.ev j hj hb
    exact ⟨S, h1.up k hu, h2⟩
  · obtain ⟨h1, h2, h3⟩ := h.pro hs
    refine ⟨h1, ?_, h3⟩
    by_cases e : i = k
    · subst e
      rw [upd_same]
      exact Int.le_trans h2 hu.sl
    · rw [upd_ne A a e]; exact h2
theorem Lok.more {n t : Nat} {A : Nat → Ac} {P : List Pr} {V : Vt} {i : Nat} {l : Ld} (h : Lok n t A P V i l) : Lok n (t + 1) A P V i l := { h with br := by have := h.br; omega }
theorem Lok.voted {n t : Nat} {A : Nat → Ac} {P : List Pr} {V : Vt} {i : Nat} {l : Ld} (h : Lok n t A P V i l) {k : Nat} {p : Pr} (hw : (A k).how p.br p.bn p.s p.x = 3) (hf : (A k).formed = true) :
    Lok n t (upd A k ((A k).vote p.br p.bn p.s p.x)) P (vote V p.br p.bn p.s k) i l := by
  have h0 := h.upA k (up_vote hf p.br p.bn p.s p.x)
  refine { h0 with ev := fun j hj hb => ?_, pro := fun hs => ?_ }
  · obtain ⟨S, h1, h2⟩ := h.ev j hj hb
    exact ⟨S, h1.vote hw hf, h2⟩
  · obtain ⟨h1, h2, q, hq, r1, r2, r3, r4, r5⟩ := h0.pro hs
    exact ⟨h1, h2, q, hq, r1, r2, r3, r4, fun j hj hb => vote_old (r5 j hj hb)⟩
theorem Lok.new {n t : Nat} {A : Nat → Ac} {P : List Pr} {V : Vt} {i : Nat} {l : Ld} (h : Lok n t A P V i l) {p : Pr} (hn : ∀ k, V p.br p.bn p.s k = false) (h1 : 1 ≤ p.br) (hne : p.bn ≠ (i : Int)) : Lok n t A (P ++ [p]) V i l := by
  refine { h with ev := fun j hj hb => ?_, lhs := fun S hS hh => ?_, own := fun q hq e1 e2 => ?_, pro := fun hs => ?_ }
  · obtain ⟨S, h1, h2⟩ := h.ev j hj hb
    exact ⟨S, h1.new hn, h2⟩
  · obtain ⟨q, hq, r⟩ := h.lhs S hS hh
    exact ⟨q, List.mem_append_left _ hq, r⟩
  · rcases List.mem_append.1 hq with hq | hq
    · exact h.own q hq e1 e2
    · rw [List.mem_singleton.1 hq] at e1 e2
      exact absurd (e2.trans (h.nz (by omega))) hne
  · obtain ⟨h1, h2, q, hq, r⟩ := h.pro hs
    exact ⟨h1, h2, q, List.mem_append_left _ hq, r⟩
/-- a promise is asked for, and given or not -/
theorem Cinv.prep {n t : Nat} {A : Nat → Ac} {L : Nat → Ld} {X : Nat → List Cm} {P : List Pr} {V : Vt} (h : Cinv n t A L X P V) {j : Nat} (hj : j < n) {br : Nat} (hbr : br ≤ t) (bn : Int) : Cinv n t (upd A j ((A j).prep br bn)) L X P V := by
  obtain ⟨e1, e2, e3, e4, e5⟩ := prep_same (A j) br bn
  have hu := up_prep (h.core.fm j hj) br bn
  refine ⟨h.core.prep hj br bn, fun k hk => ?_, h.ps, fun k hk => ?_, fun i hi => (h.ld i hi).upA j hu⟩
  · by_cases e : k = j
    · subst e
      rw [upd_same, e1, e5]
      obtain ⟨a1, a2, a3, a4⟩ := h.ac k hk
      refine ⟨a1, a2, a3, ?_⟩
      unfold Ac.prep
      cases (A k).may br bn with
      | false => exact a4
      | true => exact hbr
    · rw [upd_ne A _ e]; exact h.ac k hk
  · by_cases e : k = j
    · subst e
      rw [upd_same, e1]; exact h.xl k hk
    · rw [upd_ne A _ e]; exact h.xl k hk
/-- a leader that has begun the ballot (br, i) -/
def begun (n i : Nat) (br : Nat) : Ld := ⟨(n : Int), (i : Int), br, (i : Int), 0, [], none, 0, 0, 0, Cm.zero, 0⟩
theorem has0 (j : Nat) : Q.hasB 0 (j : Int) = false := by unfold Q.hasB; simp
theorem Cinv.start {n t : Nat} {A : Nat → Ac} {L : Nat → Ld} {X : Nat → List Cm} {P : List Pr} {V : Vt} (h : Cinv n t A L X P V) {i : Nat} (hi : i < n) {br : Nat} (hb : (L i).br < br) (hbt : br ≤ t + 1) : Cinv n (t + 1) A (updF L i (begun n i br)) X P V := by
  refine ⟨h.core, fun j hj => ?_, fun p hp => ?_, h.xl, fun k hk => ?_⟩
  · obtain ⟨a1, a2, a3, a4⟩ := h.ac j hj
    exact ⟨a1, by omega, a3, by omega⟩
  · obtain ⟨a1, a2, a3, a4, a5⟩ := h.ps p hp
    refine ⟨a1, a2, a3, a4, fun k hk => ?_⟩
    by_cases e : k = i
    · subst e
      rw [updF_same]
      have := a5 k hk
      show p.br ≤ br
      omega
    · rw [updF_ne L _ e]; exact a5 k hk
  · by_cases e : k = i
    · subst e
      rw [updF_same]
      refine ⟨rfl, rfl, hbt, fun h0 => ?_, fun _ => rfl, ⟨(show (0 : Nat) < 18446744073709551616 by decide), (show (0 : Nat) < 18446744073709551616 by decide)⟩, by simp [begun], ⟨fun S hS => by simp [begun] at hS, flatC_zero⟩, fun j hj hb => ?_, fun h0 => absurd rfl h0, fun S hS => by simp [begun] at hS, fun p hp e1 e2 => ?_, ⟨(show (0 : Int) ≤ 0 by decide), (show (0 : Int) ≤ 1000000 by decide)⟩, fun h0 => absurd rfl h0⟩
      · have : br = 0 := h0
        omega
      · have : Q.hasB 0 (j : Int) = true := hb
        rw [has0] at this; exact absurd this (by simp)
      · have e1' : p.br = br := e1
        have := (h.ps p hp).2.2.2.2 k e2.symm
        omega
    · rw [updF_ne L _ e]; exact (h.ld k hk).more
/-- a leader that counts a promise -/
def promised (l : Ld) (j : Nat) (a : Ac) (A' : Option Addr) (c' : Nat) : Ld := { l with pr := Q.addN l.pr (j : Int), l := l.l ++ [a], A := A', c := c', fs := max l.fs a.sl }
theorem has_add (s j k : Nat) (hj : j < 64) : Q.hasB (Q.addN s (j : Int)) (k : Int) = (Q.hasB s (k : Int) || decide (k = j)) := by
  unfold Q.hasB Q.addN
  rw [if_pos ⟨by omega, by omega⟩, Int.toNat_natCast, Int.toNat_natCast, Nat.testBit_or, Nat.testBit_two_pow]
  by_cases e : k = j
  · subst e
    simp
    omega
  · have : ¬ j = k := fun h => e h.symm
    simp [this, e]
theorem Cinv.promise {n t : Nat} {A : Nat → Ac} {L : Nat → Ld} {X : Nat → List Cm} {P : List Pr} {V : Vt} (h : Cinv n t A L X P V) (h5 : n ≤ 5) {i j : Nat} (hi : i < n) (hj : j < n) (hz : (L i).br ≠ 0) (hs : (L i).sl = 0) (hf : (L i).l = [] → (L i).fs = 0) (h4 : (L i).l.length ≤ 4)
    (hm : (A j).may (L i).br (L i).bn = true) (A' : Option Addr) (c' : Nat) :
    Cinv n t (upd A j ((A j).prep (L i).br (L i).bn)) (updF L i (promised (L i) j ((A j).prep (L i).br (L i).bn) A' c')) X P V := by
  have hE := Ev.made h.core hj hm
  have h0 := h.prep hj (br := (L i).br) (h.ld i hi).br (L i).bn
  obtain ⟨e1, _, _, _, e5⟩ := prep_same (A j) (L i).br (L i).bn
  have hsl := (h.ac j hj).2.2.1
  refine ⟨h0.core, h0.ac, fun p hp => ?_, h0.xl, fun k hk => ?_⟩
  · obtain ⟨a1, a2, a3, a4, a5⟩ := h.ps p hp
    refine ⟨a1, a2, a3, a4, fun k hk => ?_⟩
    by_cases e : k = i
    · subst e
      rw [updF_same]; exact a5 k hk
    · rw [updF_ne L _ e]; exact a5 k hk
  · by_cases e : k = i
    · subst e
      rw [updF_same]
      have hl := h0.ld k hk
      have hcl : flatC ((A j).prep (L k).br (L k).bn).c := by rw [e5]; exact (h.ac j hj).1
      generalize hP : (A j).prep (L k).br (L k).bn = S0 at hE hl hcl e1 h0 ⊢
      have hS0 : 1 ≤ S0.sl := by rw [e1]; exact hsl
      refine { num := hl.num, nd := hl.nd, br := hl.br, z := fun q => absurd q hz, nz := hl.nz, pw := ⟨Q.add_lt _ _ hl.pw.1, hl.pw.2⟩, ln := ?_, fl := ⟨fun S hS => ?_, hl.fl.2⟩, ev := fun m hm hb => ?_, top := fun _ => ?_, lhs := fun S hS hh => ?_, own := fun p hp e1 e2 => ?_, slr := hl.slr, pro := fun q => absurd hs q }
      · show ((L k).l ++ [S0]).length ≤ 5
        simp; omega
      · have hS : S ∈ (L k).l ++ [S0] := hS
        rcases List.mem_append.1 hS with hS | hS
        · exact hl.fl.1 S hS
        · rw [List.mem_singleton.1 hS]; exact hcl
      · have hb : Q.hasB (Q.addN (L k).pr (j : Int)) (m : Int) = true := hb
        rw [has_add _ _ _ (by omega), Bool.or_eq_true, decide_eq_true_eq] at hb
        show ∃ S, Ev _ P V (L k).br (L k).bn m S ∧ 1 ≤ S.sl ∧ (S ∈ (L k).l ++ [S0] ∧ S.sl ≤ max (L k).fs S0.sl ∨ S.sl < max (L k).fs S0.sl)
        rcases hb with hb | rfl
        · obtain ⟨S, g1, g2, g3⟩ := hl.ev m hm hb
          refine ⟨S, g1, g2, ?_⟩
          rcases g3 with ⟨g3, g4⟩ | g3
          · exact .inl ⟨List.mem_append_left _ g3, by omega⟩
          · exact .inr (by omega)
        · exact ⟨S0, hE, hS0, .inl ⟨List.mem_append_right _ (List.mem_singleton.2 rfl), by omega⟩⟩
      · show topOf ((L k).l ++ [S0]) = max (L k).fs S0.sl
        rw [topOf_snoc]
        by_cases q : (L k).l = []
        · rw [if_pos q, hf q]; omega
        · rw [if_neg q, hl.top q]
          split <;> omega
      · have hS : S ∈ (L k).l ++ [S0] := hS
        rcases List.mem_append.1 hS with hS | hS
        · exact hl.lhs S hS hh
        · rw [List.mem_singleton.1 hS] at hh ⊢
          exact hE.hs hh
      · rcases hl.own p hp e1 e2 with q | q
        · left
          show p.s < max (L k).fs S0.sl
          omega
        · exact absurd hs q.1
    · rw [updF_ne L _ e]; exact h0.ld k hk
/-- a majority by bits, a majority by count -/
theorem count_cnt (s : Nat) : ∀ n, Q.cnt s n = Px.cnt n (fun j => Q.hasB s (j : Int) || decide (64 ≤ j) && s.testBit j)
  | 0 => rfl
  | n + 1 => by
    rw [Q.cnt, cnt_succ, count_cnt s n]
    congr 1
    have : (Q.hasB s (n : Int) || decide (64 ≤ n) && s.testBit n) = s.testBit n := by
      unfold Q.hasB
      rw [Int.toNat_natCast]
      by_cases h : n ≤ 63
      · have h1 : decide ((n : Int) ≤ 63) = true := decide_eq_true (by omega)
        have h2 : decide (64 ≤ n) = false := decide_eq_false (by omega)
        rw [h1, h2]; simp
      · have h1 : decide ((n : Int) ≤ 63) = false := decide_eq_false (by omega)
        have h2 : decide (64 ≤ n) = true := decide_eq_true (by omega)
        rw [h1, h2]; simp
    rw [this]
theorem maj_cnt {s n : Nat} (h5 : n ≤ 5) (h : Q.majB s (n : Int) = true) : n < 2 * Px.cnt n (fun j => Q.hasB s (j : Int)) := by
  have hc : Q.clampN (n : Int) = n := by unfold Q.clampN; omega
  unfold Q.majB Q.leastN Q.countN at h
  rw [hc, Bool.and_eq_true, decide_eq_true_eq, decide_eq_true_eq, count_cnt] at h
  have e : Px.cnt n (fun j => Q.hasB s (j : Int) || decide (64 ≤ j) && s.testBit j) = Px.cnt n (fun j => Q.hasB s (j : Int)) := cnt_congr fun j hj => by
    rw [decide_eq_false (by omega : ¬ 64 ≤ j)]; simp
  rw [e] at h
  omega
/-- a leader that proposes -/
def proposed (l : Ld) (s : Int) (x : Cm) : Ld := { l with sl := s, x := l.what s x, vt := 0 }
theorem Cinv.vote {n t : Nat} {A : Nat → Ac} {L : Nat → Ld} {X : Nat → List Cm} {P : List Pr} {V : Vt} (h : Cinv n t A L X P V) (h5 : n ≤ 5) {i j : Nat} (hi : i < n) (hj : j < n) (hs : (L i).sl ≠ 0) (hw : (A j).how (L i).br (L i).bn (L i).sl (L i).x = 3) :
    ∃ V', Cinv n t (upd A j ((A j).vote (L i).br (L i).bn (L i).sl (L i).x)) (updF L i ((L i).vote (j : Int) (L i).br (L i).bn (L i).sl)) X P V' := by
  have hl := h.ld i hi
  obtain ⟨h1, h2, p, hp, r1, r2, r3, r4, r5⟩ := hl.pro hs
  rw [← r1, ← r2, ← r3, ← r4] at hw ⊢
  have hf := h.core.fm j hj
  have ev := vote_eq hw
  have hsl := (Ac.how_three hw).2.2
  refine ⟨Px.vote V p.br p.bn p.s j, h.core.vote hj hp hw, fun k hk => ?_, fun q hq => ?_, fun k hk => ?_, fun k hk => ?_⟩
  · by_cases e : k = j
    · subst e
      rw [upd_same, ev]
      obtain ⟨a1, a2, a3, a4⟩ := h.ac k hk
      refine ⟨(h.ps p hp).1, ?_, ?_, ?_⟩
      · show p.s ≤ _; omega
      · show 1 ≤ p.s; omega
      · show p.br ≤ t
        have := hl.br; omega
    · rw [upd_ne A _ e]; exact h.ac k hk
  · obtain ⟨a1, a2, a3, a4, a5⟩ := h.ps q hq
    refine ⟨a1, a2, a3, a4, fun k hk => ?_⟩
    by_cases e : k = i
    · subst e
      rw [updF_same]
      have e9 : ((L k).vote (j : Int) p.br p.bn p.s).br = (L k).br := by unfold Ld.vote; cases (L k).votes (j : Int) p.br p.bn p.s <;> rfl
      rw [e9]; exact a5 k hk
    · rw [updF_ne L _ e]; exact a5 k hk
  · obtain ⟨x1, x2⟩ := h.xl k hk
    refine ⟨?_, fun s x hx => ?_⟩
    · by_cases e : k = j
      · subst e
        rw [upd_same, ev]
        show _ = p.s - 1
        omega
      · rw [upd_ne A _ e]; exact x1
    · obtain ⟨g1, q, hq, g2, g3, g4⟩ := x2 s x hx
      refine ⟨g1, q, hq, g2, g3, Nat.lt_of_lt_of_le g4 (Nat.mul_le_mul_left 2 (cnt_mono fun m hm hv => vote_old hv))⟩
  · have hk0 := (h.ld k hk).voted hw hf
    by_cases e : k = i
    · subst e
      rw [updF_same]
      unfold Ld.vote
      cases hv : (L k).votes (j : Int) p.br p.bn p.s with
      | false => exact hk0
      | true =>
        rw [cond_true]
        refine { hk0 with pw := ⟨hk0.pw.1, Q.add_lt _ _ hk0.pw.2⟩, pro := fun q => ?_ }
        obtain ⟨g1, g2, q', hq', s1, s2, s3, s4, s5⟩ := hk0.pro q
        refine ⟨g1, g2, q', hq', s1, s2, s3, s4, fun m hm hb => ?_⟩
        have hb : Q.hasB (Q.addN (L k).vt (j : Int)) (m : Int) = true := hb
        rw [has_add _ _ _ (by omega), Bool.or_eq_true, decide_eq_true_eq] at hb
        rcases hb with hb | rfl
        · exact s5 m hm hb
        · have e1 : q'.br = p.br := s1.trans r1.symm
          have e2 : q'.bn = p.bn := s2.trans r2.symm
          have e3 : q'.s = p.s := s3.trans r3.symm
          rw [e1, e2, e3]; exact vote_same _ _ _ _ _
    · rw [updF_ne L _ e]; exact hk0
/-- a proposal that a majority has voted for: let go; what was proposed is chosen -/
theorem Cinv.done {n t : Nat} {A : Nat → Ac} {L : Nat → Ld} {X : Nat → List Cm} {P : List Pr} {V : Vt} (h : Cinv n t A L X P V) (h5 : n ≤ 5) {i : Nat} (hi : i < n) (hs : (L i).sl ≠ 0) (hm : Q.majB (L i).vt (n : Int) = true) :
    Cinv n t A (updF L i (L i).done) X P V ∧ flatC (L i).x ∧ 1 ≤ (L i).sl ∧ (L i).sl ≤ (A i).sl ∧ ∃ p ∈ P, p.s = (L i).sl ∧ p.x = (L i).x ∧ Chosen n V p := by
  have hl := h.ld i hi
  obtain ⟨h1, h2, p, hp, r1, r2, r3, r4, r5⟩ := hl.pro hs
  have hd : (L i).dones = true := by unfold Ld.dones; rw [decide_eq_false hs, hl.num, hm]; rfl
  have ed : (L i).done = { L i with fs := (L i).sl + 1, sl := 0, x := Cm.zero, l := [], A := none, c := 0 } := by unfold Ld.done; rw [hd]; rfl
  refine ⟨⟨h.core, h.ac, fun q hq => ?_, h.xl, fun k hk => ?_⟩, hl.fl.2, ?_, h2, p, hp, r3, r4, Nat.lt_of_lt_of_le (maj_cnt h5 hm) (Nat.mul_le_mul_left 2 (cnt_mono fun j hj hb => r5 j hj hb))⟩
  · obtain ⟨a1, a2, a3, a4, a5⟩ := h.ps q hq
    refine ⟨a1, a2, a3, a4, fun k hk => ?_⟩
    by_cases e : k = i
    · subst e
      rw [updF_same, ed]; exact a5 k hk
    · rw [updF_ne L _ e]; exact a5 k hk
  · by_cases e : k = i
    · subst e
      rw [updF_same, ed]
      refine { num := hl.num, nd := hl.nd, br := hl.br, z := fun q => absurd (hl.z q).2.2 hs, nz := hl.nz, pw := hl.pw, ln := by simp, fl := ⟨fun S hS => by simp at hS, flatC_zero⟩, ev := fun j hj hb => ?_, top := fun q => absurd rfl q, lhs := fun S hS => by simp at hS, own := fun q hq e1 e2 => ?_, slr := ⟨Int.le_refl _, (show (0 : Int) ≤ 1000000 by decide)⟩, pro := fun q => absurd rfl q }
      · obtain ⟨S, g1, g2, g3⟩ := hl.ev j hj hb
        refine ⟨S, g1, g2, .inr ?_⟩
        show S.sl < (L k).sl + 1
        omega
      · left
        show q.s < (L k).sl + 1
        rcases hl.own q hq e1 e2 with g | g
        · omega
        · omega
    · rw [updF_ne L _ e]; exact h.ld k hk
  · have := hl.slr; omega
/-- a replica learns what is chosen in its open slot -/
theorem Cinv.learn {n t : Nat} {A : Nat → Ac} {L : Nat → Ld} {X : Nat → List Cm} {P : List Pr} {V : Vt} (h : Cinv n t A L X P V) {j : Nat} (hj : j < n) (hsl : (A j).sl ≤ (t : Int)) (ht : t < 1000000) {x : Cm} (hx : flatC x) (hc : ∃ p ∈ P, p.s = (A j).sl ∧ p.x = x ∧ Chosen n V p) :
    (A j).learns (A j).sl = true ∧ Cinv n t (upd A j ((A j).learn (A j).sl)) L (updF X j (X j ++ [x])) P V := by
  have hf := h.core.fm j hj
  have hls : (A j).learns (A j).sl = true := (Ac.learns_iff _ _).2 ⟨hf, rfl, by omega⟩
  refine ⟨hls, ?_⟩
  have el := learn_eq hls
  have hu := up_learn hf (A j).sl
  obtain ⟨a1, a2, a3, a4⟩ := h.ac j hj
  refine ⟨h.core.learn hj _, fun k hk => ?_, h.ps, fun k hk => ?_, fun i hi => (h.ld i hi).upA j hu⟩
  · by_cases e : k = j
    · subst e
      rw [upd_same, el]
      refine ⟨flatC_zero, ?_, ?_, a4⟩
      · show (A k).sl + 1 ≤ _; omega
      · show 1 ≤ (A k).sl + 1; omega
    · rw [upd_ne A _ e]; exact h.ac k hk
  · obtain ⟨x1, x2⟩ := h.xl k hk
    by_cases e : k = j
    · subst e
      rw [upd_same, updF_same, el]
      refine ⟨?_, fun s y hy => ?_⟩
      · rw [List.length_append]
        show (((X k).length + 1 : Nat) : Int) = (A k).sl + 1 - 1
        omega
      · rw [List.getElem?_append] at hy
        by_cases hlt : s < (X k).length
        · rw [if_pos hlt] at hy; exact x2 s y hy
        · rw [if_neg hlt] at hy
          have h9 := (List.getElem?_eq_some_iff.1 hy).1
          have hs0 : s - (X k).length = 0 := by simp at h9; omega
          rw [hs0] at hy
          obtain rfl : x = y := by simpa using hy
          obtain ⟨p, hp, q1, q2, q3⟩ := hc
          exact ⟨hx, p, hp, by omega, q2, q3⟩
    · rw [upd_ne A _ e, updF_ne X _ e]; exact ⟨x1, x2⟩
/-- a step that does nothing more -/
theorem Cinv.more {n t : Nat} {A : Nat → Ac} {L : Nat → Ld} {X : Nat → List Cm} {P : List Pr} {V : Vt} (h : Cinv n t A L X P V) : Cinv n (t + 1) A L X P V :=
  ⟨h.core, fun j hj => by obtain ⟨a1, a2, a3, a4⟩ := h.ac j hj; exact ⟨a1, by omega, a3, by omega⟩, h.ps, h.xl, fun i hi => (h.ld i hi).more⟩
/-- at first -/
theorem Cinv.first (n : Nat) (h5 : n ≤ 5) : Cinv n 0 (fun _ => Ac.new) (fun i => Ld.new (n : Int) (i : Int)) (fun _ => []) [] (fun _ _ _ _ => false) := by
  refine ⟨Inv.first n, fun j hj => ⟨flatC_zero, (show (1 : Int) ≤ 0 + 1 by decide), (show (1 : Int) ≤ 1 by decide), Nat.le_refl _⟩, by simp, fun j hj => ⟨rfl, by simp⟩, fun i hi => ?_⟩
  refine ⟨rfl, rfl, Nat.le_refl _, fun _ => ⟨rfl, rfl, rfl⟩, fun q => absurd rfl q, ⟨(show (0 : Nat) < 18446744073709551616 by decide), (show (0 : Nat) < 18446744073709551616 by decide)⟩, by simp [Ld.new], ⟨fun S hS => by simp [Ld.new] at hS, flatC_zero⟩, fun j hj hb => ?_, fun q => absurd rfl q, fun S hS => by simp [Ld.new] at hS, by simp, ⟨(show (0 : Int) ≤ 0 by decide), (show (0 : Int) ≤ 1000000 by decide)⟩, fun q => absurd rfl q⟩
  have hb : Q.hasB 0 (j : Int) = true := hb
  rw [has0] at hb; exact absurd hb (by simp)
end Ag
end Go.Proofs.YtbahooohkigcnaaDoor

namespace Go.Proofs.YtbahooohkigcnaaDoor
set_option maxRecDepth 20001
open Go.RowKit
set_option linter.unusedSimpArgs false
set_option linter.unusedVariables false
/-- all cells, one struct behind the other -/
def flat {α : Type} (enc : α → List Value) (l : List α) : List Value := l.flatMap enc
section
variable {α : Type} {enc : α → List Value} {sz : Nat}
theorem flat_app (l m : List α) : flat enc (l ++ m) = flat enc l ++ flat enc m := by simp [flat]
theorem flat_cons (a : α) (l : List α) : flat enc (a :: l) = enc a ++ flat enc l := by simp [flat]
theorem flat_len (hs : ∀ a, (enc a).length = sz) (l : List α) : (flat enc l).length = l.length * sz := by
  induction l with
  | nil => simp [flat]
  | cons a t ih => rw [flat_cons, List.length_append, hs, ih, List.length_cons, Nat.add_mul]; omega
theorem list_split {l : List α} {k : Nat} {x : α} (h : l[k]? = some x) : l = l.take k ++ x :: l.drop (k + 1) ∧ k < l.length := by
  obtain ⟨hk, rfl⟩ := List.getElem?_eq_some_iff.1 h
  exact ⟨by rw [List.getElem_cons_drop, List.take_append_drop], hk⟩
theorem flat_split (hs : ∀ a, (enc a).length = sz) {l : List α} {k : Nat} {x : α} (h : l[k]? = some x) :
    flat enc l = flat enc (l.take k) ++ (enc x ++ flat enc (l.drop (k + 1))) ∧ (flat enc (l.take k)).length = k * sz := by
  obtain ⟨e, hk⟩ := list_split h
  refine ⟨?_, by rw [flat_len hs, List.length_take, Nat.min_eq_left (by omega)]⟩
  conv => lhs; rw [e]
  rw [flat_app, flat_cons]
theorem flat_at (hs : ∀ a, (enc a).length = sz) {l : List α} {k : Nat} {x : α} (h : l[k]? = some x) (j : Nat) (v : Value) (hv : (enc x)[j]? = some v) : (flat enc l)[k * sz + j]? = some v := by
  obtain ⟨e, hl⟩ := flat_split hs h
  have hj : j < (enc x).length := (List.getElem?_eq_some_iff.1 hv).1
  rw [e, List.getElem?_append_right (by omega), hl, show k * sz + j - k * sz = j by omega, List.getElem?_append_left hj]
  exact hv
end
/-- rows that are owned: the slice, its cells -/
theorem flatOwn {α : Type} {enc : α → List Value} {sz : Nat} (hs : ∀ a, (enc a).length = sz) (hpos : 0 < sz) {w : World} {base e : Nat} {v : Value} {l : List α} (h : w.ownsRow base e sz v l.length (flat enc l)) :
    ∃ (A : Option Addr) (c : Nat), v = .slice A l.length c ∧ l.length ≤ c ∧ RowsAt w w.heap.size A sz (l.map enc) ∧ (l.length ≠ 0 → ∃ g, A = some ⟨g, 0, none⟩ ∧ base ≤ g ∧ g < w.heap.size) := by
  rcases h.2 with ⟨rfl, h0⟩ | ⟨g, cap, cur, rfl, hb, hg, hc, hm, _⟩
  · have : l = [] := List.length_eq_zero_iff.1 h0
    subst this
    exact ⟨none, 0, rfl, Nat.le_refl _, RowsAt.nil, fun h => absurd rfl h⟩
  · have hgs : g < w.heap.size := (Array.getElem?_eq_some_iff.1 hg).1
    refine ⟨some ⟨g, 0, none⟩, cap, rfl, hc, fun i cs hi => ?_, fun _ => ⟨g, rfl, hb, hgs⟩⟩
    rw [List.getElem?_map] at hi
    cases hx : l[i]? with
    | none => rw [hx] at hi; simp at hi
    | some x =>
      rw [hx] at hi
      simp at hi
      subst hi
      refine ⟨g, 0, rfl, hgs, fun j u hu => ?_⟩
      have hc := h.cells (g := g) rfl (i * sz + j) u (flat_at hs hx j u hu)
      rw [Addr.add_mid] at hc
      simpa [Nat.add_assoc] using hc
/-- one struct of owned rows, as a range -/
theorem flatRange {α : Type} {enc : α → List Value} {sz : Nat} (hs : ∀ a, (enc a).length = sz) {w : World} {base e g n c : Nat} {l : List α} (h : w.ownsRow base e sz (.slice (some ⟨g, 0, none⟩) n c) n (flat enc l)) {k : Nat} {x : α} (hk : l[k]? = some x) : w.rangeAt g (k * sz) (enc x) := fun j v hv => by
  have hc := h.cells (g := g) rfl (k * sz + j) v (flat_at hs hk j v hv)
  rwa [Addr.add_mid, Nat.zero_add] at hc
end Go.Proofs.YtbahooohkigcnaaDoor

namespace Go.Proofs.YtbahooohkigcnaaDoor
set_option maxRecDepth 20001
open Go.RowKit
set_option linter.unusedSimpArgs false
set_option linter.unusedVariables false
/-- the blocks of P may have changed, and new ones may be there; all else is as it was -/
def OgF (w w' : World) (P : Nat → Prop) : Prop := Below 0 w w' ∧ ∀ i, i < w.heap.size → ¬ P i → w'.heap[i]? = w.heap[i]?
section
variable {w z c z' : World} {h k : Nat} {old cs : Array Value} {t : TypeId} {P : Nat → Prop} {base e sz n : Nat} {v : Value} {xs : List Value} {B : Nat}
theorem OgF.refl (w : World) (P : Nat → Prop) : OgF w w P := ⟨Below.refl 0 w, fun _ _ _ => rfl⟩
theorem OgF.size (p : OgF w z P) : w.heap.size ≤ z.heap.size := p.1.size
theorem ogBelow (p : OgF w z P) (q : Below z.heap.size z c) : OgF w c P := ⟨p.1.trans (q.mono (Nat.zero_le _)), fun i hi hn => (q.block i (Nat.lt_of_lt_of_le hi p.1.size)).trans (p.2 i hi hn)⟩
theorem ogAlloc (p : OgF w z P) (o : Obj) : OgF w (z.alloc o) P := ogBelow p ((Below.refl _ _).alloc (Nat.le_refl _) o)
theorem ogDrew (p : OgF w z P) : OgF w z.drew P := ⟨belowDrewS p.1, p.2⟩
theorem ogDrewN (p : OgF w z P) (m : Nat) : OgF w (z.drewN m) P := ⟨belowDrewN p.1 m, p.2⟩
theorem ogRow (hk : P k ∨ w.heap.size ≤ k) (hz : z.heap[k]? = some (.cells old t (0, 0))) (p : OgF w z P) : OgF w (z.setRow k cs) P :=
  ⟨belowSet p.1 hz (Nat.zero_le _), fun i hi hn => (setRow_other z k i cs (fun e => by
    rcases hk with hk | hk
    · exact hn (by rw [e]; exact hk)
    · omega)).trans (p.2 i hi hn)⟩
theorem ogCells (hk : P k ∨ w.heap.size ≤ k) : ∀ (vs : List Value) (i : Nat) (z : World), OgF w z P → OgF w (z.setCells k i vs) P
  | [], _, _, p => p
  | v :: r, i, z, p => ogCells hk r (i + 1) (z.setCell ⟨k, i, none⟩ v) ⟨p.1.setCell (Nat.zero_le _) v, fun j hj hn => (Below.heap_setCell z ⟨k, i, none⟩ v j (fun e => by
    have e2 : j = k := e
    rcases hk with hk | hk
    · exact hn (by rw [e2]; exact hk)
    · omega)).trans (p.2 j hj hn)⟩
theorem ogOwnE (p : OgF w z P) (hg : z.grownBy z' v.ownBlock) (hP : ∀ i, v.ownBlock = some i → P i ∨ w.heap.size ≤ i) : OgF w z' P :=
  ⟨p.1.grown hg (Nat.zero_le _) (fun _ _ => Nat.zero_le _), fun i hi hn => (hg.block i (Nat.lt_of_lt_of_le hi p.1.size) (fun e => by
    rcases hP i e.symm with h | h
    · exact hn h
    · omega)).trans (p.2 i hi hn)⟩
theorem ogGrown (p : OgF w z P) (q : z.grownBy c (some h)) (hk : P h ∨ w.heap.size ≤ h) : OgF w c P :=
  ⟨p.1.grown q (Nat.zero_le _) (fun _ _ => Nat.zero_le _), fun i hi hn => (q.block i (Nat.lt_of_lt_of_le hi p.1.size) (fun e => by
    injection e with e
    rcases hk with hk | hk
    · exact hn (by rw [e]; exact hk)
    · omega)).trans (p.2 i hi hn)⟩
theorem OgF.toBelow (p : OgF w z P) (hP : ∀ i, P i → B ≤ i) (hB : B ≤ w.heap.size) : Below B w z :=
  ⟨p.1.os, p.1.tape, p.1.output, p.1.size, fun i hi => p.2 i (Nat.lt_of_lt_of_le hi hB) (fun h => by have := hP i h; omega)⟩
theorem OgF.heap {o : Obj} (q : OgF w z P) (p : w.heap[k]? = some o) (hn : ¬ P k) : z.heap[k]? = some o := (q.2 k (Array.getElem?_eq_some_iff.1 p).1 hn).trans p
theorem OgF.own (q : OgF w z P) (p : w.ownsRow base e sz v n xs) (hn : ∀ i, v.ownBlock = some i → ¬ P i) : z.ownsRow base e sz v n xs := by
  rcases p.2 with h0 | ⟨g, cap, cur, hv, hb', hg, rest⟩
  · exact ⟨p.1, Or.inl h0⟩
  · exact ⟨p.1, Or.inr ⟨g, cap, cur, hv, hb', q.heap hg (hn g (by rw [hv]; rfl)), rest⟩⟩
theorem ogKind {m : Nat × Nat} (hu : z.ownsRow base e sz v n xs) (hz : z.heap[k]? = some (.cells old t m)) (hne : t ≠ e) : v.ownBlock ≠ some k := by
  intro hb
  rcases hu.2 with ⟨hv, _⟩ | ⟨g, cap, cur, hv, _, hg, _⟩
  · rw [hv] at hb; cases hb
  · rw [hv] at hb
    have e1 : g = k := by injection hb
    subst e1
    rw [hz] at hg
    injection hg with hg
    injection hg with _ ht _
    exact hne ht
theorem ogCellsG (k : Nat) : ∀ (vs : List Value) (i : Nat) (z : World), z.grownBy (z.setCells k i vs) (some k)
  | [], _, z => ⟨rfl, rfl, rfl, Nat.le_refl _, fun _ _ _ => rfl⟩
  | v :: r, i, z => by
    have h1 := ogCellsG k r (i + 1) (z.setCell ⟨k, i, none⟩ v)
    have hs : (z.setCell ⟨k, i, none⟩ v).heap.size = z.heap.size := by simp
    exact ⟨h1.os, h1.tape, h1.output, by have := h1.size; rw [hs] at this; exact this, fun j hj hne => (h1.block j (by rw [hs]; exact hj) hne).trans (Below.heap_setCell z ⟨k, i, none⟩ v j (fun e => hne (by rw [e])))⟩
theorem ogOwnC (p : z.ownsRow base e sz v n xs) (hne : v.ownBlock ≠ some k) (vs : List Value) (i : Nat) : (z.setCells k i vs).ownsRow base e sz v n xs := p.kept (ogCellsG k vs i z) (Or.inr hne)
theorem ogOwnR (p : z.ownsRow base e sz v n xs) (hne : v.ownBlock ≠ some k) : (z.setRow k cs).ownsRow base e sz v n xs := p.kept ⟨rfl, rfl, rfl, by rw [setRow_size]; exact Nat.le_refl _, fun i _ hi => setRow_other z k i cs (fun e => hi (by rw [e]))⟩ (Or.inr hne)
theorem ogHeap {m : Nat × Nat} (p : z.heap[k]? = some (.cells cs t m)) (hu : z.ownsRow base e sz v n xs) (hne : t ≠ e) (hg : z.grownBy z' v.ownBlock) : z'.heap[k]? = some (.cells cs t m) :=
  (hg.block k (Array.getElem?_eq_some_iff.1 p).1 (fun e1 => ogKind hu p hne e1.symm)).trans p
theorem ogHeapB {m : Nat × Nat} (p : z.heap[k]? = some (.cells cs t m)) (hne : v.ownBlock ≠ some k) (hg : z.grownBy z' v.ownBlock) : z'.heap[k]? = some (.cells cs t m) :=
  (hg.block k (Array.getElem?_eq_some_iff.1 p).1 (fun e1 => hne e1.symm)).trans p
theorem ogRowAdd {cs : List Value} (p : z.heap[k]? = some (.cells cs.toArray t (0, 0))) : ∀ j u, cs[j]? = some u → z.cell? ((⟨k, 0, none⟩ : Addr).add j) = some u := fun j u hv => by
  rw [Addr.add_mid]; exact rowAt p j u hv
theorem ogFill {s : Nat} (hs : 0 < s) (x : List Value) (hx : x.length = s) (cells : Array Value) (hn : cells.size = s) : Instr.fill (fun i => some (i * s, s)) cells [(0, .agg x.toArray)] = some x.toArray := by
  have := Great.fill_whole (s := s) hs [Value.agg x.toArray] cells (by intro v hv; simp at hv; subst hv; simpa [Value.cells] using hx) (by simp [hn])
  simpa [Value.cells] using this
theorem ogCell0 {b : Nat} {cs : List Value} (h : w.rangeAt b 0 cs) (j : Nat) {v : Value} (hv : cs[j]? = some v) : w.cell? ⟨b, j, none⟩ = some v := by
  have := h j v hv
  rwa [Nat.zero_add] at this
theorem ogBuildH {P : Program} {o : Oper} {a : Act} {w : World} {K : Act → World → Prop} {Q : Exit → Act → World → Prop} (t : TypeId) (parts : Array (Nat × Operand)) (ho : o.op = .build t parts) (vs : List (Nat × Value)) (cells : Array Value) (hv : (parts.map fun (i, x) => (i, a.eval x)).toList = vs)
    (hf : P.built t vs = some cells) (h : K (a.put o.dst (.agg cells)) w) : o.wp P a w K Q :=
  wp_build t parts ho (by rw [hv, hf]; rfl) (by rw [hv, hf]; exact h)
end
end Go.Proofs.YtbahooohkigcnaaDoor

namespace Go.Proofs.YtbahooohkigcnaaDoor
set_option maxRecDepth 20001
open Go.RowKit
set_option linter.unusedSimpArgs false
set_option linter.unusedVariables false
section
variable {P : Program} (w : World)
theorem append_whereS (base : Nat) (t ty e : TypeId) (i : TypeInfo) (z : Value) (size bytes : Nat) (ht : P.underlying t = some (.slice e)) (hi : P.info? e = some i) (hz : i.zero = some z)
    (hsize : i.size = size) (hby : i.bytes = bytes) (hzs : z.cells.size = size) (hsz : 0 < size)
    (v : Value) (n : Nat) (xs : List Value) (hown : w.ownsRow base e size v n xs)
    (a : Addr) (m c : Nat) (news : List Value) (hl : news.length = m * size) (hnews : ∀ j u, news[j]? = some u → w.cell? (a.add j) = some u) (h1 : ∀ u ∈ news, u.oneCell' = true)
    (h63 : n + m ≤ maxLen) (hbytes : (n + m) * bytes ≤ 140737488355328)
    (v' : Value) (w' : World) (hrun : (Builtin.append_ #[t, t] ty #[v, .slice (some a) m c]).run P w = .ok v' w') : v'.ownBlock = none ∨ v'.ownBlock = v.ownBlock ∨ v'.ownBlock = some w.heap.size := by
  subst hby
  subst hsize
  have hsmall : n + m ≤ 9223372036854775807 := by simp only [maxLen] at h63; omega
  rcases hown.2 with ⟨rfl, rfl⟩ | ⟨g, cap, cur, rfl, hbg, hg, hnc, hcm, hcs, htake⟩
  · by_cases hm : m = 0
    · subst hm
      have hr : (Builtin.append_ #[t, t] ty #[.slice none 0 0, .slice (some a) 0 c]).run P w = .ok (.slice none 0 0) w := by
        simp [Builtin.append_, run_underlying ht, sizeOf, typeInfo, hi, Builtin.lenOf, Builtin.firstCells, loadCells, loadCellsFrom]
      rw [hr] at hrun
      injection hrun with h1 h2
      subst h1
      exact .inl rfl
    · have hr := run_append_nil (P := P) w t ty e i z ht hi hz a m c news hl hnews (by omega) (by omega) (by have hb := hbytes; simp only [Nat.zero_add] at hb; omega)
      rw [hr] at hrun
      injection hrun with h1 h2
      subst h1
      exact .inr (.inr rfl)
  · by_cases hroom : n + m ≤ cap
    · have hfit : n * i.size + news.length ≤ cur.size := by rw [hl, hcs, ← Nat.add_mul]; exact Nat.mul_le_mul_right _ hroom
      have hr := run_append_room (P := P) w t ty e i ht hi g n cap cur hg a m c news hl hnews h1 hroom hfit
      rw [hr] at hrun
      injection hrun with h1 h2
      subst h1
      exact .inr (.inl rfl)
    · have holds : ∀ j u, xs[j]? = some u → w.cell? ((⟨g, 0, none⟩ : Addr).add j) = some u := hown.cells (g := g) rfl
      have hr := run_append_grow (P := P) w t ty e i z ht hi hz ⟨g, 0, none⟩ n cap xs hown.1 holds a m c news hl hnews (by omega) (by omega) (growslice_fits (by omega) hbytes)
      rw [hr] at hrun
      injection hrun with h1 h2
      subst h1
      exact .inr (.inr rfl)
theorem wp_append_ownW {o : Oper} {a : Act} {K : Act → World → Prop} {Q : Exit → Act → World → Prop} (s x : Operand) (t : TypeId)
    (ho : o.op = .call { callee := .builtin .append, args := #[s, x], argTypes := #[t, t] })
    (base : Nat) (e : TypeId) (i : TypeInfo) (z : Value) (size bytes : Nat) (ht : P.underlying t = some (.slice e)) (hi : P.info? e = some i) (hz : i.zero = some z)
    (hsize : i.size = size) (hby : i.bytes = bytes) (hzs : z.cells.size = size) (hsz : 0 < size)
    (v : Value) (n : Nat) (xs : List Value) (hs : a.eval s = v) (hown : w.ownsRow base e size v n xs)
    (ad : Addr) (m c : Nat) (news : List Value) (hx : a.eval x = .slice (some ad) m c) (hl : news.length = m * size) (hnews : ∀ j u, news[j]? = some u → w.cell? (ad.add j) = some u) (h1 : ∀ u ∈ news, u.oneCell' = true)
    (h63 : n + m ≤ maxLen) (hbytes : (n + m) * bytes ≤ 140737488355328) (hbase : base ≤ w.heap.size)
    (h : ∀ v' w', w'.ownsRow base e size v' (n + m) (xs ++ news) → w.grownBy w' v.ownBlock → (v'.ownBlock = none ∨ v'.ownBlock = v.ownBlock ∨ v'.ownBlock = some w.heap.size) → K (a.put o.dst v') w') : o.wp P a w K Q := by
  obtain ⟨v', w', hr, h2, h3, h4⟩ := run_append_own (P := P) w base t o.type e i z size bytes ht hi hz hsize hby hzs hsz v n xs hown ad m c news hl hnews h1 h63 hbytes hbase
  have hw := append_whereS w base t o.type e i z size bytes ht hi hz hsize hby hzs hsz v n xs hown ad m c news hl hnews h1 h63 hbytes v' w' hr
  unfold Oper.wp execOp
  simp only [ho, resolve, invoke, builtin, Sem.run_bind, Sem.run_pure, Result.andThen_ok, List.map_toArray, List.map_cons, List.map_nil, hs, hx, hr]
  exact h v' w' h2 h3 hw
theorem wpList_append_ownW {ops : Array Oper} {rest : List Oper} {o : Oper} {a : Act} {Q : Exit → Act → World → Prop} (hgd : o.guard = none) (s x : Operand) (t : TypeId)
    (ho : o.op = .call { callee := .builtin .append, args := #[s, x], argTypes := #[t, t] })
    (base : Nat) (e : TypeId) (i : TypeInfo) (z : Value) (size bytes : Nat) (ht : P.underlying t = some (.slice e)) (hi : P.info? e = some i) (hz : i.zero = some z)
    (hsize : i.size = size) (hby : i.bytes = bytes) (hzs : z.cells.size = size) (hsz : 0 < size)
    (v : Value) (n : Nat) (xs : List Value) (hs : a.eval s = v) (hown : w.ownsRow base e size v n xs)
    (ad : Addr) (m c : Nat) (news : List Value) (hx : a.eval x = .slice (some ad) m c) (hl : news.length = m * size) (hnews : ∀ j u, news[j]? = some u → w.cell? (ad.add j) = some u) (h1 : ∀ u ∈ news, u.oneCell' = true)
    (h63 : n + m ≤ maxLen) (hbytes : (n + m) * bytes ≤ 140737488355328) (hbase : base ≤ w.heap.size)
    (h : ∀ v' w', w'.ownsRow base e size v' (n + m) (xs ++ news) → w.grownBy w' v.ownBlock → (v'.ownBlock = none ∨ v'.ownBlock = v.ownBlock ∨ v'.ownBlock = some w.heap.size) → wpList P ops Q rest (a.put o.dst v') w') : wpList P ops Q (o :: rest) a w :=
  wpList_plain hgd fun _ hK => wp_append_ownW w s x t ho base e i z size bytes ht hi hz hsize hby hzs hsz v n xs hs hown ad m c news hx hl hnews h1 h63 hbytes hbase fun v' w' h2 h3 h4 => hK _ _ (h v' w' h2 h3 h4)
end
end Go.Proofs.YtbahooohkigcnaaDoor

namespace Go.Proofs.YtbahooohkigcnaaDoor
set_option maxRecDepth 20001
open Go.RowKit T
set_option linter.unusedSimpArgs false
set_option linter.unusedVariables false

set_option maxHeartbeats 6400000 in
theorem lpromise_w (w : World) (B h : Nat) (L : Ld) (k : Int) (a : Ac) (hL : LdAt w h L) (hu : w.ownsRow B 39 16 (.slice L.A L.l.length L.c) L.l.length (acCells L.l)) (hB : B ≤ w.heap.size) (hlen : L.l.length ≤ 100000)
    (hp : L.pr < 18446744073709551616) (hz : ¬ (L.br = 0 ∧ L.bn = 0)) (hF : a.formed = true) (ok : CmOk w w.heap.size a.c) (hT : Tabs w) (h0 : 0 ≤ k) (h1 : k < L.n) (hk : Q.hasB L.pr k = false) :
    Calls Tryd.prog 36 #[.pointer (some ⟨h, 0, none⟩), .int .i64 k, bal L.br L.bn, .agg a.cells.toArray] w fun e w' => e = .returned (.bool true) ∧ ∃ A' c', LdAt w' h { L with pr := Q.addN L.pr k, l := L.l ++ [a], A := A', c := c', fs := max L.fs a.sl } ∧ w'.ownsRow B 39 16 (.slice A' (L.l ++ [a]).length c') (L.l ++ [a]).length (acCells (L.l ++ [a])) ∧ ((Value.slice A' (L.l ++ [a]).length c').ownBlock = (Value.slice L.A L.l.length L.c).ownBlock ∨ ∀ g, (Value.slice A' (L.l ++ [a]).length c').ownBlock = some g → w.heap.size ≤ g) ∧ Fr w w' (fun i => i = h ∨ (Value.slice L.A L.l.length L.c).ownBlock = some i) := by
  obtain ⟨i1, hi1, hz10, hz11, hz12⟩ := info_parts lgInfoAc
  have hlt : h < w.heap.size := (Array.getElem?_eq_some_iff.1 hL).1
  have hPown : ∀ i, (Value.slice L.A L.l.length L.c).ownBlock = some i → (fun i => i = h ∨ (Value.slice L.A L.l.length L.c).ownBlock = some i) i ∨ w.heap.size ≤ i := fun i hi => Or.inl (Or.inr hi)
  have hlow : (Value.slice L.A L.l.length L.c).ownBlock ≠ some (w.heap.size + 1) := fun hb => by have := (hu.lt _ hb).2; omega
  have HQ := Lib.hid (fun z => has_any L.pr k z hp)
  rw [hk] at HQ
  have HA := Lib.hid (fun z => add_any L.pr k z hp)
  have HFO := Lib.hid (fun z (hz : Below w.heap.size w z) => c_formed a z w.heap.size hz.size (ok.below hz (Nat.le_refl _)) (hT.below hz))
  rw [hF] at HFO
  have hI := run_neBal L.br L.bn L.br L.bn
  rw [decide_eq_true (⟨rfl, rfl⟩ : L.br = L.br ∧ L.bn = L.bn)] at hI
  have hJ : ∀ z, (binOp .eql 28 (.agg #[.int .u32 (L.br : Int), .int .i64 L.bn]) (.agg #[.int .u32 0, .int .i64 0])).run Tryd.prog z = .ok (.bool false) z := fun z => by
    have := run_eqBal9 L.br L.bn 0 0 z
    rw [decide_eq_false hz] at this
    exact this
  have e4 : decide (k < 0) = false := decide_eq_false (by omega)
  have e5 : decide (L.n ≤ k) = false := decide_eq_false (by omega)
  clear hk hF ok hT hz h0 h1 hp
  obtain ⟨w0, hw0⟩ : ∃ w0, w0 = (w.alloc (.cells [.int .u32 (L.br : Int), .int .i64 L.bn].toArray 28)).alloc (.cells a.cells.toArray 39) := ⟨_, rfl⟩
  have e0 : Below w.heap.size w w0 := by rw [hw0]; exact ((Below.refl _ _).alloc (Nat.le_refl _) _).alloc (by simp) _
  have ee : Fr w w0 (fun i => i = h ∨ (Value.slice L.A L.l.length L.c).ownBlock = some i) := by rw [hw0]; exact frAlloc (frAlloc (Fr.refl _ _) _) _
  have Zl : w0.heap[h]? = some (.cells L.cells.toArray 144) := by rw [hw0]; exact hpA (hpA hL _) _
  have Zb : w0.heap[w.heap.size]? = some (.cells [.int .u32 (L.br : Int), .int .i64 L.bn].toArray 28) := by rw [hw0]; exact hpA (hpN _ _ rfl) _
  have Za : w0.heap[w.heap.size + 1]? = some (.cells a.cells.toArray 39) := by rw [hw0]; exact hpN _ _ (by simp)
  have hu : w0.ownsRow B 39 16 (.slice L.A L.l.length L.c) L.l.length (acCells L.l) := by rw [hw0]; exact (hu.alloc _).alloc _
  go_enter Tryd.func36, Tryd.ntmps36
  go_upto_region 1 with fail
  change Code.wp _ _ _ _ ((w.alloc (.cells [.int .u32 (L.br : Int), .int .i64 L.bn].toArray 28)).alloc (.cells a.cells.toArray 39))
  rw [← hw0]
  clear hw0 hL
  have e0 := belowDrewS e0
  have Zl : w0.drew.heap[h]? = some (.cells L.cells.toArray 144) := Zl
  have Zb : w0.drew.heap[w.heap.size]? = some (.cells [.int .u32 (L.br : Int), .int .i64 L.bn].toArray 28) := Zb
  have Za : w0.drew.heap[w.heap.size + 1]? = some (.cells a.cells.toArray 39) := Za
  have hu := World.ownsRow.drew hu
  have ee := frDrew ee
  refine wp_region_held_drew (S := fun z' => z'.rangeAt h 0 L.cells ∧ z'.rangeAt h 2 [.int .u32 (L.br : Int), .int .i64 L.bn] ∧ z'.rangeAt w.heap.size 0 [.int .u32 (L.br : Int), .int .i64 L.bn] ∧ z'.rangeAt (w.heap.size + 1) 0 a.cells) (by kernel_rfl) ⟨rowAt Zl, rowMid Zl 2 (Ld.ballot L), rowAt Zb, rowAt Za⟩ (fun hH => ?_)
  clear hH
  generalize w0.drew = z1 at Zl Zb Za hu e0 ee ⊢
  refine wpAnyH_take (i := 0) (v := .pointer (some ⟨h, 0, none⟩)) rfl (by kernel_rfl) (by kernel_rfl) (by kernel_rfl) (fun _ _ _ h => h) (Or.inl ⟨by rfl, fun w_ hS_ => by (first | (go_simp; done) | (go_simp; rfl))⟩) ⟨rowAt Zl, rowMid Zl 2 (Ld.ballot L), rowAt Zb, rowAt Za⟩ ?_
  try simp only [Act.put, List.getElem_toArray, List.getElem_cons_zero, List.getElem_cons_succ, List.setIfInBounds_toArray, List.set_cons_zero, List.set_cons_succ]
  refine wpAnyH_take (i := 1) (v := .bool false) rfl (by kernel_rfl) (by kernel_rfl) (by kernel_rfl) (fun _ _ _ h => h) (Or.inl ⟨by rfl, fun w_ hS_ => by (first | (go_simp; done) | (go_simp; rfl))⟩) ⟨rowAt Zl, rowMid Zl 2 (Ld.ballot L), rowAt Zb, rowAt Za⟩ ?_
  try simp only [Act.put, List.getElem_toArray, List.getElem_cons_zero, List.getElem_cons_succ, List.setIfInBounds_toArray, List.set_cons_zero, List.set_cons_succ]
  refine wpAnyH_take (i := 2) (v := .bool false) rfl (by kernel_rfl) (by kernel_rfl) (by kernel_rfl) (fun _ _ _ h => h) (Or.inl ⟨by rfl, fun w_ hS_ => by (first | (go_simp; done) | (go_simp; rfl))⟩) ⟨rowAt Zl, rowMid Zl 2 (Ld.ballot L), rowAt Zb, rowAt Za⟩ ?_
  try simp only [Act.put, List.getElem_toArray, List.getElem_cons_zero, List.getElem_cons_succ, List.setIfInBounds_toArray, List.set_cons_zero, List.set_cons_succ]
  refine wpAnyH_take (i := 3) (v := .agg ([.int .u32 (L.br : Int), .int .i64 L.bn]).toArray) rfl (by kernel_rfl) (by kernel_rfl) (by kernel_rfl) (fun _ _ _ h => h) (yieldsIf_load_mid (by rfl) 28 _ rfl (w.heap.size) 0 rfl ([.int .u32 (L.br : Int), .int .i64 L.bn]) _ (fun _ h => h.2.2.1) Tryd.underlying28 rfl sizeBal) ⟨rowAt Zl, rowMid Zl 2 (Ld.ballot L), rowAt Zb, rowAt Za⟩ ?_
  try simp only [Act.put, List.getElem_toArray, List.getElem_cons_zero, List.getElem_cons_succ, List.setIfInBounds_toArray, List.set_cons_zero, List.set_cons_succ]
  refine wpAnyH_take (i := 4) (v := .pointer (some ⟨h, 0, none⟩)) rfl (by kernel_rfl) (by kernel_rfl) (by kernel_rfl) (fun _ _ _ h => h) (Or.inl ⟨by rfl, fun w_ hS_ => by (first | (go_simp; done) | (go_simp; rfl))⟩) ⟨rowAt Zl, rowMid Zl 2 (Ld.ballot L), rowAt Zb, rowAt Za⟩ ?_
  try simp only [Act.put, List.getElem_toArray, List.getElem_cons_zero, List.getElem_cons_succ, List.setIfInBounds_toArray, List.set_cons_zero, List.set_cons_succ]
  refine wpAnyH_take (i := 5) (v := .pointer (some ⟨h, 0, none⟩)) rfl (by kernel_rfl) (by kernel_rfl) (by kernel_rfl) (fun _ _ _ h => h) (Or.inl ⟨by rfl, fun w_ hS_ => by (first | (go_simp; done) | (go_simp; rfl))⟩) ⟨rowAt Zl, rowMid Zl 2 (Ld.ballot L), rowAt Zb, rowAt Za⟩ ?_
  try simp only [Act.put, List.getElem_toArray, List.getElem_cons_zero, List.getElem_cons_succ, List.setIfInBounds_toArray, List.set_cons_zero, List.set_cons_succ]
  refine wpAnyH_take (i := 6) (v := .pointer (some ⟨h, 2, none⟩)) rfl (by kernel_rfl) (by kernel_rfl) (by kernel_rfl) (fun _ _ _ h => h) (Or.inl ⟨by rfl, fun w_ hS_ => by (first | (go_simp; done) | (go_simp; rfl))⟩) ⟨rowAt Zl, rowMid Zl 2 (Ld.ballot L), rowAt Zb, rowAt Za⟩ ?_
  try simp only [Act.put, List.getElem_toArray, List.getElem_cons_zero, List.getElem_cons_succ, List.setIfInBounds_toArray, List.set_cons_zero, List.set_cons_succ]
  refine wpAnyH_take (i := 7) (v := .agg ([.int .u32 (L.br : Int), .int .i64 L.bn]).toArray) rfl (by kernel_rfl) (by kernel_rfl) (by kernel_rfl) (fun _ _ _ h => h) (yieldsIf_load_mid (by rfl) 28 _ rfl (h) (2) rfl ([.int .u32 (L.br : Int), .int .i64 L.bn]) _ (fun _ h => h.2.1) Tryd.underlying28 rfl sizeBal) ⟨rowAt Zl, rowMid Zl 2 (Ld.ballot L), rowAt Zb, rowAt Za⟩ ?_
  try simp only [Act.put, List.getElem_toArray, List.getElem_cons_zero, List.getElem_cons_succ, List.setIfInBounds_toArray, List.set_cons_zero, List.set_cons_succ]
  refine wpAnyH_take (i := 8) (v := .bool false) rfl (by kernel_rfl) (by kernel_rfl) (by kernel_rfl) (fun _ _ _ h => h) (Or.inl ⟨by rfl, fun w_ hS_ => by (first | (go_simp; done) | (go_simp; rfl))⟩) ⟨rowAt Zl, rowMid Zl 2 (Ld.ballot L), rowAt Zb, rowAt Za⟩ ?_
  try simp only [Act.put, List.getElem_toArray, List.getElem_cons_zero, List.getElem_cons_succ, List.setIfInBounds_toArray, List.set_cons_zero, List.set_cons_succ]
  refine wpAnyH_take (i := 9) (v := .bool false) rfl (by kernel_rfl) (by kernel_rfl) (by kernel_rfl) (fun _ _ _ h => h) (Or.inl ⟨by rfl, fun w_ hS_ => by (first | (go_simp; done) | (go_simp; rfl))⟩) ⟨rowAt Zl, rowMid Zl 2 (Ld.ballot L), rowAt Zb, rowAt Za⟩ ?_
  try simp only [Act.put, List.getElem_toArray, List.getElem_cons_zero, List.getElem_cons_succ, List.setIfInBounds_toArray, List.set_cons_zero, List.set_cons_succ]
  refine wpAnyH_take (i := 10) (v := .bool false) rfl (by kernel_rfl) (by kernel_rfl) (by kernel_rfl) (fun _ _ _ h => h) (Or.inl ⟨by rfl, fun w_ hS_ => by (first | (go_simp; done) | (go_simp; rfl))⟩) ⟨rowAt Zl, rowMid Zl 2 (Ld.ballot L), rowAt Zb, rowAt Za⟩ ?_
  try simp only [Act.put, List.getElem_toArray, List.getElem_cons_zero, List.getElem_cons_succ, List.setIfInBounds_toArray, List.set_cons_zero, List.set_cons_succ]
  refine wpAnyH_take (i := 11) (v := .agg ([.int .u32 (L.br : Int), .int .i64 L.bn]).toArray) rfl (by kernel_rfl) (by kernel_rfl) (by kernel_rfl) (fun _ _ _ h => h) (yieldsIf_load_mid (by rfl) 28 _ rfl (w.heap.size) 0 rfl ([.int .u32 (L.br : Int), .int .i64 L.bn]) _ (fun _ h => h.2.2.1) Tryd.underlying28 rfl sizeBal) ⟨rowAt Zl, rowMid Zl 2 (Ld.ballot L), rowAt Zb, rowAt Za⟩ ?_
  try simp only [Act.put, List.getElem_toArray, List.getElem_cons_zero, List.getElem_cons_succ, List.setIfInBounds_toArray, List.set_cons_zero, List.set_cons_succ]
  refine wpAnyH_take (i := 12) (v := .agg #[.int .u32 0, .int .i64 0]) rfl (by kernel_rfl) (by kernel_rfl) (by kernel_rfl) (fun _ _ _ h => h) (Or.inl ⟨by rfl, fun w_ hS_ => by (first | (go_simp; done) | (go_simp; rfl))⟩) ⟨rowAt Zl, rowMid Zl 2 (Ld.ballot L), rowAt Zb, rowAt Za⟩ ?_
  try simp only [Act.put, List.getElem_toArray, List.getElem_cons_zero, List.getElem_cons_succ, List.setIfInBounds_toArray, List.set_cons_zero, List.set_cons_succ]
  refine wpAnyH_take (i := 13) (v := .bool false) rfl (by kernel_rfl) (by kernel_rfl) (by kernel_rfl) (fun _ _ _ h => h) (Or.inl ⟨by rfl, fun w_ hS_ => by (first | (go_simp; done) | (go_simp; rfl))⟩) ⟨rowAt Zl, rowMid Zl 2 (Ld.ballot L), rowAt Zb, rowAt Za⟩ ?_
  try simp only [Act.put, List.getElem_toArray, List.getElem_cons_zero, List.getElem_cons_succ, List.setIfInBounds_toArray, List.set_cons_zero, List.set_cons_succ]
  refine wpAnyH_take (i := 14) (v := .bool false) rfl (by kernel_rfl) (by kernel_rfl) (by kernel_rfl) (fun _ _ _ h => h) (Or.inl ⟨by rfl, fun w_ hS_ => by (first | (go_simp; done) | (go_simp; rfl))⟩) ⟨rowAt Zl, rowMid Zl 2 (Ld.ballot L), rowAt Zb, rowAt Za⟩ ?_
  try simp only [Act.put, List.getElem_toArray, List.getElem_cons_zero, List.getElem_cons_succ, List.setIfInBounds_toArray, List.set_cons_zero, List.set_cons_succ]
  refine wpAnyH_take (i := 15) (v := .bool false) rfl (by kernel_rfl) (by kernel_rfl) (by kernel_rfl) (fun _ _ _ h => h) (Or.inl ⟨by rfl, fun w_ hS_ => by (first | (go_simp; done) | (go_simp; rfl))⟩) ⟨rowAt Zl, rowMid Zl 2 (Ld.ballot L), rowAt Zb, rowAt Za⟩ ?_
  try simp only [Act.put, List.getElem_toArray, List.getElem_cons_zero, List.getElem_cons_succ, List.setIfInBounds_toArray, List.set_cons_zero, List.set_cons_succ]
  refine wpAnyH_take (i := 16) (v := .agg (a.cells).toArray) rfl (by kernel_rfl) (by kernel_rfl) (by kernel_rfl) (fun _ _ _ h => h) (yieldsIf_load_mid (by rfl) 39 _ rfl (w.heap.size + 1) 0 rfl (a.cells) _ (fun _ h => h.2.2.2) Tryd.underlying39 rfl sizeAc) ⟨rowAt Zl, rowMid Zl 2 (Ld.ballot L), rowAt Zb, rowAt Za⟩ ?_
  try simp only [Act.put, List.getElem_toArray, List.getElem_cons_zero, List.getElem_cons_succ, List.setIfInBounds_toArray, List.set_cons_zero, List.set_cons_succ]
  refine wpAnyH_ready (rs := [17]) (by kernel_rfl) (by simp) ?_
  refine AllReadyH.cons rfl (fun K hK => ?_) AllReadyH.nil
  rw [if_pos (by rfl)]
  go_simp
  go_wp2_with (go_at_call 20; refine (HFO.out z1 e0).mono ?_; rintro e z2 ⟨rfl, t⟩)
  have Zl := hpB Zl t
  have Zb := hpB Zb t
  have Za := hpB Za t
  have hu := ownBelow hu t
  have ee := frBelow ee t
  have e0 := e0.trans (t.mono e0.size)
  clear t
  refine hK.out _ _ ⟨rowAt Zl, rowMid Zl 2 (Ld.ballot L), rowAt Zb, rowAt Za⟩ (fun hH => ?_)
  clear hK K hH
  try simp only [Act.put, List.getElem_toArray, List.getElem_cons_zero, List.getElem_cons_succ, List.setIfInBounds_toArray, List.set_cons_zero, List.set_cons_succ]
  refine wpAnyH_take (i := 18) (v := .bool false) rfl (by kernel_rfl) (by kernel_rfl) (by kernel_rfl) (fun _ _ _ h => h) (Or.inl ⟨by rfl, fun w_ hS_ => by (first | (go_simp; done) | (go_simp; rfl))⟩) ⟨rowAt Zl, rowMid Zl 2 (Ld.ballot L), rowAt Zb, rowAt Za⟩ ?_
  try simp only [Act.put, List.getElem_toArray, List.getElem_cons_zero, List.getElem_cons_succ, List.setIfInBounds_toArray, List.set_cons_zero, List.set_cons_succ]
  refine wpAnyH_take (i := 19) (v := .bool false) rfl (by kernel_rfl) (by kernel_rfl) (by kernel_rfl) (fun _ _ _ h => h) (Or.inl ⟨by rfl, fun w_ hS_ => by (first | (go_simp; done) | (go_simp; rfl))⟩) ⟨rowAt Zl, rowMid Zl 2 (Ld.ballot L), rowAt Zb, rowAt Za⟩ ?_
  try simp only [Act.put, List.getElem_toArray, List.getElem_cons_zero, List.getElem_cons_succ, List.setIfInBounds_toArray, List.set_cons_zero, List.set_cons_succ]
  refine wpAnyH_take (i := 20) (v := .bool false) rfl (by kernel_rfl) (by kernel_rfl) (by kernel_rfl) (fun _ _ _ h => h) (Or.inl ⟨by rfl, fun w_ hS_ => by (first | (go_simp; done) | (go_simp; rfl))⟩) ⟨rowAt Zl, rowMid Zl 2 (Ld.ballot L), rowAt Zb, rowAt Za⟩ ?_
  try simp only [Act.put, List.getElem_toArray, List.getElem_cons_zero, List.getElem_cons_succ, List.setIfInBounds_toArray, List.set_cons_zero, List.set_cons_succ]
  refine wpAnyH_take (i := 21) (v := .int .i64 k) rfl (by kernel_rfl) (by kernel_rfl) (by kernel_rfl) (fun _ _ _ h => h) (Or.inl ⟨by rfl, fun w_ hS_ => by (first | (go_simp; done) | (go_simp; rfl))⟩) ⟨rowAt Zl, rowMid Zl 2 (Ld.ballot L), rowAt Zb, rowAt Za⟩ ?_
  try simp only [Act.put, List.getElem_toArray, List.getElem_cons_zero, List.getElem_cons_succ, List.setIfInBounds_toArray, List.set_cons_zero, List.set_cons_succ]
  refine wpAnyH_take (i := 22) (v := .bool false) rfl (by kernel_rfl) (by kernel_rfl) (by kernel_rfl) (fun _ _ _ h => h) (Or.inl ⟨by rfl, fun w_ hS_ => by (first | (go_simp; done) | (go_simp; rfl))⟩) ⟨rowAt Zl, rowMid Zl 2 (Ld.ballot L), rowAt Zb, rowAt Za⟩ ?_
  try simp only [Act.put, List.getElem_toArray, List.getElem_cons_zero, List.getElem_cons_succ, List.setIfInBounds_toArray, List.set_cons_zero, List.set_cons_succ]
  refine wpAnyH_take (i := 23) (v := .bool false) rfl (by kernel_rfl) (by kernel_rfl) (by kernel_rfl) (fun _ _ _ h => h) (Or.inl ⟨by rfl, fun w_ hS_ => by (first | (go_simp; done) | (go_simp; rfl))⟩) ⟨rowAt Zl, rowMid Zl 2 (Ld.ballot L), rowAt Zb, rowAt Za⟩ ?_
  try simp only [Act.put, List.getElem_toArray, List.getElem_cons_zero, List.getElem_cons_succ, List.setIfInBounds_toArray, List.set_cons_zero, List.set_cons_succ]
  refine wpAnyH_take (i := 24) (v := .bool false) rfl (by kernel_rfl) (by kernel_rfl) (by kernel_rfl) (fun _ _ _ h => h) (Or.inl ⟨by rfl, fun w_ hS_ => by (first | (go_simp; done) | (go_simp; rfl))⟩) ⟨rowAt Zl, rowMid Zl 2 (Ld.ballot L), rowAt Zb, rowAt Za⟩ ?_
  try simp only [Act.put, List.getElem_toArray, List.getElem_cons_zero, List.getElem_cons_succ, List.setIfInBounds_toArray, List.set_cons_zero, List.set_cons_succ]
  refine wpAnyH_take (i := 25) (v := .int .i64 k) rfl (by kernel_rfl) (by kernel_rfl) (by kernel_rfl) (fun _ _ _ h => h) (Or.inl ⟨by rfl, fun w_ hS_ => by (first | (go_simp; done) | (go_simp; rfl))⟩) ⟨rowAt Zl, rowMid Zl 2 (Ld.ballot L), rowAt Zb, rowAt Za⟩ ?_
  try simp only [Act.put, List.getElem_toArray, List.getElem_cons_zero, List.getElem_cons_succ, List.setIfInBounds_toArray, List.set_cons_zero, List.set_cons_succ]
  refine wpAnyH_take (i := 26) (v := .pointer (some ⟨h, 0, none⟩)) rfl (by kernel_rfl) (by kernel_rfl) (by kernel_rfl) (fun _ _ _ h => h) (Or.inl ⟨by rfl, fun w_ hS_ => by (first | (go_simp; done) | (go_simp; rfl))⟩) ⟨rowAt Zl, rowMid Zl 2 (Ld.ballot L), rowAt Zb, rowAt Za⟩ ?_
  try simp only [Act.put, List.getElem_toArray, List.getElem_cons_zero, List.getElem_cons_succ, List.setIfInBounds_toArray, List.set_cons_zero, List.set_cons_succ]
  refine wpAnyH_take (i := 27) (v := .pointer (some ⟨h, 0, none⟩)) rfl (by kernel_rfl) (by kernel_rfl) (by kernel_rfl) (fun _ _ _ h => h) (Or.inl ⟨by rfl, fun w_ hS_ => by (first | (go_simp; done) | (go_simp; rfl))⟩) ⟨rowAt Zl, rowMid Zl 2 (Ld.ballot L), rowAt Zb, rowAt Za⟩ ?_
  try simp only [Act.put, List.getElem_toArray, List.getElem_cons_zero, List.getElem_cons_succ, List.setIfInBounds_toArray, List.set_cons_zero, List.set_cons_succ]
  refine wpAnyH_take (i := 28) (v := .pointer (some ⟨h, 0, none⟩)) rfl (by kernel_rfl) (by kernel_rfl) (by kernel_rfl) (fun _ _ _ h => h) (Or.inl ⟨by rfl, fun w_ hS_ => by (first | (go_simp; done) | (go_simp; rfl))⟩) ⟨rowAt Zl, rowMid Zl 2 (Ld.ballot L), rowAt Zb, rowAt Za⟩ ?_
  try simp only [Act.put, List.getElem_toArray, List.getElem_cons_zero, List.getElem_cons_succ, List.setIfInBounds_toArray, List.set_cons_zero, List.set_cons_succ]
  refine wpAnyH_take (i := 29) (v := .int .i64 L.n) rfl (by kernel_rfl) (by kernel_rfl) (by kernel_rfl) (fun _ _ _ h => h) (Or.inl ⟨by rfl, fun w_ hS_ => by (have c_ := rangeCell0 hS_.1 0 rfl; go_simp)⟩) ⟨rowAt Zl, rowMid Zl 2 (Ld.ballot L), rowAt Zb, rowAt Za⟩ ?_
  try simp only [Act.put, List.getElem_toArray, List.getElem_cons_zero, List.getElem_cons_succ, List.setIfInBounds_toArray, List.set_cons_zero, List.set_cons_succ]
  refine wpAnyH_take (i := 30) (v := .bool false) rfl (by kernel_rfl) (by kernel_rfl) (by kernel_rfl) (fun _ _ _ h => h) (Or.inl ⟨by rfl, fun w_ hS_ => by (first | (go_simp; done) | (go_simp; rfl))⟩) ⟨rowAt Zl, rowMid Zl 2 (Ld.ballot L), rowAt Zb, rowAt Za⟩ ?_
  try simp only [Act.put, List.getElem_toArray, List.getElem_cons_zero, List.getElem_cons_succ, List.setIfInBounds_toArray, List.set_cons_zero, List.set_cons_succ]
  refine wpAnyH_take (i := 31) (v := .bool false) rfl (by kernel_rfl) (by kernel_rfl) (by kernel_rfl) (fun _ _ _ h => h) (Or.inl ⟨by rfl, fun w_ hS_ => by (first | (go_simp; done) | (go_simp; rfl))⟩) ⟨rowAt Zl, rowMid Zl 2 (Ld.ballot L), rowAt Zb, rowAt Za⟩ ?_
  try simp only [Act.put, List.getElem_toArray, List.getElem_cons_zero, List.getElem_cons_succ, List.setIfInBounds_toArray, List.set_cons_zero, List.set_cons_succ]
  refine wpAnyH_take (i := 32) (v := .bool false) rfl (by kernel_rfl) (by kernel_rfl) (by kernel_rfl) (fun _ _ _ h => h) (Or.inl ⟨by rfl, fun w_ hS_ => by (first | (go_simp; done) | (go_simp; rfl))⟩) ⟨rowAt Zl, rowMid Zl 2 (Ld.ballot L), rowAt Zb, rowAt Za⟩ ?_
  try simp only [Act.put, List.getElem_toArray, List.getElem_cons_zero, List.getElem_cons_succ, List.setIfInBounds_toArray, List.set_cons_zero, List.set_cons_succ]
  refine wpAnyH_take (i := 33) (v := .pointer (some ⟨h, 0, none⟩)) rfl (by kernel_rfl) (by kernel_rfl) (by kernel_rfl) (fun _ _ _ h => h) (Or.inl ⟨by rfl, fun w_ hS_ => by (first | (go_simp; done) | (go_simp; rfl))⟩) ⟨rowAt Zl, rowMid Zl 2 (Ld.ballot L), rowAt Zb, rowAt Za⟩ ?_
  try simp only [Act.put, List.getElem_toArray, List.getElem_cons_zero, List.getElem_cons_succ, List.setIfInBounds_toArray, List.set_cons_zero, List.set_cons_succ]
  refine wpAnyH_take (i := 34) (v := .pointer (some ⟨h, 0, none⟩)) rfl (by kernel_rfl) (by kernel_rfl) (by kernel_rfl) (fun _ _ _ h => h) (Or.inl ⟨by rfl, fun w_ hS_ => by (first | (go_simp; done) | (go_simp; rfl))⟩) ⟨rowAt Zl, rowMid Zl 2 (Ld.ballot L), rowAt Zb, rowAt Za⟩ ?_
  try simp only [Act.put, List.getElem_toArray, List.getElem_cons_zero, List.getElem_cons_succ, List.setIfInBounds_toArray, List.set_cons_zero, List.set_cons_succ]
  refine wpAnyH_take (i := 35) (v := .pointer (some ⟨h, 4, none⟩)) rfl (by kernel_rfl) (by kernel_rfl) (by kernel_rfl) (fun _ _ _ h => h) (Or.inl ⟨by rfl, fun w_ hS_ => by (first | (go_simp; done) | (go_simp; rfl))⟩) ⟨rowAt Zl, rowMid Zl 2 (Ld.ballot L), rowAt Zb, rowAt Za⟩ ?_
  try simp only [Act.put, List.getElem_toArray, List.getElem_cons_zero, List.getElem_cons_succ, List.setIfInBounds_toArray, List.set_cons_zero, List.set_cons_succ]
  refine wpAnyH_take (i := 36) (v := .int .u64 (L.pr : Int)) rfl (by kernel_rfl) (by kernel_rfl) (by kernel_rfl) (fun _ _ _ h => h) (Or.inl ⟨by rfl, fun w_ hS_ => by (have c_ := rangeCell0 hS_.1 4 rfl; go_simp)⟩) ⟨rowAt Zl, rowMid Zl 2 (Ld.ballot L), rowAt Zb, rowAt Za⟩ ?_
  try simp only [Act.put, List.getElem_toArray, List.getElem_cons_zero, List.getElem_cons_succ, List.setIfInBounds_toArray, List.set_cons_zero, List.set_cons_succ]
  refine wpAnyH_take (i := 37) (v := .int .i64 k) rfl (by kernel_rfl) (by kernel_rfl) (by kernel_rfl) (fun _ _ _ h => h) (Or.inl ⟨by rfl, fun w_ hS_ => by (first | (go_simp; done) | (go_simp; rfl))⟩) ⟨rowAt Zl, rowMid Zl 2 (Ld.ballot L), rowAt Zb, rowAt Za⟩ ?_
  try simp only [Act.put, List.getElem_toArray, List.getElem_cons_zero, List.getElem_cons_succ, List.setIfInBounds_toArray, List.set_cons_zero, List.set_cons_succ]
  refine wpAnyH_ready (rs := [38]) (by kernel_rfl) (by simp) ?_
  refine AllReadyH.cons rfl (fun K hK => ?_) AllReadyH.nil
  rw [if_pos (by rfl)]
  go_simp
  go_wp2_with (go_at_call 80; refine (HQ.out z2).mono ?_; rintro e z3 ⟨rfl, hw_⟩; rw [← hw_]; clear hw_ z3)
  refine hK.out _ _ ⟨rowAt Zl, rowMid Zl 2 (Ld.ballot L), rowAt Zb, rowAt Za⟩ (fun hH => ?_)
  clear hK K hH
  try simp only [Act.put, List.getElem_toArray, List.getElem_cons_zero, List.getElem_cons_succ, List.setIfInBounds_toArray, List.set_cons_zero, List.set_cons_succ]
  refine wpAnyH_take (i := 39) (v := .bool false) rfl (by kernel_rfl) (by kernel_rfl) (by kernel_rfl) (fun _ _ _ h => h) (Or.inl ⟨by rfl, fun w_ hS_ => by (first | (go_simp; done) | (go_simp; rfl))⟩) ⟨rowAt Zl, rowMid Zl 2 (Ld.ballot L), rowAt Zb, rowAt Za⟩ ?_
  try simp only [Act.put, List.getElem_toArray, List.getElem_cons_zero, List.getElem_cons_succ, List.setIfInBounds_toArray, List.set_cons_zero, List.set_cons_succ]
  refine wpAnyH_done (by kernel_rfl) ?_ _
  clear e0 HQ HFO hI hJ e4 e5
  go_upto_region 3 with fail
  refine wp_region_lit ?_
  have c4 := rowCell Zl 4 rfl
  go_wp2_with fail
  refine (HA.out z2).mono ?_
  rintro e z4 ⟨rfl, hw_⟩
  rw [← hw_]
  clear hw_ z4 HA c4
  dsimp only
  rename_i hK
  refine hK _ _ ?_
  clear hK
  iterate 40 (first | with_reducible refine isStore (ty := 35) rfl ?_ | go_step)
  have f_ : z2.frozen? ⟨h, 4, none⟩ = false := freeAt Zl 4
  have c_ := rowCell Zl 4 rfl
  iterate 3 go_step
  clear f_ c_
  have hu := lgOwnC hu (lgKind hu Zl (by decide)) ([.int .u64 (Q.addN L.pr k : Int)]) 4
  have N_ : (z2.setCells (h) 4 ([.int .u64 (Q.addN L.pr k : Int)])).heap[h]? = some (.cells ([.int .i64 L.n, .int .i64 L.nd, .int .u32 (L.br : Int), .int .i64 L.bn, .int .u64 (Q.addN L.pr k : Int), .slice L.A L.l.length L.c, .int .i64 L.fs, .int .i64 L.sl, .int .i64 L.x.k, .int .i64 L.x.s, .int .i64 L.x.q, .slice L.x.A1 L.x.rs.length L.x.c1, .slice L.x.A2 L.x.ws.length L.x.c2, .int .i64 L.x.i, .int .i64 L.x.j, .int .i64 L.x.g, .int .u64 (L.x.st : Int), .bool L.x.y, .int .u64 (L.vt : Int)]).toArray 144) := hpC ([.int .u64 (Q.addN L.pr k : Int)]) 4 _ z2 Zl
  have ee := frCells (k := h) (by first | (right; omega) | (left; left; rfl)) ([.int .u64 (Q.addN L.pr k : Int)]) 4 z2 ee
  have Zb := hpCo (g' := h) (by omega) ([.int .u64 (Q.addN L.pr k : Int)]) 4 z2 Zb
  have Za := hpCo (g' := h) (by omega) ([.int .u64 (Q.addN L.pr k : Int)]) 4 z2 Za
  clear Zl
  have Zl := N_
  clear N_
  change wpList _ _ _ _ _ (z2.setCells (h) 4 ([.int .u64 (Q.addN L.pr k : Int)]))
  generalize z2.setCells (h) 4 ([.int .u64 (Q.addN L.pr k : Int)]) = z5 at Zl Zb Za hu ee ⊢
  generalize hvt : Q.addN L.pr k = pr2 at Zl ⊢
  go_upto_region 4 with fail
  have Zl : z5.drew.heap[h]? = some (.cells ([.int .i64 L.n, .int .i64 L.nd, .int .u32 (L.br : Int), .int .i64 L.bn, .int .u64 (pr2 : Int), .slice L.A L.l.length L.c, .int .i64 L.fs, .int .i64 L.sl, .int .i64 L.x.k, .int .i64 L.x.s, .int .i64 L.x.q, .slice L.x.A1 L.x.rs.length L.x.c1, .slice L.x.A2 L.x.ws.length L.x.c2, .int .i64 L.x.i, .int .i64 L.x.j, .int .i64 L.x.g, .int .u64 (L.x.st : Int), .bool L.x.y, .int .u64 (L.vt : Int)]).toArray 144) := Zl
  have Zb : z5.drew.heap[w.heap.size]? = some (.cells [.int .u32 (L.br : Int), .int .i64 L.bn].toArray 28) := Zb
  have Za : z5.drew.heap[w.heap.size + 1]? = some (.cells a.cells.toArray 39) := Za
  have hu := World.ownsRow.drew hu
  have ee := frDrew ee
  refine wp_region_held_drew (S := fun z' => z'.rangeAt (w.heap.size + 1) 0 a.cells) (by kernel_rfl) (rowAt Za) (fun hH => ?_)
  clear hH
  generalize z5.drew = z6 at Zl Zb Za hu ee ⊢
  refine wpAnyH_take (i := 0) (v := .pointer (some ⟨h, 0, none⟩)) rfl (by kernel_rfl) (by kernel_rfl) (by kernel_rfl) (fun _ _ _ h => h) (Or.inl ⟨by rfl, fun w_ hS_ => by (first | (go_simp; done) | (go_simp; rfl))⟩) (rowAt Za) ?_
  try simp only [Act.put, List.getElem_toArray, List.getElem_cons_zero, List.getElem_cons_succ, List.setIfInBounds_toArray, List.set_cons_zero, List.set_cons_succ]
  refine wpAnyH_take (i := 1) (v := .pointer (some ⟨h, 0, none⟩)) rfl (by kernel_rfl) (by kernel_rfl) (by kernel_rfl) (fun _ _ _ h => h) (Or.inl ⟨by rfl, fun w_ hS_ => by (first | (go_simp; done) | (go_simp; rfl))⟩) (rowAt Za) ?_
  try simp only [Act.put, List.getElem_toArray, List.getElem_cons_zero, List.getElem_cons_succ, List.setIfInBounds_toArray, List.set_cons_zero, List.set_cons_succ]
  refine wpAnyH_take (i := 2) (v := .pointer (some ⟨h, 0, none⟩)) rfl (by kernel_rfl) (by kernel_rfl) (by kernel_rfl) (fun _ _ _ h => h) (Or.inl ⟨by rfl, fun w_ hS_ => by (first | (go_simp; done) | (go_simp; rfl))⟩) (rowAt Za) ?_
  try simp only [Act.put, List.getElem_toArray, List.getElem_cons_zero, List.getElem_cons_succ, List.setIfInBounds_toArray, List.set_cons_zero, List.set_cons_succ]
  refine wpAnyH_take (i := 3) (v := .pointer (some ⟨h, 5, none⟩)) rfl (by kernel_rfl) (by kernel_rfl) (by kernel_rfl) (fun _ _ _ h => h) (Or.inl ⟨by rfl, fun w_ hS_ => by (first | (go_simp; done) | (go_simp; rfl))⟩) (rowAt Za) ?_
  try simp only [Act.put, List.getElem_toArray, List.getElem_cons_zero, List.getElem_cons_succ, List.setIfInBounds_toArray, List.set_cons_zero, List.set_cons_succ]
  refine wpAnyH_take (i := 5) (v := .agg (a.cells).toArray) rfl (by kernel_rfl) (by kernel_rfl) (by kernel_rfl) (fun _ _ _ h => h) (yieldsIf_load_mid (by rfl) 39 _ rfl (w.heap.size + 1) 0 rfl (a.cells) _ (fun _ h => h) Tryd.underlying39 rfl sizeAc) (rowAt Za) ?_
  try simp only [Act.put, List.getElem_toArray, List.getElem_cons_zero, List.getElem_cons_succ, List.setIfInBounds_toArray, List.set_cons_zero, List.set_cons_succ]
  refine wpAnyH_ready (rs := [4, 6]) (by kernel_rfl) (by simp) ?_
  refine AllReadyH.cons rfl (fun K hK => ?_) (AllReadyH.cons rfl (fun K hK => ?_) AllReadyH.nil)
  · rw [if_pos (by rfl)]
    have c_ := rowCell Zl 5 (v := .slice L.A L.l.length L.c) rfl
    go_simp
    clear c_
    refine hK.out _ _ (rowAt Za) (fun hH => ?_)
    clear hK K hH
    try simp only [Act.put, List.getElem_toArray, List.getElem_cons_zero, List.getElem_cons_succ, List.setIfInBounds_toArray, List.set_cons_zero, List.set_cons_succ]
    refine wpAnyH_ready (rs := [6]) (by kernel_rfl) (by simp) ?_
    refine AllReadyH.cons rfl (fun K hK => ?_) AllReadyH.nil
    rw [if_pos (by rfl)]
    refine wp_buildSlice 22 39 1 #[(0, .tmp 63)] rfl a.cells.toArray i1 (.agg #[.int .u32 0, .int .i64 0, .int .i64 0, .bool false, .int .u32 0, .int .i64 0, .int .i64 0, .int .i64 0, .int .i64 0, .slice none 0 0, .slice none 0 0, .int .i64 0, .int .i64 0, .int .i64 0, .int .u64 0, .bool false]) Tryd.underlying22 hi1 hz10 (by rw [hz11]; decide) (by rw [hz11]; decide) (by rw [hz11]; simp only [List.map_toArray, List.map_cons, List.map_nil]; exact lgFill16 _ _ (by simp)) ?_
    have lZl := (Array.getElem?_eq_some_iff.1 Zl).1
    have lZb := (Array.getElem?_eq_some_iff.1 Zb).1
    have lZa := (Array.getElem?_eq_some_iff.1 Za).1
    have Zl := hpA Zl (.cells a.cells.toArray 39)
    have Zb := hpA Zb (.cells a.cells.toArray 39)
    have Za := hpA Za (.cells a.cells.toArray 39)
    have hu := hu.alloc (.cells a.cells.toArray 39)
    have sz6 := ee.1.size
    have ee := frAlloc ee (.cells a.cells.toArray 39)
    have Zn := hpN z6 (.cells a.cells.toArray 39) rfl
    generalize z6.alloc (.cells a.cells.toArray 39) = z7 at Zl Zb Za Zn hu ee ⊢
    refine hK.out _ _ (rowAt Za) (fun hH => ?_)
    clear hK K hH
    try simp only [Act.put, List.getElem_toArray, List.getElem_cons_zero, List.getElem_cons_succ, List.setIfInBounds_toArray, List.set_cons_zero, List.set_cons_succ]
    refine wpAnyH_ready (rs := [7]) (by kernel_rfl) (by simp) ?_
    refine AllReadyH.cons rfl (fun K hK => ?_) AllReadyH.nil
    rw [if_pos (by rfl)]
    refine wp_append_ownW _ (.tmp 62) (.tmp 64) 22 rfl B 39 i1 (.agg #[.int .u32 0, .int .i64 0, .int .i64 0, .bool false, .int .u32 0, .int .i64 0, .int .i64 0, .int .i64 0, .int .i64 0, .slice none 0 0, .slice none 0 0, .int .i64 0, .int .i64 0, .int .i64 0, .int .u64 0, .bool false]) 16 160 Tryd.underlying22 hi1 hz10 hz11 hz12 rfl (by decide) _ _ _ rfl hu ⟨z6.heap.size, 0, none⟩ 1 1 a.cells rfl rfl (lgRowAdd Zn) (by intro u hu_; exact (Array.all_eq_true_iff_forall_mem.1 (Ac.one a)) u (by simpa using hu_)) (by unfold maxLen; omega) (by omega) (Nat.le_trans hB ee.1.size) ?_
    intro u_ z8 ho_ hg_ hw_
    have hw_ : u_.ownBlock = (Value.slice L.A L.l.length L.c).ownBlock ∨ ∀ g, u_.ownBlock = some g → w.heap.size ≤ g := by
      rcases hw_ with h_ | h_ | h_
      · exact .inr (fun g e_ => by rw [h_] at e_; cases e_)
      · exact .inl h_
      · exact .inr (fun g e_ => by rw [h_] at e_; injection e_ with e_; have := ee.1.size; omega)
    clear Zn
    have Zl := lgHeap Zl hu (by decide) hg_
    have Zb := lgHeap Zb hu (by decide) hg_
    have Za := lgHeapB Za hlow hg_
    have ee := frOwnE ee hu hg_ (by first | omega | exact hPown)
    clear hg_ hu
    obtain ⟨A9, c9, hu9, _, _, _⟩ := ownShape ho_
    subst hu9
    have hu := ho_
    clear ho_
    refine hK.out _ _ (rowAt Za) (fun hH => ?_)
    clear hK K hH
    try simp only [Act.put, List.getElem_toArray, List.getElem_cons_zero, List.getElem_cons_succ, List.setIfInBounds_toArray, List.set_cons_zero, List.set_cons_succ]
    refine wpAnyH_take (i := 8) (v := .pointer (some ⟨h, 0, none⟩)) rfl (by kernel_rfl) (by kernel_rfl) (by kernel_rfl) (fun _ _ _ h => h) (Or.inl ⟨by rfl, fun w_ hS_ => by (first | (go_simp; done) | (go_simp; rfl))⟩) (rowAt Za) ?_
    try simp only [Act.put, List.getElem_toArray, List.getElem_cons_zero, List.getElem_cons_succ, List.setIfInBounds_toArray, List.set_cons_zero, List.set_cons_succ]
    refine wpAnyH_take (i := 9) (v := .pointer (some ⟨h, 5, none⟩)) rfl (by kernel_rfl) (by kernel_rfl) (by kernel_rfl) (fun _ _ _ h => h) (Or.inl ⟨by rfl, fun w_ hS_ => by (first | (go_simp; done) | (go_simp; rfl))⟩) (rowAt Za) ?_
    try simp only [Act.put, List.getElem_toArray, List.getElem_cons_zero, List.getElem_cons_succ, List.setIfInBounds_toArray, List.set_cons_zero, List.set_cons_succ]
    refine wpAnyH_ready (rs := [10]) (by kernel_rfl) (by simp) ?_
    refine AllReadyH.cons rfl (fun K hK => ?_) AllReadyH.nil
    rw [if_pos (by rfl)]
    have f_ : z8.frozen? ⟨h, 5, none⟩ = false := freeAt Zl 5
    have c_ := rowCell Zl 5 rfl
    go_simp
    clear f_ c_
    have hu := lgOwnC hu (lgKind hu Zl (by decide)) ([.slice A9 (L.l.length + 1) c9]) 5
    have N_ : (z8.setCells (h) 5 ([.slice A9 (L.l.length + 1) c9])).heap[h]? = some (.cells ([.int .i64 L.n, .int .i64 L.nd, .int .u32 (L.br : Int), .int .i64 L.bn, .int .u64 (pr2 : Int), .slice A9 (L.l.length + 1) c9, .int .i64 L.fs, .int .i64 L.sl, .int .i64 L.x.k, .int .i64 L.x.s, .int .i64 L.x.q, .slice L.x.A1 L.x.rs.length L.x.c1, .slice L.x.A2 L.x.ws.length L.x.c2, .int .i64 L.x.i, .int .i64 L.x.j, .int .i64 L.x.g, .int .u64 (L.x.st : Int), .bool L.x.y, .int .u64 (L.vt : Int)]).toArray 144) := hpC ([.slice A9 (L.l.length + 1) c9]) 5 _ z8 Zl
    have ee := frCells (k := h) (by first | (right; omega) | (left; left; rfl)) ([.slice A9 (L.l.length + 1) c9]) 5 z8 ee
    have Zb := hpCo (g' := h) (by omega) ([.slice A9 (L.l.length + 1) c9]) 5 z8 Zb
    have Za := hpCo (g' := h) (by omega) ([.slice A9 (L.l.length + 1) c9]) 5 z8 Za
    clear Zl
    have Zl := N_
    clear N_
    change K _ (z8.setCells (h) 5 [.slice A9 (L.l.length + 1) c9])
    generalize z8.setCells (h) 5 [.slice A9 (L.l.length + 1) c9] = z9 at Zl Zb Za hu ee ⊢
    refine hK.out _ _ (rowAt Za) (fun hH => ?_)
    clear hK K hH
    try simp only [Act.put, List.getElem_toArray, List.getElem_cons_zero, List.getElem_cons_succ, List.setIfInBounds_toArray, List.set_cons_zero, List.set_cons_succ]
    refine wpAnyH_done (by kernel_rfl) ?_ _
    clear hi1 hz10 hz11 hz12 hlow hPown
    go_upto_region 5 with fail
    have c6 := rowCell Zl 6 rfl
    have a2 := rowCell Za 2 (v := .int .i64 a.sl) rfl
    go_still_tail 10, (by kernel_rfl)
    have Zl : z9.drew.heap[h]? = some (.cells ([.int .i64 L.n, .int .i64 L.nd, .int .u32 (L.br : Int), .int .i64 L.bn, .int .u64 (pr2 : Int), .slice A9 (L.l.length + 1) c9, .int .i64 L.fs, .int .i64 L.sl, .int .i64 L.x.k, .int .i64 L.x.s, .int .i64 L.x.q, .slice L.x.A1 L.x.rs.length L.x.c1, .slice L.x.A2 L.x.ws.length L.x.c2, .int .i64 L.x.i, .int .i64 L.x.j, .int .i64 L.x.g, .int .u64 (L.x.st : Int), .bool L.x.y, .int .u64 (L.vt : Int)]).toArray 144) := Zl
    have Zb : z9.drew.heap[w.heap.size]? = some (.cells [.int .u32 (L.br : Int), .int .i64 L.bn].toArray 28) := Zb
    have Za : z9.drew.heap[w.heap.size + 1]? = some (.cells a.cells.toArray 39) := Za
    have hu := World.ownsRow.drew hu
    have ee := frDrew ee
    change wpList _ _ _ _ _ z9.drew
    generalize z9.drew = z10 at Zl Zb Za hu ee ⊢
    clear c6 a2
    iterate 40 (first | with_reducible refine isStore (ty := 3) rfl ?_ | go_step)
    have f_ : z10.frozen? ⟨h, 6, none⟩ = false := freeAt Zl 6
    have c_ := rowCell Zl 6 rfl
    iterate 3 go_step
    clear f_ c_
    have hu := lgOwnC hu (lgKind hu Zl (by decide)) ([.int .i64 (max L.fs a.sl)]) 6
    have N_ : (z10.setCells (h) 6 ([.int .i64 (max L.fs a.sl)])).heap[h]? = some (.cells ([.int .i64 L.n, .int .i64 L.nd, .int .u32 (L.br : Int), .int .i64 L.bn, .int .u64 (pr2 : Int), .slice A9 (L.l.length + 1) c9, .int .i64 (max L.fs a.sl), .int .i64 L.sl, .int .i64 L.x.k, .int .i64 L.x.s, .int .i64 L.x.q, .slice L.x.A1 L.x.rs.length L.x.c1, .slice L.x.A2 L.x.ws.length L.x.c2, .int .i64 L.x.i, .int .i64 L.x.j, .int .i64 L.x.g, .int .u64 (L.x.st : Int), .bool L.x.y, .int .u64 (L.vt : Int)]).toArray 144) := hpC ([.int .i64 (max L.fs a.sl)]) 6 _ z10 Zl
    have ee := frCells (k := h) (by first | (right; omega) | (left; left; rfl)) ([.int .i64 (max L.fs a.sl)]) 6 z10 ee
    have Zb := hpCo (g' := h) (by omega) ([.int .i64 (max L.fs a.sl)]) 6 z10 Zb
    have Za := hpCo (g' := h) (by omega) ([.int .i64 (max L.fs a.sl)]) 6 z10 Za
    clear Zl
    have Zl := N_
    clear N_
    change wpList _ _ _ _ _ (z10.setCells (h) 6 ([.int .i64 (max L.fs a.sl)]))
    generalize z10.setCells (h) 6 ([.int .i64 (max L.fs a.sl)]) = z11 at Zl Zb Za hu ee ⊢
    go_wp2_with fail
    go_ret
    have hlen2 : (L.l ++ [a]).length = L.l.length + 1 := by simp
    refine ⟨rfl, A9, c9, ?_, by rw [hlen2, acCells_snoc]; exact hu, by rw [hlen2]; exact hw_, ee⟩
    rw [hvt]
    unfold LdAt T.Ld.cells
    simp only [hlen2]
    exact Zl
  · rw [if_pos (by rfl)]
    refine wp_buildSlice 22 39 1 #[(0, .tmp 63)] rfl a.cells.toArray i1 (.agg #[.int .u32 0, .int .i64 0, .int .i64 0, .bool false, .int .u32 0, .int .i64 0, .int .i64 0, .int .i64 0, .int .i64 0, .slice none 0 0, .slice none 0 0, .int .i64 0, .int .i64 0, .int .i64 0, .int .u64 0, .bool false]) Tryd.underlying22 hi1 hz10 (by rw [hz11]; decide) (by rw [hz11]; decide) (by rw [hz11]; simp only [List.map_toArray, List.map_cons, List.map_nil]; exact lgFill16 _ _ (by simp)) ?_
    have lZl := (Array.getElem?_eq_some_iff.1 Zl).1
    have lZb := (Array.getElem?_eq_some_iff.1 Zb).1
    have lZa := (Array.getElem?_eq_some_iff.1 Za).1
    have Zl := hpA Zl (.cells a.cells.toArray 39)
    have Zb := hpA Zb (.cells a.cells.toArray 39)
    have Za := hpA Za (.cells a.cells.toArray 39)
    have hu := hu.alloc (.cells a.cells.toArray 39)
    have sz6 := ee.1.size
    have ee := frAlloc ee (.cells a.cells.toArray 39)
    have Zn := hpN z6 (.cells a.cells.toArray 39) rfl
    generalize z6.alloc (.cells a.cells.toArray 39) = z7 at Zl Zb Za Zn hu ee ⊢
    refine hK.out _ _ (rowAt Za) (fun hH => ?_)
    clear hK K hH
    try simp only [Act.put, List.getElem_toArray, List.getElem_cons_zero, List.getElem_cons_succ, List.setIfInBounds_toArray, List.set_cons_zero, List.set_cons_succ]
    refine wpAnyH_ready (rs := [4]) (by kernel_rfl) (by simp) ?_
    refine AllReadyH.cons rfl (fun K hK => ?_) AllReadyH.nil
    rw [if_pos (by rfl)]
    have c_ := rowCell Zl 5 (v := .slice L.A L.l.length L.c) rfl
    go_simp
    clear c_
    refine hK.out _ _ (rowAt Za) (fun hH => ?_)
    clear hK K hH
    try simp only [Act.put, List.getElem_toArray, List.getElem_cons_zero, List.getElem_cons_succ, List.setIfInBounds_toArray, List.set_cons_zero, List.set_cons_succ]
    refine wpAnyH_ready (rs := [7]) (by kernel_rfl) (by simp) ?_
    refine AllReadyH.cons rfl (fun K hK => ?_) AllReadyH.nil
    rw [if_pos (by rfl)]
    refine wp_append_ownW _ (.tmp 62) (.tmp 64) 22 rfl B 39 i1 (.agg #[.int .u32 0, .int .i64 0, .int .i64 0, .bool false, .int .u32 0, .int .i64 0, .int .i64 0, .int .i64 0, .int .i64 0, .slice none 0 0, .slice none 0 0, .int .i64 0, .int .i64 0, .int .i64 0, .int .u64 0, .bool false]) 16 160 Tryd.underlying22 hi1 hz10 hz11 hz12 rfl (by decide) _ _ _ rfl hu ⟨z6.heap.size, 0, none⟩ 1 1 a.cells rfl rfl (lgRowAdd Zn) (by intro u hu_; exact (Array.all_eq_true_iff_forall_mem.1 (Ac.one a)) u (by simpa using hu_)) (by unfold maxLen; omega) (by omega) (Nat.le_trans hB ee.1.size) ?_
    intro u_ z8 ho_ hg_ hw_
    have hw_ : u_.ownBlock = (Value.slice L.A L.l.length L.c).ownBlock ∨ ∀ g, u_.ownBlock = some g → w.heap.size ≤ g := by
      rcases hw_ with h_ | h_ | h_
      · exact .inr (fun g e_ => by rw [h_] at e_; cases e_)
      · exact .inl h_
      · exact .inr (fun g e_ => by rw [h_] at e_; injection e_ with e_; have := ee.1.size; omega)
    clear Zn
    have Zl := lgHeap Zl hu (by decide) hg_
    have Zb := lgHeap Zb hu (by decide) hg_
    have Za := lgHeapB Za hlow hg_
    have ee := frOwnE ee hu hg_ (by first | omega | exact hPown)
    clear hg_ hu
    obtain ⟨A9, c9, hu9, _, _, _⟩ := ownShape ho_
    subst hu9
    have hu := ho_
    clear ho_
    refine hK.out _ _ (rowAt Za) (fun hH => ?_)
    clear hK K hH
    try simp only [Act.put, List.getElem_toArray, List.getElem_cons_zero, List.getElem_cons_succ, List.setIfInBounds_toArray, List.set_cons_zero, List.set_cons_succ]
    refine wpAnyH_take (i := 8) (v := .pointer (some ⟨h, 0, none⟩)) rfl (by kernel_rfl) (by kernel_rfl) (by kernel_rfl) (fun _ _ _ h => h) (Or.inl ⟨by rfl, fun w_ hS_ => by (first | (go_simp; done) | (go_simp; rfl))⟩) (rowAt Za) ?_
    try simp only [Act.put, List.getElem_toArray, List.getElem_cons_zero, List.getElem_cons_succ, List.setIfInBounds_toArray, List.set_cons_zero, List.set_cons_succ]
    refine wpAnyH_take (i := 9) (v := .pointer (some ⟨h, 5, none⟩)) rfl (by kernel_rfl) (by kernel_rfl) (by kernel_rfl) (fun _ _ _ h => h) (Or.inl ⟨by rfl, fun w_ hS_ => by (first | (go_simp; done) | (go_simp; rfl))⟩) (rowAt Za) ?_
    try simp only [Act.put, List.getElem_toArray, List.getElem_cons_zero, List.getElem_cons_succ, List.setIfInBounds_toArray, List.set_cons_zero, List.set_cons_succ]
    refine wpAnyH_ready (rs := [10]) (by kernel_rfl) (by simp) ?_
    refine AllReadyH.cons rfl (fun K hK => ?_) AllReadyH.nil
    rw [if_pos (by rfl)]
    have f_ : z8.frozen? ⟨h, 5, none⟩ = false := freeAt Zl 5
    have c_ := rowCell Zl 5 rfl
    go_simp
    clear f_ c_
    have hu := lgOwnC hu (lgKind hu Zl (by decide)) ([.slice A9 (L.l.length + 1) c9]) 5
    have N_ : (z8.setCells (h) 5 ([.slice A9 (L.l.length + 1) c9])).heap[h]? = some (.cells ([.int .i64 L.n, .int .i64 L.nd, .int .u32 (L.br : Int), .int .i64 L.bn, .int .u64 (pr2 : Int), .slice A9 (L.l.length + 1) c9, .int .i64 L.fs, .int .i64 L.sl, .int .i64 L.x.k, .int .i64 L.x.s, .int .i64 L.x.q, .slice L.x.A1 L.x.rs.length L.x.c1, .slice L.x.A2 L.x.ws.length L.x.c2, .int .i64 L.x.i, .int .i64 L.x.j, .int .i64 L.x.g, .int .u64 (L.x.st : Int), .bool L.x.y, .int .u64 (L.vt : Int)]).toArray 144) := hpC ([.slice A9 (L.l.length + 1) c9]) 5 _ z8 Zl
    have ee := frCells (k := h) (by first | (right; omega) | (left; left; rfl)) ([.slice A9 (L.l.length + 1) c9]) 5 z8 ee
    have Zb := hpCo (g' := h) (by omega) ([.slice A9 (L.l.length + 1) c9]) 5 z8 Zb
    have Za := hpCo (g' := h) (by omega) ([.slice A9 (L.l.length + 1) c9]) 5 z8 Za
    clear Zl
    have Zl := N_
    clear N_
    change K _ (z8.setCells (h) 5 [.slice A9 (L.l.length + 1) c9])
    generalize z8.setCells (h) 5 [.slice A9 (L.l.length + 1) c9] = z9 at Zl Zb Za hu ee ⊢
    refine hK.out _ _ (rowAt Za) (fun hH => ?_)
    clear hK K hH
    try simp only [Act.put, List.getElem_toArray, List.getElem_cons_zero, List.getElem_cons_succ, List.setIfInBounds_toArray, List.set_cons_zero, List.set_cons_succ]
    refine wpAnyH_done (by kernel_rfl) ?_ _
    clear hi1 hz10 hz11 hz12 hlow hPown
    go_upto_region 5 with fail
    have c6 := rowCell Zl 6 rfl
    have a2 := rowCell Za 2 (v := .int .i64 a.sl) rfl
    go_still_tail 10, (by kernel_rfl)
    have Zl : z9.drew.heap[h]? = some (.cells ([.int .i64 L.n, .int .i64 L.nd, .int .u32 (L.br : Int), .int .i64 L.bn, .int .u64 (pr2 : Int), .slice A9 (L.l.length + 1) c9, .int .i64 L.fs, .int .i64 L.sl, .int .i64 L.x.k, .int .i64 L.x.s, .int .i64 L.x.q, .slice L.x.A1 L.x.rs.length L.x.c1, .slice L.x.A2 L.x.ws.length L.x.c2, .int .i64 L.x.i, .int .i64 L.x.j, .int .i64 L.x.g, .int .u64 (L.x.st : Int), .bool L.x.y, .int .u64 (L.vt : Int)]).toArray 144) := Zl
    have Zb : z9.drew.heap[w.heap.size]? = some (.cells [.int .u32 (L.br : Int), .int .i64 L.bn].toArray 28) := Zb
    have Za : z9.drew.heap[w.heap.size + 1]? = some (.cells a.cells.toArray 39) := Za
    have hu := World.ownsRow.drew hu
    have ee := frDrew ee
    change wpList _ _ _ _ _ z9.drew
    generalize z9.drew = z10 at Zl Zb Za hu ee ⊢
    clear c6 a2
    iterate 40 (first | with_reducible refine isStore (ty := 3) rfl ?_ | go_step)
    have f_ : z10.frozen? ⟨h, 6, none⟩ = false := freeAt Zl 6
    have c_ := rowCell Zl 6 rfl
    iterate 3 go_step
    clear f_ c_
    have hu := lgOwnC hu (lgKind hu Zl (by decide)) ([.int .i64 (max L.fs a.sl)]) 6
    have N_ : (z10.setCells (h) 6 ([.int .i64 (max L.fs a.sl)])).heap[h]? = some (.cells ([.int .i64 L.n, .int .i64 L.nd, .int .u32 (L.br : Int), .int .i64 L.bn, .int .u64 (pr2 : Int), .slice A9 (L.l.length + 1) c9, .int .i64 (max L.fs a.sl), .int .i64 L.sl, .int .i64 L.x.k, .int .i64 L.x.s, .int .i64 L.x.q, .slice L.x.A1 L.x.rs.length L.x.c1, .slice L.x.A2 L.x.ws.length L.x.c2, .int .i64 L.x.i, .int .i64 L.x.j, .int .i64 L.x.g, .int .u64 (L.x.st : Int), .bool L.x.y, .int .u64 (L.vt : Int)]).toArray 144) := hpC ([.int .i64 (max L.fs a.sl)]) 6 _ z10 Zl
    have ee := frCells (k := h) (by first | (right; omega) | (left; left; rfl)) ([.int .i64 (max L.fs a.sl)]) 6 z10 ee
    have Zb := hpCo (g' := h) (by omega) ([.int .i64 (max L.fs a.sl)]) 6 z10 Zb
    have Za := hpCo (g' := h) (by omega) ([.int .i64 (max L.fs a.sl)]) 6 z10 Za
    clear Zl
    have Zl := N_
    clear N_
    change wpList _ _ _ _ _ (z10.setCells (h) 6 ([.int .i64 (max L.fs a.sl)]))
    generalize z10.setCells (h) 6 ([.int .i64 (max L.fs a.sl)]) = z11 at Zl Zb Za hu ee ⊢
    go_wp2_with fail
    go_ret
    have hlen2 : (L.l ++ [a]).length = L.l.length + 1 := by simp
    refine ⟨rfl, A9, c9, ?_, by rw [hlen2, acCells_snoc]; exact hu, by rw [hlen2]; exact hw_, ee⟩
    rw [hvt]
    unfold LdAt T.Ld.cells
    simp only [hlen2]
    exact Zl
end Go.Proofs.YtbahooohkigcnaaDoor

namespace Go.Proofs.YtbahooohkigcnaaDoor
set_option maxRecDepth 20001
open Go.RowKit T
set_option linter.unusedSimpArgs false
set_option linter.unusedVariables false

theorem ogPart0 {w : World} {b m : Nat} {cs part : List Value} (h : w.rangeAt b 0 cs) (hp : ∀ j v, part[j]? = some v → cs[m + j]? = some v) : w.rangeAt b m part := fun j v hv => by
  have := rangePart h hp j v hv
  rwa [Nat.zero_add] at this
theorem res_c {P : Program} {fn : Func} {p : Tmp} {ty : TypeId} (h : fn.results = #[.cell p ty]) {tmps : Array Value} {w : World} {g : Nat} {t : TypeId} {cs : List Value} {d : TypeDesc}
    (hp : tmps.getD p undef = .pointer (some ⟨g, 0, none⟩)) (hg : w.heap[g]? = some (.cells cs.toArray t (0, 0)))
    (hu : P.underlying ty = some d) (hd : d.isRow = true) (hi : (P.info? ty).map (·.size) = some cs.length) : (results fn tmps).run P w = .ok (.agg cs.toArray) w := by
  have hp' : tmps[p]?.getD undef = .pointer (some ⟨g, 0, none⟩) := by simpa using hp
  simp [results, h, hp', asAddr, run_loadVar_mid w g 0 ty cs d (rowAt hg) hu hd hi]
theorem res_tct {P : Program} {fn : Func} {u p v : Tmp} {ty : TypeId} (h : fn.results = #[.tmp u, .cell p ty, .tmp v]) {tmps : Array Value} {w : World} {g : Nat} {t : TypeId} {cs : List Value} {d : TypeDesc} {a b : Value}
    (ha : tmps.getD u undef = a) (hp : tmps.getD p undef = .pointer (some ⟨g, 0, none⟩)) (hb : tmps.getD v undef = b) (hg : w.heap[g]? = some (.cells cs.toArray t (0, 0)))
    (hu : P.underlying ty = some d) (hd : d.isRow = true) (hi : (P.info? ty).map (·.size) = some cs.length) : (results fn tmps).run P w = .ok (.tuple #[a, .agg cs.toArray, b]) w := by
  have hp' : tmps[p]?.getD undef = .pointer (some ⟨g, 0, none⟩) := by simpa using hp
  have ha' : tmps[u]?.getD undef = a := by simpa using ha
  have hb' : tmps[v]?.getD undef = b := by simpa using hb
  simp [results, h, hp', ha', hb', asAddr, run_loadVar_mid w g 0 ty cs d (rowAt hg) hu hd hi]
set_option maxHeartbeats 1600000 in
theorem lballot (w : World) (h : Nat) (L : Ld) (hL : LdAt w h L) : Calls Tryd.prog 43 #[.pointer (some ⟨h, 0, none⟩)] w fun e w' => e = .returned (bal L.br L.bn) ∧ Below w.heap.size w w' := by
  obtain ⟨w0, hw0⟩ : ∃ w0, w0 = w.alloc (.cells #[.int .u32 0, .int .i64 0] 28) := ⟨_, rfl⟩
  have hlt : h < w.heap.size := (Array.getElem?_eq_some_iff.1 hL).1
  have ee : Below w.heap.size w w0 := by rw [hw0]; exact (Below.refl _ _).alloc (Nat.le_refl _) _
  have Zl : w0.heap[h]? = some (.cells L.cells.toArray 144) := by rw [hw0]; exact hpA hL _
  have Zr : w0.heap[w.heap.size]? = some (.cells #[.int .u32 0, .int .i64 0] 28) := by rw [hw0]; exact hpN _ _ rfl
  go_enter Tryd.func43, Tryd.ntmps43
  go_upto_region 3 with fail
  change Code.wp _ _ _ _ (w.alloc (.cells #[.int .u32 0, .int .i64 0] 28))
  rw [← hw0]
  clear hw0 hL
  refine wp_region_lit ?_
  iterate 27 (first | with_reducible refine isLoad (ty := 28) rfl ?_ | go_step)
  refine wpList_load_mid rfl 28 _ rfl (h) (2) rfl ([.int .u32 (L.br : Int), .int .i64 L.bn]) _ (rowMid Zl (2) (Ld.ballot L)) Tryd.underlying28 rfl sizeBal ?_
  iterate 27 (first | with_reducible refine isStore (ty := 28) rfl ?_ | go_step)
  refine wpList_store_row rfl 28 _ _ rfl (w.heap.size) ([.int .u32 (L.br : Int), .int .i64 L.bn]).toArray rfl rfl 28 _ Zr sizeBal (by rfl) (by simp [Value.oneCell']) ?_
  have N_ := setRow_heap w0 (w.heap.size) _ ([.int .u32 (L.br : Int), .int .i64 L.bn]).toArray _ _ Zr
  have ee := belowSet (cs := ([.int .u32 (L.br : Int), .int .i64 L.bn]).toArray) ee Zr (by omega)
  have Zl := hpR Zl (g' := w.heap.size) (by omega) ([.int .u32 (L.br : Int), .int .i64 L.bn]).toArray
  clear Zr
  have Zr := N_
  clear N_
  generalize w0.setRow (w.heap.size) ([.int .u32 (L.br : Int), .int .i64 L.bn]).toArray = z1 at Zl Zr ee ⊢
  go_wp2_with fail
  refine bodyPost_ret (v := bal L.br L.bn) (res_c rfl rfl Zr Tryd.underlying28 rfl sizeBal) rfl ⟨rfl, ee⟩
set_option maxHeartbeats 1600000 in
theorem lproposal_no (w : World) (h : Nat) (L : Ld) (hL : LdAt w h L) (hs : L.sl = 0) : Calls Tryd.prog 42 #[.pointer (some ⟨h, 0, none⟩)] w fun e w' => e = .returned (.tuple #[.int .i64 0, .agg Cm.zero.cells.toArray, .bool false]) ∧ Below w.heap.size w w' := by
  obtain ⟨w0, hw0⟩ : ∃ w0, w0 = w.alloc (.cells #[.int .i64 0, .int .i64 0, .int .i64 0, .slice none 0 0, .slice none 0 0, .int .i64 0, .int .i64 0, .int .i64 0, .int .u64 0, .bool false] 37) := ⟨_, rfl⟩
  have hlt : h < w.heap.size := (Array.getElem?_eq_some_iff.1 hL).1
  have ee : Below w.heap.size w w0 := by rw [hw0]; exact (Below.refl _ _).alloc (Nat.le_refl _) _
  have Zl : w0.heap[h]? = some (.cells L.cells.toArray 144) := by rw [hw0]; exact hpA hL _
  have Zr : w0.heap[w.heap.size]? = some (.cells #[.int .i64 0, .int .i64 0, .int .i64 0, .slice none 0 0, .slice none 0 0, .int .i64 0, .int .i64 0, .int .i64 0, .int .u64 0, .bool false] 37) := by rw [hw0]; exact hpN _ _ rfl
  go_enter Tryd.func42, Tryd.ntmps42
  go_upto_region 1 with fail
  change Code.wp _ _ _ _ (w.alloc (.cells #[.int .i64 0, .int .i64 0, .int .i64 0, .slice none 0 0, .slice none 0 0, .int .i64 0, .int .i64 0, .int .i64 0, .int .u64 0, .bool false] 37))
  rw [← hw0]
  clear hw0 hL
  have c7 := rowCell Zl 7 (v := .int .i64 0) (by rw [← hs]; rfl)
  clear hs
  go_upto_region 2 with fail
  clear c7
  refine wp_region_lit ?_
  iterate 27 (first | with_reducible refine isStore (ty := 37) rfl ?_ | go_step)
  refine wpList_store_row rfl 37 _ _ rfl (w.heap.size) (Cm.zero.cells).toArray rfl rfl 37 _ Zr sizeCm (by rfl) (Cm.one _) ?_
  have N_ := setRow_heap w0 (w.heap.size) _ (Cm.zero.cells).toArray _ _ Zr
  have ee := belowSet (cs := (Cm.zero.cells).toArray) ee Zr (by omega)
  have Zl := hpR Zl (g' := w.heap.size) (by omega) (Cm.zero.cells).toArray
  clear Zr
  have Zr := N_
  clear N_
  generalize w0.setRow (w.heap.size) (Cm.zero.cells).toArray = z1 at Zl Zr ee ⊢
  go_wp2_with fail
  refine bodyPost_ret (v := .tuple #[.int .i64 0, .agg Cm.zero.cells.toArray, .bool false]) (res_tct rfl rfl rfl rfl Zr Tryd.underlying37 rfl sizeCm) rfl ⟨rfl, ee⟩
set_option maxHeartbeats 1600000 in
theorem lproposal_yes (w : World) (h : Nat) (L : Ld) (hL : LdAt w h L) (hs : L.sl ≠ 0) : Calls Tryd.prog 42 #[.pointer (some ⟨h, 0, none⟩)] w fun e w' => e = .returned (.tuple #[.int .i64 L.sl, .agg L.x.cells.toArray, .bool true]) ∧ Below w.heap.size w w' := by
  obtain ⟨w0, hw0⟩ : ∃ w0, w0 = w.alloc (.cells #[.int .i64 0, .int .i64 0, .int .i64 0, .slice none 0 0, .slice none 0 0, .int .i64 0, .int .i64 0, .int .i64 0, .int .u64 0, .bool false] 37) := ⟨_, rfl⟩
  have hlt : h < w.heap.size := (Array.getElem?_eq_some_iff.1 hL).1
  have ee : Below w.heap.size w w0 := by rw [hw0]; exact (Below.refl _ _).alloc (Nat.le_refl _) _
  have Zl : w0.heap[h]? = some (.cells L.cells.toArray 144) := by rw [hw0]; exact hpA hL _
  have Zr : w0.heap[w.heap.size]? = some (.cells #[.int .i64 0, .int .i64 0, .int .i64 0, .slice none 0 0, .slice none 0 0, .int .i64 0, .int .i64 0, .int .i64 0, .int .u64 0, .bool false] 37) := by rw [hw0]; exact hpN _ _ rfl
  go_enter Tryd.func42, Tryd.ntmps42
  go_upto_region 1 with fail
  change Code.wp _ _ _ _ (w.alloc (.cells #[.int .i64 0, .int .i64 0, .int .i64 0, .slice none 0 0, .slice none 0 0, .int .i64 0, .int .i64 0, .int .i64 0, .int .u64 0, .bool false] 37))
  rw [← hw0]
  clear hw0 hL
  have c7 := rowCell Zl 7 (v := .int .i64 L.sl) rfl
  have e7 : (L.sl == 0) = false := by simpa using hs
  clear hs
  go_upto_region 3 with fail
  clear c7 e7
  have Zl : w0.drew.heap[h]? = some (.cells L.cells.toArray 144) := Zl
  have Zr : w0.drew.heap[w.heap.size]? = some (.cells #[.int .i64 0, .int .i64 0, .int .i64 0, .slice none 0 0, .slice none 0 0, .int .i64 0, .int .i64 0, .int .i64 0, .int .u64 0, .bool false] 37) := Zr
  have ee := belowDrewS ee
  refine wp_region_held_drew (S := fun z' => z'.rangeAt h 0 L.cells) (by kernel_rfl) (rowAt Zl) (fun hH => ?_)
  clear hH
  generalize w0.drew = z1 at Zl Zr ee ⊢
  refine wpAnyH_take (i := 0) (v := .pointer (some ⟨h, 0, none⟩)) rfl (by kernel_rfl) (by kernel_rfl) (by kernel_rfl) (fun _ _ _ h => h) (Or.inl ⟨by rfl, fun w_ hS_ => by (first | (go_simp; done) | (go_simp; rfl))⟩) (rowAt Zl) ?_
  try simp only [Act.put, List.getElem_toArray, List.getElem_cons_zero, List.getElem_cons_succ, List.setIfInBounds_toArray, List.set_cons_zero, List.set_cons_succ]
  refine wpAnyH_take (i := 1) (v := .pointer (some ⟨h, 0, none⟩)) rfl (by kernel_rfl) (by kernel_rfl) (by kernel_rfl) (fun _ _ _ h => h) (Or.inl ⟨by rfl, fun w_ hS_ => by (first | (go_simp; done) | (go_simp; rfl))⟩) (rowAt Zl) ?_
  try simp only [Act.put, List.getElem_toArray, List.getElem_cons_zero, List.getElem_cons_succ, List.setIfInBounds_toArray, List.set_cons_zero, List.set_cons_succ]
  refine wpAnyH_take (i := 2) (v := .pointer (some ⟨h, 7, none⟩)) rfl (by kernel_rfl) (by kernel_rfl) (by kernel_rfl) (fun _ _ _ h => h) (Or.inl ⟨by rfl, fun w_ hS_ => by (first | (go_simp; done) | (go_simp; rfl))⟩) (rowAt Zl) ?_
  try simp only [Act.put, List.getElem_toArray, List.getElem_cons_zero, List.getElem_cons_succ, List.setIfInBounds_toArray, List.set_cons_zero, List.set_cons_succ]
  refine wpAnyH_take (i := 3) (v := .int .i64 L.sl) rfl (by kernel_rfl) (by kernel_rfl) (by kernel_rfl) (fun _ _ _ h => h) (Or.inl ⟨by rfl, fun w_ hS_ => by (have c_ := ogCell0 hS_ 7 rfl; first | (go_simp; done) | (go_simp; rfl))⟩) (rowAt Zl) ?_
  try simp only [Act.put, List.getElem_toArray, List.getElem_cons_zero, List.getElem_cons_succ, List.setIfInBounds_toArray, List.set_cons_zero, List.set_cons_succ]
  refine wpAnyH_take (i := 4) (v := .pointer (some ⟨h, 0, none⟩)) rfl (by kernel_rfl) (by kernel_rfl) (by kernel_rfl) (fun _ _ _ h => h) (Or.inl ⟨by rfl, fun w_ hS_ => by (first | (go_simp; done) | (go_simp; rfl))⟩) (rowAt Zl) ?_
  try simp only [Act.put, List.getElem_toArray, List.getElem_cons_zero, List.getElem_cons_succ, List.setIfInBounds_toArray, List.set_cons_zero, List.set_cons_succ]
  refine wpAnyH_take (i := 5) (v := .pointer (some ⟨h, 0, none⟩)) rfl (by kernel_rfl) (by kernel_rfl) (by kernel_rfl) (fun _ _ _ h => h) (Or.inl ⟨by rfl, fun w_ hS_ => by (first | (go_simp; done) | (go_simp; rfl))⟩) (rowAt Zl) ?_
  try simp only [Act.put, List.getElem_toArray, List.getElem_cons_zero, List.getElem_cons_succ, List.setIfInBounds_toArray, List.set_cons_zero, List.set_cons_succ]
  refine wpAnyH_take (i := 6) (v := .pointer (some ⟨h, 8, none⟩)) rfl (by kernel_rfl) (by kernel_rfl) (by kernel_rfl) (fun _ _ _ h => h) (Or.inl ⟨by rfl, fun w_ hS_ => by (first | (go_simp; done) | (go_simp; rfl))⟩) (rowAt Zl) ?_
  try simp only [Act.put, List.getElem_toArray, List.getElem_cons_zero, List.getElem_cons_succ, List.setIfInBounds_toArray, List.set_cons_zero, List.set_cons_succ]
  refine wpAnyH_take (i := 7) (v := .agg (L.x.cells).toArray) rfl (by kernel_rfl) (by kernel_rfl) (by kernel_rfl) (fun _ _ _ h => h) (yieldsIf_load_mid (by rfl) 37 _ rfl (h) (8) rfl (L.x.cells) _ (fun _ h => ogPart0 h (Ld.cmd L)) Tryd.underlying37 rfl sizeCm) (rowAt Zl) ?_
  try simp only [Act.put, List.getElem_toArray, List.getElem_cons_zero, List.getElem_cons_succ, List.setIfInBounds_toArray, List.set_cons_zero, List.set_cons_succ]
  refine wpAnyH_take (i := 8) (v := .int .i64 L.sl) rfl (by kernel_rfl) (by kernel_rfl) (by kernel_rfl) (fun _ _ _ h => h) (Or.inl ⟨by rfl, fun w_ hS_ => by (first | (go_simp; done) | (go_simp; rfl))⟩) (rowAt Zl) ?_
  try simp only [Act.put, List.getElem_toArray, List.getElem_cons_zero, List.getElem_cons_succ, List.setIfInBounds_toArray, List.set_cons_zero, List.set_cons_succ]
  refine wpAnyH_ready (rs := [9]) (by kernel_rfl) (by simp) ?_
  refine AllReadyH.cons rfl (fun K hK => ?_) AllReadyH.nil
  rw [if_pos (by rfl)]
  refine wp_store_row 37 _ _ rfl (w.heap.size) (L.x.cells).toArray rfl rfl 37 _ Zr sizeCm (by rfl) (Cm.one _) ?_
  have N_ := setRow_heap z1 (w.heap.size) _ (L.x.cells).toArray _ _ Zr
  have ee := belowSet (cs := (L.x.cells).toArray) ee Zr (by omega)
  have Zl := hpR Zl (g' := w.heap.size) (by omega) (L.x.cells).toArray
  clear Zr
  have Zr := N_
  clear N_
  generalize z1.setRow (w.heap.size) (L.x.cells).toArray = z2 at Zl Zr ee ⊢
  refine hK.out _ _ (rowAt Zl) (fun hH => ?_)
  clear hK K hH
  try simp only [Act.put, List.getElem_toArray, List.getElem_cons_zero, List.getElem_cons_succ, List.setIfInBounds_toArray, List.set_cons_zero, List.set_cons_succ]
  refine wpAnyH_take (i := 10) (v := .bool true) rfl (by kernel_rfl) (by kernel_rfl) (by kernel_rfl) (fun _ _ _ h => h) (Or.inl ⟨by rfl, fun w_ hS_ => by (first | (go_simp; done) | (go_simp; rfl))⟩) (rowAt Zl) ?_
  try simp only [Act.put, List.getElem_toArray, List.getElem_cons_zero, List.getElem_cons_succ, List.setIfInBounds_toArray, List.set_cons_zero, List.set_cons_succ]
  refine wpAnyH_done (by kernel_rfl) ?_ _
  go_wp2_with fail
  refine bodyPost_ret (v := .tuple #[.int .i64 L.sl, .agg L.x.cells.toArray, .bool true]) (res_tct rfl rfl rfl rfl Zr Tryd.underlying37 rfl sizeCm) rfl ⟨rfl, ee⟩
/-- does a leader propose? -/
def T.Ld.proposes (L : Ld) (s : Int) (x : Cm) : Bool := Q.majB L.pr L.n && !decide (0 < L.sl) && !decide (s < L.fs) && !decide (1000000 < s) && x.formed
set_option maxHeartbeats 6400000 in
theorem lpropose_no (w : World) (h : Nat) (L : Ld) (s : Int) (x : Cm) (hL : LdAt w h L) (hp : L.pr < 18446744073709551616) (ok : CmOk w w.heap.size x) (hT : Tabs w) (hno : L.proposes s x = false) :
    Calls Tryd.prog 37 #[.pointer (some ⟨h, 0, none⟩), .int .i64 s, .agg x.cells.toArray] w fun e w' => e = .returned (.tuple #[.agg Cm.zero.cells.toArray, .bool false]) ∧ Below w.heap.size w w' := by
  have hlt : h < w.heap.size := (Array.getElem?_eq_some_iff.1 hL).1
  have HCF := Lib.hid (fun z (hz : Below w.heap.size w z) => c_cformed x z w.heap.size hz.size (ok.below hz (Nat.le_refl _)) (hT.below hz))
  have HLE := Lib.hid (fun z (hz : LdAt z h L) => lleads z h L hz hp)
  have HNO := Lib.hid hno
  unfold T.Ld.proposes at HNO
  clear hno ok hT hp
  generalize Q.majB L.pr L.n = m1 at HLE HNO
  generalize x.formed = m5 at HCF HNO
  obtain ⟨w0, hw0⟩ : ∃ w0, w0 = (w.alloc (.cells x.cells.toArray 37)).alloc (.cells #[.int .i64 0, .int .i64 0, .int .i64 0, .slice none 0 0, .slice none 0 0, .int .i64 0, .int .i64 0, .int .i64 0, .int .u64 0, .bool false] 37) := ⟨_, rfl⟩
  have ee : Below w.heap.size w w0 := by rw [hw0]; exact ((Below.refl _ _).alloc (Nat.le_refl _) _).alloc (by simp) _
  have Zl : w0.heap[h]? = some (.cells L.cells.toArray 144) := by rw [hw0]; exact hpA (hpA hL _) _
  have Zx : w0.heap[w.heap.size]? = some (.cells x.cells.toArray 37) := by rw [hw0]; exact hpA (hpN _ _ rfl) _
  have Zr : w0.heap[w.heap.size + 1]? = some (.cells #[.int .i64 0, .int .i64 0, .int .i64 0, .slice none 0 0, .slice none 0 0, .int .i64 0, .int .i64 0, .int .i64 0, .int .u64 0, .bool false] 37) := by rw [hw0]; exact hpN _ _ (by simp)
  go_enter Tryd.func37, Tryd.ntmps37
  go_upto_region 1 with fail
  change Code.wp _ _ _ _ ((w.alloc (.cells x.cells.toArray 37)).alloc (.cells #[.int .i64 0, .int .i64 0, .int .i64 0, .slice none 0 0, .slice none 0 0, .int .i64 0, .int .i64 0, .int .i64 0, .int .u64 0, .bool false] 37))
  rw [← hw0]
  clear hw0 hL
  refine wp_region_lit ?_
  go_wp2_with fail
  refine (HLE.out w0 Zl).mono ?_
  rintro e z1 ⟨rfl, n_, rfl⟩
  have Zl : (w0.drewN n_).heap[h]? = some (.cells L.cells.toArray 144) := Zl
  have Zx : (w0.drewN n_).heap[w.heap.size]? = some (.cells x.cells.toArray 37) := Zx
  have Zr : (w0.drewN n_).heap[w.heap.size + 1]? = some (.cells #[.int .i64 0, .int .i64 0, .int .i64 0, .slice none 0 0, .slice none 0 0, .int .i64 0, .int .i64 0, .int .i64 0, .int .u64 0, .bool false] 37) := Zr
  have ee := belowDrewN ee n_
  generalize w0.drewN n_ = z2 at Zl Zx Zr ee ⊢
  clear HLE
  try dsimp only
  rename_i hK
  refine hK _ _ ?_
  clear hK
  have c7 := rowCell Zl 7 (v := .int .i64 L.sl) rfl
  have c6 := rowCell Zl 6 (v := .int .i64 L.fs) rfl
  cases m1 with
  | false =>
    go_upto_region 2 with fail
    refine wp_region_lit ?_
    clear c6 c7
    iterate 27 (first | with_reducible refine isStore (ty := 37) rfl ?_ | go_step)
    refine wpList_store_row rfl 37 _ _ rfl (w.heap.size + 1) (Cm.zero.cells).toArray rfl rfl 37 _ Zr sizeCm (by rfl) (Cm.one _) ?_
    have N_ := setRow_heap z2 (w.heap.size + 1) _ (Cm.zero.cells).toArray _ _ Zr
    have ee := belowSet (cs := (Cm.zero.cells).toArray) ee Zr (by omega)
    have Zl := hpR Zl (g' := w.heap.size + 1) (by omega) (Cm.zero.cells).toArray
    have Zx := hpR Zx (g' := w.heap.size + 1) (by omega) (Cm.zero.cells).toArray
    clear Zr
    have Zr := N_
    clear N_
    generalize z2.setRow (w.heap.size + 1) (Cm.zero.cells).toArray = z3 at Zl Zx Zr ee ⊢
    go_wp2_with fail
    refine bodyPost_ret (v := .tuple #[.agg Cm.zero.cells.toArray, .bool false]) (res_ct rfl rfl rfl Zr Tryd.underlying37 rfl sizeCm) rfl ⟨rfl, ee⟩
  | true =>
    generalize hm2 : decide (0 < L.sl) = m2 at HNO
    cases m2 with
    | true =>
      go_upto_region 2 with fail
      refine wp_region_lit ?_
      clear c6 c7
      iterate 27 (first | with_reducible refine isStore (ty := 37) rfl ?_ | go_step)
      refine wpList_store_row rfl 37 _ _ rfl (w.heap.size + 1) (Cm.zero.cells).toArray rfl rfl 37 _ Zr sizeCm (by rfl) (Cm.one _) ?_
      have N_ := setRow_heap z2 (w.heap.size + 1) _ (Cm.zero.cells).toArray _ _ Zr
      have ee := belowSet (cs := (Cm.zero.cells).toArray) ee Zr (by omega)
      have Zl := hpR Zl (g' := w.heap.size + 1) (by omega) (Cm.zero.cells).toArray
      have Zx := hpR Zx (g' := w.heap.size + 1) (by omega) (Cm.zero.cells).toArray
      clear Zr
      have Zr := N_
      clear N_
      generalize z2.setRow (w.heap.size + 1) (Cm.zero.cells).toArray = z3 at Zl Zx Zr ee ⊢
      go_wp2_with fail
      refine bodyPost_ret (v := .tuple #[.agg Cm.zero.cells.toArray, .bool false]) (res_ct rfl rfl rfl Zr Tryd.underlying37 rfl sizeCm) rfl ⟨rfl, ee⟩
    | false =>
      generalize hm3 : decide (s < L.fs) = m3 at HNO
      cases m3 with
      | true =>
        go_upto_region 2 with fail
        refine wp_region_lit ?_
        clear c6 c7
        iterate 27 (first | with_reducible refine isStore (ty := 37) rfl ?_ | go_step)
        refine wpList_store_row rfl 37 _ _ rfl (w.heap.size + 1) (Cm.zero.cells).toArray rfl rfl 37 _ Zr sizeCm (by rfl) (Cm.one _) ?_
        have N_ := setRow_heap z2 (w.heap.size + 1) _ (Cm.zero.cells).toArray _ _ Zr
        have ee := belowSet (cs := (Cm.zero.cells).toArray) ee Zr (by omega)
        have Zl := hpR Zl (g' := w.heap.size + 1) (by omega) (Cm.zero.cells).toArray
        have Zx := hpR Zx (g' := w.heap.size + 1) (by omega) (Cm.zero.cells).toArray
        clear Zr
        have Zr := N_
        clear N_
        generalize z2.setRow (w.heap.size + 1) (Cm.zero.cells).toArray = z3 at Zl Zx Zr ee ⊢
        go_wp2_with fail
        refine bodyPost_ret (v := .tuple #[.agg Cm.zero.cells.toArray, .bool false]) (res_ct rfl rfl rfl Zr Tryd.underlying37 rfl sizeCm) rfl ⟨rfl, ee⟩
      | false =>
        generalize hm4 : decide (1000000 < s) = m4 at HNO
        cases m4 with
        | true =>
          go_upto_region 2 with fail
          refine wp_region_lit ?_
          clear c6 c7
          iterate 27 (first | with_reducible refine isStore (ty := 37) rfl ?_ | go_step)
          refine wpList_store_row rfl 37 _ _ rfl (w.heap.size + 1) (Cm.zero.cells).toArray rfl rfl 37 _ Zr sizeCm (by rfl) (Cm.one _) ?_
          have N_ := setRow_heap z2 (w.heap.size + 1) _ (Cm.zero.cells).toArray _ _ Zr
          have ee := belowSet (cs := (Cm.zero.cells).toArray) ee Zr (by omega)
          have Zl := hpR Zl (g' := w.heap.size + 1) (by omega) (Cm.zero.cells).toArray
          have Zx := hpR Zx (g' := w.heap.size + 1) (by omega) (Cm.zero.cells).toArray
          clear Zr
          have Zr := N_
          clear N_
          generalize z2.setRow (w.heap.size + 1) (Cm.zero.cells).toArray = z3 at Zl Zx Zr ee ⊢
          go_wp2_with fail
          refine bodyPost_ret (v := .tuple #[.agg Cm.zero.cells.toArray, .bool false]) (res_ct rfl rfl rfl Zr Tryd.underlying37 rfl sizeCm) rfl ⟨rfl, ee⟩
        | false =>
          obtain rfl : m5 = false := by have := HNO.out; simpa using this
          iterate 90 (first | with_reducible refine isLoad (ty := 37) rfl ?_ | go_step)
          refine wpList_load_g (by rfl) 37 _ rfl (w.heap.size) 0 rfl (x.cells) _ (rowAt Zx) Tryd.underlying37 rfl sizeCm ?_
          clear c6 c7
          go_wp2_with fail
          refine (HCF.out z2 ee).mono ?_
          rintro e z3 ⟨rfl, t⟩
          have Zl := hpB Zl t
          have Zx := hpB Zx t
          have Zr := hpB Zr t
          have ee := ee.trans (t.mono ee.size)
          clear t
          go_upto_region 2 with fail
          refine wp_region_lit ?_
          iterate 27 (first | with_reducible refine isStore (ty := 37) rfl ?_ | go_step)
          refine wpList_store_row rfl 37 _ _ rfl (w.heap.size + 1) (Cm.zero.cells).toArray rfl rfl 37 _ Zr sizeCm (by rfl) (Cm.one _) ?_
          have N_ := setRow_heap z3 (w.heap.size + 1) _ (Cm.zero.cells).toArray _ _ Zr
          have ee := belowSet (cs := (Cm.zero.cells).toArray) ee Zr (by omega)
          have Zl := hpR Zl (g' := w.heap.size + 1) (by omega) (Cm.zero.cells).toArray
          have Zx := hpR Zx (g' := w.heap.size + 1) (by omega) (Cm.zero.cells).toArray
          clear Zr
          have Zr := N_
          clear N_
          generalize z3.setRow (w.heap.size + 1) (Cm.zero.cells).toArray = z4 at Zl Zx Zr ee ⊢
          go_wp2_with fail
          refine bodyPost_ret (v := .tuple #[.agg Cm.zero.cells.toArray, .bool false]) (res_ct rfl rfl rfl Zr Tryd.underlying37 rfl sizeCm) rfl ⟨rfl, ee⟩
end Go.Proofs.YtbahooohkigcnaaDoor

namespace Go.Proofs.YtbahooohkigcnaaDoor
set_option maxRecDepth 20001
open Go.RowKit T
set_option linter.unusedSimpArgs false
set_option linter.unusedVariables false
namespace Ag
def pv (b : Nat) : Value := .pointer (some ⟨b, 0, none⟩)
/-- a crew's cells -/
def crC (n : Nat) (A : Nat → Ac) (H : Nat → Value) (S : Nat → Value) (k : Nat) : List Value :=
  .int .i64 (n : Int) :: ((A 0).cells ++ ((A 1).cells ++ ((A 2).cells ++ ((A 3).cells ++ ((A 4).cells ++ [H 0, H 1, H 2, H 3, H 4, S 0, S 1, S 2, S 3, S 4, .int .i64 (k : Int)])))))
theorem crS (n : Nat) (A : Nat → Ac) (H S : Nat → Value) (k j : Nat) (hj : j < 5) : (crC n A H S k)[86 + j]? = some (S j) := by
  match j, hj with
  | 0, _ => rfl
  | 1, _ => rfl
  | 2, _ => rfl
  | 3, _ => rfl
  | 4, _ => rfl
/-- the slice in which a leader holds promises -/
def rowv (l : Ld) : Value := .slice l.A l.l.length l.c
/-- a crew lies in block gc -/
structure CrewAt (w : World) (B gc n : Nat) (A : Nat → Ac) (H : Nat → Nat) (L : Nat → Ld) (S : Nat → Value) (X : Nat → List Cm) (k : Nat) : Prop where
  blk : w.heap[gc]? = some (.cells (crC n A (fun j => pv (H j)) S k).toArray 122 (0, 0))
  gB : B ≤ gc
  ld : ∀ j, j < 5 → LdAt w (H j) (L j) ∧ B ≤ H j
  inj : ∀ i j, i < 5 → j < 5 → i ≠ j → H i ≠ H j
  row : ∀ j, j < 5 → w.ownsRow B 39 16 (rowv (L j)) (L j).l.length (acCells (L j).l)
  rdis : ∀ i j, i < 5 → j < 5 → i ≠ j → ∀ g, (rowv (L i)).ownBlock = some g → (rowv (L j)).ownBlock ≠ some g
  xs : ∀ j, j < 5 → w.ownsRow B 37 10 (S j) (X j).length (flat Cm.cells (X j))
  xdis : ∀ i j, i < 5 → j < 5 → i ≠ j → ∀ g, (S i).ownBlock = some g → (S j).ownBlock ≠ some g
section
variable {w w' : World} {B gc n : Nat} {A A' : Nat → Ac} {H : Nat → Nat} {L : Nat → Ld} {S S' : Nat → Value} {X : Nat → List Cm} {k k' : Nat}
/-- nothing that was there has changed -/
theorem CrewAt.below (h : CrewAt w B gc n A H L S X k) (t : Below w.heap.size w w') : CrewAt w' B gc n A H L S X k :=
  ⟨hpB h.blk t, h.gB, fun j hj => ⟨hpB (h.ld j hj).1 t, (h.ld j hj).2⟩, h.inj, fun j hj => ownBelow (h.row j hj) t, h.rdis, fun j hj => ownBelow (h.xs j hj) t, h.xdis⟩
end
end Ag
end Go.Proofs.YtbahooohkigcnaaDoor

namespace Go.Proofs.YtbahooohkigcnaaDoor
set_option maxRecDepth 20001
open Go.RowKit T Ag
set_option linter.unusedSimpArgs false
set_option linter.unusedVariables false

theorem c_csame3 (x y : Cm) (w : World) (B0 : Nat) (hB : B0 ≤ w.heap.size) (ok : CmOk w B0 x) (ok' : CmOk w B0 y) :
    Calls Tryd.prog 32 #[.agg x.cells.toArray, .agg y.cells.toArray] w fun e w' => e = .returned (.bool (SameC x y)) ∧ Below w.heap.size w w' := csame_any x.k x.s x.q x.rs x.ws x.A1 x.c1 x.A2 x.c2 x.i x.j x.g x.st x.y y.k y.s y.q y.rs y.ws y.A1 y.c1 y.A2 y.c2 y.i y.j y.g y.st y.y w B0 hB ok ok'
/-- a replica's list of what it has learnt -/
theorem Ag.CrewAt.list {w : World} {B gc n : Nat} {A : Nat → Ac} {H : Nat → Nat} {L : Nat → Ld} {S : Nat → Value} {X : Nat → List Cm} {k : Nat} (h : CrewAt w B gc n A H L S X k) {j : Nat} (hj : j < 5) :
    ∃ (D : Option Addr) (c : Nat), w.cell? ⟨gc, 86 + j, none⟩ = some (.slice D (X j).length c) ∧ ∀ s x, (X j)[s]? = some x → ∃ g, D = some ⟨g, 0, none⟩ ∧ g < w.heap.size ∧ w.rangeAt g (s * 10) x.cells := by
  have hx := h.xs j hj
  obtain ⟨D, c, e, _, hR, hg⟩ := flatOwn Cm.cells_len (by omega) hx
  refine ⟨D, c, ?_, fun s x hs => ?_⟩
  · rw [← e]; exact rowCell h.blk (86 + j) (crS n A _ S k j hj)
  · obtain ⟨g, h1, _, h2⟩ := hg (by have := (List.getElem?_eq_some_iff.1 hs).1; omega)
    subst h1
    rw [e] at hx
    exact ⟨g, rfl, h2, flatRange Cm.cells_len hx hs⟩
end Go.Proofs.YtbahooohkigcnaaDoor
