/- Steps and proposals of parishlaw18 as cells. Conditions: what lies, lies below; the tables lie. (Printed by gen_one.py.) -/
import Derived.Test.YtbahooohkigcnaaDoorAccPk
import Derived.Test.YtbahooohkigcnaaDoorPaxos
import Derived.Test.YtbahooohkigcnaaDoorRowLaws
import Derived.Great.BuildSlice
namespace Go.Proofs.YtbahooohkigcnaaDoor
set_option maxRecDepth 20000
open Go.RowKit T
set_option linter.unusedSimpArgs false
set_option linter.unusedVariables false

set_option maxHeartbeats 6400000 in
theorem pick_any (A : Option Addr) (c : Nat) (l : List Ac) (w : World) (B0 : Nat) (hl : l.length ≤ 1000000) (hc : l.length ≤ c) (hR : RowsAt w B0 A 16 (l.map Ac.cells)) (hB : B0 ≤ w.heap.size) :
    Calls Tryd.prog 15 #[.slice A l.length c] w fun e w' => e = .returned (.tuple #[.agg (best (topOf l) l).c.cells.toArray, .bool (best (topOf l) l).ha]) ∧ Below w.heap.size w w' := by
  obtain ⟨n, hn⟩ : ∃ n, n = l.length := ⟨_, rfl⟩
  have HN := Lib.hid hn
  have HR := Lib.hid hR
  rw [← hn] at hc hl ⊢
  clear hn hR
  obtain ⟨w0, hw0⟩ : ∃ w0, w0 = w.alloc (.cells #[.int .i64 0, .int .i64 0, .int .i64 0, .slice none 0 0, .slice none 0 0, .int .i64 0, .int .i64 0, .int .i64 0, .int .u64 0, .bool false] 37) := ⟨_, rfl⟩
  have ee : Below w.heap.size w w0 := by rw [hw0]; exact (Below.refl _ _).alloc (Nat.le_refl _) _
  have Zr : w0.heap[w.heap.size]? = some (.cells #[.int .i64 0, .int .i64 0, .int .i64 0, .slice none 0 0, .slice none 0 0, .int .i64 0, .int .i64 0, .int .i64 0, .int .u64 0, .bool false] 37) := by rw [hw0]; exact hpN _ _ rfl
  go_enter Tryd.func15, Tryd.ntmps15
  go_upto_region 1 with fail
  rw [← hw0]
  clear hw0
  go_wp2_with fail
  go_loopw [4, 12] (fun t i wr => ∃ k : Nat, k ≤ n ∧ i = .int .i64 (k : Int) ∧ t = .int .i64 (topOf (l.take k)) ∧ Hid (wr.heap[w.heap.size]? = some (.cells #[.int .i64 0, .int .i64 0, .int .i64 0, .slice none 0 0, .slice none 0 0, .int .i64 0, .int .i64 0, .int .i64 0, .int .u64 0, .bool false] 37)) ∧ Hid (Below w.heap.size w wr)) (fun _ i _ => n - (intOf i).toNat)
  case atStart => exact ⟨0, Nat.zero_le _, rfl, rfl, Zr, ee⟩
  case round =>
    clear Zr ee
    obtain ⟨k, hk, rfl, rfl, Zr, ee⟩ := hrel
    have Zr := Zr.out
    have ee := ee.out
    by_cases hlt : k < n
    · have hkl : k < l.length := by rw [← HN.out]; exact hlt
      obtain ⟨bo, off, rfl, hbo, hr⟩ := rowsGet HR.out hkl
      have HK : Hid (l.take (k + 1) = l.take k ++ [l[k]'hkl]) := List.take_succ_eq_append_getElem hkl
      have HMEM : Hid (l[k]'hkl ∈ l) := List.getElem_mem hkl
      have hbo : bo < w.heap.size := Nat.lt_of_lt_of_le hbo hB
      generalize l[k] = x at hr HK HMEM
      have HT : Hid (topOf (l.take (k + 1)) = if l.take k = [] then x.sl else if topOf (l.take k) < x.sl then x.sl else topOf (l.take k)) := by
        show _ = _
        rw [HK.out]; exact topOf_snoc _ _
      have HE : Hid (l.take k = [] ↔ k = 0) := by
        constructor
        · intro h
          have h2 : (l.take k).length = 0 := by rw [h]; rfl
          rw [List.length_take] at h2; omega
        · intro h; rw [h]; rfl
      clear HK HMEM
      generalize topOf (l.take k) = u at HT ⊢
      go_upto_region 4 with fail
      refine wp_region_lit ?_
      iterate 27 (first | with_reducible refine isLoad (ty := 39) rfl ?_ | go_step)
      refine wpList_load_mid rfl 39 _ rfl (bo) (off + k * 16) rfl (x.cells) _ (rangeB hr ee hbo) Tryd.underlying39 rfl sizeAc ?_
      have e0s := ee.size
      iterate 3 go_step
      have lZr := (Array.getElem?_eq_some_iff.1 Zr).1
      have Zr := hpA Zr (.cells #[.int .u32 0, .int .i64 0, .int .i64 0, .bool false, .int .u32 0, .int .i64 0, .int .i64 0, .int .i64 0, .int .i64 0, .slice none 0 0, .slice none 0 0, .int .i64 0, .int .i64 0, .int .i64 0, .int .u64 0, .bool false] 39)
      have ee := ee.alloc ee.size (.cells #[.int .u32 0, .int .i64 0, .int .i64 0, .bool false, .int .u32 0, .int .i64 0, .int .i64 0, .int .i64 0, .int .i64 0, .slice none 0 0, .slice none 0 0, .int .i64 0, .int .i64 0, .int .i64 0, .int .u64 0, .bool false] 39)
      have Zi := hpN wr (.cells #[.int .u32 0, .int .i64 0, .int .i64 0, .bool false, .int .u32 0, .int .i64 0, .int .i64 0, .int .i64 0, .int .i64 0, .slice none 0 0, .slice none 0 0, .int .i64 0, .int .i64 0, .int .i64 0, .int .u64 0, .bool false] 39) rfl
      generalize wr.alloc (.cells #[.int .u32 0, .int .i64 0, .int .i64 0, .bool false, .int .u32 0, .int .i64 0, .int .i64 0, .int .i64 0, .int .i64 0, .slice none 0 0, .slice none 0 0, .int .i64 0, .int .i64 0, .int .i64 0, .int .u64 0, .bool false] 39) = z1 at Zr Zi ee ⊢
      iterate 27 (first | with_reducible refine isStore (ty := 39) rfl ?_ | go_step)
      refine wpList_store_row rfl 39 _ _ rfl (wr.heap.size) (x.cells).toArray rfl rfl 39 _ Zi sizeAc (by rfl) (Ac.one _) ?_
      have N_ := setRow_heap z1 (wr.heap.size) _ (x.cells).toArray _ _ Zi
      have ee := belowSet (cs := (x.cells).toArray) ee Zi (by omega)
      have Zr := hpR Zr (g' := wr.heap.size) (by omega) (x.cells).toArray
      clear Zi
      have Zi := N_
      clear N_
      generalize z1.setRow (wr.heap.size) (x.cells).toArray = z2 at Zr Zi ee ⊢
      have i2 := rowCell Zi 2 (v := .int .i64 x.sl) rfl
      clear Zi e0s
      by_cases hk0 : k = 0
      · have HT2 : Hid (topOf (l.take (k + 1)) = x.sl) := by show _ = _; rw [HT.out, if_pos (HE.out.2 hk0)]
        clear HT HE
        have hkb : ((k : Int) == 0) = true := by simp [hk0]
        clear hk0
        go_wp2_with fail
        go_roundw
        case rel => exact ⟨k + 1, by omega, by go_num, by rw [HT2.out], Zr, ee⟩
        case measure => simp [intOf]; omega
      · have hkb : ((k : Int) == 0) = false := by simp [hk0]
        by_cases hs : u < x.sl
        · have HT2 : Hid (topOf (l.take (k + 1)) = x.sl) := by show _ = _; rw [HT.out, if_neg (fun h => hk0 (HE.out.1 h)), if_pos hs]
          clear HT HE hk0
          have f1 : decide (u < x.sl) = true := by simpa using hs
          clear hs
          go_wp2_with fail
          go_roundw
          case rel => exact ⟨k + 1, by omega, by go_num, by rw [HT2.out], Zr, ee⟩
          case measure => simp [intOf]; omega
        · have HT2 : Hid (topOf (l.take (k + 1)) = u) := by show _ = _; rw [HT.out, if_neg (fun h => hk0 (HE.out.1 h)), if_neg hs]
          clear HT HE hk0
          have f1 : decide (u < x.sl) = false := by simpa using hs
          clear hs
          go_wp2_with fail
          go_roundw
          case rel => exact ⟨k + 1, by omega, by go_num, by rw [HT2.out], Zr, ee⟩
          case measure => simp [intOf]; omega
    · obtain rfl : k = n := by omega
      have htk : l.take k = l := by rw [HN.out]; exact List.take_length
      rw [htk]
      clear htk hlt
      obtain ⟨u, hu⟩ : ∃ u, u = topOf l := ⟨_, rfl⟩
      have HU : Hid (topOf l = u) := hu.symm
      rw [← hu]
      clear hu
      go_upto_region 8 with fail
      refine wp_region_lit ?_
      have e0s := ee.size
      iterate 3 go_step
      have lZr := (Array.getElem?_eq_some_iff.1 Zr).1
      have Zr := hpA Zr (.cells #[.int .u32 0, .int .i64 0, .int .i64 0, .bool false, .int .u32 0, .int .i64 0, .int .i64 0, .int .i64 0, .int .i64 0, .slice none 0 0, .slice none 0 0, .int .i64 0, .int .i64 0, .int .i64 0, .int .u64 0, .bool false] 39)
      have ee := ee.alloc ee.size (.cells #[.int .u32 0, .int .i64 0, .int .i64 0, .bool false, .int .u32 0, .int .i64 0, .int .i64 0, .int .i64 0, .int .i64 0, .slice none 0 0, .slice none 0 0, .int .i64 0, .int .i64 0, .int .i64 0, .int .u64 0, .bool false] 39)
      have Zb := hpN wr (.cells #[.int .u32 0, .int .i64 0, .int .i64 0, .bool false, .int .u32 0, .int .i64 0, .int .i64 0, .int .i64 0, .int .i64 0, .slice none 0 0, .slice none 0 0, .int .i64 0, .int .i64 0, .int .i64 0, .int .u64 0, .bool false] 39) rfl
      generalize wr.alloc (.cells #[.int .u32 0, .int .i64 0, .int .i64 0, .bool false, .int .u32 0, .int .i64 0, .int .i64 0, .int .i64 0, .int .i64 0, .slice none 0 0, .slice none 0 0, .int .i64 0, .int .i64 0, .int .i64 0, .int .u64 0, .bool false] 39) = z1 at Zr Zb ee ⊢
      obtain ⟨gb, hg_⟩ : ∃ g_, g_ = wr.heap.size := ⟨_, rfl⟩
      have lgb : w.heap.size < gb := by rw [hg_]; exact lZr
      rw [← hg_] at Zb ⊢
      clear hg_ lZr e0s
      go_wp2_with fail
      clear hk
      go_loopw [30] (fun i wr => ∃ m : Nat, m ≤ k ∧ i = .int .i64 (m : Int) ∧ Hid (wr.heap[w.heap.size]? = some (.cells #[.int .i64 0, .int .i64 0, .int .i64 0, .slice none 0 0, .slice none 0 0, .int .i64 0, .int .i64 0, .int .i64 0, .int .u64 0, .bool false] 37)) ∧ Hid (wr.heap[gb]? = some (.cells (best u (l.take m)).cells.toArray 39)) ∧ Hid (Below w.heap.size w wr)) (fun i _ => k - (intOf i).toNat)
      case atStart => exact ⟨0, Nat.zero_le _, rfl, Zr, Zb, ee⟩
      case round =>
        clear Zr Zb ee
        obtain ⟨m, hm, rfl, Zr, Zb, ee⟩ := hrel
        have Zr := Zr.out
        have Zb := Zb.out
        have ee := ee.out
        by_cases hlt : m < k
        · have hkl : m < l.length := by rw [← HN.out]; exact hlt
          obtain ⟨bo, off, rfl, hbo, hr⟩ := rowsGet HR.out hkl
          have hbo : bo < w.heap.size := Nat.lt_of_lt_of_le hbo hB
          have HBS : Hid (best u (l.take (m + 1)) = bif takes u (best u (l.take m)) (l[m]'hkl) then l[m]'hkl else best u (l.take m)) := by
            show _ = _
            rw [List.take_succ_eq_append_getElem hkl]; exact best_snoc _ _ _
          generalize l[m] = x at hr HBS
          generalize best u (l.take m) = b at HBS Zb
          go_upto_region 11 with fail
          refine wp_region_lit ?_
          iterate 27 (first | with_reducible refine isLoad (ty := 39) rfl ?_ | go_step)
          refine wpList_load_mid rfl 39 _ rfl (bo) (off + m * 16) rfl (x.cells) _ (rangeB hr ee hbo) Tryd.underlying39 rfl sizeAc ?_
          have e0s := ee.size
          iterate 3 go_step
          have lZr := (Array.getElem?_eq_some_iff.1 Zr).1
          have lZb := (Array.getElem?_eq_some_iff.1 Zb).1
          have Zr := hpA Zr (.cells #[.int .u32 0, .int .i64 0, .int .i64 0, .bool false, .int .u32 0, .int .i64 0, .int .i64 0, .int .i64 0, .int .i64 0, .slice none 0 0, .slice none 0 0, .int .i64 0, .int .i64 0, .int .i64 0, .int .u64 0, .bool false] 39)
          have Zb := hpA Zb (.cells #[.int .u32 0, .int .i64 0, .int .i64 0, .bool false, .int .u32 0, .int .i64 0, .int .i64 0, .int .i64 0, .int .i64 0, .slice none 0 0, .slice none 0 0, .int .i64 0, .int .i64 0, .int .i64 0, .int .u64 0, .bool false] 39)
          have ee := ee.alloc ee.size (.cells #[.int .u32 0, .int .i64 0, .int .i64 0, .bool false, .int .u32 0, .int .i64 0, .int .i64 0, .int .i64 0, .int .i64 0, .slice none 0 0, .slice none 0 0, .int .i64 0, .int .i64 0, .int .i64 0, .int .u64 0, .bool false] 39)
          have Zi := hpN wr (.cells #[.int .u32 0, .int .i64 0, .int .i64 0, .bool false, .int .u32 0, .int .i64 0, .int .i64 0, .int .i64 0, .int .i64 0, .slice none 0 0, .slice none 0 0, .int .i64 0, .int .i64 0, .int .i64 0, .int .u64 0, .bool false] 39) rfl
          generalize wr.alloc (.cells #[.int .u32 0, .int .i64 0, .int .i64 0, .bool false, .int .u32 0, .int .i64 0, .int .i64 0, .int .i64 0, .int .i64 0, .slice none 0 0, .slice none 0 0, .int .i64 0, .int .i64 0, .int .i64 0, .int .u64 0, .bool false] 39) = z2 at Zr Zb Zi ee ⊢
          iterate 27 (first | with_reducible refine isStore (ty := 39) rfl ?_ | go_step)
          refine wpList_store_row rfl 39 _ _ rfl (wr.heap.size) (x.cells).toArray rfl rfl 39 _ Zi sizeAc (by rfl) (Ac.one _) ?_
          have N_ := setRow_heap z2 (wr.heap.size) _ (x.cells).toArray _ _ Zi
          have ee := belowSet (cs := (x.cells).toArray) ee Zi (by omega)
          have Zr := hpR Zr (g' := wr.heap.size) (by omega) (x.cells).toArray
          have Zb := hpR Zb (g' := wr.heap.size) (by omega) (x.cells).toArray
          clear Zi
          have Zi := N_
          clear N_
          generalize z2.setRow (wr.heap.size) (x.cells).toArray = z3 at Zr Zb Zi ee ⊢
          have i2 := rowCell Zi 2 (v := .int .i64 x.sl) rfl
          by_cases hs : x.sl = u
          · have f1 : (x.sl == u) = true := by simpa using hs
            cases hx : x.ha with
            | false =>
              have i3 := rowCell Zi 3 (v := .bool false) (by rw [← hx]; rfl)
              have HB2 : Hid (best u (l.take (m + 1)) = b) := by show _ = _; rw [HBS.out]; simp [takes, hx]
              clear HBS hs hx
              go_wp2_with fail
              go_roundw
              case rel => exact ⟨m + 1, by omega, by go_num, Zr, HB2.out ▸ Zb, ee⟩
              case measure => simp [intOf]; omega
            | true =>
              have i3 := rowCell Zi 3 (v := .bool true) (by rw [← hx]; rfl)
              cases hb : b.ha with
              | false =>
                have b3 := rowCell Zb 3 (v := .bool false) (by rw [← hb]; rfl)
                have HB2 : Hid (best u (l.take (m + 1)) = x) := by show _ = _; rw [HBS.out]; simp [takes, hx, hb, hs]
                clear HBS hs hx hb
                go_upto_region 13 with fail
                refine wp_region_lit ?_
                iterate 27 (first | with_reducible refine isLoad (ty := 39) rfl ?_ | go_step)
                refine wpList_load_mid rfl 39 _ rfl (wr.heap.size) 0 rfl ((x.cells)) _ (rowAt Zi) Tryd.underlying39 rfl sizeAc ?_
                iterate 27 (first | with_reducible refine isStore (ty := 39) rfl ?_ | go_step)
                refine wpList_store_row rfl 39 _ _ rfl (gb) (x.cells).toArray rfl rfl 39 _ Zb sizeAc (by rfl) (Ac.one _) ?_
                have N_ := setRow_heap z3 (gb) _ (x.cells).toArray _ _ Zb
                have ee := belowSet (cs := (x.cells).toArray) ee Zb (by omega)
                have Zr := hpR Zr (g' := gb) (by omega) (x.cells).toArray
                have Zi := hpR Zi (g' := gb) (by omega) (x.cells).toArray
                clear Zb
                have Zb := N_
                clear N_
                generalize z3.setRow (gb) (x.cells).toArray = z4 at Zr Zb Zi ee ⊢
                go_wp2_with fail
                go_roundw
                case rel => exact ⟨m + 1, by omega, by go_num, Zr, HB2.out ▸ Zb, ee⟩
                case measure => simp [intOf]; omega
              | true =>
                have b3 := rowCell Zb 3 (v := .bool true) (by rw [← hb]; rfl)
                have b4 := rowCell Zb 4 (v := .int .u32 (b.vr : Int)) rfl
                have b5 := rowCell Zb 5 (v := .int .i64 b.vn) rfl
                have i4 := rowCell Zi 4 (v := .int .u32 (x.vr : Int)) rfl
                have i5 := rowCell Zi 5 (v := .int .i64 x.vn) rfl
                have HLE := Lib.hid (fun z => bless_any b.vr b.vn x.vr x.vn z)
                have HLT : Hid (b.bless x = B.less b.vr b.vn x.vr x.vn) := rfl
                generalize B.less b.vr b.vn x.vr x.vn = ml at HLE HLT
                go_wp2_with fail
                refine (HLE.out z3).mono ?_
                rintro e z4 ⟨rfl, t⟩
                have Zr := hpB Zr t
                have Zb := hpB Zb t
                have Zi := hpB Zi t
                have ee := ee.trans (t.mono ee.size)
                clear t
                clear b3 b4 b5 i2 i3 i4 i5 HLE
                cases ml with
                | false =>
                  have HB2 : Hid (best u (l.take (m + 1)) = b) := by show _ = _; rw [HBS.out]; simp [takes, hx, hb, hs, HLT.out]
                  clear HBS hs hx hb HLT
                  go_wp2_with fail
                  go_roundw
                  case rel => exact ⟨m + 1, by omega, by go_num, Zr, HB2.out ▸ Zb, ee⟩
                  case measure => simp [intOf]; omega
                | true =>
                  have HB2 : Hid (best u (l.take (m + 1)) = x) := by show _ = _; rw [HBS.out]; simp [takes, hx, hb, hs, HLT.out]
                  clear HBS hs hx hb HLT
                  go_upto_region 13 with fail
                  refine wp_region_lit ?_
                  iterate 27 (first | with_reducible refine isLoad (ty := 39) rfl ?_ | go_step)
                  refine wpList_load_mid rfl 39 _ rfl (wr.heap.size) 0 rfl ((x.cells)) _ (rowAt Zi) Tryd.underlying39 rfl sizeAc ?_
                  iterate 27 (first | with_reducible refine isStore (ty := 39) rfl ?_ | go_step)
                  refine wpList_store_row rfl 39 _ _ rfl (gb) (x.cells).toArray rfl rfl 39 _ Zb sizeAc (by rfl) (Ac.one _) ?_
                  have N_ := setRow_heap z4 (gb) _ (x.cells).toArray _ _ Zb
                  have ee := belowSet (cs := (x.cells).toArray) ee Zb (by omega)
                  have Zr := hpR Zr (g' := gb) (by omega) (x.cells).toArray
                  have Zi := hpR Zi (g' := gb) (by omega) (x.cells).toArray
                  clear Zb
                  have Zb := N_
                  clear N_
                  generalize z4.setRow (gb) (x.cells).toArray = z5 at Zr Zb Zi ee ⊢
                  go_wp2_with fail
                  go_roundw
                  case rel => exact ⟨m + 1, by omega, by go_num, Zr, HB2.out ▸ Zb, ee⟩
                  case measure => simp [intOf]; omega
          · have f1 : (x.sl == u) = false := by simpa using hs
            have HB2 : Hid (best u (l.take (m + 1)) = b) := by show _ = _; rw [HBS.out]; simp [takes, hs]
            clear HBS hs
            go_wp2_with fail
            go_roundw
            case rel => exact ⟨m + 1, by omega, by go_num, Zr, HB2.out ▸ Zb, ee⟩
            case measure => simp [intOf]; omega
        · obtain rfl : m = k := by omega
          have htk : l.take m = l := by rw [HN.out]; exact List.take_length
          rw [htk] at Zb
          clear htk hlt
          obtain ⟨b, hb⟩ : ∃ b, b = best u l := ⟨_, rfl⟩
          have HBB : Hid (best u l = b) := hb.symm
          rw [← hb] at Zb
          clear hb
          go_upto_region 15 with fail
          have Zr : wr.drew.heap[w.heap.size]? = some (.cells #[.int .i64 0, .int .i64 0, .int .i64 0, .slice none 0 0, .slice none 0 0, .int .i64 0, .int .i64 0, .int .i64 0, .int .u64 0, .bool false] 37) := Zr
          have Zb : wr.drew.heap[gb]? = some (.cells b.cells.toArray 39) := Zb
          have ee := belowDrewS ee
          refine wp_region_held_drew (S := fun z' => z'.rangeAt gb 6 b.c.cells ∧ z'.cell? ⟨gb, 3, none⟩ = some (.bool b.ha)) (by kernel_rfl) ⟨rowMid Zb 6 (Ac.part b), rowCell Zb 3 rfl⟩ (fun hH => ?_)
          clear hH
          generalize wr.drew = z2 at Zr Zb  ee ⊢
          refine wpAnyH_take (i := 0) (v := .pointer (some ⟨gb, 6, none⟩)) rfl (by kernel_rfl) (by kernel_rfl) (by kernel_rfl) (fun _ _ _ h => h) (Or.inl ⟨by rfl, fun w_ hS_ => by (first | (go_simp; done) | (go_simp; rfl))⟩) ⟨rowMid Zb 6 (Ac.part b), rowCell Zb 3 rfl⟩ ?_
          try simp only [Act.put, List.getElem_toArray, List.getElem_cons_zero, List.getElem_cons_succ, List.setIfInBounds_toArray, List.set_cons_zero, List.set_cons_succ]
          refine wpAnyH_take (i := 1) (v := .agg (b.c.cells).toArray) rfl (by kernel_rfl) (by kernel_rfl) (by kernel_rfl) (fun _ _ _ h => h) (yieldsIf_load_mid (by rfl) 37 _ rfl (gb) (6) rfl (b.c.cells) _ (fun _ h => h.1) Tryd.underlying37 rfl sizeCm) ⟨rowMid Zb 6 (Ac.part b), rowCell Zb 3 rfl⟩ ?_
          try simp only [Act.put, List.getElem_toArray, List.getElem_cons_zero, List.getElem_cons_succ, List.setIfInBounds_toArray, List.set_cons_zero, List.set_cons_succ]
          refine wpAnyH_take (i := 2) (v := .pointer (some ⟨gb, 3, none⟩)) rfl (by kernel_rfl) (by kernel_rfl) (by kernel_rfl) (fun _ _ _ h => h) (Or.inl ⟨by rfl, fun w_ hS_ => by (first | (go_simp; done) | (go_simp; rfl))⟩) ⟨rowMid Zb 6 (Ac.part b), rowCell Zb 3 rfl⟩ ?_
          try simp only [Act.put, List.getElem_toArray, List.getElem_cons_zero, List.getElem_cons_succ, List.setIfInBounds_toArray, List.set_cons_zero, List.set_cons_succ]
          refine wpAnyH_take (i := 3) (v := .bool b.ha) rfl (by kernel_rfl) (by kernel_rfl) (by kernel_rfl) (fun _ _ _ h => h) (Or.inl ⟨by rfl, fun w_ hS_ => by (obtain ⟨h1_, h2_⟩ := hS_; go_simp)⟩) ⟨rowMid Zb 6 (Ac.part b), rowCell Zb 3 rfl⟩ ?_
          try simp only [Act.put, List.getElem_toArray, List.getElem_cons_zero, List.getElem_cons_succ, List.setIfInBounds_toArray, List.set_cons_zero, List.set_cons_succ]
          refine wpAnyH_ready (rs := [4]) (by kernel_rfl) (by simp) ?_
          refine AllReadyH.cons rfl (fun K hK => ?_) AllReadyH.nil
          rw [if_pos (by rfl)]
          refine wp_store_row 37 _ _ rfl (w.heap.size) (b.c.cells).toArray rfl rfl 37 _ Zr sizeCm (by rfl) (Cm.one _) ?_
          have N_ := setRow_heap z2 (w.heap.size) _ (b.c.cells).toArray _ _ Zr
          have ee := belowSet (cs := (b.c.cells).toArray) ee Zr (by omega)
          have Zb := hpR Zb (g' := w.heap.size) (by omega) (b.c.cells).toArray
          clear Zr
          have Zr := N_
          clear N_
          generalize z2.setRow (w.heap.size) (b.c.cells).toArray = z3 at Zr Zb ee ⊢
          refine hK.out _ _ ⟨rowMid Zb 6 (Ac.part b), rowCell Zb 3 rfl⟩ (fun hH => ?_)
          clear hK K hH
          try simp only [Act.put, List.getElem_toArray, List.getElem_cons_zero, List.getElem_cons_succ, List.setIfInBounds_toArray, List.set_cons_zero, List.set_cons_succ]
          refine wpAnyH_take (i := 5) (v := .bool b.ha) rfl (by kernel_rfl) (by kernel_rfl) (by kernel_rfl) (fun _ _ _ h => h) (Or.inl ⟨by rfl, fun w_ hS_ => by (first | (go_simp; done) | (go_simp; rfl))⟩) ⟨rowMid Zb 6 (Ac.part b), rowCell Zb 3 rfl⟩ ?_
          try simp only [Act.put, List.getElem_toArray, List.getElem_cons_zero, List.getElem_cons_succ, List.setIfInBounds_toArray, List.set_cons_zero, List.set_cons_succ]
          refine wpAnyH_done (by kernel_rfl) ?_ _
          go_wp2_with fail
          refine bodyPost_ret (v := .tuple #[.agg b.c.cells.toArray, .bool b.ha]) (res_ct rfl rfl rfl Zr Tryd.underlying37 rfl sizeCm) rfl ⟨by rw [HU.out, HBB.out], ee⟩
end Go.Proofs.YtbahooohkigcnaaDoor

namespace Go.Proofs.YtbahooohkigcnaaDoor
set_option maxRecDepth 20001
open Go.RowKit T Px
set_option linter.unusedSimpArgs false
set_option linter.unusedVariables false
/-- a command that bears no slices -/
def flatC (x : Cm) : Prop := x.rs = [] ∧ x.ws = [] ∧ x.A1 = none ∧ x.c1 = 0 ∧ x.A2 = none ∧ x.c2 = 0
theorem CmOk.flat {w : World} {B : Nat} {x : Cm} (h : flatC x) : CmOk w B x := by
  obtain ⟨h1, h2, h3, h4, h5, h6⟩ := h
  unfold CmOk
  rw [h1, h2, h3, h4, h5, h6]
  exact TxOk.zero
theorem flatC_zero : flatC Cm.zero := ⟨rfl, rfl, rfl, rfl, rfl, rfl⟩
/-- what is proposed of one's own -/
def stampC (i j : Int) : Cm := ⟨2, 0, 0, [], [], none, 0, none, 0, i, j, 0, 1, false⟩
theorem flatC_stamp (i j : Int) : flatC (stampC i j) := ⟨rfl, rfl, rfl, rfl, rfl, rfl⟩
namespace One
/-- a proposal, and who voted for it -/
structure Pq where
  br : Nat
  bn : Int
  x : Cm
  vo : List Bool
def Pq.pr (p : Pq) : Pr := ⟨p.br, p.bn, 1, p.x⟩
abbrev at_ (ls : List Ac) (j : Nat) : Ac := ls.getD j Ac.new
/-- promises are asked for -/
def ask (f : Nat → Bool) (br : Nat) (bn : Int) (ls : List Ac) : Nat → List Ac × List Ac
  | 0 => (ls, [])
  | k + 1 => bif f k then ((ask f br bn ls k).1.set k ((at_ (ask f br bn ls k).1 k).prep br bn), bif (at_ (ask f br bn ls k).1 k).may br bn then (ask f br bn ls k).2 ++ [(at_ (ask f br bn ls k).1 k).prep br bn] else (ask f br bn ls k).2) else ask f br bn ls k
/-- votes are asked for -/
def vot (f : Nat → Bool) (br : Nat) (bn : Int) (x : Cm) (ls : List Ac) (vo : List Bool) : Nat → List Ac × List Bool
  | 0 => (ls, vo)
  | k + 1 => bif f k then ((vot f br bn x ls vo k).1.set k ((at_ (vot f br bn x ls vo k).1 k).vote br bn 1 x), (vot f br bn x ls vo k).2.set k ((vot f br bn x ls vo k).2.getD k false || decide ((at_ (vot f br bn x ls vo k).1 k).how br bn 1 x = 3))) else vot f br bn x ls vo k
/-- what is proposed -/
def picked (l : List Ac) (br : Nat) (bn : Int) : Cm := bif (best (topOf l) l).ha then (best (topOf l) l).c else stampC (1 + bn) br
/-- the last proposal with a ballot -/
def find (br : Nat) (bn : Int) (all : List Pq) : Nat → Option Nat
  | 0 => none
  | k + 1 => match all[k]? with
    | some p => if p.br = br ∧ p.bn = bn then some k else find br bn all k
    | none => find br bn all k
/-- ahead of the votes -/
def pre (size : Nat) (br : Nat) (bn : Int) (f : Nat → Bool) (ls : List Ac) (all : List Pq) : List Ac × List Pq × Option Nat :=
  match find br bn all all.length with
  | some k => (ls, all, some k)
  | none => bif decide (size < 2 * (ask f br bn ls size).2.length) then ((ask f br bn ls size).1, all ++ [⟨br, bn, picked (ask f br bn ls size).2 br bn, [false, false, false, false, false]⟩], some all.length) else ((ask f br bn ls size).1, all, none)
def pz : Pq := ⟨0, 0, Cm.zero, []⟩
def fin (size : Nat) (br : Nat) (bn : Int) (g : Nat → Bool) (R : List Ac × List Pq × Option Nat) : List Ac × List Pq :=
  match R.2.2 with
  | none => (R.1, R.2.1)
  | some k => ((vot g br bn (R.2.1.getD k pz).x R.1 (R.2.1.getD k pz).vo size).1, R.2.1.set k { R.2.1.getD k pz with vo := (vot g br bn (R.2.1.getD k pz).x R.1 (R.2.1.getD k pz).vo size).2 })
/-- what holds at every time -/
structure Holds1 (n : Nat) (ls : List Ac) (all : List Pq) (V : Vt) : Prop where
  len : ls.length = 5
  sl : ∀ a ∈ ls, a.sl = 1 ∧ flatC a.c
  inv : Inv n (at_ ls) (all.map Pq.pr) V
  vo : ∀ p ∈ all, p.vo.length = 5 ∧ flatC p.x ∧ ∀ j, j < n → V p.br p.bn 1 j = p.vo.getD j false
  one : ∀ (i k : Nat) (p q : Pq), all[i]? = some p → all[k]? = some q → p.br = q.br → p.bn = q.bn → i = k
theorem at_set {ls : List Ac} {k : Nat} (hk : k < ls.length) (a : Ac) : at_ (ls.set k a) = upd (at_ ls) k a := funext fun j => by
  unfold at_ upd
  rw [List.getD_eq_getElem?_getD, List.getElem?_set]
  by_cases e : k = j
  · subst e; rw [if_pos rfl, if_pos hk, if_pos rfl]; rfl
  · rw [if_neg e, if_neg (fun h => e h.symm)]; exact (List.getD_eq_getElem?_getD ..).symm
theorem at_mem {ls : List Ac} {k : Nat} (hk : k < ls.length) : at_ ls k ∈ ls := by
  unfold at_
  rw [List.getD_eq_getElem?_getD, List.getElem?_eq_getElem hk]
  exact List.getElem_mem hk
theorem mem_set {α : Type} {l : List α} {k : Nat} {a b : α} (h : b ∈ l.set k a) : b ∈ l ∨ b = a := List.mem_or_eq_of_mem_set h
theorem prep_flat {a : Ac} (h : a.sl = 1 ∧ flatC a.c) (br : Nat) (bn : Int) : (a.prep br bn).sl = 1 ∧ flatC (a.prep br bn).c := by
  obtain ⟨e1, _, _, _, e5⟩ := prep_same a br bn
  rw [e1, e5]; exact h
theorem vote_flat {a : Ac} (h : a.sl = 1 ∧ flatC a.c) (br : Nat) (bn : Int) {x : Cm} (hx : flatC x) : (a.vote br bn 1 x).sl = 1 ∧ flatC (a.vote br bn 1 x).c := by
  by_cases hh : a.how br bn 1 x = 3
  · rw [vote_eq hh]; exact ⟨rfl, hx⟩
  · rw [vote_no hh]; exact h
theorem Holds1.set_prep {n : Nat} {ls : List Ac} {all : List Pq} {V : Vt} (h : Holds1 n ls all V) (h5 : n ≤ 5) {k : Nat} (hk : k < n) (br : Nat) (bn : Int) : Holds1 n (ls.set k ((at_ ls k).prep br bn)) all V := by
  have hkl : k < ls.length := by rw [h.len]; omega
  refine ⟨by rw [List.length_set]; exact h.len, fun a ha => ?_, ?_, h.vo, h.one⟩
  · rcases mem_set ha with ha | rfl
    · exact h.sl a ha
    · exact prep_flat (h.sl _ (at_mem hkl)) br bn
  · rw [at_set hkl]; exact h.inv.prep hk br bn
theorem ask_good {n : Nat} {ls : List Ac} {all : List Pq} {V : Vt} (h : Holds1 n ls all V) (h5 : n ≤ 5) (f : Nat → Bool) (br : Nat) (bn : Int) : ∀ k, k ≤ n →
    Holds1 n (ask f br bn ls k).1 all V ∧ ∃ g : Nat → Bool, (ask f br bn ls k).2.length = cnt k g ∧ (∀ j, j < k → g j = true → ∃ S ∈ (ask f br bn ls k).2, Ev (at_ (ask f br bn ls k).1) (all.map Pq.pr) V br bn j S) ∧
      ∀ S ∈ (ask f br bn ls k).2, S.sl = 1 ∧ flatC S.c ∧ (S.ha = true → ∃ p ∈ all.map Pq.pr, p.br = S.vr ∧ p.bn = S.vn ∧ p.s = S.sl ∧ p.x = S.c) := by
  intro k
  induction k with
  | zero => exact fun _ => ⟨h, fun _ => false, rfl, fun j hj => absurd hj (by omega), fun S hS => by simp [ask] at hS⟩
  | succ k ih =>
    intro hk
    obtain ⟨i1, g, i2, i3, i4⟩ := ih (by omega)
    unfold ask
    generalize ask f br bn ls k = R at i1 i2 i3 i4 ⊢
    obtain ⟨l', pr⟩ := R
    simp only at i1 i2 i3 i4 ⊢
    have hkl : k < l'.length := by rw [i1.len]; omega
    cases hf : f k with
    | false =>
      refine ⟨i1, fun j => g j && decide (j < k), ?_, fun j hj hg => ?_, i4⟩
      · rw [cond_false, cnt_succ, if_neg (by simp), i2]
        exact cnt_congr fun j hj => by simp [hj]
      · rw [Bool.and_eq_true, decide_eq_true_eq] at hg
        exact i3 j hg.2 hg.1
    | true =>
      have hG := i1.set_prep h5 (show k < n by omega) br bn
      simp only [cond_true]
      cases hm : (at_ l' k).may br bn with
      | false =>
        have e0 : (at_ l' k).prep br bn = at_ l' k := by unfold Ac.prep; rw [hm]; rfl
        have e1 : at_ (l'.set k ((at_ l' k).prep br bn)) = at_ l' := by rw [at_set hkl, e0, upd_self]
        refine ⟨hG, fun j => g j && decide (j < k), ?_, fun j hj hg => ?_, i4⟩
        · rw [cond_false, cnt_succ, if_neg (by simp), i2]
          exact cnt_congr fun j hj => by simp [hj]
        · rw [Bool.and_eq_true, decide_eq_true_eq] at hg
          rw [e1]
          exact i3 j hg.2 hg.1
      | true =>
        have hE := Ev.made i1.inv (show k < n by omega) hm
        refine ⟨hG, fun j => bif decide (j = k) then true else g j, ?_, fun j hj hg => ?_, fun S hS => ?_⟩
        · rw [cond_true, List.length_append, cnt_succ, if_pos (by simp), i2, List.length_singleton]
          congr 1
          exact cnt_congr fun j hj => by rw [decide_eq_false (by omega)]; rfl
        · rw [cond_true, at_set hkl]
          by_cases e : j = k
          · subst e
            exact ⟨_, List.mem_append_right _ (List.mem_singleton.2 rfl), hE⟩
          · simp only [decide_eq_false e, cond_false] at hg
            obtain ⟨S, hS, hev⟩ := i3 j (by omega) hg
            exact ⟨S, List.mem_append_left _ hS, hev.up k (up_prep (i1.inv.fm k (by omega)) br bn)⟩
        · rw [cond_true] at hS
          rcases List.mem_append.1 hS with hS | hS
          · exact i4 S hS
          · rw [List.mem_singleton.1 hS]
            have hfl := prep_flat (i1.sl _ (at_mem hkl)) br bn
            exact ⟨hfl.1, hfl.2, hE.hs⟩
theorem ask_facts (f : Nat → Bool) (br : Nat) (bn : Int) (ls : List Ac) (hl : ls.length = 5) (hf : ∀ a ∈ ls, flatC a.c) : ∀ k, k ≤ 5 →
    (ask f br bn ls k).1.length = 5 ∧ (ask f br bn ls k).2.length ≤ k ∧ (∀ a ∈ (ask f br bn ls k).1, flatC a.c) ∧ ∀ a ∈ (ask f br bn ls k).2, flatC a.c := by
  intro k
  induction k with
  | zero => exact fun _ => ⟨hl, Nat.le_refl _, hf, fun a ha => by simp [ask] at ha⟩
  | succ k ih =>
    intro hk
    obtain ⟨i1, i2, i3, i4⟩ := ih (by omega)
    unfold ask
    generalize ask f br bn ls k = R at i1 i2 i3 i4 ⊢
    obtain ⟨l', pr⟩ := R
    simp only at i1 i2 i3 i4 ⊢
    have hkl : k < l'.length := by omega
    have hp : flatC ((at_ l' k).prep br bn).c := by rw [(prep_same _ br bn).2.2.2.2]; exact i3 _ (at_mem hkl)
    cases f k with
    | false => exact ⟨i1, by simp only [cond_false]; omega, i3, i4⟩
    | true =>
      simp only [cond_true]
      refine ⟨by rw [List.length_set]; exact i1, ?_, fun a ha => ?_, fun a ha => ?_⟩
      · cases (at_ l' k).may br bn with
        | false => simp only [cond_false]; omega
        | true => simp only [cond_true, List.length_append, List.length_singleton]; omega
      · rcases mem_set ha with ha | rfl
        · exact i3 a ha
        · exact hp
      · cases hm : (at_ l' k).may br bn with
        | false => rw [hm, cond_false] at ha; exact i4 a ha
        | true =>
          rw [hm, cond_true] at ha
          rcases List.mem_append.1 ha with ha | ha
          · exact i4 a ha
          · rw [List.mem_singleton.1 ha]; exact hp
theorem find_some {br : Nat} {bn : Int} {all : List Pq} : ∀ {k i : Nat}, find br bn all k = some i → ∃ p, all[i]? = some p ∧ p.br = br ∧ p.bn = bn
  | 0, i, h => by simp [find] at h
  | k + 1, i, h => by
    unfold find at h
    cases hk : all[k]? with
    | none => rw [hk] at h; exact find_some h
    | some p =>
      rw [hk] at h
      simp only at h
      by_cases hp : p.br = br ∧ p.bn = bn
      · rw [if_pos hp] at h
        obtain rfl : k = i := by injection h
        exact ⟨p, hk, hp⟩
      · rw [if_neg hp] at h; exact find_some h
theorem find_none {br : Nat} {bn : Int} {all : List Pq} : ∀ {k : Nat}, find br bn all k = none → ∀ i p, i < k → all[i]? = some p → ¬ (p.br = br ∧ p.bn = bn)
  | 0, _ => fun i p hi => absurd hi (by omega)
  | k + 1, h => fun i p hi hp => by
    unfold find at h
    cases hk : all[k]? with
    | none =>
      rw [hk] at h
      by_cases e : i = k
      · subst e; rw [hk] at hp; simp at hp
      · exact find_none h i p (by omega) hp
    | some q =>
      rw [hk] at h
      simp only at h
      by_cases hq : q.br = br ∧ q.bn = bn
      · rw [if_pos hq] at h; simp at h
      · rw [if_neg hq] at h
        by_cases e : i = k
        · subst e
          rw [hk] at hp
          obtain rfl : q = p := by injection hp
          exact hq
        · exact find_none h i p (by omega) hp
theorem topOf_one {l : List Ac} (h : ∀ a ∈ l, a.sl = 1) (hn : l ≠ []) : topOf l = 1 := by
  obtain ⟨x, hx, e⟩ := topOf_mem l hn
  rw [e]; exact h x hx
theorem picked_flat {l : List Ac} (h : ∀ S ∈ l, flatC S.c) (br : Nat) (bn : Int) : flatC (picked l br bn) := by
  unfold picked
  cases hb : (best (topOf l) l).ha with
  | false => exact flatC_stamp _ _
  | true => exact h _ ((best_spec _ l).1 hb).1
/-- ahead of the votes: what held holds, and the ballot's proposal is there -/
theorem pre_good {n : Nat} {ls : List Ac} {all : List Pq} {V : Vt} (h : Holds1 n ls all V) (h5 : n ≤ 5) (f : Nat → Bool) (br : Nat) (bn : Int) :
    Holds1 n (pre n br bn f ls all).1 (pre n br bn f ls all).2.1 V ∧ (pre n br bn f ls all).2.1.length ≤ all.length + 1 ∧ ∀ k, (pre n br bn f ls all).2.2 = some k → ∃ p, (pre n br bn f ls all).2.1[k]? = some p ∧ p.br = br ∧ p.bn = bn := by
  unfold pre
  cases hF : find br bn all all.length with
  | some k =>
    refine ⟨h, by simp, fun i hi => ?_⟩
    obtain rfl : k = i := by injection hi
    exact find_some hF
  | none =>
    obtain ⟨i1, g, i2, i3, i4⟩ := ask_good h h5 f br bn n (Nat.le_refl _)
    have hno := find_none hF
    generalize ask f br bn ls n = R at i1 i2 i3 i4 ⊢
    obtain ⟨l', pr⟩ := R
    simp only at i1 i2 i3 i4 ⊢
    by_cases hmaj : n < 2 * pr.length
    · rw [decide_eq_true hmaj, cond_true]
      have hne : pr ≠ [] := by rintro rfl; simp at hmaj
      have htop : topOf pr = 1 := topOf_one (fun a ha => (i4 a ha).1) hne
      have hpn : ∀ p ∈ all, ¬ (p.br = br ∧ p.bn = bn) := fun p hp => by
        obtain ⟨i, hi, rfl⟩ := List.getElem_of_mem hp
        exact hno i _ hi (List.getElem?_eq_getElem hi)
      have hnew := Inv.new i1.inv ⟨br, bn, 1, picked pr br bn⟩ g pr (by rw [← i2]; exact hmaj)
        (fun j hj hg => by
          obtain ⟨S, hS, hE⟩ := i3 j hj hg
          exact ⟨S, hE, by rw [(i4 S hS).1]; exact Int.le_refl _, fun _ => hS⟩)
        (fun S hS hh => (i4 S hS).2.2 hh)
        (fun hb => by
          show picked pr br bn = _
          unfold picked
          rw [htop]
          have hb' : (best 1 pr).ha = true := hb
          rw [hb']; rfl)
        (fun q hq => by
          obtain ⟨p, hp, rfl⟩ := List.mem_map.1 hq
          exact fun e => hpn p hp ⟨e.1, e.2.1⟩)
      have hV : ∀ k, V br bn 1 k = false := fun k => by
        cases hv : V br bn 1 k with
        | false => rfl
        | true =>
          obtain ⟨q, hq, r1, r2, r3⟩ := i1.inv.vp _ _ _ _ hv
          obtain ⟨p, hp, rfl⟩ := List.mem_map.1 hq
          exact absurd ⟨r1, r2⟩ (hpn p hp)
      refine ⟨⟨i1.len, i1.sl, by rw [List.map_append]; exact hnew, fun p hp => ?_, fun i k p q hp hq e1 e2 => ?_⟩, by simp, fun k hk => ?_⟩
      · rcases List.mem_append.1 hp with hp | hp
        · exact i1.vo p hp
        · rw [List.mem_singleton.1 hp]
          refine ⟨rfl, picked_flat (fun S hS => (i4 S hS).2.1) br bn, fun j hj => ?_⟩
          show V br bn 1 j = _
          rw [hV j]
          match j with
          | 0 => rfl
          | 1 => rfl
          | 2 => rfl
          | 3 => rfl
          | 4 => rfl
          | j + 5 => rfl
      · rw [List.getElem?_append] at hp hq
        by_cases a1 : i < all.length <;> by_cases a2 : k < all.length
        · rw [if_pos a1] at hp; rw [if_pos a2] at hq
          exact i1.one i k p q hp hq e1 e2
        · rw [if_pos a1] at hp; rw [if_neg a2] at hq
          have hq' := (List.mem_singleton.1 (List.mem_of_getElem? hq))
          subst hq'
          exact absurd ⟨e1, e2⟩ (hpn p (List.mem_of_getElem? hp))
        · rw [if_neg a1] at hp; rw [if_pos a2] at hq
          have hp' := (List.mem_singleton.1 (List.mem_of_getElem? hp))
          subst hp'
          exact absurd ⟨e1.symm, e2.symm⟩ (hpn q (List.mem_of_getElem? hq))
        · rw [if_neg a1] at hp; rw [if_neg a2] at hq
          have h1 := (List.getElem?_eq_some_iff.1 hp).1
          have h2 := (List.getElem?_eq_some_iff.1 hq).1
          simp at h1 h2
          omega
      · obtain rfl : all.length = k := by injection hk
        exact ⟨⟨br, bn, picked pr br bn, [false, false, false, false, false]⟩, by rw [List.getElem?_append_right (Nat.le_refl _)]; simp, rfl, rfl⟩
    · rw [decide_eq_false hmaj, cond_false]
      exact ⟨i1, by simp, fun k hk => by simp at hk⟩
theorem vot_good {n : Nat} {ls : List Ac} {all : List Pq} {V : Vt} (h : Holds1 n ls all V) (h5 : n ≤ 5) (g : Nat → Bool) {i : Nat} {p : Pq} (hp : all[i]? = some p) : ∀ k, k ≤ n →
    ∃ V', Holds1 n (vot g p.br p.bn p.x ls p.vo k).1 (all.set i { p with vo := (vot g p.br p.bn p.x ls p.vo k).2 }) V' := by
  have hil := (List.getElem?_eq_some_iff.1 hp).1
  intro k
  induction k with
  | zero =>
    intro _
    refine ⟨V, ?_⟩
    have : all.set i { p with vo := (vot g p.br p.bn p.x ls p.vo 0).2 } = all := by
      show all.set i p = all
      rw [← (List.getElem?_eq_some_iff.1 hp).2]; exact List.set_getElem_self _
    rw [this]; exact h
  | succ k ih =>
    intro hk
    obtain ⟨V', i1⟩ := ih (by omega)
    unfold vot
    generalize vot g p.br p.bn p.x ls p.vo k = R at i1 ⊢
    obtain ⟨l', vo⟩ := R
    simp only at i1 ⊢
    cases hg : g k with
    | false => exact ⟨V', i1⟩
    | true =>
      rw [cond_true]
      have hkl : k < l'.length := by rw [i1.len]; omega
      have hmem : ({ p with vo := vo } : Pq) ∈ all.set i { p with vo := vo } := List.mem_iff_getElem?.2 ⟨i, by rw [List.getElem?_set, if_pos rfl, if_pos hil]⟩
      have hvo := i1.vo _ hmem
      simp only at hvo
      have hpr : (all.set i { p with vo := vo }).map Pq.pr = all.map Pq.pr := by
        rw [List.map_set]
        have : Pq.pr { p with vo := vo } = Pq.pr p := rfl
        rw [this, ← List.map_set, ← (List.getElem?_eq_some_iff.1 hp).2, List.set_getElem_self]
      have hpr2 : ∀ u, (all.set i { p with vo := u }).map Pq.pr = all.map Pq.pr := fun u => by
        rw [List.map_set]
        have : Pq.pr { p with vo := u } = Pq.pr p := rfl
        rw [this, ← List.map_set, ← (List.getElem?_eq_some_iff.1 hp).2, List.set_getElem_self]
      by_cases hh : (at_ l' k).how p.br p.bn 1 p.x = 3
      · rw [decide_eq_true hh, Bool.or_true]
        refine ⟨Px.vote V' p.br p.bn 1 k, by rw [List.length_set]; exact i1.len, fun a ha => ?_, ?_, fun q hq => ?_, fun a b q r ha hb e1 e2 => ?_⟩
        · rcases mem_set ha with ha | rfl
          · exact i1.sl a ha
          · exact vote_flat (i1.sl _ (at_mem hkl)) _ _ hvo.2.1
        · rw [at_set hkl, hpr2]
          have := i1.inv
          rw [hpr] at this
          exact Inv.vote this (show k < n by omega) (p := p.pr) (List.mem_map_of_mem (List.mem_of_getElem? hp)) hh
        · obtain ⟨b, hb⟩ := List.mem_iff_getElem?.1 hq
          rw [List.getElem?_set] at hb
          by_cases e : i = b
          · rw [if_pos e, if_pos hil] at hb
            obtain rfl : ({ p with vo := vo.set k true } : Pq) = q := by injection hb
            refine ⟨by simp [hvo.1], hvo.2.1, fun j hj => ?_⟩
            show Px.vote V' p.br p.bn 1 k p.br p.bn 1 j = (vo.set k true).getD j false
            unfold Px.vote
            rw [hvo.2.2 j hj, List.getD_eq_getElem?_getD, List.getD_eq_getElem?_getD, List.getElem?_set]
            by_cases ej : k = j
            · subst ej
              rw [if_pos rfl, if_pos (by rw [hvo.1]; omega)]
              simp
            · rw [if_neg ej]
              simp
              intro e; exact absurd e.symm ej
          · rw [if_neg e] at hb
            have hq2 : q ∈ all.set i { p with vo := vo } := List.mem_iff_getElem?.2 ⟨b, by rw [List.getElem?_set, if_neg e]; exact hb⟩
            obtain ⟨q1, q2, q3⟩ := i1.vo q hq2
            refine ⟨q1, q2, fun j hj => ?_⟩
            unfold Px.vote
            rw [q3 j hj]
            have hne : ¬ (q.br = p.br ∧ q.bn = p.bn) := fun e2 => e (h.one i b p q hp hb e2.1.symm e2.2.symm)
            simp
            intro e1 e2; exact absurd ⟨e1, e2⟩ hne
        · have key : ∀ (u : List Bool) c (s : Pq), (all.set i { p with vo := u })[c]? = some s → ∃ s' : Pq, all[c]? = some s' ∧ s'.br = s.br ∧ s'.bn = s.bn := fun u c s hs => by
            rw [List.getElem?_set] at hs
            by_cases e : i = c
            · rw [if_pos e, if_pos hil] at hs
              obtain rfl : ({ p with vo := u } : Pq) = s := by injection hs
              exact ⟨p, e ▸ hp, rfl, rfl⟩
            · rw [if_neg e] at hs
              exact ⟨s, hs, rfl, rfl⟩
          obtain ⟨q', hq', x1, x2⟩ := key _ _ _ ha
          obtain ⟨r', hr', y1, y2⟩ := key _ _ _ hb
          exact h.one a b q' r' hq' hr' (by omega) (by omega)
      · rw [decide_eq_false hh, Bool.or_false, vote_no hh]
        have e1 : l'.set k (at_ l' k) = l' := by
          unfold at_
          rw [List.getD_eq_getElem?_getD, List.getElem?_eq_getElem hkl]
          exact List.set_getElem_self _
        have e2 : vo.set k (vo.getD k false) = vo := by
          have hkv : k < vo.length := by rw [hvo.1]; omega
          rw [List.getD_eq_getElem?_getD, List.getElem?_eq_getElem hkv]
          exact List.set_getElem_self _
        rw [e1, e2]
        exact ⟨V', i1⟩
/-- one step of a leader -/
def step (n : Nat) (br : Nat) (bn : Int) (f g : Nat → Bool) (S : List Ac × List Pq) : List Ac × List Pq := fin n br bn g (pre n br bn f S.1 S.2)
theorem step_good {n : Nat} {S : List Ac × List Pq} {V : Vt} (h : Holds1 n S.1 S.2 V) (h5 : n ≤ 5) (br : Nat) (bn : Int) (f g : Nat → Bool) :
    ∃ V', Holds1 n (step n br bn f g S).1 (step n br bn f g S).2 V' ∧ (step n br bn f g S).2.length ≤ S.2.length + 1 := by
  obtain ⟨p1, p2, p3⟩ := pre_good h h5 f br bn
  unfold step fin
  generalize pre n br bn f S.1 S.2 = R at p1 p2 p3 ⊢
  obtain ⟨ls, all, k⟩ := R
  cases k with
  | none => exact ⟨V, p1, p2⟩
  | some k =>
    obtain ⟨p, hp, rfl, rfl⟩ := p3 k rfl
    simp only at hp ⊢
    have e : all.getD k pz = p := by rw [List.getD_eq_getElem?_getD, hp]; rfl
    rw [e]
    obtain ⟨V', hV⟩ := vot_good p1 h5 g hp n (Nat.le_refl _)
    exact ⟨V', hV, by rw [List.length_set]; exact p2⟩
/-- how many of the first n voted -/
def votes (p : Pq) (n : Nat) : Nat := cnt n (fun j => p.vo.getD j false)
/-- what is chosen, in order, of the first k -/
def chosen (n : Nat) (all : List Pq) : Nat → List Cm
  | 0 => []
  | k + 1 => match all[k]? with
    | some p => if n < 2 * votes p n then chosen n all k ++ [p.x] else chosen n all k
    | none => chosen n all k
theorem chosen_mem {n : Nat} {all : List Pq} {x : Cm} : ∀ {k : Nat}, x ∈ chosen n all k → ∃ p ∈ all, p.x = x ∧ n < 2 * votes p n
  | 0, h => by simp [chosen] at h
  | k + 1, h => by
    unfold chosen at h
    cases hk : all[k]? with
    | none => rw [hk] at h; exact chosen_mem h
    | some p =>
      rw [hk] at h
      simp only at h
      by_cases hm : n < 2 * votes p n
      · rw [if_pos hm] at h
        rcases List.mem_append.1 h with h | h
        · exact chosen_mem h
        · exact ⟨p, List.mem_of_getElem? hk, (List.mem_singleton.1 h).symm, hm⟩
      · rw [if_neg hm] at h; exact chosen_mem h
theorem chosen_len {n : Nat} {all : List Pq} : ∀ k : Nat, (chosen n all k).length ≤ k
  | 0 => by simp [chosen]
  | k + 1 => by
    unfold chosen
    have := chosen_len (n := n) (all := all) k
    cases all[k]? with
    | none => simp only; omega
    | some p =>
      simp only
      split
      · simp; omega
      · omega
/-- all that is chosen is one command -/
theorem chosen_same {n : Nat} {ls : List Ac} {all : List Pq} {V : Vt} (h : Holds1 n ls all V) {k : Nat} {x y : Cm} (hx : x ∈ chosen n all k) (hy : y ∈ chosen n all k) : x = y ∧ flatC x := by
  obtain ⟨p, hp, rfl, vp⟩ := chosen_mem hx
  obtain ⟨q, hq, rfl, vq⟩ := chosen_mem hy
  have hc : ∀ p ∈ all, n < 2 * votes p n → Chosen n V p.pr := fun p hp hv => by
    unfold Chosen
    have : cnt n (V p.pr.br p.pr.bn p.pr.s) = votes p n := cnt_congr fun j hj => (h.vo p hp).2.2 j hj
    rw [this]; exact hv
  exact ⟨chosen_one h.inv (List.mem_map_of_mem hp) (List.mem_map_of_mem hq) rfl (hc p hp vp) (hc q hq vq), (h.vo p hp).2.1⟩
/-- five acceptors as at first -/
def first5 : List Ac := [Ac.new, Ac.new, Ac.new, Ac.new, Ac.new]
theorem Holds1.first (n : Nat) (h5 : n ≤ 5) : Holds1 n first5 [] (fun _ _ _ _ => false) := by
  refine ⟨rfl, fun a ha => ?_, ?_, by simp, by simp⟩
  · simp [first5] at ha
    subst ha
    exact ⟨rfl, flatC_zero⟩
  · have e : at_ first5 = fun _ => Ac.new := funext fun j => by
      match j with
      | 0 => rfl
      | 1 => rfl
      | 2 => rfl
      | 3 => rfl
      | 4 => rfl
      | j + 5 => rfl
    rw [e]
    exact Inv.first n
end One
end Go.Proofs.YtbahooohkigcnaaDoor

namespace Go.Proofs.YtbahooohkigcnaaDoor
set_option maxRecDepth 20001
open Go.RowKit
set_option linter.unusedSimpArgs false
set_option linter.unusedVariables false
/-- all cells, one struct behind the other -/
def flat {α : Type} (enc : α → List Value) (l : List α) : List Value := l.flatMap enc
section
variable {α : Type} {enc : α → List Value} {sz : Nat}
theorem flat_nil : flat enc [] = [] := rfl
theorem flat_snoc (l : List α) (a : α) : flat enc (l ++ [a]) = flat enc l ++ enc a := by simp [flat]
theorem flat_app (l m : List α) : flat enc (l ++ m) = flat enc l ++ flat enc m := by simp [flat]
theorem flat_cons (a : α) (l : List α) : flat enc (a :: l) = enc a ++ flat enc l := by simp [flat]
theorem flat_len (hs : ∀ a, (enc a).length = sz) (l : List α) : (flat enc l).length = l.length * sz := by
  induction l with
  | nil => simp [flat]
  | cons a t ih => rw [flat_cons, List.length_append, hs, ih, List.length_cons, Nat.add_mul]; omega
theorem list_split {l : List α} {k : Nat} {x : α} (h : l[k]? = some x) : l = l.take k ++ x :: l.drop (k + 1) ∧ k < l.length := by
  obtain ⟨hk, rfl⟩ := List.getElem?_eq_some_iff.1 h
  exact ⟨by rw [List.getElem_cons_drop, List.take_append_drop], hk⟩
theorem flat_split (hs : ∀ a, (enc a).length = sz) {l : List α} {k : Nat} {x : α} (h : l[k]? = some x) :
    flat enc l = flat enc (l.take k) ++ (enc x ++ flat enc (l.drop (k + 1))) ∧ (flat enc (l.take k)).length = k * sz := by
  obtain ⟨e, hk⟩ := list_split h
  refine ⟨?_, by rw [flat_len hs, List.length_take, Nat.min_eq_left (by omega)]⟩
  conv => lhs; rw [e]
  rw [flat_app, flat_cons]
theorem flat_at (hs : ∀ a, (enc a).length = sz) {l : List α} {k : Nat} {x : α} (h : l[k]? = some x) (j : Nat) (v : Value) (hv : (enc x)[j]? = some v) : (flat enc l)[k * sz + j]? = some v := by
  obtain ⟨e, hl⟩ := flat_split hs h
  have hj : j < (enc x).length := (List.getElem?_eq_some_iff.1 hv).1
  rw [e, List.getElem?_append_right (by omega), hl, show k * sz + j - k * sz = j by omega, List.getElem?_append_left hj]
  exact hv
theorem putAt_mid (a b c : List Value) : ∀ (vs : List Value), vs.length = b.length → putAt (a ++ (b ++ c)) a.length vs = a ++ (vs ++ c) := by
  intro vs
  induction vs generalizing a b with
  | nil => intro h; have : b = [] := List.length_eq_zero_iff.1 (by simpa using h.symm); subst this; rfl
  | cons v r ih =>
    intro h
    match b, h with
    | b0 :: b', h =>
      have h' : r.length = b'.length := by simpa using h
      rw [putAt]
      rw [show (a ++ (b0 :: b' ++ c)).set a.length v = (a ++ [v]) ++ (b' ++ c) by rw [List.set_append_right _ _ (Nat.le_refl _)]; simp]
      rw [show a.length + 1 = (a ++ [v]).length by simp, ih (a ++ [v]) b' h']
      simp
theorem set_split {l : List α} {k : Nat} {x : α} (h : l[k]? = some x) (y : α) : l.set k y = l.take k ++ y :: l.drop (k + 1) := by
  obtain ⟨e, hk⟩ := list_split h
  rw [List.set_eq_take_append_cons_drop, if_pos hk]
theorem flat_set (hs : ∀ a, (enc a).length = sz) {l : List α} {k : Nat} {x : α} (h : l[k]? = some x) (y : α) : flat enc (l.set k y) = flat enc (l.take k) ++ (enc y ++ flat enc (l.drop (k + 1))) := by
  rw [set_split h y, flat_app, flat_cons]
/-- a whole struct put in another one's place -/
theorem flat_put (hs : ∀ a, (enc a).length = sz) {l : List α} {k : Nat} {x : α} (h : l[k]? = some x) (y : α) : putAt (flat enc l) (k * sz) (enc y) = flat enc (l.set k y) := by
  obtain ⟨e, hl⟩ := flat_split hs h
  rw [flat_set hs h y, e, ← hl]
  exact putAt_mid _ _ _ _ (by rw [hs, hs])
/-- one cell put -/
theorem flat_set1 (hs : ∀ a, (enc a).length = sz) {l : List α} {k : Nat} {x : α} (h : l[k]? = some x) (j : Nat) (hj : j < sz) (v : Value) (y : α) (hy : enc y = (enc x).set j v) : (flat enc l).set (k * sz + j) v = flat enc (l.set k y) := by
  obtain ⟨e, hl⟩ := flat_split hs h
  rw [flat_set hs h y, e, hy, List.set_append_right _ _ (by omega), hl, show k * sz + j - k * sz = j by omega, List.set_append_left _ _ (by rw [hs]; exact hj)]
end
/-- rows that are owned: the slice, its cells -/
theorem flatOwn {α : Type} {enc : α → List Value} {sz : Nat} (hs : ∀ a, (enc a).length = sz) (hpos : 0 < sz) {w : World} {base e : Nat} {v : Value} {l : List α} (h : w.ownsRow base e sz v l.length (flat enc l)) :
    ∃ (A : Option Addr) (c : Nat), v = .slice A l.length c ∧ l.length ≤ c ∧ RowsAt w w.heap.size A sz (l.map enc) ∧ (l.length ≠ 0 → ∃ g, A = some ⟨g, 0, none⟩ ∧ base ≤ g ∧ g < w.heap.size) := by
  rcases h.2 with ⟨rfl, h0⟩ | ⟨g, cap, cur, rfl, hb, hg, hc, hm, _⟩
  · have : l = [] := List.length_eq_zero_iff.1 h0
    subst this
    exact ⟨none, 0, rfl, Nat.le_refl _, RowsAt.nil, fun h => absurd rfl h⟩
  · have hgs : g < w.heap.size := (Array.getElem?_eq_some_iff.1 hg).1
    refine ⟨some ⟨g, 0, none⟩, cap, rfl, hc, fun i cs hi => ?_, fun _ => ⟨g, rfl, hb, hgs⟩⟩
    rw [List.getElem?_map] at hi
    cases hx : l[i]? with
    | none => rw [hx] at hi; simp at hi
    | some x =>
      rw [hx] at hi
      simp at hi
      subst hi
      refine ⟨g, 0, rfl, hgs, fun j u hu => ?_⟩
      have hc := h.cells (g := g) rfl (i * sz + j) u (flat_at hs hx j u hu)
      rw [Addr.add_mid] at hc
      simpa [Nat.add_assoc] using hc
/-- one struct of owned rows, as a range -/
theorem flatRange {α : Type} {enc : α → List Value} {sz : Nat} (hs : ∀ a, (enc a).length = sz) {w : World} {base e g n c : Nat} {l : List α} (h : w.ownsRow base e sz (.slice (some ⟨g, 0, none⟩) n c) n (flat enc l)) {k : Nat} {x : α} (hk : l[k]? = some x) : w.rangeAt g (k * sz) (enc x) := fun j v hv => by
  have hc := h.cells (g := g) rfl (k * sz + j) v (flat_at hs hk j v hv)
  rwa [Addr.add_mid, Nat.zero_add] at hc
/-- one struct of a row in a block -/
theorem flatMid {α : Type} {enc : α → List Value} {sz : Nat} (hs : ∀ a, (enc a).length = sz) {w : World} {g : Nat} {t : TypeId} {l : List α} (h : w.heap[g]? = some (.cells (flat enc l).toArray t (0, 0))) {k : Nat} {x : α} (hk : l[k]? = some x) : w.rangeAt g (k * sz) (enc x) :=
  rowMid h (k * sz) (fun j v hv => flat_at hs hk j v hv)
end Go.Proofs.YtbahooohkigcnaaDoor

namespace Go.Proofs.YtbahooohkigcnaaDoor
set_option maxRecDepth 20001
open Go.RowKit
set_option linter.unusedSimpArgs false
set_option linter.unusedVariables false
/-- the blocks of P may have changed, and new ones may be there; all else is as it was -/
def OgF (w w' : World) (P : Nat → Prop) : Prop := Below 0 w w' ∧ ∀ i, i < w.heap.size → ¬ P i → w'.heap[i]? = w.heap[i]?
section
variable {w z c z' : World} {h k : Nat} {old cs : Array Value} {t : TypeId} {P : Nat → Prop} {base e sz n : Nat} {v : Value} {xs : List Value} {B : Nat}
theorem OgF.refl (w : World) (P : Nat → Prop) : OgF w w P := ⟨Below.refl 0 w, fun _ _ _ => rfl⟩
theorem OgF.size (p : OgF w z P) : w.heap.size ≤ z.heap.size := p.1.size
theorem ogTrans {Q : Nat → Prop} (p : OgF w z P) (q : OgF z c Q) (hQ : ∀ i, Q i → P i ∨ w.heap.size ≤ i) : OgF w c P :=
  ⟨p.1.trans q.1, fun i hi hn => (q.2 i (Nat.lt_of_lt_of_le hi p.1.size) (fun hq => by
    rcases hQ i hq with h | h
    · exact hn h
    · omega)).trans (p.2 i hi hn)⟩
theorem ogBelow (p : OgF w z P) (q : Below z.heap.size z c) : OgF w c P := ⟨p.1.trans (q.mono (Nat.zero_le _)), fun i hi hn => (q.block i (Nat.lt_of_lt_of_le hi p.1.size)).trans (p.2 i hi hn)⟩
theorem ogOf (q : Below w.heap.size w z) (P : Nat → Prop) : OgF w z P := ogBelow (OgF.refl w P) q
theorem ogAlloc (p : OgF w z P) (o : Obj) : OgF w (z.alloc o) P := ogBelow p ((Below.refl _ _).alloc (Nat.le_refl _) o)
theorem ogDrew (p : OgF w z P) : OgF w z.drew P := ⟨belowDrewS p.1, p.2⟩
theorem ogDrewN (p : OgF w z P) (m : Nat) : OgF w (z.drewN m) P := ⟨belowDrewN p.1 m, p.2⟩
theorem ogRow (hk : P k ∨ w.heap.size ≤ k) (hz : z.heap[k]? = some (.cells old t (0, 0))) (p : OgF w z P) : OgF w (z.setRow k cs) P :=
  ⟨belowSet p.1 hz (Nat.zero_le _), fun i hi hn => (setRow_other z k i cs (fun e => by
    rcases hk with hk | hk
    · exact hn (by rw [e]; exact hk)
    · omega)).trans (p.2 i hi hn)⟩
theorem ogCells (hk : P k ∨ w.heap.size ≤ k) : ∀ (vs : List Value) (i : Nat) (z : World), OgF w z P → OgF w (z.setCells k i vs) P
  | [], _, _, p => p
  | v :: r, i, z, p => ogCells hk r (i + 1) (z.setCell ⟨k, i, none⟩ v) ⟨p.1.setCell (Nat.zero_le _) v, fun j hj hn => (Below.heap_setCell z ⟨k, i, none⟩ v j (fun e => by
    have e2 : j = k := e
    rcases hk with hk | hk
    · exact hn (by rw [e2]; exact hk)
    · omega)).trans (p.2 j hj hn)⟩
theorem ogOwnE (p : OgF w z P) (hg : z.grownBy z' v.ownBlock) (hP : ∀ i, v.ownBlock = some i → P i ∨ w.heap.size ≤ i) : OgF w z' P :=
  ⟨p.1.grown hg (Nat.zero_le _) (fun _ _ => Nat.zero_le _), fun i hi hn => (hg.block i (Nat.lt_of_lt_of_le hi p.1.size) (fun e => by
    rcases hP i e.symm with h | h
    · exact hn h
    · omega)).trans (p.2 i hi hn)⟩
theorem ogGrown (p : OgF w z P) (q : z.grownBy c (some h)) (hk : P h ∨ w.heap.size ≤ h) : OgF w c P :=
  ⟨p.1.grown q (Nat.zero_le _) (fun _ _ => Nat.zero_le _), fun i hi hn => (q.block i (Nat.lt_of_lt_of_le hi p.1.size) (fun e => by
    injection e with e
    rcases hk with hk | hk
    · exact hn (by rw [e]; exact hk)
    · omega)).trans (p.2 i hi hn)⟩
theorem OgF.toGrown {g : Nat} (p : OgF w z (fun i => i = g)) : w.grownBy z (some g) :=
  ⟨p.1.os, p.1.tape, p.1.output, p.1.size, fun i hi hne => p.2 i hi (fun e => hne (by rw [e]))⟩
theorem OgF.toBelow (p : OgF w z P) (hP : ∀ i, P i → B ≤ i) (hB : B ≤ w.heap.size) : Below B w z :=
  ⟨p.1.os, p.1.tape, p.1.output, p.1.size, fun i hi => p.2 i (Nat.lt_of_lt_of_le hi hB) (fun h => by have := hP i h; omega)⟩
theorem OgF.heap {o : Obj} (q : OgF w z P) (p : w.heap[k]? = some o) (hn : ¬ P k) : z.heap[k]? = some o := (q.2 k (Array.getElem?_eq_some_iff.1 p).1 hn).trans p
theorem OgF.own (q : OgF w z P) (p : w.ownsRow base e sz v n xs) (hn : ∀ i, v.ownBlock = some i → ¬ P i) : z.ownsRow base e sz v n xs := by
  rcases p.2 with h0 | ⟨g, cap, cur, hv, hb', hg, rest⟩
  · exact ⟨p.1, Or.inl h0⟩
  · exact ⟨p.1, Or.inr ⟨g, cap, cur, hv, hb', q.heap hg (hn g (by rw [hv]; rfl)), rest⟩⟩
theorem ogKind {m : Nat × Nat} (hu : z.ownsRow base e sz v n xs) (hz : z.heap[k]? = some (.cells old t m)) (hne : t ≠ e) : v.ownBlock ≠ some k := by
  intro hb
  rcases hu.2 with ⟨hv, _⟩ | ⟨g, cap, cur, hv, _, hg, _⟩
  · rw [hv] at hb; cases hb
  · rw [hv] at hb
    have e1 : g = k := by injection hb
    subst e1
    rw [hz] at hg
    injection hg with hg
    injection hg with _ ht _
    exact hne ht
theorem ogCellsG (k : Nat) : ∀ (vs : List Value) (i : Nat) (z : World), z.grownBy (z.setCells k i vs) (some k)
  | [], _, z => ⟨rfl, rfl, rfl, Nat.le_refl _, fun _ _ _ => rfl⟩
  | v :: r, i, z => by
    have h1 := ogCellsG k r (i + 1) (z.setCell ⟨k, i, none⟩ v)
    have hs : (z.setCell ⟨k, i, none⟩ v).heap.size = z.heap.size := by simp
    exact ⟨h1.os, h1.tape, h1.output, by have := h1.size; rw [hs] at this; exact this, fun j hj hne => (h1.block j (by rw [hs]; exact hj) hne).trans (Below.heap_setCell z ⟨k, i, none⟩ v j (fun e => hne (by rw [e])))⟩
theorem ogOwnC (p : z.ownsRow base e sz v n xs) (hne : v.ownBlock ≠ some k) (vs : List Value) (i : Nat) : (z.setCells k i vs).ownsRow base e sz v n xs := p.kept (ogCellsG k vs i z) (Or.inr hne)
theorem ogOwnR (p : z.ownsRow base e sz v n xs) (hne : v.ownBlock ≠ some k) : (z.setRow k cs).ownsRow base e sz v n xs := p.kept ⟨rfl, rfl, rfl, by rw [setRow_size]; exact Nat.le_refl _, fun i _ hi => setRow_other z k i cs (fun e => hi (by rw [e]))⟩ (Or.inr hne)
theorem ogHeap {m : Nat × Nat} (p : z.heap[k]? = some (.cells cs t m)) (hu : z.ownsRow base e sz v n xs) (hne : t ≠ e) (hg : z.grownBy z' v.ownBlock) : z'.heap[k]? = some (.cells cs t m) :=
  (hg.block k (Array.getElem?_eq_some_iff.1 p).1 (fun e1 => ogKind hu p hne e1.symm)).trans p
theorem ogHeapB {m : Nat × Nat} (p : z.heap[k]? = some (.cells cs t m)) (hne : v.ownBlock ≠ some k) (hg : z.grownBy z' v.ownBlock) : z'.heap[k]? = some (.cells cs t m) :=
  (hg.block k (Array.getElem?_eq_some_iff.1 p).1 (fun e1 => hne e1.symm)).trans p
theorem ogRowAdd {cs : List Value} (p : z.heap[k]? = some (.cells cs.toArray t (0, 0))) : ∀ j u, cs[j]? = some u → z.cell? ((⟨k, 0, none⟩ : Addr).add j) = some u := fun j u hv => by
  rw [Addr.add_mid]; exact rowAt p j u hv
theorem ogHeapG {o : Obj} {g : Nat} (p : w.heap[k]? = some o) (q : w.grownBy z (some g)) (hne : k ≠ g) : z.heap[k]? = some o := (q.block k (Array.getElem?_eq_some_iff.1 p).1 (fun e => hne (by injection e))).trans p
theorem ogFill {s : Nat} (hs : 0 < s) (x : List Value) (hx : x.length = s) (cells : Array Value) (hn : cells.size = s) : Instr.fill (fun i => some (i * s, s)) cells [(0, .agg x.toArray)] = some x.toArray := by
  have := Great.fill_whole (s := s) hs [Value.agg x.toArray] cells (by intro v hv; simp at hv; subst hv; simpa [Value.cells] using hx) (by simp [hn])
  simpa [Value.cells] using this
theorem ogCell0 {b : Nat} {cs : List Value} (h : w.rangeAt b 0 cs) (j : Nat) {v : Value} (hv : cs[j]? = some v) : w.cell? ⟨b, j, none⟩ = some v := by
  have := h j v hv
  rwa [Nat.zero_add] at this
theorem ownPtr {A : Option Addr} {m cc : Nat} (h : w.ownsRow base e sz (.slice A m cc) n xs) (hn : n ≠ 0) : ∃ g, A = some ⟨g, 0, none⟩ ∧ base ≤ g ∧ g < w.heap.size ∧ m = n := by
  rcases h.2 with ⟨_, h0⟩ | ⟨g, cap, cur, hv, hb, hg, _⟩
  · exact absurd h0 hn
  · injection hv with h1 h2 h3
    exact ⟨g, h1, hb, (Array.getElem?_eq_some_iff.1 hg).1, h2⟩
theorem ogBuild {P : Program} {ops : Array Oper} {rest : List Oper} {o : Oper} {a : Act} {w : World} {Q : Exit → Act → World → Prop} (hg : o.guard = none) (t : TypeId) (parts : Array (Nat × Operand)) (ho : o.op = .build t parts) (vs : List (Nat × Value)) (cells : Array Value) (hv : (parts.map fun (i, x) => (i, a.eval x)).toList = vs)
    (hf : P.built t vs = some cells) (h : wpList P ops Q rest (a.put o.dst (.agg cells)) w) : wpList P ops Q (o :: rest) a w :=
  wpList_build hg t parts ho (by rw [hv, hf]; rfl) (by rw [hv, hf]; exact h)
theorem ogBuildH {P : Program} {o : Oper} {a : Act} {w : World} {K : Act → World → Prop} {Q : Exit → Act → World → Prop} (t : TypeId) (parts : Array (Nat × Operand)) (ho : o.op = .build t parts) (vs : List (Nat × Value)) (cells : Array Value) (hv : (parts.map fun (i, x) => (i, a.eval x)).toList = vs)
    (hf : P.built t vs = some cells) (h : K (a.put o.dst (.agg cells)) w) : o.wp P a w K Q :=
  wp_build t parts ho (by rw [hv, hf]; rfl) (by rw [hv, hf]; exact h)
/-- an array's element that is stored anew -/
theorem ogPut {α : Type} {enc : α → List Value} {s : Nat} (hs : ∀ a, (enc a).length = s) {g : Nat} {l : List α} {x : α} (hz : z.heap[g]? = some (.cells (flat enc l).toArray t (0, 0))) {k : Nat} (hk : l[k]? = some x) (y : α) :
    (z.setCells g (k * s) (enc y)).heap[g]? = some (.cells (flat enc (l.set k y)).toArray t (0, 0)) := by
  rw [← flat_put hs hk y]
  exact hpC (enc y) (k * s) (flat enc l) z hz
theorem flatThere {α : Type} {enc : α → List Value} {s : Nat} (hs : ∀ a, (enc a).length = s) {g : Nat} {l : List α} {x : α} (hz : z.heap[g]? = some (.cells (flat enc l).toArray t (0, 0))) {k : Nat} (hk : l[k]? = some x) : z.there g (k * s) s := by
  refine rowThere hz ?_
  rw [flat_len hs]
  have := (List.getElem?_eq_some_iff.1 hk).1
  calc k * s + s = (k + 1) * s := by rw [Nat.add_mul]; omega
    _ ≤ l.length * s := Nat.mul_le_mul_right _ (by omega)
end
end Go.Proofs.YtbahooohkigcnaaDoor

namespace Go.Proofs.YtbahooohkigcnaaDoor
set_option maxRecDepth 20001
open Go.RowKit T
set_option linter.unusedSimpArgs false
set_option linter.unusedVariables false


theorem acFlat : acCells = flat Ac.cells := rfl
theorem acL (a : Ac) : a.cells.length = 16 := rfl
/-- a step of a leader -/
structure OSt where
  rd : Nat
  nd : Nat
  ak : Nat
  vt : Nat
  ag : Bool
def OSt.cells (s : OSt) : List Value := [.int .u8 (s.rd : Int), .int .u8 (s.nd : Int), .int .u8 (s.ak : Int), .int .u8 (s.vt : Int), .bool s.ag]
theorem sizeSt : (Tryd.prog.info? 66).map (·.size) = some 5 := by kernel_rfl
theorem OSt.one (s : OSt) : s.cells.toArray.all (·.oneCell') = true := by simp [OSt.cells, Value.oneCell']
def One.Pq.cells (p : One.Pq) : List Value := [.int .u32 (p.br : Int), .int .i64 p.bn] ++ (p.x.cells ++ [.bool (p.vo.getD 0 false), .bool (p.vo.getD 1 false), .bool (p.vo.getD 2 false), .bool (p.vo.getD 3 false), .bool (p.vo.getD 4 false)])
theorem pqL (p : One.Pq) : p.cells.length = 17 := rfl
theorem sizePq : (Tryd.prog.info? 69).map (·.size) = some 17 := by kernel_rfl
theorem builtPq (br : Nat) (bn : Int) (x : Cm) : Tryd.prog.built 69 [(0, .agg [.int .u32 (br : Int), .int .i64 bn].toArray), (1, .agg x.cells.toArray)] = some (⟨br, bn, x, [false, false, false, false, false]⟩ : One.Pq).cells.toArray := by kernel_rfl
theorem pqOne (p : One.Pq) : p.cells.toArray.all (·.oneCell') = true := by simp [One.Pq.cells, Cm.cells, Value.oneCell']
theorem pqB (p : One.Pq) : ∀ j v, ([.int .u32 (p.br : Int), .int .i64 p.bn] : List Value)[j]? = some v → p.cells[0 + j]? = some v := fun j v h => by
  match j, h with
  | 0, h => exact h
  | 1, h => exact h
  | j + 2, h => simp at h
theorem pqC (p : One.Pq) : ∀ j v, p.x.cells[j]? = some v → p.cells[2 + j]? = some v := fun j v h => by
  unfold One.Pq.cells
  rw [List.getElem?_append_right (by simp), List.getElem?_append_left (by have := (List.getElem?_eq_some_iff.1 h).1; simp; exact this)]
  simpa using h
theorem pqV (p : One.Pq) (j : Nat) (hj : j < 5) : p.cells[12 + j]? = some (.bool (p.vo.getD j false)) := by
  match j, hj with
  | 0, _ => rfl
  | 1, _ => rfl
  | 2, _ => rfl
  | 3, _ => rfl
  | 4, _ => rfl
theorem pqSet (p : One.Pq) (h5 : p.vo.length = 5) (j : Nat) (hj : j < 5) (b : Bool) : ({ p with vo := p.vo.set j b } : One.Pq).cells = p.cells.set (12 + j) (.bool b) := by
  obtain ⟨r, n, x, vo⟩ := p
  match vo, h5 with
  | [b0, b1, b2, b3, b4], _ =>
    match j, hj with
    | 0, _ => rfl
    | 1, _ => rfl
    | 2, _ => rfl
    | 3, _ => rfl
    | 4, _ => rfl
theorem bit8 (m j : Nat) (hm : m < 256) : (bits .and .u8 ((m : Int) / 2 ^ j) 1 == 0) = !m.testBit j := by
  have h1 : ((m : Int) / 2 ^ j) = ((m / 2 ^ j : Nat) : Int) := by
    rw [Int.natCast_ediv]; simp
  have hq : m / 2 ^ j < 256 := Nat.lt_of_le_of_lt (Nat.div_le_self _ _) hm
  rw [h1, show ((1 : Int)) = ((1 : Nat) : Int) from rfl, u8_and_nat _ _ hq (by omega), Nat.and_one_is_mod]
  rw [Nat.testBit_eq_decide_div_mod_eq]
  have h2 : m / 2 ^ j % 2 = 0 ∨ m / 2 ^ j % 2 = 1 := by omega
  rcases h2 with h2 | h2 <;> rw [h2] <;> rfl
section
open Go.ChangeShapes Go.WideShapes Go.ChangeAt
variable {W : World} {cs : List Value} {v : Value}
instance : Inhabited OSt := ⟨⟨0, 0, 0, 0, false⟩⟩
theorem Cel.ost (h : Cel W 66 cs) : ∃ s : OSt, cs = s.cells ∧ s.rd < 256 ∧ s.nd < 256 ∧ s.ak < 256 ∧ s.vt < 256 := by
  have hl := h.len Tryd.underlying66
  rw [show Tryd.prog.cellsOf 66 = 5 by kernel_rfl] at hl
  match cs, hl with
  | [v0, v1, v2, v3, v4], _ =>
    obtain ⟨a, ea, ha⟩ := (h.field1 Tryd.underlying66 0 0 5 _ rfl rfl rfl (by kernel_rfl) v0 rfl).u8 Tryd.underlying5
    obtain ⟨b, eb, hb⟩ := (h.field1 Tryd.underlying66 1 1 5 _ rfl rfl rfl (by kernel_rfl) v1 rfl).u8 Tryd.underlying5
    obtain ⟨c, ec, hc⟩ := (h.field1 Tryd.underlying66 2 2 5 _ rfl rfl rfl (by kernel_rfl) v2 rfl).u8 Tryd.underlying5
    obtain ⟨d, ed, hd⟩ := (h.field1 Tryd.underlying66 3 3 5 _ rfl rfl rfl (by kernel_rfl) v3 rfl).u8 Tryd.underlying5
    obtain ⟨e, ee⟩ := (h.field1 Tryd.underlying66 4 4 4 _ rfl rfl rfl (by kernel_rfl) v4 rfl).bool Tryd.underlying4
    cases ea; cases eb; cases ec; cases ed; cases ee
    exact ⟨⟨a, b, c, d, e⟩, rfl, ha, hb, hc, hd⟩
theorem Arg.osts (h : Arg W 60 v) : ∃ (A : Option Addr) (c : Nat) (ls : List OSt), v = .slice A ls.length c ∧ ls.length ≤ c ∧ c ≤ maxLen ∧ RowsAt W W.heap.size A 5 (ls.map OSt.cells) ∧ ∀ s ∈ ls, s.rd < 256 ∧ s.nd < 256 ∧ s.ak < 256 ∧ s.vt < 256 := by
  obtain ⟨A, n, c, rfl, hc⟩ := h.slice Tryd.underlying60
  obtain ⟨ls, r1, r2, r3, r4, r5, r6⟩ := hc.rows OSt.cells (fun s => s.rd < 256 ∧ s.nd < 256 ∧ s.ak < 256 ∧ s.vt < 256) Tryd.underlying60 (sz := 5) (by kernel_rfl) (by omega) (fun cs hc => by
    obtain ⟨s, e, r⟩ := Cel.ost hc
    exact ⟨s, e, r⟩)
  subst r1
  exact ⟨A, c, ls, rfl, r2, r3, r5, r6⟩
end
end Go.Proofs.YtbahooohkigcnaaDoor
