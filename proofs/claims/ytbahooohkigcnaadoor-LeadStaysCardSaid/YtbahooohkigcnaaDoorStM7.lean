/- LeadStays. Conditions: what lies, lies below; the tables lie. (Printed by gen_stays.py.) -/
import Derived.Test.YtbahooohkigcnaaDoorStM6
import Derived.Test.YtbahooohkigcnaaDoorStM2
namespace Go.Proofs.YtbahooohkigcnaaDoor
set_option maxRecDepth 20000
open Go.RowKit T Ag
set_option linter.unusedSimpArgs false
set_option linter.unusedVariables false

set_option maxHeartbeats 3200000 in
theorem few19b (A : Option Addr) (c : Nat) (l : List LOp) (w : World) (B0 : Nat) (hB : B0 ≤ w.heap.size) (hc : l.length ≤ c) (hm : c ≤ maxLen) (hR : RowsAt w B0 A 32 (l.map LOp.cells)) (hL : ∀ o ∈ l, CmOk w B0 o.x ∧ CmOk w B0 o.a.c) :
    Calls Tryd.prog 40 #[.slice A l.length c] w fun e w' => (∃ r : Bool, (r = true → l.length ≤ 60) ∧ e = .returned (.bool r)) ∧ Below w.heap.size w w' := by
  obtain ⟨n, hn⟩ : ∃ n, n = l.length := ⟨_, rfl⟩
  have HN := Lib.hid hn
  have HR := Lib.hid hR
  have HL := Lib.hid hL
  rw [← hn] at hc ⊢
  clear hn hR hL
  unfold maxLen at hm
  have ee : Below w.heap.size w w := Below.refl _ _
  go_enter Tryd.func40, Tryd.ntmps40
  go_wp2_with fail
  go_loopw [3] (fun i wr => ∃ k : Nat, k ≤ n ∧ i = .int .i64 (k : Int) ∧ Hid (Below w.heap.size w wr)) (fun i _ => n - (intOf i).toNat)
  case atStart => exact ⟨0, Nat.zero_le _, rfl, ee⟩
  case round =>
    clear ee
    obtain ⟨k, hk, rfl, ee⟩ := hrel
    have ee := ee.out
    by_cases hlt : k < n
    · by_cases h100 : k < 100
      · have hkl : k < l.length := by rw [← HN.out]; exact hlt
        obtain ⟨bo, off, rfl, hbo, hr⟩ := rowsGet HR.out hkl
        have HX := Lib.hid (HL.out _ (List.getElem_mem hkl))
        generalize l[k] = o at hr HX
        have hr2 := rangePart hr (LOp.cx o)
        have hr3 := rangePart hr (LOp.cac o)
        go_upto_region 4 with fail
        refine wp_region_lit ?_
        iterate 27 (first | with_reducible refine isLoad (ty := 37) rfl ?_ | go_step)
        refine wpList_load_mid rfl 37 _ rfl (bo) (off + k * 32 + 22) rfl (o.x.cells) _ (rangeB hr2 ee (Nat.lt_of_lt_of_le hbo hB)) Tryd.underlying37 rfl sizeCm ?_
        go_wp2_with fail
        refine (cr_few o.x wr B0 (Nat.le_trans hB ee.size) (HX.out.1.below ee hB)).mono ?_
        rintro e z1 ⟨⟨r, rfl⟩, t⟩
        have ee := ee.trans (t.mono ee.size)
        clear t
        cases r with
        | false =>
          dsimp only
          rename_i hK
          refine hK _ _ ?_
          clear hK
          go_wp2_with fail
          go_ret
          exact ⟨⟨false, (fun q => by cases q), rfl⟩, ee⟩
        | true =>
          dsimp only
          rename_i hK
          refine hK _ _ ?_
          clear hK
          iterate 36 (first | with_reducible refine isLoad (ty := 37) rfl ?_ | go_step)
          refine wpList_load_g (by rfl) 37 _ rfl (bo) (off + k * 32 + 12) rfl (o.a.c.cells) _ (rangeB hr3 ee (Nat.lt_of_lt_of_le hbo hB)) Tryd.underlying37 rfl sizeCm ?_
          go_wp2_with fail
          refine (cr_few o.a.c z1 B0 (Nat.le_trans hB ee.size) (HX.out.2.below ee hB)).mono ?_
          rintro e z2 ⟨⟨r, rfl⟩, t⟩
          have ee := ee.trans (t.mono ee.size)
          clear t
          cases r with
          | false =>
            dsimp only
            rename_i hK
            refine hK _ _ ?_
            clear hK
            go_wp2_with fail
            go_ret
            exact ⟨⟨false, (fun q => by cases q), rfl⟩, ee⟩
          | true =>
            dsimp only
            rename_i hK
            refine hK _ _ ?_
            clear hK
            go_wp2_with fail
            go_roundw
            case rel => exact ⟨k + 1, by omega, by go_num, ee⟩
            case measure => simp [intOf]; omega
      · go_wp2_with fail
        go_ret
        exact ⟨⟨_, (fun q => by have := of_decide_eq_true q; omega), rfl⟩, ee⟩
    · go_wp2_with fail
      go_ret
      exact ⟨⟨_, (fun q => by have := of_decide_eq_true q; omega), rfl⟩, ee⟩
def T.Ld.px (L : Ld) : Cm := bif decide (L.sl = 0) then Cm.zero else L.x
theorem lproposal_any (w : World) (h : Nat) (L : Ld) (hL : LdAt w h L) : Calls Tryd.prog 42 #[.pointer (some ⟨h, 0, none⟩)] w fun e w' => e = .returned (.tuple #[.int .i64 L.sl, .agg L.px.cells.toArray, .bool (!decide (L.sl = 0))]) ∧ Below w.heap.size w w' := by
  unfold T.Ld.px
  by_cases hs : L.sl = 0
  · rw [decide_eq_true hs, hs]; exact lproposal_no w h L hL hs
  · rw [decide_eq_false hs]; exact lproposal_yes w h L hL hs
instance : Inhabited LOp := ⟨⟨0, 0, 0, 0, 0, false, Ac.zero, Cm.zero⟩⟩
theorem Arg.lops {W : World} {v : Value} (h : Arg W 91 v) : ∃ (A : Option Addr) (c : Nat) (ls : List LOp), v = .slice A ls.length c ∧ ls.length ≤ c ∧ c ≤ maxLen ∧ RowsAt W W.heap.size A 32 (ls.map LOp.cells) ∧ ∀ o ∈ ls, CmOk W W.heap.size o.x ∧ CmOk W W.heap.size o.a.c ∧ o.br < 4294967296 := by
  obtain ⟨A, n, c, rfl, hc⟩ := h.slice Tryd.underlying91
  obtain ⟨ls, r1, r2, r3, r4, r5, r6⟩ := hc.rows LOp.cells (fun o => CmOk W W.heap.size o.x ∧ CmOk W W.heap.size o.a.c ∧ o.br < 4294967296) Tryd.underlying91 (sz := 32) (by kernel_rfl) (by omega) (fun cs hcs => hcs.lop)
  exact ⟨A, c, ls, by rw [r1], by omega, r3, r5, r6⟩
theorem LdK.new (w : World) (B : Nat) (hB : B ≤ w.heap.size) (q : Int) : LdK (w.alloc (.cells (Ld.new 3 q).cells.toArray 144)) B w.heap.size 0 (Ld.new 3 q) :=
  ⟨hpN _ _ rfl, hB, World.ownsRow_nil _ _ _ _, Nat.le_refl _, (fun a ha => by cases ha), CmOk.zero, (by decide : 0 < 18446744073709551616), (by decide : 0 < 18446744073709551616), ⟨Int.le_refl _, (by decide : (0 : Int) ≤ 1000000)⟩, (by decide : 0 < 4294967296), Int.le_refl _⟩
theorem RlAt.new (w : World) (B : Nat) (hB : B ≤ w.heap.size) (q : Int) : RlAt (w.alloc (.cells (Rl.new q).cells.toArray 150)) B w.heap.size 0 (Rl.new q) :=
  ⟨hpN _ _ rfl, hB, World.ownsRow_nil _ _ _ _, World.ownsRow_nil _ _ _ _, World.ownsRow_nil _ _ _ _, (fun g hg => by cases hg), Nat.le_refl _, Nat.le_refl _, Nat.le_refl _, (fun a ha => by cases ha), CmOk.zero, (by decide : 0 < 4294967296), ⟨Int.le_refl _, (by decide : (0 : Int) ≤ 1000000)⟩, rfl, Int.le_refl _⟩
set_option maxHeartbeats 25600000 in
theorem lstays_mid (AV : Option Addr) (cV : Nat) (l : List LOp) (m : Nat) (hm : m < 256) (w : World) (hc : l.length ≤ cV) (hcm : cV ≤ maxLen) (hA : RowsAt w w.heap.size AV 32 (l.map LOp.cells)) (hL : ∀ o ∈ l, CmOk w w.heap.size o.x ∧ CmOk w w.heap.size o.a.c ∧ o.br < 4294967296) (hT : Tabs w) :
    Calls Tryd.prog 8 #[.int .u8 (m : Int), .slice AV l.length cV] w fun e w' => e = .returned (.bool true) ∧ Below w.heap.size w w' := by
  have HF := Lib.hid (fun z (hz : Below w.heap.size w z) => few19b AV cV l z w.heap.size hz.size hc hcm (hA.below hz (Nat.le_refl _)) (fun o ho => ⟨(hL o ho).1.below hz (Nat.le_refl _), (hL o ho).2.1.below hz (Nat.le_refl _)⟩))
  obtain ⟨sn, hn⟩ : ∃ n, n = l.length := ⟨_, rfl⟩
  have HN := Lib.hid hn
  have HRD := Lib.hid hA
  have HT := Lib.hid hT
  have HSB := Lib.hid hL
  rw [← hn] at hc HF ⊢
  clear hn hA hT hL
  unfold maxLen at hcm
  have ee : Below w.heap.size w w := Below.refl _ _
  obtain ⟨q, hq⟩ : ∃ q, q = m % 3 := ⟨_, rfl⟩
  have hq3 : q < 3 := by rw [hq]; exact Nat.mod_lt _ (by decide)
  have hmq : (m : Int) % 3 = (q : Int) := by rw [hq]; simp
  have hwq : IntKind.i64.wrap (q : Int) = (q : Int) := by rw [IntKind.wrap_i64]; omega
  have hok : okN 3 (q : Int) = true := decide_eq_true ⟨by omega, by omega, by omega⟩
  clear hq
  go_enter Tryd.func8, Tryd.ntmps8
  go_wp2_with fail
  refine (awake19 w).mono ?_
  rintro e z1 ⟨rfl, t⟩
  have ee := ee.trans (t.mono ee.size)
  clear t
  try dsimp only
  rename_i hK
  refine hK _ _ ?_
  clear hK
  go_wp2_with fail
  refine (HF.out z1 ee).mono ?_
  rintro e z2 ⟨⟨fb, hfb, rfl⟩, t⟩
  have ee := ee.trans (t.mono ee.size)
  clear t
  try dsimp only
  rename_i hK
  refine hK _ _ ?_
  clear hK
  cases fb with
  | false =>
    go_wp2_with fail
    refine (awake19 z2).mono ?_
    rintro e z3 ⟨rfl, t⟩
    have ee := ee.trans (t.mono ee.size)
    clear t
    go_wp2_with fail
    go_ret
    exact ⟨rfl, ee⟩
  | true =>
    have h60 := hfb rfl
    clear hfb HF
    go_upto_region 3 with fail
    go_wp2_with fail
    refine (lnew_ok 3 (q : Int) z2 hok).mono ?_
    rintro e z3 ⟨rfl, hz3⟩
    have hk3 : LdK z3 w.heap.size z2.heap.size 0 (Ld.new 3 (q : Int)) := by rw [hz3]; exact LdK.new z2 _ ee.size _
    have ee : Below w.heap.size w z3 := by rw [hz3]; exact ee.alloc ee.size _
    generalize z2.heap.size = gh at hk3 ⊢
    clear hz3 hok
    try dsimp only
    rename_i hK
    refine hK _ _ ?_
    clear hK
    go_wp2_with fail
    refine (rnew q hq3 z3).mono ?_
    rintro e z4 ⟨rfl, hz4⟩
    have hr4 : RlAt z4 w.heap.size z3.heap.size 0 (Rl.new (q : Int)) := by rw [hz4]; exact RlAt.new z3 _ ee.size _
    have hk4 : LdK z4 w.heap.size gh 0 (Ld.new 3 (q : Int)) := by rw [hz4]; exact hk3.below ((Below.refl _ _).alloc (Nat.le_refl _) _)
    have ee : Below w.heap.size w z4 := by rw [hz4]; exact ee.alloc ee.size _
    generalize z3.heap.size = gr at hr4 ⊢
    clear hz4 hk3
    try dsimp only
    rename_i hK
    refine hK _ _ ?_
    clear hK hmq hwq
    go_wp2_with fail
    go_loopw [7] (fun u wr => ∃ (j : Nat) (L : Ld) (R : Rl), j ≤ sn ∧ u = .int .i64 (j : Int) ∧ Hid (LdK wr w.heap.size gh j L) ∧ Hid (RlAt wr w.heap.size gr j R) ∧ Hid (Below w.heap.size w wr)) (fun u _ => sn - (intOf u).toNat)
    case atStart => exact ⟨0, _, _, Nat.zero_le _, rfl, hk4, hr4, ee⟩
    case round =>
      clear ee hk4 hr4
      obtain ⟨j, L, R, hj, rfl, HK, HR, ee⟩ := hrel
      have ee := ee.out
      have hwr_ := ee.size
      have e2 : Below wr.heap.size wr wr := Below.refl _ _
      by_cases hlt : j < sn
      · have hkl : j < l.length := by rw [← HN.out]; exact hlt
        obtain ⟨bo, off, rfl, hbo, hr⟩ := rowsGet HRD.out hkl
        have HSS := Lib.hid (HSB.out _ (List.getElem_mem hkl))
        generalize l[j] = o at hr HSS
        have HRW := Lib.hid hr
        have hj0 : (0 : Int) ≤ (j : Int) := by omega
        have hj1 : (j : Int) < (sn : Int) := by omega
        have HCK : Hid (∀ z, Below w.heap.size w z → z.cell? ⟨bo, off + j * 32, none⟩ = some (.int .i64 o.kd)) := fun z hz => by
          have := rangeCell (rangeB HRW.out hz hbo) 0 (v := .int .i64 o.kd) rfl
          simpa using this
        clear hr hkl
        have hjk : IntKind.i64.wrap ((j : Int) + 1) = ((j + 1 : Nat) : Int) := by rw [IntKind.wrap_i64]; omega
        clear hjk
        have HPR := Lib.hid (fun z (hz : LdAt z gh L) => lproposal_any z gh L hz)
        generalize hpo : (!decide (L.sl = 0)) = po at HPR
        generalize hpx : L.px = px at HPR
        go_upto_region 7 with fail
        refine wp_region_lit ?_
        go_wp2_with fail
        go_wp2_with fail
        refine (HPR.out wr (HK.out.below e2).blk).mono ?_
        rintro e z1 ⟨rfl, t⟩
        have ee := ee.trans (t.mono ee.size)
        have e2 := e2.trans (t.mono e2.size)
        clear t
        try dsimp only
        rename_i hK
        refine hK _ _ ?_
        clear hK
        iterate 15 go_step
        have s2_ := e2.size
        have sz_ := ee.size
        have ee := ee.alloc ee.size (.cells #[.int .i64 0, .int .i64 0, .int .i64 0, .slice none 0 0, .slice none 0 0, .int .i64 0, .int .i64 0, .int .i64 0, .int .u64 0, .bool false] 37)
        have e2 := e2.alloc e2.size (.cells #[.int .i64 0, .int .i64 0, .int .i64 0, .slice none 0 0, .slice none 0 0, .int .i64 0, .int .i64 0, .int .i64 0, .int .u64 0, .bool false] 37)
        have Zx := hpN z1 (.cells #[.int .i64 0, .int .i64 0, .int .i64 0, .slice none 0 0, .slice none 0 0, .int .i64 0, .int .i64 0, .int .i64 0, .int .u64 0, .bool false] 37) rfl
        generalize z1.alloc (.cells #[.int .i64 0, .int .i64 0, .int .i64 0, .slice none 0 0, .slice none 0 0, .int .i64 0, .int .i64 0, .int .i64 0, .int .u64 0, .bool false] 37) = z2 at Zx ee e2 ⊢
        obtain ⟨gx, hg_gx⟩ : ∃ g_, g_ = z1.heap.size := ⟨_, rfl⟩
        have hwgx : wr.heap.size ≤ gx := by omega
        rw [← hg_gx] at Zx ⊢
        clear hg_gx
        iterate 27 (first | with_reducible refine isStore (ty := 37) rfl ?_ | go_step)
        refine wpList_store_row rfl 37 _ _ rfl (gx) (px.cells).toArray rfl rfl 37 _ Zx sizeCm (by rfl) (Cm.one _) ?_
        have N_ := setRow_heap z2 (gx) _ (px.cells).toArray _ _ Zx
        have ee := belowSet (cs := (px.cells).toArray) ee Zx (by omega)
        have e2 := belowSet (cs := (px.cells).toArray) e2 Zx (by omega)
        clear Zx
        have Zx := N_
        clear N_
        generalize z2.setRow (gx) (px.cells).toArray = z3 at Zx ee e2 ⊢
        go_upto_region 8 with fail
        refine wp_region_lit ?_
        go_wp2_with fail
        refine (lballot z3 gh L (HK.out.below e2).blk).mono ?_
        rintro e z4 ⟨rfl, t⟩
        have Zx := hpB Zx t
        have ee := ee.trans (t.mono ee.size)
        have e2 := e2.trans (t.mono e2.size)
        clear t
        try dsimp only
        rename_i hK
        refine hK _ _ ?_
        clear hK
        iterate 3 go_step
        have s2_ := e2.size
        have lZx := (Array.getElem?_eq_some_iff.1 Zx).1
        have sz_ := ee.size
        have Zx := hpA Zx (.cells #[.int .u32 0, .int .i64 0] 28)
        have ee := ee.alloc ee.size (.cells #[.int .u32 0, .int .i64 0] 28)
        have e2 := e2.alloc e2.size (.cells #[.int .u32 0, .int .i64 0] 28)
        have Zb := hpN z4 (.cells #[.int .u32 0, .int .i64 0] 28) rfl
        generalize z4.alloc (.cells #[.int .u32 0, .int .i64 0] 28) = z5 at Zx Zb ee e2 ⊢
        obtain ⟨gb, hg_gb⟩ : ∃ g_, g_ = z4.heap.size := ⟨_, rfl⟩
        have hwgb : wr.heap.size ≤ gb := by omega
        have n1_ : gx < gb := by omega
        rw [← hg_gb] at Zb ⊢
        clear hg_gb
        iterate 27 (first | with_reducible refine isStore (ty := 28) rfl ?_ | go_step)
        refine wpList_store_row rfl 28 _ _ rfl (gb) ([.int .u32 (L.br : Int), .int .i64 L.bn]).toArray rfl rfl 28 _ Zb sizeBal (by rfl) (by simp [Value.oneCell']) ?_
        have N_ := setRow_heap z5 (gb) _ ([.int .u32 (L.br : Int), .int .i64 L.bn]).toArray _ _ Zb
        have ee := belowSet (cs := ([.int .u32 (L.br : Int), .int .i64 L.bn]).toArray) ee Zb (by omega)
        have e2 := belowSet (cs := ([.int .u32 (L.br : Int), .int .i64 L.bn]).toArray) e2 Zb (by omega)
        have Zx := hpR Zx (g' := gb) (by omega) ([.int .u32 (L.br : Int), .int .i64 L.bn]).toArray
        clear Zb
        have Zb := N_
        clear N_
        generalize z5.setRow (gb) ([.int .u32 (L.br : Int), .int .i64 L.bn]).toArray = z6 at Zx Zb ee e2 ⊢
        go_upto_region 9 with fail
        have ck := HCK.out z6 ee
        by_cases k6 : o.kd = 6
        · have e6 : (o.kd == 6) = true := by rw [k6]; rfl
          go_wp2_with fail
          go_roundw
          case rel => exact ⟨j + 1, L, R, by omega, by go_num, (HK.out.below e2).more, (HR.out.below e2).more, ee⟩
          case measure => simp [intOf]; omega
        · have e6 : (o.kd == 6) = false := by simpa using k6
          go_upto_region 10 with fail
          clear ck e6
          refine wp_region_lit ?_
          iterate 27 (first | with_reducible refine isLoad (ty := 99) rfl ?_ | go_step)
          refine wpList_load_mid rfl 99 _ rfl (bo) (off + j * 32) rfl (o.cells) _ (rangeB HRW.out ee hbo) Tryd.underlying99 rfl sizeLOp ?_
          go_wp2_with fail
          refine (act19 z6 w.heap.size gh gr j L R o (HK.out.below e2) (HR.out.below e2) (by omega) (HSS.out.1.below ee (Nat.le_refl _)) (HSS.out.2.1.below ee (Nat.le_refl _)) HSS.out.2.2 k6 (fun z hz => HT.out.below (ee.trans hz))).mono ?_
          rintro e z7 ⟨⟨ab, rfl⟩, ⟨L2, hk2, hla⟩, ⟨R2, hr2⟩, p_, kt_⟩
          have Zx := kt_ _ _ _ _ Zx (by decide) (by decide) (by decide) (by decide) (by decide)
          have Zb := kt_ _ _ _ _ Zb (by decide) (by decide) (by decide) (by decide) (by decide)
          have ee := ee.trans p_
          have hcx1 : Hid (CmOk z7 w.heap.size L.px) := by
            show CmOk _ _ _
            unfold T.Ld.px
            cases decide (L.sl = 0)
            · exact (HK.out.below e2).cx.below p_ (Nat.le_refl _)
            · exact CmOk.zero
          have HK2 := Lib.hid hk2
          have HR2 := Lib.hid hr2
          have HLA := Lib.hid hla
          clear HK HR e2 p_ kt_ hk2 hr2 hla HPR
          obtain ⟨wq, hwq⟩ : ∃ wq, wq = z7 := ⟨_, rfl⟩
          have e2 : Below wq.heap.size wq z7 := by rw [hwq]; exact Below.refl _ _
          have hwqs : w.heap.size ≤ wq.heap.size := by rw [hwq]; exact ee.size
          rw [← hwq] at HK2 HR2 hcx1
          clear hwq
          rw [hpx] at hcx1
          have HPX := Lib.hid hpx
          have HPO := Lib.hid hpo
          clear hpx hpo
          try dsimp only
          rename_i hK
          refine hK _ _ ?_
          clear hK
          have HP2 := Lib.hid (fun z (hz : LdAt z gh L2) => lproposal_any z gh L2 hz)
          generalize hpo2 : (!decide (L2.sl = 0)) = po2 at HP2
          generalize hpx2 : L2.px = px2 at HP2
          have HPX2 := Lib.hid hpx2
          have HPO2 := Lib.hid hpo2
          clear hpo2 hpx2
          have HLB := Lib.hid (fun z (hz : LdAt z gh L2) => lballot z gh L2 hz)
          have HLS := Lib.hid (fun z => bless_any L2.br L2.bn L.br L.bn z)
          have hnl := HLA.out.1
          unfold NLs at hnl
          rw [hnl] at HLS
          clear hnl
          go_upto_region 11 with fail
          refine wp_region_lit ?_
          go_wp2_with fail
          refine (HP2.out z7 (HK2.out.below e2).blk).mono ?_
          rintro e z8 ⟨rfl, t⟩
          have Zx := hpB Zx t
          have Zb := hpB Zb t
          have ee := ee.trans (t.mono ee.size)
          have e2 := e2.trans (t.mono e2.size)
          clear t
          try dsimp only
          rename_i hK
          refine hK _ _ ?_
          clear hK
          iterate 15 go_step
          have s2_ := e2.size
          have lZx := (Array.getElem?_eq_some_iff.1 Zx).1
          have lZb := (Array.getElem?_eq_some_iff.1 Zb).1
          have sz_ := ee.size
          have Zx := hpA Zx (.cells #[.int .i64 0, .int .i64 0, .int .i64 0, .slice none 0 0, .slice none 0 0, .int .i64 0, .int .i64 0, .int .i64 0, .int .u64 0, .bool false] 37)
          have Zb := hpA Zb (.cells #[.int .i64 0, .int .i64 0, .int .i64 0, .slice none 0 0, .slice none 0 0, .int .i64 0, .int .i64 0, .int .i64 0, .int .u64 0, .bool false] 37)
          have ee := ee.alloc ee.size (.cells #[.int .i64 0, .int .i64 0, .int .i64 0, .slice none 0 0, .slice none 0 0, .int .i64 0, .int .i64 0, .int .i64 0, .int .u64 0, .bool false] 37)
          have e2 := e2.alloc e2.size (.cells #[.int .i64 0, .int .i64 0, .int .i64 0, .slice none 0 0, .slice none 0 0, .int .i64 0, .int .i64 0, .int .i64 0, .int .u64 0, .bool false] 37)
          have Zy := hpN z8 (.cells #[.int .i64 0, .int .i64 0, .int .i64 0, .slice none 0 0, .slice none 0 0, .int .i64 0, .int .i64 0, .int .i64 0, .int .u64 0, .bool false] 37) rfl
          generalize z8.alloc (.cells #[.int .i64 0, .int .i64 0, .int .i64 0, .slice none 0 0, .slice none 0 0, .int .i64 0, .int .i64 0, .int .i64 0, .int .u64 0, .bool false] 37) = z9 at Zx Zb Zy ee e2 ⊢
          obtain ⟨gy, hg_gy⟩ : ∃ g_, g_ = z8.heap.size := ⟨_, rfl⟩
          have hwgy : wq.heap.size ≤ gy := by omega
          have n2_ : gx < gy := by omega
          have n3_ : gb < gy := by omega
          rw [← hg_gy] at Zy ⊢
          clear hg_gy
          iterate 27 (first | with_reducible refine isStore (ty := 37) rfl ?_ | go_step)
          refine wpList_store_row rfl 37 _ _ rfl (gy) (px2.cells).toArray rfl rfl 37 _ Zy sizeCm (by rfl) (Cm.one _) ?_
          have N_ := setRow_heap z9 (gy) _ (px2.cells).toArray _ _ Zy
          have ee := belowSet (cs := (px2.cells).toArray) ee Zy (by omega)
          have e2 := belowSet (cs := (px2.cells).toArray) e2 Zy (by omega)
          have Zx := hpR Zx (g' := gy) (by omega) (px2.cells).toArray
          have Zb := hpR Zb (g' := gy) (by omega) (px2.cells).toArray
          clear Zy
          have Zy := N_
          clear N_
          generalize z9.setRow (gy) (px2.cells).toArray = z10 at Zx Zb Zy ee e2 ⊢
          go_upto_region 12 with fail
          by_cases k1 : o.kd = 1
          · have e5 : (o.kd != 1) = false := by rw [k1]; rfl
            have Zx : z10.drew.heap[gx]? = some (.cells (px.cells).toArray 37) := Zx
            have Zb : z10.drew.heap[gb]? = some (.cells ([.int .u32 (L.br : Int), .int .i64 L.bn]).toArray 28) := Zb
            have Zy : z10.drew.heap[gy]? = some (.cells (px2.cells).toArray 37) := Zy
            have ee := belowDrewS ee
            have e2 := belowDrewS e2
            refine wp_region_held_drew (S := fun z' => z'.rangeAt gb (0) ([.int .u32 (L.br : Int), .int .i64 L.bn]) ∧ z'.cell? ⟨bo, off + j * 32, none⟩ = some (.int .i64 o.kd)) (by kernel_rfl) ⟨(rowAt Zb), (HCK.out _ ee)⟩ (fun hH => ?_)
            clear hH
            generalize z10.drew = z11 at Zx Zb Zy ee e2 ⊢
            refine wpAnyH_take (i := 0) (v := .pointer (some ⟨gh, 0, none⟩)) rfl (by kernel_rfl) (by kernel_rfl) (by kernel_rfl) (fun _ _ _ h => h) (Or.inl ⟨by rfl, fun w_ hS_ => by (first | (go_simp; done) | (go_simp; rfl))⟩) ⟨(rowAt Zb), (HCK.out _ ee)⟩ ?_
            try simp only [Act.put, List.getElem_toArray, List.getElem_cons_zero, List.getElem_cons_succ, List.setIfInBounds_toArray, List.set_cons_zero, List.set_cons_succ]
            refine wpAnyH_take (i := 2) (v := .agg ([.int .u32 (L.br : Int), .int .i64 L.bn]).toArray) rfl (by kernel_rfl) (by kernel_rfl) (by kernel_rfl) (fun _ _ _ h => h) (yieldsIf_load_mid (by rfl) 28 _ rfl (gb) (0) rfl ([.int .u32 (L.br : Int), .int .i64 L.bn]) _ (fun _ h => h.1) Tryd.underlying28 rfl sizeBal) ⟨(rowAt Zb), (HCK.out _ ee)⟩ ?_
            try simp only [Act.put, List.getElem_toArray, List.getElem_cons_zero, List.getElem_cons_succ, List.setIfInBounds_toArray, List.set_cons_zero, List.set_cons_succ]
            refine wpAnyH_ready (rs := [1]) (by kernel_rfl) (by simp) ?_
            refine AllReadyH.cons rfl (fun K hK => ?_) AllReadyH.nil
            rw [if_pos (by rfl)]
            go_simp
            go_wp2_with (go_at_call 43; refine (HLB.out z11 (HK2.out.below e2).blk).mono ?_; rintro e z12 ⟨rfl, t⟩)
            have Zx := hpB Zx t
            have Zb := hpB Zb t
            have Zy := hpB Zy t
            have ee := ee.trans (t.mono ee.size)
            have e2 := e2.trans (t.mono e2.size)
            clear t
            refine hK.out _ _ ⟨(rowAt Zb), (HCK.out _ ee)⟩ (fun hH => ?_)
            clear hK K hH
            try simp only [Act.put, List.getElem_toArray, List.getElem_cons_zero, List.getElem_cons_succ, List.setIfInBounds_toArray, List.set_cons_zero, List.set_cons_succ]
            refine wpAnyH_ready (rs := [3]) (by kernel_rfl) (by simp) ?_
            refine AllReadyH.cons rfl (fun K hK => ?_) AllReadyH.nil
            rw [if_pos (by rfl)]
            go_simp
            go_wp2_with (go_at_call 45; refine (HLS.out z12).mono ?_; rintro e z13 ⟨rfl, t⟩)
            have Zx := hpB Zx t
            have Zb := hpB Zb t
            have Zy := hpB Zy t
            have ee := ee.trans (t.mono ee.size)
            have e2 := e2.trans (t.mono e2.size)
            clear t
            refine hK.out _ _ ⟨(rowAt Zb), (HCK.out _ ee)⟩ (fun hH => ?_)
            clear hK K hH
            try simp only [Act.put, List.getElem_toArray, List.getElem_cons_zero, List.getElem_cons_succ, List.setIfInBounds_toArray, List.set_cons_zero, List.set_cons_succ]
            refine wpAnyH_take (i := 4) (v := .bool false) rfl (by kernel_rfl) (by kernel_rfl) (by kernel_rfl) (fun _ _ _ h => h) (Or.inl ⟨by rfl, fun w_ hS_ => by (first | (go_simp; done) | (go_simp; rfl))⟩) ⟨(rowAt Zb), (HCK.out _ ee)⟩ ?_
            try simp only [Act.put, List.getElem_toArray, List.getElem_cons_zero, List.getElem_cons_succ, List.setIfInBounds_toArray, List.set_cons_zero, List.set_cons_succ]
            refine wpAnyH_take (i := 5) (v := .slice (some ⟨bo, off, none⟩) sn cV) rfl (by kernel_rfl) (by kernel_rfl) (by kernel_rfl) (fun _ _ _ h => h) (Or.inl ⟨by rfl, fun w_ hS_ => by (first | (go_simp; done) | (go_simp; rfl))⟩) ⟨(rowAt Zb), (HCK.out _ ee)⟩ ?_
            try simp only [Act.put, List.getElem_toArray, List.getElem_cons_zero, List.getElem_cons_succ, List.setIfInBounds_toArray, List.set_cons_zero, List.set_cons_succ]
            refine wpAnyH_take (i := 6) (v := .int .i64 ((j : Int))) rfl (by kernel_rfl) (by kernel_rfl) (by kernel_rfl) (fun _ _ _ h => h) (Or.inl ⟨by rfl, fun w_ hS_ => by (first | (go_simp; done) | (go_simp; rfl))⟩) ⟨(rowAt Zb), (HCK.out _ ee)⟩ ?_
            try simp only [Act.put, List.getElem_toArray, List.getElem_cons_zero, List.getElem_cons_succ, List.setIfInBounds_toArray, List.set_cons_zero, List.set_cons_succ]
            refine wpAnyH_take (i := 7) (v := .pointer (some ⟨bo, off + j * 32, none⟩)) rfl (by kernel_rfl) (by kernel_rfl) (by kernel_rfl) (fun _ _ _ h => h) (Or.inl ⟨by rfl, fun w_ hS_ => by (first | (go_simp; done) | (go_simp; rfl))⟩) ⟨(rowAt Zb), (HCK.out _ ee)⟩ ?_
            try simp only [Act.put, List.getElem_toArray, List.getElem_cons_zero, List.getElem_cons_succ, List.setIfInBounds_toArray, List.set_cons_zero, List.set_cons_succ]
            refine wpAnyH_take (i := 8) (v := .pointer (some ⟨bo, off + j * 32, none⟩)) rfl (by kernel_rfl) (by kernel_rfl) (by kernel_rfl) (fun _ _ _ h => h) (Or.inl ⟨by rfl, fun w_ hS_ => by (first | (go_simp; done) | (go_simp; rfl))⟩) ⟨(rowAt Zb), (HCK.out _ ee)⟩ ?_
            try simp only [Act.put, List.getElem_toArray, List.getElem_cons_zero, List.getElem_cons_succ, List.setIfInBounds_toArray, List.set_cons_zero, List.set_cons_succ]
            refine wpAnyH_take (i := 9) (v := .int .i64 o.kd) rfl (by kernel_rfl) (by kernel_rfl) (by kernel_rfl) (fun _ _ _ h => h) (Or.inl ⟨by rfl, fun w_ hS_ => by (have c_ := hS_.2; first | (go_simp; done) | (go_simp; rfl))⟩) ⟨(rowAt Zb), (HCK.out _ ee)⟩ ?_
            try simp only [Act.put, List.getElem_toArray, List.getElem_cons_zero, List.getElem_cons_succ, List.setIfInBounds_toArray, List.set_cons_zero, List.set_cons_succ]
            refine wpAnyH_take (i := 10) (v := .bool false) rfl (by kernel_rfl) (by kernel_rfl) (by kernel_rfl) (fun _ _ _ h => h) (Or.inl ⟨by rfl, fun w_ hS_ => by (first | (go_simp; done) | (go_simp; rfl))⟩) ⟨(rowAt Zb), (HCK.out _ ee)⟩ ?_
            try simp only [Act.put, List.getElem_toArray, List.getElem_cons_zero, List.getElem_cons_succ, List.setIfInBounds_toArray, List.set_cons_zero, List.set_cons_succ]
            refine wpAnyH_take (i := 11) (v := .bool false) rfl (by kernel_rfl) (by kernel_rfl) (by kernel_rfl) (fun _ _ _ h => h) (Or.inl ⟨by rfl, fun w_ hS_ => by (first | (go_simp; done) | (go_simp; rfl))⟩) ⟨(rowAt Zb), (HCK.out _ ee)⟩ ?_
            try simp only [Act.put, List.getElem_toArray, List.getElem_cons_zero, List.getElem_cons_succ, List.setIfInBounds_toArray, List.set_cons_zero, List.set_cons_succ]
            refine wpAnyH_take (i := 12) (v := undef) rfl (by kernel_rfl) (by kernel_rfl) (by kernel_rfl) (fun _ _ _ h => h) (Or.inr ⟨by rfl, rfl⟩) ⟨(rowAt Zb), (HCK.out _ ee)⟩ ?_
            try simp only [Act.put, List.getElem_toArray, List.getElem_cons_zero, List.getElem_cons_succ, List.setIfInBounds_toArray, List.set_cons_zero, List.set_cons_succ]
            refine wpAnyH_take (i := 13) (v := undef) rfl (by kernel_rfl) (by kernel_rfl) (by kernel_rfl) (fun _ _ _ h => h) (Or.inr ⟨by rfl, rfl⟩) ⟨(rowAt Zb), (HCK.out _ ee)⟩ ?_
            try simp only [Act.put, List.getElem_toArray, List.getElem_cons_zero, List.getElem_cons_succ, List.setIfInBounds_toArray, List.set_cons_zero, List.set_cons_succ]
            refine wpAnyH_take (i := 14) (v := undef) rfl (by kernel_rfl) (by kernel_rfl) (by kernel_rfl) (fun _ _ _ h => h) (Or.inr ⟨by rfl, rfl⟩) ⟨(rowAt Zb), (HCK.out _ ee)⟩ ?_
            try simp only [Act.put, List.getElem_toArray, List.getElem_cons_zero, List.getElem_cons_succ, List.setIfInBounds_toArray, List.set_cons_zero, List.set_cons_succ]
            refine wpAnyH_take (i := 15) (v := undef) rfl (by kernel_rfl) (by kernel_rfl) (by kernel_rfl) (fun _ _ _ h => h) (Or.inr ⟨by rfl, rfl⟩) ⟨(rowAt Zb), (HCK.out _ ee)⟩ ?_
            try simp only [Act.put, List.getElem_toArray, List.getElem_cons_zero, List.getElem_cons_succ, List.setIfInBounds_toArray, List.set_cons_zero, List.set_cons_succ]
            refine wpAnyH_take (i := 16) (v := .bool false) rfl (by kernel_rfl) (by kernel_rfl) (by kernel_rfl) (fun _ _ _ h => h) (Or.inl ⟨by rfl, fun w_ hS_ => by (first | (go_simp; done) | (go_simp; rfl))⟩) ⟨(rowAt Zb), (HCK.out _ ee)⟩ ?_
            try simp only [Act.put, List.getElem_toArray, List.getElem_cons_zero, List.getElem_cons_succ, List.setIfInBounds_toArray, List.set_cons_zero, List.set_cons_succ]
            refine wpAnyH_take (i := 17) (v := .bool false) rfl (by kernel_rfl) (by kernel_rfl) (by kernel_rfl) (fun _ _ _ h => h) (Or.inl ⟨by rfl, fun w_ hS_ => by (first | (go_simp; done) | (go_simp; rfl))⟩) ⟨(rowAt Zb), (HCK.out _ ee)⟩ ?_
            try simp only [Act.put, List.getElem_toArray, List.getElem_cons_zero, List.getElem_cons_succ, List.setIfInBounds_toArray, List.set_cons_zero, List.set_cons_succ]
            refine wpAnyH_done (by kernel_rfl) ?_ _
            clear e5
            go_upto_region 14 with fail
            clear HLB HLS
            have ck := HCK.out z13 ee
            cases po with
            | false =>
              go_wp2_with fail
              go_roundw
              case rel => exact ⟨j + 1, L2, R2, by omega, by go_num, HK2.out.below e2, HR2.out.below e2, ee⟩
              case measure => simp [intOf]; omega
            | true =>
              have e5 : (o.kd != 1) = false := by rw [k1]; rfl
              go_wp2_with fail
              go_roundw
              case rel => exact ⟨j + 1, L2, R2, by omega, by go_num, HK2.out.below e2, HR2.out.below e2, ee⟩
              case measure => simp [intOf]; omega
          · have e5 : (o.kd != 1) = true := by simpa using k1
            obtain ⟨sb1, sb2⟩ := HLA.out.2.1 k1
            have hI := run_neBal L2.br L2.bn L.br L.bn
            rw [decide_eq_true (⟨sb1, sb2⟩ : L2.br = L.br ∧ L2.bn = L.bn)] at hI
            clear sb1 sb2
            have Zx : z10.drew.heap[gx]? = some (.cells (px.cells).toArray 37) := Zx
            have Zb : z10.drew.heap[gb]? = some (.cells ([.int .u32 (L.br : Int), .int .i64 L.bn]).toArray 28) := Zb
            have Zy : z10.drew.heap[gy]? = some (.cells (px2.cells).toArray 37) := Zy
            have ee := belowDrewS ee
            have e2 := belowDrewS e2
            refine wp_region_held_drew (S := fun z' => z'.rangeAt gb (0) ([.int .u32 (L.br : Int), .int .i64 L.bn]) ∧ z'.cell? ⟨bo, off + j * 32, none⟩ = some (.int .i64 o.kd)) (by kernel_rfl) ⟨(rowAt Zb), (HCK.out _ ee)⟩ (fun hH => ?_)
            clear hH
            generalize z10.drew = z11 at Zx Zb Zy ee e2 ⊢
            refine wpAnyH_take (i := 0) (v := .pointer (some ⟨gh, 0, none⟩)) rfl (by kernel_rfl) (by kernel_rfl) (by kernel_rfl) (fun _ _ _ h => h) (Or.inl ⟨by rfl, fun w_ hS_ => by (first | (go_simp; done) | (go_simp; rfl))⟩) ⟨(rowAt Zb), (HCK.out _ ee)⟩ ?_
            try simp only [Act.put, List.getElem_toArray, List.getElem_cons_zero, List.getElem_cons_succ, List.setIfInBounds_toArray, List.set_cons_zero, List.set_cons_succ]
            refine wpAnyH_take (i := 2) (v := .agg ([.int .u32 (L.br : Int), .int .i64 L.bn]).toArray) rfl (by kernel_rfl) (by kernel_rfl) (by kernel_rfl) (fun _ _ _ h => h) (yieldsIf_load_mid (by rfl) 28 _ rfl (gb) (0) rfl ([.int .u32 (L.br : Int), .int .i64 L.bn]) _ (fun _ h => h.1) Tryd.underlying28 rfl sizeBal) ⟨(rowAt Zb), (HCK.out _ ee)⟩ ?_
            try simp only [Act.put, List.getElem_toArray, List.getElem_cons_zero, List.getElem_cons_succ, List.setIfInBounds_toArray, List.set_cons_zero, List.set_cons_succ]
            refine wpAnyH_ready (rs := [1]) (by kernel_rfl) (by simp) ?_
            refine AllReadyH.cons rfl (fun K hK => ?_) AllReadyH.nil
            rw [if_pos (by rfl)]
            go_simp
            go_wp2_with (go_at_call 43; refine (HLB.out z11 (HK2.out.below e2).blk).mono ?_; rintro e z12 ⟨rfl, t⟩)
            have Zx := hpB Zx t
            have Zb := hpB Zb t
            have Zy := hpB Zy t
            have ee := ee.trans (t.mono ee.size)
            have e2 := e2.trans (t.mono e2.size)
            clear t
            refine hK.out _ _ ⟨(rowAt Zb), (HCK.out _ ee)⟩ (fun hH => ?_)
            clear hK K hH
            try simp only [Act.put, List.getElem_toArray, List.getElem_cons_zero, List.getElem_cons_succ, List.setIfInBounds_toArray, List.set_cons_zero, List.set_cons_succ]
            refine wpAnyH_ready (rs := [3]) (by kernel_rfl) (by simp) ?_
            refine AllReadyH.cons rfl (fun K hK => ?_) AllReadyH.nil
            rw [if_pos (by rfl)]
            go_simp
            go_wp2_with (go_at_call 45; refine (HLS.out z12).mono ?_; rintro e z13 ⟨rfl, t⟩)
            have Zx := hpB Zx t
            have Zb := hpB Zb t
            have Zy := hpB Zy t
            have ee := ee.trans (t.mono ee.size)
            have e2 := e2.trans (t.mono e2.size)
            clear t
            refine hK.out _ _ ⟨(rowAt Zb), (HCK.out _ ee)⟩ (fun hH => ?_)
            clear hK K hH
            try simp only [Act.put, List.getElem_toArray, List.getElem_cons_zero, List.getElem_cons_succ, List.setIfInBounds_toArray, List.set_cons_zero, List.set_cons_succ]
            refine wpAnyH_take (i := 4) (v := .bool false) rfl (by kernel_rfl) (by kernel_rfl) (by kernel_rfl) (fun _ _ _ h => h) (Or.inl ⟨by rfl, fun w_ hS_ => by (first | (go_simp; done) | (go_simp; rfl))⟩) ⟨(rowAt Zb), (HCK.out _ ee)⟩ ?_
            try simp only [Act.put, List.getElem_toArray, List.getElem_cons_zero, List.getElem_cons_succ, List.setIfInBounds_toArray, List.set_cons_zero, List.set_cons_succ]
            refine wpAnyH_take (i := 5) (v := .slice (some ⟨bo, off, none⟩) sn cV) rfl (by kernel_rfl) (by kernel_rfl) (by kernel_rfl) (fun _ _ _ h => h) (Or.inl ⟨by rfl, fun w_ hS_ => by (first | (go_simp; done) | (go_simp; rfl))⟩) ⟨(rowAt Zb), (HCK.out _ ee)⟩ ?_
            try simp only [Act.put, List.getElem_toArray, List.getElem_cons_zero, List.getElem_cons_succ, List.setIfInBounds_toArray, List.set_cons_zero, List.set_cons_succ]
            refine wpAnyH_take (i := 6) (v := .int .i64 ((j : Int))) rfl (by kernel_rfl) (by kernel_rfl) (by kernel_rfl) (fun _ _ _ h => h) (Or.inl ⟨by rfl, fun w_ hS_ => by (first | (go_simp; done) | (go_simp; rfl))⟩) ⟨(rowAt Zb), (HCK.out _ ee)⟩ ?_
            try simp only [Act.put, List.getElem_toArray, List.getElem_cons_zero, List.getElem_cons_succ, List.setIfInBounds_toArray, List.set_cons_zero, List.set_cons_succ]
            refine wpAnyH_take (i := 7) (v := .pointer (some ⟨bo, off + j * 32, none⟩)) rfl (by kernel_rfl) (by kernel_rfl) (by kernel_rfl) (fun _ _ _ h => h) (Or.inl ⟨by rfl, fun w_ hS_ => by (first | (go_simp; done) | (go_simp; rfl))⟩) ⟨(rowAt Zb), (HCK.out _ ee)⟩ ?_
            try simp only [Act.put, List.getElem_toArray, List.getElem_cons_zero, List.getElem_cons_succ, List.setIfInBounds_toArray, List.set_cons_zero, List.set_cons_succ]
            refine wpAnyH_take (i := 8) (v := .pointer (some ⟨bo, off + j * 32, none⟩)) rfl (by kernel_rfl) (by kernel_rfl) (by kernel_rfl) (fun _ _ _ h => h) (Or.inl ⟨by rfl, fun w_ hS_ => by (first | (go_simp; done) | (go_simp; rfl))⟩) ⟨(rowAt Zb), (HCK.out _ ee)⟩ ?_
            try simp only [Act.put, List.getElem_toArray, List.getElem_cons_zero, List.getElem_cons_succ, List.setIfInBounds_toArray, List.set_cons_zero, List.set_cons_succ]
            refine wpAnyH_take (i := 9) (v := .int .i64 o.kd) rfl (by kernel_rfl) (by kernel_rfl) (by kernel_rfl) (fun _ _ _ h => h) (Or.inl ⟨by rfl, fun w_ hS_ => by (have c_ := hS_.2; first | (go_simp; done) | (go_simp; rfl))⟩) ⟨(rowAt Zb), (HCK.out _ ee)⟩ ?_
            try simp only [Act.put, List.getElem_toArray, List.getElem_cons_zero, List.getElem_cons_succ, List.setIfInBounds_toArray, List.set_cons_zero, List.set_cons_succ]
            refine wpAnyH_take (i := 10) (v := .bool true) rfl (by kernel_rfl) (by kernel_rfl) (by kernel_rfl) (fun _ _ _ h => h) (Or.inl ⟨by rfl, fun w_ hS_ => by (first | (go_simp; done) | (go_simp; rfl))⟩) ⟨(rowAt Zb), (HCK.out _ ee)⟩ ?_
            try simp only [Act.put, List.getElem_toArray, List.getElem_cons_zero, List.getElem_cons_succ, List.setIfInBounds_toArray, List.set_cons_zero, List.set_cons_succ]
            refine wpAnyH_take (i := 11) (v := .bool true) rfl (by kernel_rfl) (by kernel_rfl) (by kernel_rfl) (fun _ _ _ h => h) (Or.inl ⟨by rfl, fun w_ hS_ => by (first | (go_simp; done) | (go_simp; rfl))⟩) ⟨(rowAt Zb), (HCK.out _ ee)⟩ ?_
            try simp only [Act.put, List.getElem_toArray, List.getElem_cons_zero, List.getElem_cons_succ, List.setIfInBounds_toArray, List.set_cons_zero, List.set_cons_succ]
            refine wpAnyH_take (i := 12) (v := .pointer (some ⟨gh, 0, none⟩)) rfl (by kernel_rfl) (by kernel_rfl) (by kernel_rfl) (fun _ _ _ h => h) (Or.inl ⟨by rfl, fun w_ hS_ => by (first | (go_simp; done) | (go_simp; rfl))⟩) ⟨(rowAt Zb), (HCK.out _ ee)⟩ ?_
            try simp only [Act.put, List.getElem_toArray, List.getElem_cons_zero, List.getElem_cons_succ, List.setIfInBounds_toArray, List.set_cons_zero, List.set_cons_succ]
            refine wpAnyH_take (i := 14) (v := .agg ([.int .u32 (L.br : Int), .int .i64 L.bn]).toArray) rfl (by kernel_rfl) (by kernel_rfl) (by kernel_rfl) (fun _ _ _ h => h) (yieldsIf_load_mid (by rfl) 28 _ rfl (gb) (0) rfl ([.int .u32 (L.br : Int), .int .i64 L.bn]) _ (fun _ h => h.1) Tryd.underlying28 rfl sizeBal) ⟨(rowAt Zb), (HCK.out _ ee)⟩ ?_
            try simp only [Act.put, List.getElem_toArray, List.getElem_cons_zero, List.getElem_cons_succ, List.setIfInBounds_toArray, List.set_cons_zero, List.set_cons_succ]
            refine wpAnyH_ready (rs := [13]) (by kernel_rfl) (by simp) ?_
            refine AllReadyH.cons rfl (fun K hK => ?_) AllReadyH.nil
            rw [if_pos (by rfl)]
            go_simp
            go_wp2_with (go_at_call 43; refine (HLB.out z13 (HK2.out.below e2).blk).mono ?_; rintro e z14 ⟨rfl, t⟩)
            have Zx := hpB Zx t
            have Zb := hpB Zb t
            have Zy := hpB Zy t
            have ee := ee.trans (t.mono ee.size)
            have e2 := e2.trans (t.mono e2.size)
            clear t
            refine hK.out _ _ ⟨(rowAt Zb), (HCK.out _ ee)⟩ (fun hH => ?_)
            clear hK K hH
            try simp only [Act.put, List.getElem_toArray, List.getElem_cons_zero, List.getElem_cons_succ, List.setIfInBounds_toArray, List.set_cons_zero, List.set_cons_succ]
            refine wpAnyH_take (i := 15) (v := .bool false) rfl (by kernel_rfl) (by kernel_rfl) (by kernel_rfl) (fun _ _ _ h => h) (Or.inl ⟨by rfl, fun w_ hS_ => by (first | (go_simp; done) | (go_simp; rfl))⟩) ⟨(rowAt Zb), (HCK.out _ ee)⟩ ?_
            try simp only [Act.put, List.getElem_toArray, List.getElem_cons_zero, List.getElem_cons_succ, List.setIfInBounds_toArray, List.set_cons_zero, List.set_cons_succ]
            refine wpAnyH_take (i := 16) (v := .bool false) rfl (by kernel_rfl) (by kernel_rfl) (by kernel_rfl) (fun _ _ _ h => h) (Or.inl ⟨by rfl, fun w_ hS_ => by (first | (go_simp; done) | (go_simp; rfl))⟩) ⟨(rowAt Zb), (HCK.out _ ee)⟩ ?_
            try simp only [Act.put, List.getElem_toArray, List.getElem_cons_zero, List.getElem_cons_succ, List.setIfInBounds_toArray, List.set_cons_zero, List.set_cons_succ]
            refine wpAnyH_take (i := 17) (v := .bool false) rfl (by kernel_rfl) (by kernel_rfl) (by kernel_rfl) (fun _ _ _ h => h) (Or.inl ⟨by rfl, fun w_ hS_ => by (first | (go_simp; done) | (go_simp; rfl))⟩) ⟨(rowAt Zb), (HCK.out _ ee)⟩ ?_
            try simp only [Act.put, List.getElem_toArray, List.getElem_cons_zero, List.getElem_cons_succ, List.setIfInBounds_toArray, List.set_cons_zero, List.set_cons_succ]
            refine wpAnyH_done (by kernel_rfl) ?_ _
            clear e5
            go_upto_region 14 with fail
            clear HLB HLS hI
            have ck := HCK.out z14 ee
            cases po with
            | false =>
              go_wp2_with fail
              go_roundw
              case rel => exact ⟨j + 1, L2, R2, by omega, by go_num, HK2.out.below e2, HR2.out.below e2, ee⟩
              case measure => simp [intOf]; omega
            | true =>
              have e5 : (o.kd != 1) = true := by simpa using k1
              by_cases k5 : o.kd = 5
              · have e7 : (o.kd != 5) = false := by rw [k5]; rfl
                go_wp2_with fail
                go_roundw
                case rel => exact ⟨j + 1, L2, R2, by omega, by go_num, HK2.out.below e2, HR2.out.below e2, ee⟩
                case measure => simp [intOf]; omega
              · have e7 : (o.kd != 5) = true := by simpa using k5
                have hs0 : L.sl ≠ 0 := by have := HPO.out; simpa using this
                obtain ⟨s1, s2⟩ := HLA.out.2.2 k1 k5 hs0
                obtain rfl : po2 = true := by have := HPO2.out; rw [s1, decide_eq_false hs0] at this; exact this.symm
                obtain rfl : px2 = px := by rw [← HPX2.out, ← HPX.out]; unfold T.Ld.px; rw [s1, s2]
                have e8 : (L2.sl != L.sl) = false := by rw [s1]; simp
                have HSM := Lib.hid (fun z (hz : CmOk z w.heap.size px2) (hs : w.heap.size ≤ z.heap.size) => c_csame3 px2 px2 z w.heap.size hs hz hz)
                rw [show SameC px2 px2 = true from SameC.refl _] at HSM
                clear s1 s2 hs0
                refine wp_region_lit ?_
                iterate 110 (first | with_reducible refine isLoad (ty := 37) rfl ?_ | go_step)
                refine wpList_load_g (by rfl) 37 _ rfl (gx) 0 rfl (px2.cells) _ (rowAt Zx) Tryd.underlying37 rfl sizeCm ?_
                iterate 30 (first | with_reducible refine isLoad (ty := 37) rfl ?_ | go_step)
                refine wpList_load_g (by rfl) 37 _ rfl (gy) 0 rfl (px2.cells) _ (rowAt Zy) Tryd.underlying37 rfl sizeCm ?_
                go_wp2_with fail
                refine (HSM.out z14 (hcx1.out.below e2 hwqs) ee.size).mono ?_
                rintro e z15 ⟨rfl, t⟩
                have Zx := hpB Zx t
                have Zb := hpB Zb t
                have Zy := hpB Zy t
                have ee := ee.trans (t.mono ee.size)
                have e2 := e2.trans (t.mono e2.size)
                clear t
                try dsimp only
                rename_i hK
                refine hK _ _ ?_
                clear hK
                clear ck
                go_wp2_with fail
                go_roundw
                case rel => exact ⟨j + 1, L2, R2, by omega, by go_num, HK2.out.below e2, HR2.out.below e2, ee⟩
                case measure => simp [intOf]; omega
      · go_wp2_with fail
        go_ret
        exact ⟨rfl, ee⟩
theorem leadStays_walk (W : World) (hT : Tabs W) (v0 v1 : Value) (h0 : Arg W 5 v0) (h1 : Arg W 91 v1) :
    Calls Tryd.prog 8 #[v0, v1] W fun e W' => e = .returned (.bool true) ∧ Below W.heap.size W W' := by
  obtain ⟨m, rfl, hm8⟩ := h0.u8 Tryd.underlying5
  obtain ⟨A, c, ls, rfl, hc, hm, hA, hS⟩ := h1.lops
  exact lstays_mid A c ls m hm8 W hc hm hA hS hT
end Go.Proofs.YtbahooohkigcnaaDoor
