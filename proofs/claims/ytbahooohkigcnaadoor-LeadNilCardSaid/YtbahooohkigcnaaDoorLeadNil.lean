/- The walk of LeadNil. Conditions: what lies, lies below; the tables lie. (Printed by gen_lead.py.) -/
import Derived.Test.YtbahooohkigcnaaDoorLeadW
namespace Go.Proofs.YtbahooohkigcnaaDoor
set_option maxRecDepth 20000
open Go.RowKit T
set_option linter.unusedSimpArgs false
set_option linter.unusedVariables false

theorem info_lop : (Tryd.prog.info? 99).map (fun i => (i.zero, i.size)) = some (some (.agg #[.int .i64 0, .int .i64 0, .int .i64 0, .int .u32 0, .int .i64 0, .bool false, .int .u32 0, .int .i64 0, .int .i64 0, .bool false, .int .u32 0, .int .i64 0, .int .i64 0, .int .i64 0, .int .i64 0, .slice none 0 0, .slice none 0 0, .int .i64 0, .int .i64 0, .int .i64 0, .int .u64 0, .bool false, .int .i64 0, .int .i64 0, .int .i64 0, .slice none 0 0, .slice none 0 0, .int .i64 0, .int .i64 0, .int .i64 0, .int .u64 0, .bool false]), 32) := by kernel_rfl
theorem fill32 (x : LOp) (cells : Array Value) (hn : cells.size = 32) : Instr.fill (fun i => some (i * 32, 32)) cells [(0, .agg x.cells.toArray)] = some x.cells.toArray := by
  have := Great.fill_whole (s := 32) (by omega) [Value.agg x.cells.toArray] cells (by intro v hv; simp at hv; subst hv; rfl) (by simp [hn])
  simpa [Value.cells] using this
theorem wpList_buildSlice_g {P : Program} {ops : Array Oper} {rest : List Oper} {o : Oper} {a : Act} {w : World} {Q : Exit → Act → World → Prop} (hw : Region.wanted o (yielded ops a.tmps) = true) (t e : TypeId) (len : Nat) (parts : Array (Nat × Operand)) (ho : o.op = .buildSlice t len parts)
    (cells : Array Value) (ie : TypeInfo) (z : Value)
    (hu : P.underlying t = some (.slice e)) (hie : P.info? e = some ie) (hz : ie.zero = some z) (hsmall : ¬ len * ie.size > 2 ^ 24) (hpos : ¬ len * ie.size = 0)
    (hf : Instr.fill (fun i => some (i * ie.size, ie.size)) ((Array.range (len * ie.size)).map (z.cells[· % z.cells.size]!)) (parts.map fun (i, x) => (i, a.eval x)).toList = some cells)
    (h : wpList P ops Q rest (a.put o.dst (.slice (some ⟨w.heap.size, 0, none⟩) len len)) (w.alloc (.cells cells e))) : wpList P ops Q (o :: rest) a w :=
  wpList_step fun _ hK => by rw [if_pos hw]; exact wp_buildSlice t e len parts ho cells ie z hu hie hz hsmall hpos hf (hK _ _ h)
theorem rowsAt1 {z : World} {b : Nat} {t : TypeId} {o : LOp} (hz : z.heap[b]? = some (.cells o.cells.toArray t (0, 0))) : RowsAt z (b + 1) (some ⟨b, 0, none⟩) 32 ([o].map LOp.cells) := fun k cs hk => by
  match k, hk with
  | 0, hk => cases hk; exact ⟨b, 0, rfl, by omega, fun j v hv => by have := rowAt hz j v hv; simpa using this⟩
  | k + 1, hk => simp at hk
theorem dB {w : World} {e : Ending} {w' : World} {v : Value} (h : e = .returned v ∧ ∃ m, w' = w.drewN m) : e = .returned v ∧ Below w.heap.size w w' :=
  ⟨h.1, by obtain ⟨_, m, e⟩ := h; rw [e]; exact belowDrewN (Below.refl _ _) m⟩
theorem lnew_B (n nd : Int) (w : World) : Calls Tryd.prog 34 #[.int .i64 n, .int .i64 nd] w fun e w' => (∃ p : Option Addr, e = .returned (.pointer p) ∧ p.isSome = okN n nd) ∧ Below w.heap.size w w' := by
  cases h : okN n nd with
  | false => exact (lnew_no n nd w h).mono fun e w' h => ⟨⟨none, h.1, rfl⟩, by rw [← h.2]; exact Below.refl _ _⟩
  | true => exact (lnew_ok n nd w h).mono fun e w' h => ⟨⟨_, h.1, rfl⟩, by rw [h.2]; exact (Below.refl _ _).alloc (Nat.le_refl _) _⟩
set_option maxHeartbeats 6400000 in
theorem lnil_mid (n nd : Int) (o : LOp) (w : World) (hx : CmOk w w.heap.size o.x) (ha : CmOk w w.heap.size o.a.c) (hT : Tabs w) :
    Calls Tryd.prog 9 #[.int .i64 n, .int .i64 nd, .agg o.cells.toArray] w fun e w' => e = .returned (.bool true) ∧ Below w.heap.size w w' := by
  obtain ⟨i1, hi1, hz10, hz11⟩ : ∃ i, Tryd.prog.info? 99 = some i ∧ i.zero = some (.agg #[.int .i64 0, .int .i64 0, .int .i64 0, .int .u32 0, .int .i64 0, .bool false, .int .u32 0, .int .i64 0, .int .i64 0, .bool false, .int .u32 0, .int .i64 0, .int .i64 0, .int .i64 0, .int .i64 0, .slice none 0 0, .slice none 0 0, .int .i64 0, .int .i64 0, .int .i64 0, .int .u64 0, .bool false, .int .i64 0, .int .i64 0, .int .i64 0, .slice none 0 0, .slice none 0 0, .int .i64 0, .int .i64 0, .int .i64 0, .int .u64 0, .bool false]) ∧ i.size = 32 := by
    have h := info_lop
    cases hh : Tryd.prog.info? 99 with
    | none => rw [hh] at h; simp at h
    | some i => rw [hh] at h; simp only [Option.map_some, Option.some.injEq, Prod.mk.injEq] at h; exact ⟨i, rfl, h.1, h.2⟩
  have HX := Lib.hid hx
  have HA := Lib.hid ha
  clear hx ha hT
  obtain ⟨w0, hw0⟩ : ∃ w0, w0 = w.alloc (.cells o.cells.toArray 99) := ⟨_, rfl⟩
  have ee : Below w.heap.size w w0 := by rw [hw0]; exact (Below.refl _ _).alloc (Nat.le_refl _) _
  have Zo : w0.heap[w.heap.size]? = some (.cells o.cells.toArray 99) := by rw [hw0]; exact hpN _ _ rfl
  go_enter Tryd.func9, Tryd.ntmps9
  go_upto_region 1 with fail
  change Code.wp _ _ _ _ (w.alloc (.cells o.cells.toArray 99))
  rw [← hw0]
  clear hw0
  refine wp_region_lit ?_
  go_wp2_with fail
  refine (awake19 w0).mono ?_
  rintro e z1 ⟨rfl, t⟩
  have Zo := hpB Zo t
  have ee := ee.trans (t.mono ee.size)
  clear t
  dsimp only
  rename_i hK
  refine hK _ _ ?_
  clear hK
  iterate 27 (first | with_reducible refine isLoad (ty := 99) rfl ?_ | go_step)
  refine wpList_load_g (by rfl) 99 _ rfl (w.heap.size) 0 rfl (o.cells) _ (rowAt Zo) Tryd.underlying99 rfl sizeLOp ?_
  refine wpList_buildSlice_g (by rfl) 91 99 1 #[(0, .tmp 19)] rfl o.cells.toArray i1 (.agg #[.int .i64 0, .int .i64 0, .int .i64 0, .int .u32 0, .int .i64 0, .bool false, .int .u32 0, .int .i64 0, .int .i64 0, .bool false, .int .u32 0, .int .i64 0, .int .i64 0, .int .i64 0, .int .i64 0, .slice none 0 0, .slice none 0 0, .int .i64 0, .int .i64 0, .int .i64 0, .int .u64 0, .bool false, .int .i64 0, .int .i64 0, .int .i64 0, .slice none 0 0, .slice none 0 0, .int .i64 0, .int .i64 0, .int .i64 0, .int .u64 0, .bool false]) Tryd.underlying91 hi1 hz10 (by rw [hz11]; decide) (by rw [hz11]; decide) (by rw [hz11]; simp only [List.map_toArray, List.map_cons, List.map_nil]; exact fill32 _ _ (by simp)) ?_
  clear hi1 hz10 hz11
  have lZo := (Array.getElem?_eq_some_iff.1 Zo).1
  have Zo := hpA Zo (.cells o.cells.toArray 99)
  have ee := ee.alloc ee.size (.cells o.cells.toArray 99)
  have Zs := hpN z1 (.cells o.cells.toArray 99) rfl
  generalize z1.alloc (.cells o.cells.toArray 99) = z2 at Zo Zs ee ⊢
  go_wp2_with fail
  refine (few19 (some ⟨z1.heap.size, 0, none⟩) 1 [o] z2 (z1.heap.size + 1) (by have := (Array.getElem?_eq_some_iff.1 Zs).1; omega) (by simp) (by unfold maxLen; omega) (rowsAt1 Zs) (fun q hq => by rw [List.mem_singleton] at hq; subst hq; exact ⟨(HX.out.below ee (Nat.le_refl _)).more (by have := (Array.getElem?_eq_some_iff.1 Zo).1; omega), (HA.out.below ee (Nat.le_refl _)).more (by have := (Array.getElem?_eq_some_iff.1 Zo).1; omega)⟩)).mono ?_
  rintro e z3 ⟨⟨r, rfl⟩, t⟩
  have Zo := hpB Zo t
  have ee := ee.trans (t.mono ee.size)
  clear t Zs
  dsimp only
  rename_i hK
  refine hK _ _ ?_
  clear hK
  cases r with
  | false =>
    go_wp2_with fail
    refine (awake19 z3).mono ?_
    rintro e z4 ⟨rfl, t⟩
    have Zo := hpB Zo t
    have ee := ee.trans (t.mono ee.size)
    clear t
    go_wp2_with fail
    go_ret
    exact ⟨rfl, ee⟩
  | true =>
    go_wp2_with fail
    refine ((lstop_nil z3).mono fun _ _ h => dB h).mono ?_
    rintro e z4 ⟨rfl, t⟩
    have Zo := hpB Zo t
    have ee := ee.trans (t.mono ee.size)
    clear t
    go_upto_region 5 with fail
    refine wp_region_lit ?_
    iterate 27 (first | with_reducible refine isLoad (ty := 28) rfl ?_ | go_step)
    refine wpList_load_mid rfl 28 _ rfl (w.heap.size) 3 rfl ([.int .u32 (o.br : Int), .int .i64 o.bn]) _ (rowMid Zo 3 (LOp.cb o)) Tryd.underlying28 rfl sizeBal ?_
    go_wp2_with fail
    refine (lstart_nil z4 o.br o.bn).mono ?_
    rintro e z5 ⟨rfl, t⟩
    have Zo := hpB Zo t
    have ee := ee.trans (t.mono ee.size)
    clear t
    dsimp only
    rename_i hK
    refine hK _ _ ?_
    clear hK
    iterate 12 go_step
    have e1 := ee.size
    have lZo := (Array.getElem?_eq_some_iff.1 Zo).1
    have Zo := hpA Zo (.cells #[.int .u32 0, .int .i64 0] 28)
    have ee := ee.alloc ee.size (.cells #[.int .u32 0, .int .i64 0] 28)
    have Zb := hpN z5 (.cells #[.int .u32 0, .int .i64 0] 28) rfl
    generalize z5.alloc (.cells #[.int .u32 0, .int .i64 0] 28) = z6 at Zo Zb ee ⊢
    iterate 27 (first | with_reducible refine isStore (ty := 28) rfl ?_ | go_step)
    refine wpList_store_row rfl 28 _ _ rfl (z5.heap.size) ([.int .u32 0, .int .i64 0]).toArray rfl rfl 28 _ Zb sizeBal (by rfl) (by simp [Value.oneCell']) ?_
    have N_ := setRow_heap z6 (z5.heap.size) _ ([.int .u32 0, .int .i64 0]).toArray _ _ Zb
    have ee := belowSet (cs := ([.int .u32 0, .int .i64 0]).toArray) ee Zb (by omega)
    have Zo := hpR Zo (g' := z5.heap.size) (by omega) ([.int .u32 0, .int .i64 0]).toArray
    clear Zb
    have Zb := N_
    clear N_
    generalize z6.setRow (z5.heap.size) ([.int .u32 0, .int .i64 0]).toArray = z7 at Zo Zb ee ⊢
    clear Zb
    go_upto_region 6 with fail
    refine wp_region_lit ?_
    have c2 := rowCell Zo 2 rfl
    iterate 27 (first | with_reducible refine isLoad (ty := 37) rfl ?_ | go_step)
    refine wpList_load_mid rfl 37 _ rfl (w.heap.size) 22 rfl (o.x.cells) _ (rowMid Zo 22 (LOp.cx o)) Tryd.underlying37 rfl sizeCm ?_
    clear c2
    go_wp2_with fail
    refine (lpropose_nil o.sl o.x z7).mono ?_
    rintro e z8 ⟨rfl, t⟩
    have Zo := hpB Zo t
    have ee := ee.trans (t.mono ee.size)
    clear t
    dsimp only
    rename_i hK
    refine hK _ _ ?_
    clear hK
    iterate 12 go_step
    have e2 := ee.size
    have lZo := (Array.getElem?_eq_some_iff.1 Zo).1
    have Zo := hpA Zo (.cells #[.int .i64 0, .int .i64 0, .int .i64 0, .slice none 0 0, .slice none 0 0, .int .i64 0, .int .i64 0, .int .i64 0, .int .u64 0, .bool false] 37)
    have ee := ee.alloc ee.size (.cells #[.int .i64 0, .int .i64 0, .int .i64 0, .slice none 0 0, .slice none 0 0, .int .i64 0, .int .i64 0, .int .i64 0, .int .u64 0, .bool false] 37)
    have Zb := hpN z8 (.cells #[.int .i64 0, .int .i64 0, .int .i64 0, .slice none 0 0, .slice none 0 0, .int .i64 0, .int .i64 0, .int .i64 0, .int .u64 0, .bool false] 37) rfl
    generalize z8.alloc (.cells #[.int .i64 0, .int .i64 0, .int .i64 0, .slice none 0 0, .slice none 0 0, .int .i64 0, .int .i64 0, .int .i64 0, .int .u64 0, .bool false] 37) = z9 at Zo Zb ee ⊢
    iterate 27 (first | with_reducible refine isStore (ty := 37) rfl ?_ | go_step)
    refine wpList_store_row rfl 37 _ _ rfl (z8.heap.size) (Cm.zero.cells).toArray rfl rfl 37 _ Zb sizeCm (by rfl) (Cm.one _) ?_
    have N_ := setRow_heap z9 (z8.heap.size) _ (Cm.zero.cells).toArray _ _ Zb
    have ee := belowSet (cs := (Cm.zero.cells).toArray) ee Zb (by omega)
    have Zo := hpR Zo (g' := z8.heap.size) (by omega) (Cm.zero.cells).toArray
    clear Zb
    have Zb := N_
    clear N_
    generalize z9.setRow (z8.heap.size) (Cm.zero.cells).toArray = z10 at Zo Zb ee ⊢
    clear Zb
    go_upto_region 7 with fail
    refine wp_region_lit ?_
    go_wp2_with fail
    refine (lproposal_nil z10).mono ?_
    rintro e z11 ⟨rfl, t⟩
    have Zo := hpB Zo t
    have ee := ee.trans (t.mono ee.size)
    clear t
    dsimp only
    rename_i hK
    refine hK _ _ ?_
    clear hK
    iterate 15 go_step
    have e3 := ee.size
    have lZo := (Array.getElem?_eq_some_iff.1 Zo).1
    have Zo := hpA Zo (.cells #[.int .i64 0, .int .i64 0, .int .i64 0, .slice none 0 0, .slice none 0 0, .int .i64 0, .int .i64 0, .int .i64 0, .int .u64 0, .bool false] 37)
    have ee := ee.alloc ee.size (.cells #[.int .i64 0, .int .i64 0, .int .i64 0, .slice none 0 0, .slice none 0 0, .int .i64 0, .int .i64 0, .int .i64 0, .int .u64 0, .bool false] 37)
    have Zb := hpN z11 (.cells #[.int .i64 0, .int .i64 0, .int .i64 0, .slice none 0 0, .slice none 0 0, .int .i64 0, .int .i64 0, .int .i64 0, .int .u64 0, .bool false] 37) rfl
    generalize z11.alloc (.cells #[.int .i64 0, .int .i64 0, .int .i64 0, .slice none 0 0, .slice none 0 0, .int .i64 0, .int .i64 0, .int .i64 0, .int .u64 0, .bool false] 37) = z12 at Zo Zb ee ⊢
    iterate 27 (first | with_reducible refine isStore (ty := 37) rfl ?_ | go_step)
    refine wpList_store_row rfl 37 _ _ rfl (z11.heap.size) (Cm.zero.cells).toArray rfl rfl 37 _ Zb sizeCm (by rfl) (Cm.one _) ?_
    have N_ := setRow_heap z12 (z11.heap.size) _ (Cm.zero.cells).toArray _ _ Zb
    have ee := belowSet (cs := (Cm.zero.cells).toArray) ee Zb (by omega)
    have Zo := hpR Zo (g' := z11.heap.size) (by omega) (Cm.zero.cells).toArray
    clear Zb
    have Zb := N_
    clear N_
    generalize z12.setRow (z11.heap.size) (Cm.zero.cells).toArray = z13 at Zo Zb ee ⊢
    clear Zb
    go_upto_region 8 with fail
    go_cut [15] (fun u wx => u = .bool (okN n nd) ∧ wx = z13)
    case first =>
      by_cases h1 : n = 1 ∨ n = 3 ∨ n = 5
      · by_cases h0 : 0 ≤ nd
        · have g0 : decide (0 ≤ nd) = true := decide_eq_true h0
          by_cases h2 : nd < n
          · have g2 : decide (nd < n) = true := decide_eq_true h2
            have HO : Hid (true = okN n nd) := (decide_eq_true ⟨h1, h0, h2⟩).symm
            rcases h1 with rfl | rfl | rfl
            all_goals
              clear h0 h2
              go_wp2_with fail
              go_meet
              exact ⟨by rw [← HO.out], rfl⟩
          · have g2 : decide (nd < n) = false := decide_eq_false h2
            have HO : Hid (false = okN n nd) := (decide_eq_false (fun h => h2 h.2.2)).symm
            rcases h1 with rfl | rfl | rfl
            all_goals
              clear h0 h2
              go_wp2_with fail
              go_meet
              exact ⟨by rw [← HO.out], rfl⟩
        · have g0 : decide (0 ≤ nd) = false := decide_eq_false h0
          have HO : Hid (false = okN n nd) := (decide_eq_false (fun h => h0 h.2.1)).symm
          rcases h1 with rfl | rfl | rfl
          all_goals
            clear h0
            go_wp2_with fail
            go_meet
            exact ⟨by rw [← HO.out], rfl⟩
      · have HO : Hid (false = okN n nd) := (decide_eq_false (fun h => h1 h.1)).symm
        have n1 : (n == 1) = false := by simp; omega
        have n3 : (n == 3) = false := by simp; omega
        have n5 : (n == 5) = false := by simp; omega
        clear h1
        go_wp2_with fail
        go_meet
        exact ⟨by rw [← HO.out], rfl⟩
    case rest =>
      obtain ⟨rfl, hw_⟩ := hcut
      rw [hw_]
      clear hw_
      go_upto_region 9 with fail
      refine wp_region_lit ?_
      go_wp2_with fail
      refine (lnew_B n nd z13).mono ?_
      rintro e z14 ⟨⟨p, rfl, hp⟩, t⟩
      have Zo := hpB Zo t
      have ee := ee.trans (t.mono ee.size)
      clear t
      have HP : Hid ((p.isSome == okN n nd) = true) := by show _ = _; rw [hp]; simp
      generalize okN n nd = b at hp HP
      clear HP
      cases p with
      | none =>
        have hb : b = false := by simpa using hp.symm
        subst hb
        clear hp
        dsimp only
        rename_i hK
        refine hK _ _ ?_
        clear hK
        have c1 := rowCell Zo 1 rfl
        iterate 80 (first | with_reducible refine isLoad (ty := 28) rfl ?_ | go_step)
        refine wpList_load_g (by rfl) 28 _ rfl (w.heap.size) 3 rfl ([.int .u32 (o.br : Int), .int .i64 o.bn]) _ (rowMid Zo 3 (LOp.cb o)) Tryd.underlying28 rfl sizeBal ?_
        iterate 27 (first | with_reducible refine isLoad (ty := 39) rfl ?_ | go_step)
        refine wpList_load_g (by rfl) 39 _ rfl (w.heap.size) 6 rfl (o.a.cells) _ (rowMid Zo 6 (LOp.ca o)) Tryd.underlying39 rfl sizeAc ?_
        clear c1
        go_wp2_with fail
        refine (lpromise_nil z14 o.nd o.br o.bn o.a).mono ?_
        rintro e z15 ⟨rfl, t⟩
        have Zo := hpB Zo t
        have ee := ee.trans (t.mono ee.size)
        clear t
        dsimp only
        rename_i hK
        refine hK _ _ ?_
        clear hK
        have c1 := rowCell Zo 1 rfl
        have c2 := rowCell Zo 2 rfl
        iterate 40 (first | with_reducible refine isLoad (ty := 28) rfl ?_ | go_step)
        refine wpList_load_g (by rfl) 28 _ rfl (w.heap.size) 3 rfl ([.int .u32 (o.br : Int), .int .i64 o.bn]) _ (rowMid Zo 3 (LOp.cb o)) Tryd.underlying28 rfl sizeBal ?_
        go_wp2_with fail
        refine (lvote_nil z15 o.nd o.br o.bn o.sl).mono ?_
        rintro e z16 ⟨rfl, t⟩
        have Zo := hpB Zo t
        have ee := ee.trans (t.mono ee.size)
        clear t
        dsimp only
        rename_i hK
        refine hK _ _ ?_
        clear hK
        clear c1 c2
        go_wp2_with fail
        refine ((ldone_nil z16).mono fun _ _ h => dB h).mono ?_
        rintro e z17 ⟨rfl, t⟩
        have Zo := hpB Zo t
        have ee := ee.trans (t.mono ee.size)
        clear t
        dsimp only
        rename_i hK
        refine hK _ _ ?_
        clear hK
        go_wp2_with fail
        refine ((lleads_nil z17).mono fun _ _ h => dB h).mono ?_
        rintro e z18 ⟨rfl, t⟩
        have Zo := hpB Zo t
        have ee := ee.trans (t.mono ee.size)
        clear t
        dsimp only
        rename_i hK
        refine hK _ _ ?_
        clear hK
        go_wp2_with fail
        refine ((lfirst_nil z18).mono fun _ _ h => dB h).mono ?_
        rintro e z19 ⟨rfl, t⟩
        have Zo := hpB Zo t
        have ee := ee.trans (t.mono ee.size)
        clear t
        dsimp only
        rename_i hK
        refine hK _ _ ?_
        clear hK
        go_wp2_with fail
        refine (lballot_nil z19).mono ?_
        rintro e z20 ⟨rfl, t⟩
        have Zo := hpB Zo t
        have ee := ee.trans (t.mono ee.size)
        clear t
        go_wp2_with fail
        go_ret
        exact ⟨rfl, ee⟩
      | some p =>
        have hb : b = true := by simpa using hp.symm
        subst hb
        clear hp
        dsimp only
        rename_i hK
        refine hK _ _ ?_
        clear hK
        have c1 := rowCell Zo 1 rfl
        iterate 80 (first | with_reducible refine isLoad (ty := 28) rfl ?_ | go_step)
        refine wpList_load_g (by rfl) 28 _ rfl (w.heap.size) 3 rfl ([.int .u32 (o.br : Int), .int .i64 o.bn]) _ (rowMid Zo 3 (LOp.cb o)) Tryd.underlying28 rfl sizeBal ?_
        iterate 27 (first | with_reducible refine isLoad (ty := 39) rfl ?_ | go_step)
        refine wpList_load_g (by rfl) 39 _ rfl (w.heap.size) 6 rfl (o.a.cells) _ (rowMid Zo 6 (LOp.ca o)) Tryd.underlying39 rfl sizeAc ?_
        clear c1
        go_wp2_with fail
        refine (lpromise_nil z14 o.nd o.br o.bn o.a).mono ?_
        rintro e z15 ⟨rfl, t⟩
        have Zo := hpB Zo t
        have ee := ee.trans (t.mono ee.size)
        clear t
        dsimp only
        rename_i hK
        refine hK _ _ ?_
        clear hK
        have c1 := rowCell Zo 1 rfl
        have c2 := rowCell Zo 2 rfl
        iterate 40 (first | with_reducible refine isLoad (ty := 28) rfl ?_ | go_step)
        refine wpList_load_g (by rfl) 28 _ rfl (w.heap.size) 3 rfl ([.int .u32 (o.br : Int), .int .i64 o.bn]) _ (rowMid Zo 3 (LOp.cb o)) Tryd.underlying28 rfl sizeBal ?_
        go_wp2_with fail
        refine (lvote_nil z15 o.nd o.br o.bn o.sl).mono ?_
        rintro e z16 ⟨rfl, t⟩
        have Zo := hpB Zo t
        have ee := ee.trans (t.mono ee.size)
        clear t
        dsimp only
        rename_i hK
        refine hK _ _ ?_
        clear hK
        clear c1 c2
        go_wp2_with fail
        refine ((ldone_nil z16).mono fun _ _ h => dB h).mono ?_
        rintro e z17 ⟨rfl, t⟩
        have Zo := hpB Zo t
        have ee := ee.trans (t.mono ee.size)
        clear t
        dsimp only
        rename_i hK
        refine hK _ _ ?_
        clear hK
        go_wp2_with fail
        refine ((lleads_nil z17).mono fun _ _ h => dB h).mono ?_
        rintro e z18 ⟨rfl, t⟩
        have Zo := hpB Zo t
        have ee := ee.trans (t.mono ee.size)
        clear t
        dsimp only
        rename_i hK
        refine hK _ _ ?_
        clear hK
        go_wp2_with fail
        refine ((lfirst_nil z18).mono fun _ _ h => dB h).mono ?_
        rintro e z19 ⟨rfl, t⟩
        have Zo := hpB Zo t
        have ee := ee.trans (t.mono ee.size)
        clear t
        dsimp only
        rename_i hK
        refine hK _ _ ?_
        clear hK
        go_wp2_with fail
        refine (lballot_nil z19).mono ?_
        rintro e z20 ⟨rfl, t⟩
        have Zo := hpB Zo t
        have ee := ee.trans (t.mono ee.size)
        clear t
        go_wp2_with fail
        go_ret
        exact ⟨rfl, ee⟩
theorem leadNil_walk (W : World) (hT : Tabs W) (v0 v1 v2 : Value) (h0 : Arg W 3 v0) (h1 : Arg W 3 v1) (h2 : Arg W 99 v2) :
    Calls Tryd.prog 9 #[v0, v1, v2] W fun e W' => e = .returned (.bool true) ∧ Below W.heap.size W W' := by
  obtain ⟨n, rfl, _⟩ := h0.int Tryd.underlying3
  obtain ⟨nd, rfl, _⟩ := h1.int Tryd.underlying3
  obtain ⟨o, rfl, hx, ha, _⟩ := h2.lop
  exact lnil_mid n nd o W hx ha hT
end Go.Proofs.YtbahooohkigcnaaDoor
