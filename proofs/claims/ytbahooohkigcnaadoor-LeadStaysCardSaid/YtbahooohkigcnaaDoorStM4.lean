/- The reference's leader: Promise, Propose. Conditions: what lies, lies below; the tables lie. (Printed by gen_stays.py.) -/
import Derived.Test.YtbahooohkigcnaaDoorStM3
namespace Go.Proofs.YtbahooohkigcnaaDoor
set_option maxRecDepth 20000
open Go.RowKit T Ag
set_option linter.unusedSimpArgs false
set_option linter.unusedVariables false

theorem infoRac3 : (Tryd.prog.info? 43).map (fun i => (i.zero, i.size, i.bytes)) = some (some (.agg #[.int .u32 0, .int .i64 0, .int .i64 0, .bool false, .int .u32 0, .int .i64 0, .int .i64 0, .int .i64 0, .int .i64 0, .slice none 0 0, .slice none 0 0, .int .i64 0, .int .i64 0, .int .i64 0, .int .u64 0, .bool false]), 16, 160) := by kernel_rfl
theorem oneAc3 (x : Ac) : ∀ u ∈ x.cells, u.oneCell' = true := fun u hu => (Array.all_eq_true_iff_forall_mem.1 (Ac.one x)) u (by simpa using hu)
set_option maxHeartbeats 12800000 in
theorem rpromise (w : World) (B r t : Nat) (R : Rl) (k : Int) (br : Nat) (bn : Int) (a : Ac) (h : RlAt w B r t R) (ht : t ≤ 1000) (ok : CmOk w B a.c) : Calls Tryd.prog 84 #[.pointer (some ⟨r, 0, none⟩), .int .i64 k, bal br bn, .agg a.cells.toArray] w fun e w' => RetB e ∧ (∃ R', RlAt w' B r (t + 1) R') ∧ OgF w w' (RF r R) ∧ Below B w w' := by
  have hlr := h.lt
  have hBr := h.rB
  have hB : B ≤ w.heap.size := by omega
  obtain ⟨w0, hw0⟩ : ∃ w0, w0 = (w.alloc (.cells [.int .u32 (br : Int), .int .i64 bn].toArray 40)).alloc (.cells a.cells.toArray 43) := ⟨_, rfl⟩
  have ff : OgF w w0 (RF r R) := by rw [hw0]; exact (ogAlloc (ogAlloc (OgF.refl _ _) _) _)
  have ee : Below B w w0 := by rw [hw0]; exact ((((Below.refl _ _).alloc (Nat.le_refl _) _).alloc (by simp) _).mono hB)
  have Zr : w0.heap[r]? = some (.cells R.cells.toArray 150) := by rw [hw0]; exact (hpA (hpA h.blk _) _)
  have hP : w0.ownsRow B 3 1 (.slice R.PA R.ps.length R.pc) R.ps.length (iv R.ps) := by rw [hw0]; exact ((h.pP.alloc _).alloc _)
  have hL : w0.ownsRow B 43 16 (.slice R.LA R.l.length R.lc) R.l.length (acCells R.l) := by rw [hw0]; exact ((h.pL.alloc _).alloc _)
  have hV : w0.ownsRow B 3 1 (.slice R.VA R.vs.length R.vc) R.vs.length (iv R.vs) := by rw [hw0]; exact ((h.pV.alloc _).alloc _)
  have Zb : w0.heap[w.heap.size]? = some (.cells [.int .u32 (br : Int), .int .i64 bn].toArray 40) := by rw [hw0]; exact (hpA (hpN _ _ rfl) _)
  have Za : w0.heap[w.heap.size + 1]? = some (.cells a.cells.toArray 43) := by rw [hw0]; exact (hpN _ _ (by simp))
  have ne_hL_Za : (Value.slice R.LA R.l.length R.lc).ownBlock ≠ some (w.heap.size + 1) := fun e_ => by have := (h.pL.lt _ e_).2; omega
  have H := Lib.hid h
  have hlp := h.lp
  have hll := h.ll
  have hap : (Value.slice R.VA R.vs.length R.vc).ownBlock = none ∨ (Value.slice R.VA R.vs.length R.vc).ownBlock ≠ (Value.slice R.PA R.ps.length R.pc).ownBlock := by
    cases hp : (Value.slice R.VA R.vs.length R.vc).ownBlock with
    | none => exact .inl rfl
    | some g => exact .inr fun e_ => h.ap g e_.symm hp
  have hJ : ∀ z, (binOp .eql 40 (.agg #[.int .u32 (br : Int), .int .i64 bn]) (.agg #[.int .u32 0, .int .i64 0])).run Tryd.prog z = .ok (.bool (decide (br = 0 ∧ bn = 0))) z := fun z => run_eqRBal9 br bn 0 0 z
  generalize decide (br = 0 ∧ bn = 0) = d1 at hJ
  have hI := run_neRBal br bn R.br R.bn
  generalize (!decide (br = R.br ∧ bn = R.bn)) = d2 at hI
  have HFO := Lib.hid (fun z (hz : Below B w z) => cr_formed a z z.heap.size (Nat.le_refl _) ((ok.below hz (Nat.le_refl _)).more (Nat.le_trans hB hz.size)))
  generalize a.formed = d3 at HFO
  have HIN := Lib.hid (fun z (hz : z.ownsRow B 3 1 (.slice R.PA R.ps.length R.pc) R.ps.length (iv R.ps)) => rin B R.pc R.PA R.ps k z hz (by omega))
  generalize decide (k ∈ R.ps) = d6 at HIN
  have HOK := Lib.hid ok
  obtain ⟨i1, hi1, hz10, hz11, hz12⟩ := info_parts infoInt3
  obtain ⟨i2, hi2, hz20, hz21, hz22⟩ := info_parts infoRac3
  clear h ok
  go_enter Tryd.func84, Tryd.ntmps84
  go_upto_region 1 with fail
  change Code.wp _ _ _ _ ((w.alloc (.cells [.int .u32 (br : Int), .int .i64 bn].toArray 40)).alloc (.cells a.cells.toArray 43))
  rw [← hw0]
  clear hw0
  refine wp_region_lit ?_
  skip
  iterate 6 go_step
  have lZr := (Array.getElem?_eq_some_iff.1 Zr).1
  have lZb := (Array.getElem?_eq_some_iff.1 Zb).1
  have lZa := (Array.getElem?_eq_some_iff.1 Za).1
  have sz_ := ff.size
  have Zr := hpA Zr (.cells #[.int .u32 0, .int .i64 0] 40)
  have Zb := hpA Zb (.cells #[.int .u32 0, .int .i64 0] 40)
  have Za := hpA Za (.cells #[.int .u32 0, .int .i64 0] 40)
  have hP := hP.alloc (.cells #[.int .u32 0, .int .i64 0] 40)
  have hL := hL.alloc (.cells #[.int .u32 0, .int .i64 0] 40)
  have hV := hV.alloc (.cells #[.int .u32 0, .int .i64 0] 40)
  have ee := ee.alloc (Nat.le_trans hB ee.size) (.cells #[.int .u32 0, .int .i64 0] 40)
  have ff := ogAlloc ff (.cells #[.int .u32 0, .int .i64 0] 40)
  have Zz := hpN w0 (.cells #[.int .u32 0, .int .i64 0] 40) rfl
  generalize w0.alloc (.cells #[.int .u32 0, .int .i64 0] 40) = z1 at Zr Zb Za Zz hP hL hV ee ff ⊢
  obtain ⟨gz, hg_gz⟩ : ∃ g_, g_ = w0.heap.size := ⟨_, rfl⟩
  have hwgz : w.heap.size + 1 < gz := by have := ee.size; omega
  rw [← hg_gz] at Zz ⊢
  clear hg_gz
  iterate 27 (first | with_reducible refine isStore (ty := 40) rfl ?_ | go_step)
  refine wpList_store_row rfl 40 _ _ rfl (gz) ([.int .u32 0, .int .i64 0]).toArray rfl rfl 40 _ Zz sizeRBal (by rfl) (by simp [Value.oneCell']) ?_
  have N_ := setRow_heap z1 (gz) _ ([.int .u32 0, .int .i64 0]).toArray _ _ Zz
  have hP := ogOwnR (cs := ([.int .u32 0, .int .i64 0]).toArray) hP (ogKind hP Zz (by decide))
  have hL := ogOwnR (cs := ([.int .u32 0, .int .i64 0]).toArray) hL (ogKind hL Zz (by decide))
  have hV := ogOwnR (cs := ([.int .u32 0, .int .i64 0]).toArray) hV (ogKind hV Zz (by decide))
  have ee := belowSet (cs := ([.int .u32 0, .int .i64 0]).toArray) ee Zz (by omega)
  have ff := ogRow (cs := ([.int .u32 0, .int .i64 0]).toArray) (by first | (right; omega) | exact Or.inl (Or.inl rfl)) Zz ff
  have Zr := hpR Zr (g' := gz) (by omega) ([.int .u32 0, .int .i64 0]).toArray
  have Zb := hpR Zb (g' := gz) (by omega) ([.int .u32 0, .int .i64 0]).toArray
  have Za := hpR Za (g' := gz) (by omega) ([.int .u32 0, .int .i64 0]).toArray
  clear Zz
  have Zz := N_
  clear N_
  generalize z1.setRow (gz) ([.int .u32 0, .int .i64 0]).toArray = z2 at Zr Zb Za Zz hP hL hV ee ff ⊢
  go_upto_region 2 with fail
  generalize h4 : decide (k < 0) = d4
  generalize h5 : decide (R.n ≤ k) = d5
  cases d1 with
  | true =>
    have Zr : z2.drew.heap[r]? = some (.cells R.cells.toArray 150) := Zr
    have Zb : z2.drew.heap[w.heap.size]? = some (.cells [.int .u32 (br : Int), .int .i64 bn].toArray 40) := Zb
    have Za : z2.drew.heap[w.heap.size + 1]? = some (.cells a.cells.toArray 43) := Za
    have Zz : z2.drew.heap[gz]? = some (.cells ([.int .u32 0, .int .i64 0]).toArray 40) := Zz
    have hP := World.ownsRow.drew hP
    have hL := World.ownsRow.drew hL
    have hV := World.ownsRow.drew hV
    have ee := belowDrewS ee
    have ff := ogDrew ff
    refine wp_region_held_drew (S := fun z' => z'.rangeAt w.heap.size (0) ([.int .u32 (br : Int), .int .i64 bn]) ∧ z'.rangeAt gz (0) ([.int .u32 0, .int .i64 0])) (by kernel_rfl) ⟨(rowAt Zb), (rowAt Zz)⟩ (fun hH => ?_)
    clear hH
    generalize z2.drew = z3 at Zr Zb Za Zz hP hL hV ee ff ⊢
    refine wpAnyH_take (i := 0) (v := .agg ([.int .u32 (br : Int), .int .i64 bn]).toArray) rfl (by kernel_rfl) (by kernel_rfl) (by kernel_rfl) (fun _ _ _ h => h) (yieldsIf_load_mid (by rfl) 40 _ rfl (w.heap.size) (0) rfl ([.int .u32 (br : Int), .int .i64 bn]) _ (fun _ h => h.1) Tryd.underlying40 rfl sizeRBal) ⟨(rowAt Zb), (rowAt Zz)⟩ ?_
    try simp only [Act.put, List.getElem_toArray, List.getElem_cons_zero, List.getElem_cons_succ, List.setIfInBounds_toArray, List.set_cons_zero, List.set_cons_succ]
    refine wpAnyH_take (i := 1) (v := .agg ([.int .u32 0, .int .i64 0]).toArray) rfl (by kernel_rfl) (by kernel_rfl) (by kernel_rfl) (fun _ _ _ h => h) (yieldsIf_load_mid (by rfl) 40 _ rfl (gz) (0) rfl ([.int .u32 0, .int .i64 0]) _ (fun _ h => h.2) Tryd.underlying40 rfl sizeRBal) ⟨(rowAt Zb), (rowAt Zz)⟩ ?_
    try simp only [Act.put, List.getElem_toArray, List.getElem_cons_zero, List.getElem_cons_succ, List.setIfInBounds_toArray, List.set_cons_zero, List.set_cons_succ]
    refine wpAnyH_take (i := 2) (v := .bool true) rfl (by kernel_rfl) (by kernel_rfl) (by kernel_rfl) (fun _ _ _ h => h) (Or.inl ⟨by rfl, fun w_ hS_ => by (first | (go_simp; done) | (go_simp; rfl))⟩) ⟨(rowAt Zb), (rowAt Zz)⟩ ?_
    try simp only [Act.put, List.getElem_toArray, List.getElem_cons_zero, List.getElem_cons_succ, List.setIfInBounds_toArray, List.set_cons_zero, List.set_cons_succ]
    refine wpAnyH_take (i := 3) (v := .bool true) rfl (by kernel_rfl) (by kernel_rfl) (by kernel_rfl) (fun _ _ _ h => h) (Or.inl ⟨by rfl, fun w_ hS_ => by (first | (go_simp; done) | (go_simp; rfl))⟩) ⟨(rowAt Zb), (rowAt Zz)⟩ ?_
    try simp only [Act.put, List.getElem_toArray, List.getElem_cons_zero, List.getElem_cons_succ, List.setIfInBounds_toArray, List.set_cons_zero, List.set_cons_succ]
    refine wpAnyH_take (i := 4) (v := undef) rfl (by kernel_rfl) (by kernel_rfl) (by kernel_rfl) (fun _ _ _ h => h) (Or.inr ⟨by rfl, rfl⟩) ⟨(rowAt Zb), (rowAt Zz)⟩ ?_
    try simp only [Act.put, List.getElem_toArray, List.getElem_cons_zero, List.getElem_cons_succ, List.setIfInBounds_toArray, List.set_cons_zero, List.set_cons_succ]
    refine wpAnyH_take (i := 5) (v := undef) rfl (by kernel_rfl) (by kernel_rfl) (by kernel_rfl) (fun _ _ _ h => h) (Or.inr ⟨by rfl, rfl⟩) ⟨(rowAt Zb), (rowAt Zz)⟩ ?_
    try simp only [Act.put, List.getElem_toArray, List.getElem_cons_zero, List.getElem_cons_succ, List.setIfInBounds_toArray, List.set_cons_zero, List.set_cons_succ]
    refine wpAnyH_take (i := 6) (v := undef) rfl (by kernel_rfl) (by kernel_rfl) (by kernel_rfl) (fun _ _ _ h => h) (Or.inr ⟨by rfl, rfl⟩) ⟨(rowAt Zb), (rowAt Zz)⟩ ?_
    try simp only [Act.put, List.getElem_toArray, List.getElem_cons_zero, List.getElem_cons_succ, List.setIfInBounds_toArray, List.set_cons_zero, List.set_cons_succ]
    refine wpAnyH_take (i := 7) (v := undef) rfl (by kernel_rfl) (by kernel_rfl) (by kernel_rfl) (fun _ _ _ h => h) (Or.inr ⟨by rfl, rfl⟩) ⟨(rowAt Zb), (rowAt Zz)⟩ ?_
    try simp only [Act.put, List.getElem_toArray, List.getElem_cons_zero, List.getElem_cons_succ, List.setIfInBounds_toArray, List.set_cons_zero, List.set_cons_succ]
    refine wpAnyH_take (i := 8) (v := undef) rfl (by kernel_rfl) (by kernel_rfl) (by kernel_rfl) (fun _ _ _ h => h) (Or.inr ⟨by rfl, rfl⟩) ⟨(rowAt Zb), (rowAt Zz)⟩ ?_
    try simp only [Act.put, List.getElem_toArray, List.getElem_cons_zero, List.getElem_cons_succ, List.setIfInBounds_toArray, List.set_cons_zero, List.set_cons_succ]
    refine wpAnyH_take (i := 9) (v := undef) rfl (by kernel_rfl) (by kernel_rfl) (by kernel_rfl) (fun _ _ _ h => h) (Or.inr ⟨by rfl, rfl⟩) ⟨(rowAt Zb), (rowAt Zz)⟩ ?_
    try simp only [Act.put, List.getElem_toArray, List.getElem_cons_zero, List.getElem_cons_succ, List.setIfInBounds_toArray, List.set_cons_zero, List.set_cons_succ]
    refine wpAnyH_take (i := 10) (v := .bool true) rfl (by kernel_rfl) (by kernel_rfl) (by kernel_rfl) (fun _ _ _ h => h) (Or.inl ⟨by rfl, fun w_ hS_ => by (first | (go_simp; done) | (go_simp; rfl))⟩) ⟨(rowAt Zb), (rowAt Zz)⟩ ?_
    try simp only [Act.put, List.getElem_toArray, List.getElem_cons_zero, List.getElem_cons_succ, List.setIfInBounds_toArray, List.set_cons_zero, List.set_cons_succ]
    refine wpAnyH_take (i := 11) (v := .bool true) rfl (by kernel_rfl) (by kernel_rfl) (by kernel_rfl) (fun _ _ _ h => h) (Or.inl ⟨by rfl, fun w_ hS_ => by (first | (go_simp; done) | (go_simp; rfl))⟩) ⟨(rowAt Zb), (rowAt Zz)⟩ ?_
    try simp only [Act.put, List.getElem_toArray, List.getElem_cons_zero, List.getElem_cons_succ, List.setIfInBounds_toArray, List.set_cons_zero, List.set_cons_succ]
    refine wpAnyH_take (i := 12) (v := undef) rfl (by kernel_rfl) (by kernel_rfl) (by kernel_rfl) (fun _ _ _ h => h) (Or.inr ⟨by rfl, rfl⟩) ⟨(rowAt Zb), (rowAt Zz)⟩ ?_
    try simp only [Act.put, List.getElem_toArray, List.getElem_cons_zero, List.getElem_cons_succ, List.setIfInBounds_toArray, List.set_cons_zero, List.set_cons_succ]
    refine wpAnyH_take (i := 13) (v := undef) rfl (by kernel_rfl) (by kernel_rfl) (by kernel_rfl) (fun _ _ _ h => h) (Or.inr ⟨by rfl, rfl⟩) ⟨(rowAt Zb), (rowAt Zz)⟩ ?_
    try simp only [Act.put, List.getElem_toArray, List.getElem_cons_zero, List.getElem_cons_succ, List.setIfInBounds_toArray, List.set_cons_zero, List.set_cons_succ]
    refine wpAnyH_take (i := 14) (v := undef) rfl (by kernel_rfl) (by kernel_rfl) (by kernel_rfl) (fun _ _ _ h => h) (Or.inr ⟨by rfl, rfl⟩) ⟨(rowAt Zb), (rowAt Zz)⟩ ?_
    try simp only [Act.put, List.getElem_toArray, List.getElem_cons_zero, List.getElem_cons_succ, List.setIfInBounds_toArray, List.set_cons_zero, List.set_cons_succ]
    refine wpAnyH_take (i := 15) (v := .bool true) rfl (by kernel_rfl) (by kernel_rfl) (by kernel_rfl) (fun _ _ _ h => h) (Or.inl ⟨by rfl, fun w_ hS_ => by (first | (go_simp; done) | (go_simp; rfl))⟩) ⟨(rowAt Zb), (rowAt Zz)⟩ ?_
    try simp only [Act.put, List.getElem_toArray, List.getElem_cons_zero, List.getElem_cons_succ, List.setIfInBounds_toArray, List.set_cons_zero, List.set_cons_succ]
    refine wpAnyH_take (i := 16) (v := .bool true) rfl (by kernel_rfl) (by kernel_rfl) (by kernel_rfl) (fun _ _ _ h => h) (Or.inl ⟨by rfl, fun w_ hS_ => by (first | (go_simp; done) | (go_simp; rfl))⟩) ⟨(rowAt Zb), (rowAt Zz)⟩ ?_
    try simp only [Act.put, List.getElem_toArray, List.getElem_cons_zero, List.getElem_cons_succ, List.setIfInBounds_toArray, List.set_cons_zero, List.set_cons_succ]
    refine wpAnyH_take (i := 17) (v := undef) rfl (by kernel_rfl) (by kernel_rfl) (by kernel_rfl) (fun _ _ _ h => h) (Or.inr ⟨by rfl, rfl⟩) ⟨(rowAt Zb), (rowAt Zz)⟩ ?_
    try simp only [Act.put, List.getElem_toArray, List.getElem_cons_zero, List.getElem_cons_succ, List.setIfInBounds_toArray, List.set_cons_zero, List.set_cons_succ]
    refine wpAnyH_take (i := 18) (v := undef) rfl (by kernel_rfl) (by kernel_rfl) (by kernel_rfl) (fun _ _ _ h => h) (Or.inr ⟨by rfl, rfl⟩) ⟨(rowAt Zb), (rowAt Zz)⟩ ?_
    try simp only [Act.put, List.getElem_toArray, List.getElem_cons_zero, List.getElem_cons_succ, List.setIfInBounds_toArray, List.set_cons_zero, List.set_cons_succ]
    refine wpAnyH_take (i := 19) (v := .bool true) rfl (by kernel_rfl) (by kernel_rfl) (by kernel_rfl) (fun _ _ _ h => h) (Or.inl ⟨by rfl, fun w_ hS_ => by (first | (go_simp; done) | (go_simp; rfl))⟩) ⟨(rowAt Zb), (rowAt Zz)⟩ ?_
    try simp only [Act.put, List.getElem_toArray, List.getElem_cons_zero, List.getElem_cons_succ, List.setIfInBounds_toArray, List.set_cons_zero, List.set_cons_succ]
    refine wpAnyH_take (i := 20) (v := .bool true) rfl (by kernel_rfl) (by kernel_rfl) (by kernel_rfl) (fun _ _ _ h => h) (Or.inl ⟨by rfl, fun w_ hS_ => by (first | (go_simp; done) | (go_simp; rfl))⟩) ⟨(rowAt Zb), (rowAt Zz)⟩ ?_
    try simp only [Act.put, List.getElem_toArray, List.getElem_cons_zero, List.getElem_cons_succ, List.setIfInBounds_toArray, List.set_cons_zero, List.set_cons_succ]
    refine wpAnyH_take (i := 21) (v := undef) rfl (by kernel_rfl) (by kernel_rfl) (by kernel_rfl) (fun _ _ _ h => h) (Or.inr ⟨by rfl, rfl⟩) ⟨(rowAt Zb), (rowAt Zz)⟩ ?_
    try simp only [Act.put, List.getElem_toArray, List.getElem_cons_zero, List.getElem_cons_succ, List.setIfInBounds_toArray, List.set_cons_zero, List.set_cons_succ]
    refine wpAnyH_take (i := 22) (v := undef) rfl (by kernel_rfl) (by kernel_rfl) (by kernel_rfl) (fun _ _ _ h => h) (Or.inr ⟨by rfl, rfl⟩) ⟨(rowAt Zb), (rowAt Zz)⟩ ?_
    try simp only [Act.put, List.getElem_toArray, List.getElem_cons_zero, List.getElem_cons_succ, List.setIfInBounds_toArray, List.set_cons_zero, List.set_cons_succ]
    refine wpAnyH_take (i := 23) (v := undef) rfl (by kernel_rfl) (by kernel_rfl) (by kernel_rfl) (fun _ _ _ h => h) (Or.inr ⟨by rfl, rfl⟩) ⟨(rowAt Zb), (rowAt Zz)⟩ ?_
    try simp only [Act.put, List.getElem_toArray, List.getElem_cons_zero, List.getElem_cons_succ, List.setIfInBounds_toArray, List.set_cons_zero, List.set_cons_succ]
    refine wpAnyH_take (i := 24) (v := undef) rfl (by kernel_rfl) (by kernel_rfl) (by kernel_rfl) (fun _ _ _ h => h) (Or.inr ⟨by rfl, rfl⟩) ⟨(rowAt Zb), (rowAt Zz)⟩ ?_
    try simp only [Act.put, List.getElem_toArray, List.getElem_cons_zero, List.getElem_cons_succ, List.setIfInBounds_toArray, List.set_cons_zero, List.set_cons_succ]
    refine wpAnyH_take (i := 25) (v := undef) rfl (by kernel_rfl) (by kernel_rfl) (by kernel_rfl) (fun _ _ _ h => h) (Or.inr ⟨by rfl, rfl⟩) ⟨(rowAt Zb), (rowAt Zz)⟩ ?_
    try simp only [Act.put, List.getElem_toArray, List.getElem_cons_zero, List.getElem_cons_succ, List.setIfInBounds_toArray, List.set_cons_zero, List.set_cons_succ]
    refine wpAnyH_take (i := 26) (v := undef) rfl (by kernel_rfl) (by kernel_rfl) (by kernel_rfl) (fun _ _ _ h => h) (Or.inr ⟨by rfl, rfl⟩) ⟨(rowAt Zb), (rowAt Zz)⟩ ?_
    try simp only [Act.put, List.getElem_toArray, List.getElem_cons_zero, List.getElem_cons_succ, List.setIfInBounds_toArray, List.set_cons_zero, List.set_cons_succ]
    refine wpAnyH_take (i := 27) (v := .bool true) rfl (by kernel_rfl) (by kernel_rfl) (by kernel_rfl) (fun _ _ _ h => h) (Or.inl ⟨by rfl, fun w_ hS_ => by (first | (go_simp; done) | (go_simp; rfl))⟩) ⟨(rowAt Zb), (rowAt Zz)⟩ ?_
    try simp only [Act.put, List.getElem_toArray, List.getElem_cons_zero, List.getElem_cons_succ, List.setIfInBounds_toArray, List.set_cons_zero, List.set_cons_succ]
    refine wpAnyH_take (i := 28) (v := .bool true) rfl (by kernel_rfl) (by kernel_rfl) (by kernel_rfl) (fun _ _ _ h => h) (Or.inl ⟨by rfl, fun w_ hS_ => by (first | (go_simp; done) | (go_simp; rfl))⟩) ⟨(rowAt Zb), (rowAt Zz)⟩ ?_
    try simp only [Act.put, List.getElem_toArray, List.getElem_cons_zero, List.getElem_cons_succ, List.setIfInBounds_toArray, List.set_cons_zero, List.set_cons_succ]
    refine wpAnyH_take (i := 29) (v := undef) rfl (by kernel_rfl) (by kernel_rfl) (by kernel_rfl) (fun _ _ _ h => h) (Or.inr ⟨by rfl, rfl⟩) ⟨(rowAt Zb), (rowAt Zz)⟩ ?_
    try simp only [Act.put, List.getElem_toArray, List.getElem_cons_zero, List.getElem_cons_succ, List.setIfInBounds_toArray, List.set_cons_zero, List.set_cons_succ]
    refine wpAnyH_take (i := 30) (v := undef) rfl (by kernel_rfl) (by kernel_rfl) (by kernel_rfl) (fun _ _ _ h => h) (Or.inr ⟨by rfl, rfl⟩) ⟨(rowAt Zb), (rowAt Zz)⟩ ?_
    try simp only [Act.put, List.getElem_toArray, List.getElem_cons_zero, List.getElem_cons_succ, List.setIfInBounds_toArray, List.set_cons_zero, List.set_cons_succ]
    refine wpAnyH_take (i := 31) (v := undef) rfl (by kernel_rfl) (by kernel_rfl) (by kernel_rfl) (fun _ _ _ h => h) (Or.inr ⟨by rfl, rfl⟩) ⟨(rowAt Zb), (rowAt Zz)⟩ ?_
    try simp only [Act.put, List.getElem_toArray, List.getElem_cons_zero, List.getElem_cons_succ, List.setIfInBounds_toArray, List.set_cons_zero, List.set_cons_succ]
    refine wpAnyH_take (i := 32) (v := undef) rfl (by kernel_rfl) (by kernel_rfl) (by kernel_rfl) (fun _ _ _ h => h) (Or.inr ⟨by rfl, rfl⟩) ⟨(rowAt Zb), (rowAt Zz)⟩ ?_
    try simp only [Act.put, List.getElem_toArray, List.getElem_cons_zero, List.getElem_cons_succ, List.setIfInBounds_toArray, List.set_cons_zero, List.set_cons_succ]
    refine wpAnyH_take (i := 33) (v := undef) rfl (by kernel_rfl) (by kernel_rfl) (by kernel_rfl) (fun _ _ _ h => h) (Or.inr ⟨by rfl, rfl⟩) ⟨(rowAt Zb), (rowAt Zz)⟩ ?_
    try simp only [Act.put, List.getElem_toArray, List.getElem_cons_zero, List.getElem_cons_succ, List.setIfInBounds_toArray, List.set_cons_zero, List.set_cons_succ]
    refine wpAnyH_take (i := 34) (v := undef) rfl (by kernel_rfl) (by kernel_rfl) (by kernel_rfl) (fun _ _ _ h => h) (Or.inr ⟨by rfl, rfl⟩) ⟨(rowAt Zb), (rowAt Zz)⟩ ?_
    try simp only [Act.put, List.getElem_toArray, List.getElem_cons_zero, List.getElem_cons_succ, List.setIfInBounds_toArray, List.set_cons_zero, List.set_cons_succ]
    refine wpAnyH_take (i := 35) (v := .bool true) rfl (by kernel_rfl) (by kernel_rfl) (by kernel_rfl) (fun _ _ _ h => h) (Or.inl ⟨by rfl, fun w_ hS_ => by (first | (go_simp; done) | (go_simp; rfl))⟩) ⟨(rowAt Zb), (rowAt Zz)⟩ ?_
    try simp only [Act.put, List.getElem_toArray, List.getElem_cons_zero, List.getElem_cons_succ, List.setIfInBounds_toArray, List.set_cons_zero, List.set_cons_succ]
    refine wpAnyH_done (by kernel_rfl) ?_ _
    clear HIN HFO hI hJ h4 h5
    go_wp2_with fail
    go_ret
    exact ⟨RetB.mk _, ⟨R, (H.out.keepF ff ee Zr hP hL hV).more⟩, ff, ee⟩
  | false =>
    cases d2 with
    | true =>
      have Zr : z2.drew.heap[r]? = some (.cells R.cells.toArray 150) := Zr
      have Zb : z2.drew.heap[w.heap.size]? = some (.cells [.int .u32 (br : Int), .int .i64 bn].toArray 40) := Zb
      have Za : z2.drew.heap[w.heap.size + 1]? = some (.cells a.cells.toArray 43) := Za
      have Zz : z2.drew.heap[gz]? = some (.cells ([.int .u32 0, .int .i64 0]).toArray 40) := Zz
      have hP := World.ownsRow.drew hP
      have hL := World.ownsRow.drew hL
      have hV := World.ownsRow.drew hV
      have ee := belowDrewS ee
      have ff := ogDrew ff
      refine wp_region_held_drew (S := fun z' => z'.rangeAt w.heap.size (0) ([.int .u32 (br : Int), .int .i64 bn]) ∧ z'.rangeAt gz (0) ([.int .u32 0, .int .i64 0]) ∧ z'.rangeAt r (2) ([.int .u32 (R.br : Int), .int .i64 R.bn])) (by kernel_rfl) ⟨(rowAt Zb), (rowAt Zz), (rowMid Zr (2) (Rl.bal R))⟩ (fun hH => ?_)
      clear hH
      generalize z2.drew = z3 at Zr Zb Za Zz hP hL hV ee ff ⊢
      refine wpAnyH_take (i := 0) (v := .agg ([.int .u32 (br : Int), .int .i64 bn]).toArray) rfl (by kernel_rfl) (by kernel_rfl) (by kernel_rfl) (fun _ _ _ h => h) (yieldsIf_load_mid (by rfl) 40 _ rfl (w.heap.size) (0) rfl ([.int .u32 (br : Int), .int .i64 bn]) _ (fun _ h => h.1) Tryd.underlying40 rfl sizeRBal) ⟨(rowAt Zb), (rowAt Zz), (rowMid Zr (2) (Rl.bal R))⟩ ?_
      try simp only [Act.put, List.getElem_toArray, List.getElem_cons_zero, List.getElem_cons_succ, List.setIfInBounds_toArray, List.set_cons_zero, List.set_cons_succ]
      refine wpAnyH_take (i := 1) (v := .agg ([.int .u32 0, .int .i64 0]).toArray) rfl (by kernel_rfl) (by kernel_rfl) (by kernel_rfl) (fun _ _ _ h => h) (yieldsIf_load_mid (by rfl) 40 _ rfl (gz) (0) rfl ([.int .u32 0, .int .i64 0]) _ (fun _ h => h.2.1) Tryd.underlying40 rfl sizeRBal) ⟨(rowAt Zb), (rowAt Zz), (rowMid Zr (2) (Rl.bal R))⟩ ?_
      try simp only [Act.put, List.getElem_toArray, List.getElem_cons_zero, List.getElem_cons_succ, List.setIfInBounds_toArray, List.set_cons_zero, List.set_cons_succ]
      refine wpAnyH_take (i := 2) (v := .bool false) rfl (by kernel_rfl) (by kernel_rfl) (by kernel_rfl) (fun _ _ _ h => h) (Or.inl ⟨by rfl, fun w_ hS_ => by (first | (go_simp; done) | (go_simp; rfl))⟩) ⟨(rowAt Zb), (rowAt Zz), (rowMid Zr (2) (Rl.bal R))⟩ ?_
      try simp only [Act.put, List.getElem_toArray, List.getElem_cons_zero, List.getElem_cons_succ, List.setIfInBounds_toArray, List.set_cons_zero, List.set_cons_succ]
      refine wpAnyH_take (i := 3) (v := .bool false) rfl (by kernel_rfl) (by kernel_rfl) (by kernel_rfl) (fun _ _ _ h => h) (Or.inl ⟨by rfl, fun w_ hS_ => by (first | (go_simp; done) | (go_simp; rfl))⟩) ⟨(rowAt Zb), (rowAt Zz), (rowMid Zr (2) (Rl.bal R))⟩ ?_
      try simp only [Act.put, List.getElem_toArray, List.getElem_cons_zero, List.getElem_cons_succ, List.setIfInBounds_toArray, List.set_cons_zero, List.set_cons_succ]
      refine wpAnyH_take (i := 4) (v := .agg ([.int .u32 (br : Int), .int .i64 bn]).toArray) rfl (by kernel_rfl) (by kernel_rfl) (by kernel_rfl) (fun _ _ _ h => h) (yieldsIf_load_mid (by rfl) 40 _ rfl (w.heap.size) (0) rfl ([.int .u32 (br : Int), .int .i64 bn]) _ (fun _ h => h.1) Tryd.underlying40 rfl sizeRBal) ⟨(rowAt Zb), (rowAt Zz), (rowMid Zr (2) (Rl.bal R))⟩ ?_
      try simp only [Act.put, List.getElem_toArray, List.getElem_cons_zero, List.getElem_cons_succ, List.setIfInBounds_toArray, List.set_cons_zero, List.set_cons_succ]
      refine wpAnyH_take (i := 5) (v := .pointer (some ⟨r, 0, none⟩)) rfl (by kernel_rfl) (by kernel_rfl) (by kernel_rfl) (fun _ _ _ h => h) (Or.inl ⟨by rfl, fun w_ hS_ => by (first | (go_simp; done) | (go_simp; rfl))⟩) ⟨(rowAt Zb), (rowAt Zz), (rowMid Zr (2) (Rl.bal R))⟩ ?_
      try simp only [Act.put, List.getElem_toArray, List.getElem_cons_zero, List.getElem_cons_succ, List.setIfInBounds_toArray, List.set_cons_zero, List.set_cons_succ]
      refine wpAnyH_take (i := 6) (v := .pointer (some ⟨r, 0, none⟩)) rfl (by kernel_rfl) (by kernel_rfl) (by kernel_rfl) (fun _ _ _ h => h) (Or.inl ⟨by rfl, fun w_ hS_ => by (first | (go_simp; done) | (go_simp; rfl))⟩) ⟨(rowAt Zb), (rowAt Zz), (rowMid Zr (2) (Rl.bal R))⟩ ?_
      try simp only [Act.put, List.getElem_toArray, List.getElem_cons_zero, List.getElem_cons_succ, List.setIfInBounds_toArray, List.set_cons_zero, List.set_cons_succ]
      refine wpAnyH_take (i := 7) (v := .pointer (some ⟨r, 2, none⟩)) rfl (by kernel_rfl) (by kernel_rfl) (by kernel_rfl) (fun _ _ _ h => h) (Or.inl ⟨by rfl, fun w_ hS_ => by (first | (go_simp; done) | (go_simp; rfl))⟩) ⟨(rowAt Zb), (rowAt Zz), (rowMid Zr (2) (Rl.bal R))⟩ ?_
      try simp only [Act.put, List.getElem_toArray, List.getElem_cons_zero, List.getElem_cons_succ, List.setIfInBounds_toArray, List.set_cons_zero, List.set_cons_succ]
      refine wpAnyH_take (i := 8) (v := .agg ([.int .u32 (R.br : Int), .int .i64 R.bn]).toArray) rfl (by kernel_rfl) (by kernel_rfl) (by kernel_rfl) (fun _ _ _ h => h) (yieldsIf_load_mid (by rfl) 40 _ rfl (r) (2) rfl ([.int .u32 (R.br : Int), .int .i64 R.bn]) _ (fun _ h => h.2.2) Tryd.underlying40 rfl sizeRBal) ⟨(rowAt Zb), (rowAt Zz), (rowMid Zr (2) (Rl.bal R))⟩ ?_
      try simp only [Act.put, List.getElem_toArray, List.getElem_cons_zero, List.getElem_cons_succ, List.setIfInBounds_toArray, List.set_cons_zero, List.set_cons_succ]
      refine wpAnyH_take (i := 9) (v := .bool true) rfl (by kernel_rfl) (by kernel_rfl) (by kernel_rfl) (fun _ _ _ h => h) (Or.inl ⟨by rfl, fun w_ hS_ => by (first | (go_simp; done) | (go_simp; rfl))⟩) ⟨(rowAt Zb), (rowAt Zz), (rowMid Zr (2) (Rl.bal R))⟩ ?_
      try simp only [Act.put, List.getElem_toArray, List.getElem_cons_zero, List.getElem_cons_succ, List.setIfInBounds_toArray, List.set_cons_zero, List.set_cons_succ]
      refine wpAnyH_take (i := 10) (v := .bool true) rfl (by kernel_rfl) (by kernel_rfl) (by kernel_rfl) (fun _ _ _ h => h) (Or.inl ⟨by rfl, fun w_ hS_ => by (first | (go_simp; done) | (go_simp; rfl))⟩) ⟨(rowAt Zb), (rowAt Zz), (rowMid Zr (2) (Rl.bal R))⟩ ?_
      try simp only [Act.put, List.getElem_toArray, List.getElem_cons_zero, List.getElem_cons_succ, List.setIfInBounds_toArray, List.set_cons_zero, List.set_cons_succ]
      refine wpAnyH_take (i := 11) (v := .bool true) rfl (by kernel_rfl) (by kernel_rfl) (by kernel_rfl) (fun _ _ _ h => h) (Or.inl ⟨by rfl, fun w_ hS_ => by (first | (go_simp; done) | (go_simp; rfl))⟩) ⟨(rowAt Zb), (rowAt Zz), (rowMid Zr (2) (Rl.bal R))⟩ ?_
      try simp only [Act.put, List.getElem_toArray, List.getElem_cons_zero, List.getElem_cons_succ, List.setIfInBounds_toArray, List.set_cons_zero, List.set_cons_succ]
      refine wpAnyH_take (i := 12) (v := undef) rfl (by kernel_rfl) (by kernel_rfl) (by kernel_rfl) (fun _ _ _ h => h) (Or.inr ⟨by rfl, rfl⟩) ⟨(rowAt Zb), (rowAt Zz), (rowMid Zr (2) (Rl.bal R))⟩ ?_
      try simp only [Act.put, List.getElem_toArray, List.getElem_cons_zero, List.getElem_cons_succ, List.setIfInBounds_toArray, List.set_cons_zero, List.set_cons_succ]
      refine wpAnyH_take (i := 13) (v := undef) rfl (by kernel_rfl) (by kernel_rfl) (by kernel_rfl) (fun _ _ _ h => h) (Or.inr ⟨by rfl, rfl⟩) ⟨(rowAt Zb), (rowAt Zz), (rowMid Zr (2) (Rl.bal R))⟩ ?_
      try simp only [Act.put, List.getElem_toArray, List.getElem_cons_zero, List.getElem_cons_succ, List.setIfInBounds_toArray, List.set_cons_zero, List.set_cons_succ]
      refine wpAnyH_take (i := 14) (v := undef) rfl (by kernel_rfl) (by kernel_rfl) (by kernel_rfl) (fun _ _ _ h => h) (Or.inr ⟨by rfl, rfl⟩) ⟨(rowAt Zb), (rowAt Zz), (rowMid Zr (2) (Rl.bal R))⟩ ?_
      try simp only [Act.put, List.getElem_toArray, List.getElem_cons_zero, List.getElem_cons_succ, List.setIfInBounds_toArray, List.set_cons_zero, List.set_cons_succ]
      refine wpAnyH_take (i := 15) (v := .bool true) rfl (by kernel_rfl) (by kernel_rfl) (by kernel_rfl) (fun _ _ _ h => h) (Or.inl ⟨by rfl, fun w_ hS_ => by (first | (go_simp; done) | (go_simp; rfl))⟩) ⟨(rowAt Zb), (rowAt Zz), (rowMid Zr (2) (Rl.bal R))⟩ ?_
      try simp only [Act.put, List.getElem_toArray, List.getElem_cons_zero, List.getElem_cons_succ, List.setIfInBounds_toArray, List.set_cons_zero, List.set_cons_succ]
      refine wpAnyH_take (i := 16) (v := .bool true) rfl (by kernel_rfl) (by kernel_rfl) (by kernel_rfl) (fun _ _ _ h => h) (Or.inl ⟨by rfl, fun w_ hS_ => by (first | (go_simp; done) | (go_simp; rfl))⟩) ⟨(rowAt Zb), (rowAt Zz), (rowMid Zr (2) (Rl.bal R))⟩ ?_
      try simp only [Act.put, List.getElem_toArray, List.getElem_cons_zero, List.getElem_cons_succ, List.setIfInBounds_toArray, List.set_cons_zero, List.set_cons_succ]
      refine wpAnyH_take (i := 17) (v := undef) rfl (by kernel_rfl) (by kernel_rfl) (by kernel_rfl) (fun _ _ _ h => h) (Or.inr ⟨by rfl, rfl⟩) ⟨(rowAt Zb), (rowAt Zz), (rowMid Zr (2) (Rl.bal R))⟩ ?_
      try simp only [Act.put, List.getElem_toArray, List.getElem_cons_zero, List.getElem_cons_succ, List.setIfInBounds_toArray, List.set_cons_zero, List.set_cons_succ]
      refine wpAnyH_take (i := 18) (v := undef) rfl (by kernel_rfl) (by kernel_rfl) (by kernel_rfl) (fun _ _ _ h => h) (Or.inr ⟨by rfl, rfl⟩) ⟨(rowAt Zb), (rowAt Zz), (rowMid Zr (2) (Rl.bal R))⟩ ?_
      try simp only [Act.put, List.getElem_toArray, List.getElem_cons_zero, List.getElem_cons_succ, List.setIfInBounds_toArray, List.set_cons_zero, List.set_cons_succ]
      refine wpAnyH_take (i := 19) (v := .bool true) rfl (by kernel_rfl) (by kernel_rfl) (by kernel_rfl) (fun _ _ _ h => h) (Or.inl ⟨by rfl, fun w_ hS_ => by (first | (go_simp; done) | (go_simp; rfl))⟩) ⟨(rowAt Zb), (rowAt Zz), (rowMid Zr (2) (Rl.bal R))⟩ ?_
      try simp only [Act.put, List.getElem_toArray, List.getElem_cons_zero, List.getElem_cons_succ, List.setIfInBounds_toArray, List.set_cons_zero, List.set_cons_succ]
      refine wpAnyH_take (i := 20) (v := .bool true) rfl (by kernel_rfl) (by kernel_rfl) (by kernel_rfl) (fun _ _ _ h => h) (Or.inl ⟨by rfl, fun w_ hS_ => by (first | (go_simp; done) | (go_simp; rfl))⟩) ⟨(rowAt Zb), (rowAt Zz), (rowMid Zr (2) (Rl.bal R))⟩ ?_
      try simp only [Act.put, List.getElem_toArray, List.getElem_cons_zero, List.getElem_cons_succ, List.setIfInBounds_toArray, List.set_cons_zero, List.set_cons_succ]
      refine wpAnyH_take (i := 21) (v := undef) rfl (by kernel_rfl) (by kernel_rfl) (by kernel_rfl) (fun _ _ _ h => h) (Or.inr ⟨by rfl, rfl⟩) ⟨(rowAt Zb), (rowAt Zz), (rowMid Zr (2) (Rl.bal R))⟩ ?_
      try simp only [Act.put, List.getElem_toArray, List.getElem_cons_zero, List.getElem_cons_succ, List.setIfInBounds_toArray, List.set_cons_zero, List.set_cons_succ]
      refine wpAnyH_take (i := 22) (v := undef) rfl (by kernel_rfl) (by kernel_rfl) (by kernel_rfl) (fun _ _ _ h => h) (Or.inr ⟨by rfl, rfl⟩) ⟨(rowAt Zb), (rowAt Zz), (rowMid Zr (2) (Rl.bal R))⟩ ?_
      try simp only [Act.put, List.getElem_toArray, List.getElem_cons_zero, List.getElem_cons_succ, List.setIfInBounds_toArray, List.set_cons_zero, List.set_cons_succ]
      refine wpAnyH_take (i := 23) (v := undef) rfl (by kernel_rfl) (by kernel_rfl) (by kernel_rfl) (fun _ _ _ h => h) (Or.inr ⟨by rfl, rfl⟩) ⟨(rowAt Zb), (rowAt Zz), (rowMid Zr (2) (Rl.bal R))⟩ ?_
      try simp only [Act.put, List.getElem_toArray, List.getElem_cons_zero, List.getElem_cons_succ, List.setIfInBounds_toArray, List.set_cons_zero, List.set_cons_succ]
      refine wpAnyH_take (i := 24) (v := undef) rfl (by kernel_rfl) (by kernel_rfl) (by kernel_rfl) (fun _ _ _ h => h) (Or.inr ⟨by rfl, rfl⟩) ⟨(rowAt Zb), (rowAt Zz), (rowMid Zr (2) (Rl.bal R))⟩ ?_
      try simp only [Act.put, List.getElem_toArray, List.getElem_cons_zero, List.getElem_cons_succ, List.setIfInBounds_toArray, List.set_cons_zero, List.set_cons_succ]
      refine wpAnyH_take (i := 25) (v := undef) rfl (by kernel_rfl) (by kernel_rfl) (by kernel_rfl) (fun _ _ _ h => h) (Or.inr ⟨by rfl, rfl⟩) ⟨(rowAt Zb), (rowAt Zz), (rowMid Zr (2) (Rl.bal R))⟩ ?_
      try simp only [Act.put, List.getElem_toArray, List.getElem_cons_zero, List.getElem_cons_succ, List.setIfInBounds_toArray, List.set_cons_zero, List.set_cons_succ]
      refine wpAnyH_take (i := 26) (v := undef) rfl (by kernel_rfl) (by kernel_rfl) (by kernel_rfl) (fun _ _ _ h => h) (Or.inr ⟨by rfl, rfl⟩) ⟨(rowAt Zb), (rowAt Zz), (rowMid Zr (2) (Rl.bal R))⟩ ?_
      try simp only [Act.put, List.getElem_toArray, List.getElem_cons_zero, List.getElem_cons_succ, List.setIfInBounds_toArray, List.set_cons_zero, List.set_cons_succ]
      refine wpAnyH_take (i := 27) (v := .bool true) rfl (by kernel_rfl) (by kernel_rfl) (by kernel_rfl) (fun _ _ _ h => h) (Or.inl ⟨by rfl, fun w_ hS_ => by (first | (go_simp; done) | (go_simp; rfl))⟩) ⟨(rowAt Zb), (rowAt Zz), (rowMid Zr (2) (Rl.bal R))⟩ ?_
      try simp only [Act.put, List.getElem_toArray, List.getElem_cons_zero, List.getElem_cons_succ, List.setIfInBounds_toArray, List.set_cons_zero, List.set_cons_succ]
      refine wpAnyH_take (i := 28) (v := .bool true) rfl (by kernel_rfl) (by kernel_rfl) (by kernel_rfl) (fun _ _ _ h => h) (Or.inl ⟨by rfl, fun w_ hS_ => by (first | (go_simp; done) | (go_simp; rfl))⟩) ⟨(rowAt Zb), (rowAt Zz), (rowMid Zr (2) (Rl.bal R))⟩ ?_
      try simp only [Act.put, List.getElem_toArray, List.getElem_cons_zero, List.getElem_cons_succ, List.setIfInBounds_toArray, List.set_cons_zero, List.set_cons_succ]
      refine wpAnyH_take (i := 29) (v := undef) rfl (by kernel_rfl) (by kernel_rfl) (by kernel_rfl) (fun _ _ _ h => h) (Or.inr ⟨by rfl, rfl⟩) ⟨(rowAt Zb), (rowAt Zz), (rowMid Zr (2) (Rl.bal R))⟩ ?_
      try simp only [Act.put, List.getElem_toArray, List.getElem_cons_zero, List.getElem_cons_succ, List.setIfInBounds_toArray, List.set_cons_zero, List.set_cons_succ]
      refine wpAnyH_take (i := 30) (v := undef) rfl (by kernel_rfl) (by kernel_rfl) (by kernel_rfl) (fun _ _ _ h => h) (Or.inr ⟨by rfl, rfl⟩) ⟨(rowAt Zb), (rowAt Zz), (rowMid Zr (2) (Rl.bal R))⟩ ?_
      try simp only [Act.put, List.getElem_toArray, List.getElem_cons_zero, List.getElem_cons_succ, List.setIfInBounds_toArray, List.set_cons_zero, List.set_cons_succ]
      refine wpAnyH_take (i := 31) (v := undef) rfl (by kernel_rfl) (by kernel_rfl) (by kernel_rfl) (fun _ _ _ h => h) (Or.inr ⟨by rfl, rfl⟩) ⟨(rowAt Zb), (rowAt Zz), (rowMid Zr (2) (Rl.bal R))⟩ ?_
      try simp only [Act.put, List.getElem_toArray, List.getElem_cons_zero, List.getElem_cons_succ, List.setIfInBounds_toArray, List.set_cons_zero, List.set_cons_succ]
      refine wpAnyH_take (i := 32) (v := undef) rfl (by kernel_rfl) (by kernel_rfl) (by kernel_rfl) (fun _ _ _ h => h) (Or.inr ⟨by rfl, rfl⟩) ⟨(rowAt Zb), (rowAt Zz), (rowMid Zr (2) (Rl.bal R))⟩ ?_
      try simp only [Act.put, List.getElem_toArray, List.getElem_cons_zero, List.getElem_cons_succ, List.setIfInBounds_toArray, List.set_cons_zero, List.set_cons_succ]
      refine wpAnyH_take (i := 33) (v := undef) rfl (by kernel_rfl) (by kernel_rfl) (by kernel_rfl) (fun _ _ _ h => h) (Or.inr ⟨by rfl, rfl⟩) ⟨(rowAt Zb), (rowAt Zz), (rowMid Zr (2) (Rl.bal R))⟩ ?_
      try simp only [Act.put, List.getElem_toArray, List.getElem_cons_zero, List.getElem_cons_succ, List.setIfInBounds_toArray, List.set_cons_zero, List.set_cons_succ]
      refine wpAnyH_take (i := 34) (v := undef) rfl (by kernel_rfl) (by kernel_rfl) (by kernel_rfl) (fun _ _ _ h => h) (Or.inr ⟨by rfl, rfl⟩) ⟨(rowAt Zb), (rowAt Zz), (rowMid Zr (2) (Rl.bal R))⟩ ?_
      try simp only [Act.put, List.getElem_toArray, List.getElem_cons_zero, List.getElem_cons_succ, List.setIfInBounds_toArray, List.set_cons_zero, List.set_cons_succ]
      refine wpAnyH_take (i := 35) (v := .bool true) rfl (by kernel_rfl) (by kernel_rfl) (by kernel_rfl) (fun _ _ _ h => h) (Or.inl ⟨by rfl, fun w_ hS_ => by (first | (go_simp; done) | (go_simp; rfl))⟩) ⟨(rowAt Zb), (rowAt Zz), (rowMid Zr (2) (Rl.bal R))⟩ ?_
      try simp only [Act.put, List.getElem_toArray, List.getElem_cons_zero, List.getElem_cons_succ, List.setIfInBounds_toArray, List.set_cons_zero, List.set_cons_succ]
      refine wpAnyH_done (by kernel_rfl) ?_ _
      clear HIN HFO hI hJ h4 h5
      go_wp2_with fail
      go_ret
      exact ⟨RetB.mk _, ⟨R, (H.out.keepF ff ee Zr hP hL hV).more⟩, ff, ee⟩
    | false =>
      cases d3 with
      | false =>
        have Zr : z2.drew.heap[r]? = some (.cells R.cells.toArray 150) := Zr
        have Zb : z2.drew.heap[w.heap.size]? = some (.cells [.int .u32 (br : Int), .int .i64 bn].toArray 40) := Zb
        have Za : z2.drew.heap[w.heap.size + 1]? = some (.cells a.cells.toArray 43) := Za
        have Zz : z2.drew.heap[gz]? = some (.cells ([.int .u32 0, .int .i64 0]).toArray 40) := Zz
        have hP := World.ownsRow.drew hP
        have hL := World.ownsRow.drew hL
        have hV := World.ownsRow.drew hV
        have ee := belowDrewS ee
        have ff := ogDrew ff
        refine wp_region_held_drew (S := fun z' => z'.rangeAt w.heap.size (0) ([.int .u32 (br : Int), .int .i64 bn]) ∧ z'.rangeAt gz (0) ([.int .u32 0, .int .i64 0]) ∧ z'.rangeAt r (2) ([.int .u32 (R.br : Int), .int .i64 R.bn]) ∧ z'.rangeAt (w.heap.size + 1) (0) a.cells) (by kernel_rfl) ⟨(rowAt Zb), (rowAt Zz), (rowMid Zr (2) (Rl.bal R)), (rowAt Za)⟩ (fun hH => ?_)
        clear hH
        generalize z2.drew = z3 at Zr Zb Za Zz hP hL hV ee ff ⊢
        refine wpAnyH_take (i := 0) (v := .agg ([.int .u32 (br : Int), .int .i64 bn]).toArray) rfl (by kernel_rfl) (by kernel_rfl) (by kernel_rfl) (fun _ _ _ h => h) (yieldsIf_load_mid (by rfl) 40 _ rfl (w.heap.size) (0) rfl ([.int .u32 (br : Int), .int .i64 bn]) _ (fun _ h => h.1) Tryd.underlying40 rfl sizeRBal) ⟨(rowAt Zb), (rowAt Zz), (rowMid Zr (2) (Rl.bal R)), (rowAt Za)⟩ ?_
        try simp only [Act.put, List.getElem_toArray, List.getElem_cons_zero, List.getElem_cons_succ, List.setIfInBounds_toArray, List.set_cons_zero, List.set_cons_succ]
        refine wpAnyH_take (i := 1) (v := .agg ([.int .u32 0, .int .i64 0]).toArray) rfl (by kernel_rfl) (by kernel_rfl) (by kernel_rfl) (fun _ _ _ h => h) (yieldsIf_load_mid (by rfl) 40 _ rfl (gz) (0) rfl ([.int .u32 0, .int .i64 0]) _ (fun _ h => h.2.1) Tryd.underlying40 rfl sizeRBal) ⟨(rowAt Zb), (rowAt Zz), (rowMid Zr (2) (Rl.bal R)), (rowAt Za)⟩ ?_
        try simp only [Act.put, List.getElem_toArray, List.getElem_cons_zero, List.getElem_cons_succ, List.setIfInBounds_toArray, List.set_cons_zero, List.set_cons_succ]
        refine wpAnyH_take (i := 2) (v := .bool false) rfl (by kernel_rfl) (by kernel_rfl) (by kernel_rfl) (fun _ _ _ h => h) (Or.inl ⟨by rfl, fun w_ hS_ => by (first | (go_simp; done) | (go_simp; rfl))⟩) ⟨(rowAt Zb), (rowAt Zz), (rowMid Zr (2) (Rl.bal R)), (rowAt Za)⟩ ?_
        try simp only [Act.put, List.getElem_toArray, List.getElem_cons_zero, List.getElem_cons_succ, List.setIfInBounds_toArray, List.set_cons_zero, List.set_cons_succ]
        refine wpAnyH_take (i := 3) (v := .bool false) rfl (by kernel_rfl) (by kernel_rfl) (by kernel_rfl) (fun _ _ _ h => h) (Or.inl ⟨by rfl, fun w_ hS_ => by (first | (go_simp; done) | (go_simp; rfl))⟩) ⟨(rowAt Zb), (rowAt Zz), (rowMid Zr (2) (Rl.bal R)), (rowAt Za)⟩ ?_
        try simp only [Act.put, List.getElem_toArray, List.getElem_cons_zero, List.getElem_cons_succ, List.setIfInBounds_toArray, List.set_cons_zero, List.set_cons_succ]
        refine wpAnyH_take (i := 4) (v := .agg ([.int .u32 (br : Int), .int .i64 bn]).toArray) rfl (by kernel_rfl) (by kernel_rfl) (by kernel_rfl) (fun _ _ _ h => h) (yieldsIf_load_mid (by rfl) 40 _ rfl (w.heap.size) (0) rfl ([.int .u32 (br : Int), .int .i64 bn]) _ (fun _ h => h.1) Tryd.underlying40 rfl sizeRBal) ⟨(rowAt Zb), (rowAt Zz), (rowMid Zr (2) (Rl.bal R)), (rowAt Za)⟩ ?_
        try simp only [Act.put, List.getElem_toArray, List.getElem_cons_zero, List.getElem_cons_succ, List.setIfInBounds_toArray, List.set_cons_zero, List.set_cons_succ]
        refine wpAnyH_take (i := 5) (v := .pointer (some ⟨r, 0, none⟩)) rfl (by kernel_rfl) (by kernel_rfl) (by kernel_rfl) (fun _ _ _ h => h) (Or.inl ⟨by rfl, fun w_ hS_ => by (first | (go_simp; done) | (go_simp; rfl))⟩) ⟨(rowAt Zb), (rowAt Zz), (rowMid Zr (2) (Rl.bal R)), (rowAt Za)⟩ ?_
        try simp only [Act.put, List.getElem_toArray, List.getElem_cons_zero, List.getElem_cons_succ, List.setIfInBounds_toArray, List.set_cons_zero, List.set_cons_succ]
        refine wpAnyH_take (i := 6) (v := .pointer (some ⟨r, 0, none⟩)) rfl (by kernel_rfl) (by kernel_rfl) (by kernel_rfl) (fun _ _ _ h => h) (Or.inl ⟨by rfl, fun w_ hS_ => by (first | (go_simp; done) | (go_simp; rfl))⟩) ⟨(rowAt Zb), (rowAt Zz), (rowMid Zr (2) (Rl.bal R)), (rowAt Za)⟩ ?_
        try simp only [Act.put, List.getElem_toArray, List.getElem_cons_zero, List.getElem_cons_succ, List.setIfInBounds_toArray, List.set_cons_zero, List.set_cons_succ]
        refine wpAnyH_take (i := 7) (v := .pointer (some ⟨r, 2, none⟩)) rfl (by kernel_rfl) (by kernel_rfl) (by kernel_rfl) (fun _ _ _ h => h) (Or.inl ⟨by rfl, fun w_ hS_ => by (first | (go_simp; done) | (go_simp; rfl))⟩) ⟨(rowAt Zb), (rowAt Zz), (rowMid Zr (2) (Rl.bal R)), (rowAt Za)⟩ ?_
        try simp only [Act.put, List.getElem_toArray, List.getElem_cons_zero, List.getElem_cons_succ, List.setIfInBounds_toArray, List.set_cons_zero, List.set_cons_succ]
        refine wpAnyH_take (i := 8) (v := .agg ([.int .u32 (R.br : Int), .int .i64 R.bn]).toArray) rfl (by kernel_rfl) (by kernel_rfl) (by kernel_rfl) (fun _ _ _ h => h) (yieldsIf_load_mid (by rfl) 40 _ rfl (r) (2) rfl ([.int .u32 (R.br : Int), .int .i64 R.bn]) _ (fun _ h => h.2.2.1) Tryd.underlying40 rfl sizeRBal) ⟨(rowAt Zb), (rowAt Zz), (rowMid Zr (2) (Rl.bal R)), (rowAt Za)⟩ ?_
        try simp only [Act.put, List.getElem_toArray, List.getElem_cons_zero, List.getElem_cons_succ, List.setIfInBounds_toArray, List.set_cons_zero, List.set_cons_succ]
        refine wpAnyH_take (i := 9) (v := .bool false) rfl (by kernel_rfl) (by kernel_rfl) (by kernel_rfl) (fun _ _ _ h => h) (Or.inl ⟨by rfl, fun w_ hS_ => by (first | (go_simp; done) | (go_simp; rfl))⟩) ⟨(rowAt Zb), (rowAt Zz), (rowMid Zr (2) (Rl.bal R)), (rowAt Za)⟩ ?_
        try simp only [Act.put, List.getElem_toArray, List.getElem_cons_zero, List.getElem_cons_succ, List.setIfInBounds_toArray, List.set_cons_zero, List.set_cons_succ]
        refine wpAnyH_take (i := 10) (v := .bool false) rfl (by kernel_rfl) (by kernel_rfl) (by kernel_rfl) (fun _ _ _ h => h) (Or.inl ⟨by rfl, fun w_ hS_ => by (first | (go_simp; done) | (go_simp; rfl))⟩) ⟨(rowAt Zb), (rowAt Zz), (rowMid Zr (2) (Rl.bal R)), (rowAt Za)⟩ ?_
        try simp only [Act.put, List.getElem_toArray, List.getElem_cons_zero, List.getElem_cons_succ, List.setIfInBounds_toArray, List.set_cons_zero, List.set_cons_succ]
        refine wpAnyH_take (i := 11) (v := .bool false) rfl (by kernel_rfl) (by kernel_rfl) (by kernel_rfl) (fun _ _ _ h => h) (Or.inl ⟨by rfl, fun w_ hS_ => by (first | (go_simp; done) | (go_simp; rfl))⟩) ⟨(rowAt Zb), (rowAt Zz), (rowMid Zr (2) (Rl.bal R)), (rowAt Za)⟩ ?_
        try simp only [Act.put, List.getElem_toArray, List.getElem_cons_zero, List.getElem_cons_succ, List.setIfInBounds_toArray, List.set_cons_zero, List.set_cons_succ]
        refine wpAnyH_take (i := 12) (v := .agg (a.cells).toArray) rfl (by kernel_rfl) (by kernel_rfl) (by kernel_rfl) (fun _ _ _ h => h) (yieldsIf_load_mid (by rfl) 43 _ rfl (w.heap.size + 1) (0) rfl (a.cells) _ (fun _ h => h.2.2.2) Tryd.underlying43 rfl sizeRAc) ⟨(rowAt Zb), (rowAt Zz), (rowMid Zr (2) (Rl.bal R)), (rowAt Za)⟩ ?_
        try simp only [Act.put, List.getElem_toArray, List.getElem_cons_zero, List.getElem_cons_succ, List.setIfInBounds_toArray, List.set_cons_zero, List.set_cons_succ]
        refine wpAnyH_ready (rs := [13]) (by kernel_rfl) (by simp) ?_
        refine AllReadyH.cons rfl (fun K hK => ?_) AllReadyH.nil
        rw [if_pos (by rfl)]
        go_simp
        go_wp2_with (go_at_call 21; refine (HFO.out z3 ee).mono ?_; rintro e z4 ⟨rfl, t⟩)
        have Zr := hpB Zr t
        have Zb := hpB Zb t
        have Za := hpB Za t
        have Zz := hpB Zz t
        have hP := ownBelow hP t
        have hL := ownBelow hL t
        have hV := ownBelow hV t
        have ee := ee.trans (t.mono (Nat.le_trans hB ee.size))
        have ff := ogBelow ff t
        clear t
        refine hK.out _ _ ⟨(rowAt Zb), (rowAt Zz), (rowMid Zr (2) (Rl.bal R)), (rowAt Za)⟩ (fun hH => ?_)
        clear hK K hH
        try simp only [Act.put, List.getElem_toArray, List.getElem_cons_zero, List.getElem_cons_succ, List.setIfInBounds_toArray, List.set_cons_zero, List.set_cons_succ]
        refine wpAnyH_take (i := 14) (v := .bool true) rfl (by kernel_rfl) (by kernel_rfl) (by kernel_rfl) (fun _ _ _ h => h) (Or.inl ⟨by rfl, fun w_ hS_ => by (first | (go_simp; done) | (go_simp; rfl))⟩) ⟨(rowAt Zb), (rowAt Zz), (rowMid Zr (2) (Rl.bal R)), (rowAt Za)⟩ ?_
        try simp only [Act.put, List.getElem_toArray, List.getElem_cons_zero, List.getElem_cons_succ, List.setIfInBounds_toArray, List.set_cons_zero, List.set_cons_succ]
        refine wpAnyH_take (i := 15) (v := .bool true) rfl (by kernel_rfl) (by kernel_rfl) (by kernel_rfl) (fun _ _ _ h => h) (Or.inl ⟨by rfl, fun w_ hS_ => by (first | (go_simp; done) | (go_simp; rfl))⟩) ⟨(rowAt Zb), (rowAt Zz), (rowMid Zr (2) (Rl.bal R)), (rowAt Za)⟩ ?_
        try simp only [Act.put, List.getElem_toArray, List.getElem_cons_zero, List.getElem_cons_succ, List.setIfInBounds_toArray, List.set_cons_zero, List.set_cons_succ]
        refine wpAnyH_take (i := 16) (v := .bool true) rfl (by kernel_rfl) (by kernel_rfl) (by kernel_rfl) (fun _ _ _ h => h) (Or.inl ⟨by rfl, fun w_ hS_ => by (first | (go_simp; done) | (go_simp; rfl))⟩) ⟨(rowAt Zb), (rowAt Zz), (rowMid Zr (2) (Rl.bal R)), (rowAt Za)⟩ ?_
        try simp only [Act.put, List.getElem_toArray, List.getElem_cons_zero, List.getElem_cons_succ, List.setIfInBounds_toArray, List.set_cons_zero, List.set_cons_succ]
        refine wpAnyH_take (i := 17) (v := undef) rfl (by kernel_rfl) (by kernel_rfl) (by kernel_rfl) (fun _ _ _ h => h) (Or.inr ⟨by rfl, rfl⟩) ⟨(rowAt Zb), (rowAt Zz), (rowMid Zr (2) (Rl.bal R)), (rowAt Za)⟩ ?_
        try simp only [Act.put, List.getElem_toArray, List.getElem_cons_zero, List.getElem_cons_succ, List.setIfInBounds_toArray, List.set_cons_zero, List.set_cons_succ]
        refine wpAnyH_take (i := 18) (v := undef) rfl (by kernel_rfl) (by kernel_rfl) (by kernel_rfl) (fun _ _ _ h => h) (Or.inr ⟨by rfl, rfl⟩) ⟨(rowAt Zb), (rowAt Zz), (rowMid Zr (2) (Rl.bal R)), (rowAt Za)⟩ ?_
        try simp only [Act.put, List.getElem_toArray, List.getElem_cons_zero, List.getElem_cons_succ, List.setIfInBounds_toArray, List.set_cons_zero, List.set_cons_succ]
        refine wpAnyH_take (i := 19) (v := .bool true) rfl (by kernel_rfl) (by kernel_rfl) (by kernel_rfl) (fun _ _ _ h => h) (Or.inl ⟨by rfl, fun w_ hS_ => by (first | (go_simp; done) | (go_simp; rfl))⟩) ⟨(rowAt Zb), (rowAt Zz), (rowMid Zr (2) (Rl.bal R)), (rowAt Za)⟩ ?_
        try simp only [Act.put, List.getElem_toArray, List.getElem_cons_zero, List.getElem_cons_succ, List.setIfInBounds_toArray, List.set_cons_zero, List.set_cons_succ]
        refine wpAnyH_take (i := 20) (v := .bool true) rfl (by kernel_rfl) (by kernel_rfl) (by kernel_rfl) (fun _ _ _ h => h) (Or.inl ⟨by rfl, fun w_ hS_ => by (first | (go_simp; done) | (go_simp; rfl))⟩) ⟨(rowAt Zb), (rowAt Zz), (rowMid Zr (2) (Rl.bal R)), (rowAt Za)⟩ ?_
        try simp only [Act.put, List.getElem_toArray, List.getElem_cons_zero, List.getElem_cons_succ, List.setIfInBounds_toArray, List.set_cons_zero, List.set_cons_succ]
        refine wpAnyH_take (i := 21) (v := undef) rfl (by kernel_rfl) (by kernel_rfl) (by kernel_rfl) (fun _ _ _ h => h) (Or.inr ⟨by rfl, rfl⟩) ⟨(rowAt Zb), (rowAt Zz), (rowMid Zr (2) (Rl.bal R)), (rowAt Za)⟩ ?_
        try simp only [Act.put, List.getElem_toArray, List.getElem_cons_zero, List.getElem_cons_succ, List.setIfInBounds_toArray, List.set_cons_zero, List.set_cons_succ]
        refine wpAnyH_take (i := 22) (v := undef) rfl (by kernel_rfl) (by kernel_rfl) (by kernel_rfl) (fun _ _ _ h => h) (Or.inr ⟨by rfl, rfl⟩) ⟨(rowAt Zb), (rowAt Zz), (rowMid Zr (2) (Rl.bal R)), (rowAt Za)⟩ ?_
        try simp only [Act.put, List.getElem_toArray, List.getElem_cons_zero, List.getElem_cons_succ, List.setIfInBounds_toArray, List.set_cons_zero, List.set_cons_succ]
        refine wpAnyH_take (i := 23) (v := undef) rfl (by kernel_rfl) (by kernel_rfl) (by kernel_rfl) (fun _ _ _ h => h) (Or.inr ⟨by rfl, rfl⟩) ⟨(rowAt Zb), (rowAt Zz), (rowMid Zr (2) (Rl.bal R)), (rowAt Za)⟩ ?_
        try simp only [Act.put, List.getElem_toArray, List.getElem_cons_zero, List.getElem_cons_succ, List.setIfInBounds_toArray, List.set_cons_zero, List.set_cons_succ]
        refine wpAnyH_take (i := 24) (v := undef) rfl (by kernel_rfl) (by kernel_rfl) (by kernel_rfl) (fun _ _ _ h => h) (Or.inr ⟨by rfl, rfl⟩) ⟨(rowAt Zb), (rowAt Zz), (rowMid Zr (2) (Rl.bal R)), (rowAt Za)⟩ ?_
        try simp only [Act.put, List.getElem_toArray, List.getElem_cons_zero, List.getElem_cons_succ, List.setIfInBounds_toArray, List.set_cons_zero, List.set_cons_succ]
        refine wpAnyH_take (i := 25) (v := undef) rfl (by kernel_rfl) (by kernel_rfl) (by kernel_rfl) (fun _ _ _ h => h) (Or.inr ⟨by rfl, rfl⟩) ⟨(rowAt Zb), (rowAt Zz), (rowMid Zr (2) (Rl.bal R)), (rowAt Za)⟩ ?_
        try simp only [Act.put, List.getElem_toArray, List.getElem_cons_zero, List.getElem_cons_succ, List.setIfInBounds_toArray, List.set_cons_zero, List.set_cons_succ]
        refine wpAnyH_take (i := 26) (v := undef) rfl (by kernel_rfl) (by kernel_rfl) (by kernel_rfl) (fun _ _ _ h => h) (Or.inr ⟨by rfl, rfl⟩) ⟨(rowAt Zb), (rowAt Zz), (rowMid Zr (2) (Rl.bal R)), (rowAt Za)⟩ ?_
        try simp only [Act.put, List.getElem_toArray, List.getElem_cons_zero, List.getElem_cons_succ, List.setIfInBounds_toArray, List.set_cons_zero, List.set_cons_succ]
        refine wpAnyH_take (i := 27) (v := .bool true) rfl (by kernel_rfl) (by kernel_rfl) (by kernel_rfl) (fun _ _ _ h => h) (Or.inl ⟨by rfl, fun w_ hS_ => by (first | (go_simp; done) | (go_simp; rfl))⟩) ⟨(rowAt Zb), (rowAt Zz), (rowMid Zr (2) (Rl.bal R)), (rowAt Za)⟩ ?_
        try simp only [Act.put, List.getElem_toArray, List.getElem_cons_zero, List.getElem_cons_succ, List.setIfInBounds_toArray, List.set_cons_zero, List.set_cons_succ]
        refine wpAnyH_take (i := 28) (v := .bool true) rfl (by kernel_rfl) (by kernel_rfl) (by kernel_rfl) (fun _ _ _ h => h) (Or.inl ⟨by rfl, fun w_ hS_ => by (first | (go_simp; done) | (go_simp; rfl))⟩) ⟨(rowAt Zb), (rowAt Zz), (rowMid Zr (2) (Rl.bal R)), (rowAt Za)⟩ ?_
        try simp only [Act.put, List.getElem_toArray, List.getElem_cons_zero, List.getElem_cons_succ, List.setIfInBounds_toArray, List.set_cons_zero, List.set_cons_succ]
        refine wpAnyH_take (i := 29) (v := undef) rfl (by kernel_rfl) (by kernel_rfl) (by kernel_rfl) (fun _ _ _ h => h) (Or.inr ⟨by rfl, rfl⟩) ⟨(rowAt Zb), (rowAt Zz), (rowMid Zr (2) (Rl.bal R)), (rowAt Za)⟩ ?_
        try simp only [Act.put, List.getElem_toArray, List.getElem_cons_zero, List.getElem_cons_succ, List.setIfInBounds_toArray, List.set_cons_zero, List.set_cons_succ]
        refine wpAnyH_take (i := 30) (v := undef) rfl (by kernel_rfl) (by kernel_rfl) (by kernel_rfl) (fun _ _ _ h => h) (Or.inr ⟨by rfl, rfl⟩) ⟨(rowAt Zb), (rowAt Zz), (rowMid Zr (2) (Rl.bal R)), (rowAt Za)⟩ ?_
        try simp only [Act.put, List.getElem_toArray, List.getElem_cons_zero, List.getElem_cons_succ, List.setIfInBounds_toArray, List.set_cons_zero, List.set_cons_succ]
        refine wpAnyH_take (i := 31) (v := undef) rfl (by kernel_rfl) (by kernel_rfl) (by kernel_rfl) (fun _ _ _ h => h) (Or.inr ⟨by rfl, rfl⟩) ⟨(rowAt Zb), (rowAt Zz), (rowMid Zr (2) (Rl.bal R)), (rowAt Za)⟩ ?_
        try simp only [Act.put, List.getElem_toArray, List.getElem_cons_zero, List.getElem_cons_succ, List.setIfInBounds_toArray, List.set_cons_zero, List.set_cons_succ]
        refine wpAnyH_take (i := 32) (v := undef) rfl (by kernel_rfl) (by kernel_rfl) (by kernel_rfl) (fun _ _ _ h => h) (Or.inr ⟨by rfl, rfl⟩) ⟨(rowAt Zb), (rowAt Zz), (rowMid Zr (2) (Rl.bal R)), (rowAt Za)⟩ ?_
        try simp only [Act.put, List.getElem_toArray, List.getElem_cons_zero, List.getElem_cons_succ, List.setIfInBounds_toArray, List.set_cons_zero, List.set_cons_succ]
        refine wpAnyH_take (i := 33) (v := undef) rfl (by kernel_rfl) (by kernel_rfl) (by kernel_rfl) (fun _ _ _ h => h) (Or.inr ⟨by rfl, rfl⟩) ⟨(rowAt Zb), (rowAt Zz), (rowMid Zr (2) (Rl.bal R)), (rowAt Za)⟩ ?_
        try simp only [Act.put, List.getElem_toArray, List.getElem_cons_zero, List.getElem_cons_succ, List.setIfInBounds_toArray, List.set_cons_zero, List.set_cons_succ]
        refine wpAnyH_take (i := 34) (v := undef) rfl (by kernel_rfl) (by kernel_rfl) (by kernel_rfl) (fun _ _ _ h => h) (Or.inr ⟨by rfl, rfl⟩) ⟨(rowAt Zb), (rowAt Zz), (rowMid Zr (2) (Rl.bal R)), (rowAt Za)⟩ ?_
        try simp only [Act.put, List.getElem_toArray, List.getElem_cons_zero, List.getElem_cons_succ, List.setIfInBounds_toArray, List.set_cons_zero, List.set_cons_succ]
        refine wpAnyH_take (i := 35) (v := .bool true) rfl (by kernel_rfl) (by kernel_rfl) (by kernel_rfl) (fun _ _ _ h => h) (Or.inl ⟨by rfl, fun w_ hS_ => by (first | (go_simp; done) | (go_simp; rfl))⟩) ⟨(rowAt Zb), (rowAt Zz), (rowMid Zr (2) (Rl.bal R)), (rowAt Za)⟩ ?_
        try simp only [Act.put, List.getElem_toArray, List.getElem_cons_zero, List.getElem_cons_succ, List.setIfInBounds_toArray, List.set_cons_zero, List.set_cons_succ]
        refine wpAnyH_done (by kernel_rfl) ?_ _
        clear HIN HFO hI hJ h4 h5
        go_wp2_with fail
        go_ret
        exact ⟨RetB.mk _, ⟨R, (H.out.keepF ff ee Zr hP hL hV).more⟩, ff, ee⟩
      | true =>
        cases d4 with
        | true =>
          have Zr : z2.drew.heap[r]? = some (.cells R.cells.toArray 150) := Zr
          have Zb : z2.drew.heap[w.heap.size]? = some (.cells [.int .u32 (br : Int), .int .i64 bn].toArray 40) := Zb
          have Za : z2.drew.heap[w.heap.size + 1]? = some (.cells a.cells.toArray 43) := Za
          have Zz : z2.drew.heap[gz]? = some (.cells ([.int .u32 0, .int .i64 0]).toArray 40) := Zz
          have hP := World.ownsRow.drew hP
          have hL := World.ownsRow.drew hL
          have hV := World.ownsRow.drew hV
          have ee := belowDrewS ee
          have ff := ogDrew ff
          refine wp_region_held_drew (S := fun z' => z'.rangeAt w.heap.size (0) ([.int .u32 (br : Int), .int .i64 bn]) ∧ z'.rangeAt gz (0) ([.int .u32 0, .int .i64 0]) ∧ z'.rangeAt r (2) ([.int .u32 (R.br : Int), .int .i64 R.bn]) ∧ z'.rangeAt (w.heap.size + 1) (0) a.cells) (by kernel_rfl) ⟨(rowAt Zb), (rowAt Zz), (rowMid Zr (2) (Rl.bal R)), (rowAt Za)⟩ (fun hH => ?_)
          clear hH
          generalize z2.drew = z3 at Zr Zb Za Zz hP hL hV ee ff ⊢
          refine wpAnyH_take (i := 0) (v := .agg ([.int .u32 (br : Int), .int .i64 bn]).toArray) rfl (by kernel_rfl) (by kernel_rfl) (by kernel_rfl) (fun _ _ _ h => h) (yieldsIf_load_mid (by rfl) 40 _ rfl (w.heap.size) (0) rfl ([.int .u32 (br : Int), .int .i64 bn]) _ (fun _ h => h.1) Tryd.underlying40 rfl sizeRBal) ⟨(rowAt Zb), (rowAt Zz), (rowMid Zr (2) (Rl.bal R)), (rowAt Za)⟩ ?_
          try simp only [Act.put, List.getElem_toArray, List.getElem_cons_zero, List.getElem_cons_succ, List.setIfInBounds_toArray, List.set_cons_zero, List.set_cons_succ]
          refine wpAnyH_take (i := 1) (v := .agg ([.int .u32 0, .int .i64 0]).toArray) rfl (by kernel_rfl) (by kernel_rfl) (by kernel_rfl) (fun _ _ _ h => h) (yieldsIf_load_mid (by rfl) 40 _ rfl (gz) (0) rfl ([.int .u32 0, .int .i64 0]) _ (fun _ h => h.2.1) Tryd.underlying40 rfl sizeRBal) ⟨(rowAt Zb), (rowAt Zz), (rowMid Zr (2) (Rl.bal R)), (rowAt Za)⟩ ?_
          try simp only [Act.put, List.getElem_toArray, List.getElem_cons_zero, List.getElem_cons_succ, List.setIfInBounds_toArray, List.set_cons_zero, List.set_cons_succ]
          refine wpAnyH_take (i := 2) (v := .bool false) rfl (by kernel_rfl) (by kernel_rfl) (by kernel_rfl) (fun _ _ _ h => h) (Or.inl ⟨by rfl, fun w_ hS_ => by (first | (go_simp; done) | (go_simp; rfl))⟩) ⟨(rowAt Zb), (rowAt Zz), (rowMid Zr (2) (Rl.bal R)), (rowAt Za)⟩ ?_
          try simp only [Act.put, List.getElem_toArray, List.getElem_cons_zero, List.getElem_cons_succ, List.setIfInBounds_toArray, List.set_cons_zero, List.set_cons_succ]
          refine wpAnyH_take (i := 3) (v := .bool false) rfl (by kernel_rfl) (by kernel_rfl) (by kernel_rfl) (fun _ _ _ h => h) (Or.inl ⟨by rfl, fun w_ hS_ => by (first | (go_simp; done) | (go_simp; rfl))⟩) ⟨(rowAt Zb), (rowAt Zz), (rowMid Zr (2) (Rl.bal R)), (rowAt Za)⟩ ?_
          try simp only [Act.put, List.getElem_toArray, List.getElem_cons_zero, List.getElem_cons_succ, List.setIfInBounds_toArray, List.set_cons_zero, List.set_cons_succ]
          refine wpAnyH_take (i := 4) (v := .agg ([.int .u32 (br : Int), .int .i64 bn]).toArray) rfl (by kernel_rfl) (by kernel_rfl) (by kernel_rfl) (fun _ _ _ h => h) (yieldsIf_load_mid (by rfl) 40 _ rfl (w.heap.size) (0) rfl ([.int .u32 (br : Int), .int .i64 bn]) _ (fun _ h => h.1) Tryd.underlying40 rfl sizeRBal) ⟨(rowAt Zb), (rowAt Zz), (rowMid Zr (2) (Rl.bal R)), (rowAt Za)⟩ ?_
          try simp only [Act.put, List.getElem_toArray, List.getElem_cons_zero, List.getElem_cons_succ, List.setIfInBounds_toArray, List.set_cons_zero, List.set_cons_succ]
          refine wpAnyH_take (i := 5) (v := .pointer (some ⟨r, 0, none⟩)) rfl (by kernel_rfl) (by kernel_rfl) (by kernel_rfl) (fun _ _ _ h => h) (Or.inl ⟨by rfl, fun w_ hS_ => by (first | (go_simp; done) | (go_simp; rfl))⟩) ⟨(rowAt Zb), (rowAt Zz), (rowMid Zr (2) (Rl.bal R)), (rowAt Za)⟩ ?_
          try simp only [Act.put, List.getElem_toArray, List.getElem_cons_zero, List.getElem_cons_succ, List.setIfInBounds_toArray, List.set_cons_zero, List.set_cons_succ]
          refine wpAnyH_take (i := 6) (v := .pointer (some ⟨r, 0, none⟩)) rfl (by kernel_rfl) (by kernel_rfl) (by kernel_rfl) (fun _ _ _ h => h) (Or.inl ⟨by rfl, fun w_ hS_ => by (first | (go_simp; done) | (go_simp; rfl))⟩) ⟨(rowAt Zb), (rowAt Zz), (rowMid Zr (2) (Rl.bal R)), (rowAt Za)⟩ ?_
          try simp only [Act.put, List.getElem_toArray, List.getElem_cons_zero, List.getElem_cons_succ, List.setIfInBounds_toArray, List.set_cons_zero, List.set_cons_succ]
          refine wpAnyH_take (i := 7) (v := .pointer (some ⟨r, 2, none⟩)) rfl (by kernel_rfl) (by kernel_rfl) (by kernel_rfl) (fun _ _ _ h => h) (Or.inl ⟨by rfl, fun w_ hS_ => by (first | (go_simp; done) | (go_simp; rfl))⟩) ⟨(rowAt Zb), (rowAt Zz), (rowMid Zr (2) (Rl.bal R)), (rowAt Za)⟩ ?_
          try simp only [Act.put, List.getElem_toArray, List.getElem_cons_zero, List.getElem_cons_succ, List.setIfInBounds_toArray, List.set_cons_zero, List.set_cons_succ]
          refine wpAnyH_take (i := 8) (v := .agg ([.int .u32 (R.br : Int), .int .i64 R.bn]).toArray) rfl (by kernel_rfl) (by kernel_rfl) (by kernel_rfl) (fun _ _ _ h => h) (yieldsIf_load_mid (by rfl) 40 _ rfl (r) (2) rfl ([.int .u32 (R.br : Int), .int .i64 R.bn]) _ (fun _ h => h.2.2.1) Tryd.underlying40 rfl sizeRBal) ⟨(rowAt Zb), (rowAt Zz), (rowMid Zr (2) (Rl.bal R)), (rowAt Za)⟩ ?_
          try simp only [Act.put, List.getElem_toArray, List.getElem_cons_zero, List.getElem_cons_succ, List.setIfInBounds_toArray, List.set_cons_zero, List.set_cons_succ]
          refine wpAnyH_take (i := 9) (v := .bool false) rfl (by kernel_rfl) (by kernel_rfl) (by kernel_rfl) (fun _ _ _ h => h) (Or.inl ⟨by rfl, fun w_ hS_ => by (first | (go_simp; done) | (go_simp; rfl))⟩) ⟨(rowAt Zb), (rowAt Zz), (rowMid Zr (2) (Rl.bal R)), (rowAt Za)⟩ ?_
          try simp only [Act.put, List.getElem_toArray, List.getElem_cons_zero, List.getElem_cons_succ, List.setIfInBounds_toArray, List.set_cons_zero, List.set_cons_succ]
          refine wpAnyH_take (i := 10) (v := .bool false) rfl (by kernel_rfl) (by kernel_rfl) (by kernel_rfl) (fun _ _ _ h => h) (Or.inl ⟨by rfl, fun w_ hS_ => by (first | (go_simp; done) | (go_simp; rfl))⟩) ⟨(rowAt Zb), (rowAt Zz), (rowMid Zr (2) (Rl.bal R)), (rowAt Za)⟩ ?_
          try simp only [Act.put, List.getElem_toArray, List.getElem_cons_zero, List.getElem_cons_succ, List.setIfInBounds_toArray, List.set_cons_zero, List.set_cons_succ]
          refine wpAnyH_take (i := 11) (v := .bool false) rfl (by kernel_rfl) (by kernel_rfl) (by kernel_rfl) (fun _ _ _ h => h) (Or.inl ⟨by rfl, fun w_ hS_ => by (first | (go_simp; done) | (go_simp; rfl))⟩) ⟨(rowAt Zb), (rowAt Zz), (rowMid Zr (2) (Rl.bal R)), (rowAt Za)⟩ ?_
          try simp only [Act.put, List.getElem_toArray, List.getElem_cons_zero, List.getElem_cons_succ, List.setIfInBounds_toArray, List.set_cons_zero, List.set_cons_succ]
          refine wpAnyH_take (i := 12) (v := .agg (a.cells).toArray) rfl (by kernel_rfl) (by kernel_rfl) (by kernel_rfl) (fun _ _ _ h => h) (yieldsIf_load_mid (by rfl) 43 _ rfl (w.heap.size + 1) (0) rfl (a.cells) _ (fun _ h => h.2.2.2) Tryd.underlying43 rfl sizeRAc) ⟨(rowAt Zb), (rowAt Zz), (rowMid Zr (2) (Rl.bal R)), (rowAt Za)⟩ ?_
          try simp only [Act.put, List.getElem_toArray, List.getElem_cons_zero, List.getElem_cons_succ, List.setIfInBounds_toArray, List.set_cons_zero, List.set_cons_succ]
          refine wpAnyH_ready (rs := [13]) (by kernel_rfl) (by simp) ?_
          refine AllReadyH.cons rfl (fun K hK => ?_) AllReadyH.nil
          rw [if_pos (by rfl)]
          go_simp
          go_wp2_with (go_at_call 21; refine (HFO.out z3 ee).mono ?_; rintro e z4 ⟨rfl, t⟩)
          have Zr := hpB Zr t
          have Zb := hpB Zb t
          have Za := hpB Za t
          have Zz := hpB Zz t
          have hP := ownBelow hP t
          have hL := ownBelow hL t
          have hV := ownBelow hV t
          have ee := ee.trans (t.mono (Nat.le_trans hB ee.size))
          have ff := ogBelow ff t
          clear t
          refine hK.out _ _ ⟨(rowAt Zb), (rowAt Zz), (rowMid Zr (2) (Rl.bal R)), (rowAt Za)⟩ (fun hH => ?_)
          clear hK K hH
          try simp only [Act.put, List.getElem_toArray, List.getElem_cons_zero, List.getElem_cons_succ, List.setIfInBounds_toArray, List.set_cons_zero, List.set_cons_succ]
          refine wpAnyH_take (i := 14) (v := .bool false) rfl (by kernel_rfl) (by kernel_rfl) (by kernel_rfl) (fun _ _ _ h => h) (Or.inl ⟨by rfl, fun w_ hS_ => by (first | (go_simp; done) | (go_simp; rfl))⟩) ⟨(rowAt Zb), (rowAt Zz), (rowMid Zr (2) (Rl.bal R)), (rowAt Za)⟩ ?_
          try simp only [Act.put, List.getElem_toArray, List.getElem_cons_zero, List.getElem_cons_succ, List.setIfInBounds_toArray, List.set_cons_zero, List.set_cons_succ]
          refine wpAnyH_take (i := 15) (v := .bool false) rfl (by kernel_rfl) (by kernel_rfl) (by kernel_rfl) (fun _ _ _ h => h) (Or.inl ⟨by rfl, fun w_ hS_ => by (first | (go_simp; done) | (go_simp; rfl))⟩) ⟨(rowAt Zb), (rowAt Zz), (rowMid Zr (2) (Rl.bal R)), (rowAt Za)⟩ ?_
          try simp only [Act.put, List.getElem_toArray, List.getElem_cons_zero, List.getElem_cons_succ, List.setIfInBounds_toArray, List.set_cons_zero, List.set_cons_succ]
          refine wpAnyH_take (i := 16) (v := .bool false) rfl (by kernel_rfl) (by kernel_rfl) (by kernel_rfl) (fun _ _ _ h => h) (Or.inl ⟨by rfl, fun w_ hS_ => by (first | (go_simp; done) | (go_simp; rfl))⟩) ⟨(rowAt Zb), (rowAt Zz), (rowMid Zr (2) (Rl.bal R)), (rowAt Za)⟩ ?_
          try simp only [Act.put, List.getElem_toArray, List.getElem_cons_zero, List.getElem_cons_succ, List.setIfInBounds_toArray, List.set_cons_zero, List.set_cons_succ]
          refine wpAnyH_take (i := 17) (v := .int .i64 k) rfl (by kernel_rfl) (by kernel_rfl) (by kernel_rfl) (fun _ _ _ h => h) (Or.inl ⟨by rfl, fun w_ hS_ => by (first | (go_simp; done) | (go_simp; rfl))⟩) ⟨(rowAt Zb), (rowAt Zz), (rowMid Zr (2) (Rl.bal R)), (rowAt Za)⟩ ?_
          try simp only [Act.put, List.getElem_toArray, List.getElem_cons_zero, List.getElem_cons_succ, List.setIfInBounds_toArray, List.set_cons_zero, List.set_cons_succ]
          refine wpAnyH_take (i := 18) (v := .bool true) rfl (by kernel_rfl) (by kernel_rfl) (by kernel_rfl) (fun _ _ _ h => h) (Or.inl ⟨by rfl, fun w_ hS_ => by (first | (go_simp; done) | (go_simp; rfl))⟩) ⟨(rowAt Zb), (rowAt Zz), (rowMid Zr (2) (Rl.bal R)), (rowAt Za)⟩ ?_
          try simp only [Act.put, List.getElem_toArray, List.getElem_cons_zero, List.getElem_cons_succ, List.setIfInBounds_toArray, List.set_cons_zero, List.set_cons_succ]
          refine wpAnyH_take (i := 19) (v := .bool true) rfl (by kernel_rfl) (by kernel_rfl) (by kernel_rfl) (fun _ _ _ h => h) (Or.inl ⟨by rfl, fun w_ hS_ => by (first | (go_simp; done) | (go_simp; rfl))⟩) ⟨(rowAt Zb), (rowAt Zz), (rowMid Zr (2) (Rl.bal R)), (rowAt Za)⟩ ?_
          try simp only [Act.put, List.getElem_toArray, List.getElem_cons_zero, List.getElem_cons_succ, List.setIfInBounds_toArray, List.set_cons_zero, List.set_cons_succ]
          refine wpAnyH_take (i := 20) (v := .bool true) rfl (by kernel_rfl) (by kernel_rfl) (by kernel_rfl) (fun _ _ _ h => h) (Or.inl ⟨by rfl, fun w_ hS_ => by (first | (go_simp; done) | (go_simp; rfl))⟩) ⟨(rowAt Zb), (rowAt Zz), (rowMid Zr (2) (Rl.bal R)), (rowAt Za)⟩ ?_
          try simp only [Act.put, List.getElem_toArray, List.getElem_cons_zero, List.getElem_cons_succ, List.setIfInBounds_toArray, List.set_cons_zero, List.set_cons_succ]
          refine wpAnyH_take (i := 21) (v := undef) rfl (by kernel_rfl) (by kernel_rfl) (by kernel_rfl) (fun _ _ _ h => h) (Or.inr ⟨by rfl, rfl⟩) ⟨(rowAt Zb), (rowAt Zz), (rowMid Zr (2) (Rl.bal R)), (rowAt Za)⟩ ?_
          try simp only [Act.put, List.getElem_toArray, List.getElem_cons_zero, List.getElem_cons_succ, List.setIfInBounds_toArray, List.set_cons_zero, List.set_cons_succ]
          refine wpAnyH_take (i := 22) (v := undef) rfl (by kernel_rfl) (by kernel_rfl) (by kernel_rfl) (fun _ _ _ h => h) (Or.inr ⟨by rfl, rfl⟩) ⟨(rowAt Zb), (rowAt Zz), (rowMid Zr (2) (Rl.bal R)), (rowAt Za)⟩ ?_
          try simp only [Act.put, List.getElem_toArray, List.getElem_cons_zero, List.getElem_cons_succ, List.setIfInBounds_toArray, List.set_cons_zero, List.set_cons_succ]
          refine wpAnyH_take (i := 23) (v := undef) rfl (by kernel_rfl) (by kernel_rfl) (by kernel_rfl) (fun _ _ _ h => h) (Or.inr ⟨by rfl, rfl⟩) ⟨(rowAt Zb), (rowAt Zz), (rowMid Zr (2) (Rl.bal R)), (rowAt Za)⟩ ?_
          try simp only [Act.put, List.getElem_toArray, List.getElem_cons_zero, List.getElem_cons_succ, List.setIfInBounds_toArray, List.set_cons_zero, List.set_cons_succ]
          refine wpAnyH_take (i := 24) (v := undef) rfl (by kernel_rfl) (by kernel_rfl) (by kernel_rfl) (fun _ _ _ h => h) (Or.inr ⟨by rfl, rfl⟩) ⟨(rowAt Zb), (rowAt Zz), (rowMid Zr (2) (Rl.bal R)), (rowAt Za)⟩ ?_
          try simp only [Act.put, List.getElem_toArray, List.getElem_cons_zero, List.getElem_cons_succ, List.setIfInBounds_toArray, List.set_cons_zero, List.set_cons_succ]
          refine wpAnyH_take (i := 25) (v := undef) rfl (by kernel_rfl) (by kernel_rfl) (by kernel_rfl) (fun _ _ _ h => h) (Or.inr ⟨by rfl, rfl⟩) ⟨(rowAt Zb), (rowAt Zz), (rowMid Zr (2) (Rl.bal R)), (rowAt Za)⟩ ?_
          try simp only [Act.put, List.getElem_toArray, List.getElem_cons_zero, List.getElem_cons_succ, List.setIfInBounds_toArray, List.set_cons_zero, List.set_cons_succ]
          refine wpAnyH_take (i := 26) (v := undef) rfl (by kernel_rfl) (by kernel_rfl) (by kernel_rfl) (fun _ _ _ h => h) (Or.inr ⟨by rfl, rfl⟩) ⟨(rowAt Zb), (rowAt Zz), (rowMid Zr (2) (Rl.bal R)), (rowAt Za)⟩ ?_
          try simp only [Act.put, List.getElem_toArray, List.getElem_cons_zero, List.getElem_cons_succ, List.setIfInBounds_toArray, List.set_cons_zero, List.set_cons_succ]
          refine wpAnyH_take (i := 27) (v := .bool true) rfl (by kernel_rfl) (by kernel_rfl) (by kernel_rfl) (fun _ _ _ h => h) (Or.inl ⟨by rfl, fun w_ hS_ => by (first | (go_simp; done) | (go_simp; rfl))⟩) ⟨(rowAt Zb), (rowAt Zz), (rowMid Zr (2) (Rl.bal R)), (rowAt Za)⟩ ?_
          try simp only [Act.put, List.getElem_toArray, List.getElem_cons_zero, List.getElem_cons_succ, List.setIfInBounds_toArray, List.set_cons_zero, List.set_cons_succ]
          refine wpAnyH_take (i := 28) (v := .bool true) rfl (by kernel_rfl) (by kernel_rfl) (by kernel_rfl) (fun _ _ _ h => h) (Or.inl ⟨by rfl, fun w_ hS_ => by (first | (go_simp; done) | (go_simp; rfl))⟩) ⟨(rowAt Zb), (rowAt Zz), (rowMid Zr (2) (Rl.bal R)), (rowAt Za)⟩ ?_
          try simp only [Act.put, List.getElem_toArray, List.getElem_cons_zero, List.getElem_cons_succ, List.setIfInBounds_toArray, List.set_cons_zero, List.set_cons_succ]
          refine wpAnyH_take (i := 29) (v := undef) rfl (by kernel_rfl) (by kernel_rfl) (by kernel_rfl) (fun _ _ _ h => h) (Or.inr ⟨by rfl, rfl⟩) ⟨(rowAt Zb), (rowAt Zz), (rowMid Zr (2) (Rl.bal R)), (rowAt Za)⟩ ?_
          try simp only [Act.put, List.getElem_toArray, List.getElem_cons_zero, List.getElem_cons_succ, List.setIfInBounds_toArray, List.set_cons_zero, List.set_cons_succ]
          refine wpAnyH_take (i := 30) (v := undef) rfl (by kernel_rfl) (by kernel_rfl) (by kernel_rfl) (fun _ _ _ h => h) (Or.inr ⟨by rfl, rfl⟩) ⟨(rowAt Zb), (rowAt Zz), (rowMid Zr (2) (Rl.bal R)), (rowAt Za)⟩ ?_
          try simp only [Act.put, List.getElem_toArray, List.getElem_cons_zero, List.getElem_cons_succ, List.setIfInBounds_toArray, List.set_cons_zero, List.set_cons_succ]
          refine wpAnyH_take (i := 31) (v := undef) rfl (by kernel_rfl) (by kernel_rfl) (by kernel_rfl) (fun _ _ _ h => h) (Or.inr ⟨by rfl, rfl⟩) ⟨(rowAt Zb), (rowAt Zz), (rowMid Zr (2) (Rl.bal R)), (rowAt Za)⟩ ?_
          try simp only [Act.put, List.getElem_toArray, List.getElem_cons_zero, List.getElem_cons_succ, List.setIfInBounds_toArray, List.set_cons_zero, List.set_cons_succ]
          refine wpAnyH_take (i := 32) (v := undef) rfl (by kernel_rfl) (by kernel_rfl) (by kernel_rfl) (fun _ _ _ h => h) (Or.inr ⟨by rfl, rfl⟩) ⟨(rowAt Zb), (rowAt Zz), (rowMid Zr (2) (Rl.bal R)), (rowAt Za)⟩ ?_
          try simp only [Act.put, List.getElem_toArray, List.getElem_cons_zero, List.getElem_cons_succ, List.setIfInBounds_toArray, List.set_cons_zero, List.set_cons_succ]
          refine wpAnyH_take (i := 33) (v := undef) rfl (by kernel_rfl) (by kernel_rfl) (by kernel_rfl) (fun _ _ _ h => h) (Or.inr ⟨by rfl, rfl⟩) ⟨(rowAt Zb), (rowAt Zz), (rowMid Zr (2) (Rl.bal R)), (rowAt Za)⟩ ?_
          try simp only [Act.put, List.getElem_toArray, List.getElem_cons_zero, List.getElem_cons_succ, List.setIfInBounds_toArray, List.set_cons_zero, List.set_cons_succ]
          refine wpAnyH_take (i := 34) (v := undef) rfl (by kernel_rfl) (by kernel_rfl) (by kernel_rfl) (fun _ _ _ h => h) (Or.inr ⟨by rfl, rfl⟩) ⟨(rowAt Zb), (rowAt Zz), (rowMid Zr (2) (Rl.bal R)), (rowAt Za)⟩ ?_
          try simp only [Act.put, List.getElem_toArray, List.getElem_cons_zero, List.getElem_cons_succ, List.setIfInBounds_toArray, List.set_cons_zero, List.set_cons_succ]
          refine wpAnyH_take (i := 35) (v := .bool true) rfl (by kernel_rfl) (by kernel_rfl) (by kernel_rfl) (fun _ _ _ h => h) (Or.inl ⟨by rfl, fun w_ hS_ => by (first | (go_simp; done) | (go_simp; rfl))⟩) ⟨(rowAt Zb), (rowAt Zz), (rowMid Zr (2) (Rl.bal R)), (rowAt Za)⟩ ?_
          try simp only [Act.put, List.getElem_toArray, List.getElem_cons_zero, List.getElem_cons_succ, List.setIfInBounds_toArray, List.set_cons_zero, List.set_cons_succ]
          refine wpAnyH_done (by kernel_rfl) ?_ _
          clear HIN HFO hI hJ h4 h5
          go_wp2_with fail
          go_ret
          exact ⟨RetB.mk _, ⟨R, (H.out.keepF ff ee Zr hP hL hV).more⟩, ff, ee⟩
        | false =>
          cases d5 with
          | true =>
            have Zr : z2.drew.heap[r]? = some (.cells R.cells.toArray 150) := Zr
            have Zb : z2.drew.heap[w.heap.size]? = some (.cells [.int .u32 (br : Int), .int .i64 bn].toArray 40) := Zb
            have Za : z2.drew.heap[w.heap.size + 1]? = some (.cells a.cells.toArray 43) := Za
            have Zz : z2.drew.heap[gz]? = some (.cells ([.int .u32 0, .int .i64 0]).toArray 40) := Zz
            have hP := World.ownsRow.drew hP
            have hL := World.ownsRow.drew hL
            have hV := World.ownsRow.drew hV
            have ee := belowDrewS ee
            have ff := ogDrew ff
            refine wp_region_held_drew (S := fun z' => z'.rangeAt w.heap.size (0) ([.int .u32 (br : Int), .int .i64 bn]) ∧ z'.rangeAt gz (0) ([.int .u32 0, .int .i64 0]) ∧ z'.rangeAt r (2) ([.int .u32 (R.br : Int), .int .i64 R.bn]) ∧ z'.rangeAt (w.heap.size + 1) (0) a.cells ∧ z'.cell? ⟨r, 0, none⟩ = some (.int .i64 R.n)) (by kernel_rfl) ⟨(rowAt Zb), (rowAt Zz), (rowMid Zr (2) (Rl.bal R)), (rowAt Za), (rowCell Zr (0) rfl)⟩ (fun hH => ?_)
            clear hH
            generalize z2.drew = z3 at Zr Zb Za Zz hP hL hV ee ff ⊢
            refine wpAnyH_take (i := 0) (v := .agg ([.int .u32 (br : Int), .int .i64 bn]).toArray) rfl (by kernel_rfl) (by kernel_rfl) (by kernel_rfl) (fun _ _ _ h => h) (yieldsIf_load_mid (by rfl) 40 _ rfl (w.heap.size) (0) rfl ([.int .u32 (br : Int), .int .i64 bn]) _ (fun _ h => h.1) Tryd.underlying40 rfl sizeRBal) ⟨(rowAt Zb), (rowAt Zz), (rowMid Zr (2) (Rl.bal R)), (rowAt Za), (rowCell Zr (0) rfl)⟩ ?_
            try simp only [Act.put, List.getElem_toArray, List.getElem_cons_zero, List.getElem_cons_succ, List.setIfInBounds_toArray, List.set_cons_zero, List.set_cons_succ]
            refine wpAnyH_take (i := 1) (v := .agg ([.int .u32 0, .int .i64 0]).toArray) rfl (by kernel_rfl) (by kernel_rfl) (by kernel_rfl) (fun _ _ _ h => h) (yieldsIf_load_mid (by rfl) 40 _ rfl (gz) (0) rfl ([.int .u32 0, .int .i64 0]) _ (fun _ h => h.2.1) Tryd.underlying40 rfl sizeRBal) ⟨(rowAt Zb), (rowAt Zz), (rowMid Zr (2) (Rl.bal R)), (rowAt Za), (rowCell Zr (0) rfl)⟩ ?_
            try simp only [Act.put, List.getElem_toArray, List.getElem_cons_zero, List.getElem_cons_succ, List.setIfInBounds_toArray, List.set_cons_zero, List.set_cons_succ]
            refine wpAnyH_take (i := 2) (v := .bool false) rfl (by kernel_rfl) (by kernel_rfl) (by kernel_rfl) (fun _ _ _ h => h) (Or.inl ⟨by rfl, fun w_ hS_ => by (first | (go_simp; done) | (go_simp; rfl))⟩) ⟨(rowAt Zb), (rowAt Zz), (rowMid Zr (2) (Rl.bal R)), (rowAt Za), (rowCell Zr (0) rfl)⟩ ?_
            try simp only [Act.put, List.getElem_toArray, List.getElem_cons_zero, List.getElem_cons_succ, List.setIfInBounds_toArray, List.set_cons_zero, List.set_cons_succ]
            refine wpAnyH_take (i := 3) (v := .bool false) rfl (by kernel_rfl) (by kernel_rfl) (by kernel_rfl) (fun _ _ _ h => h) (Or.inl ⟨by rfl, fun w_ hS_ => by (first | (go_simp; done) | (go_simp; rfl))⟩) ⟨(rowAt Zb), (rowAt Zz), (rowMid Zr (2) (Rl.bal R)), (rowAt Za), (rowCell Zr (0) rfl)⟩ ?_
            try simp only [Act.put, List.getElem_toArray, List.getElem_cons_zero, List.getElem_cons_succ, List.setIfInBounds_toArray, List.set_cons_zero, List.set_cons_succ]
            refine wpAnyH_take (i := 4) (v := .agg ([.int .u32 (br : Int), .int .i64 bn]).toArray) rfl (by kernel_rfl) (by kernel_rfl) (by kernel_rfl) (fun _ _ _ h => h) (yieldsIf_load_mid (by rfl) 40 _ rfl (w.heap.size) (0) rfl ([.int .u32 (br : Int), .int .i64 bn]) _ (fun _ h => h.1) Tryd.underlying40 rfl sizeRBal) ⟨(rowAt Zb), (rowAt Zz), (rowMid Zr (2) (Rl.bal R)), (rowAt Za), (rowCell Zr (0) rfl)⟩ ?_
            try simp only [Act.put, List.getElem_toArray, List.getElem_cons_zero, List.getElem_cons_succ, List.setIfInBounds_toArray, List.set_cons_zero, List.set_cons_succ]
            refine wpAnyH_take (i := 5) (v := .pointer (some ⟨r, 0, none⟩)) rfl (by kernel_rfl) (by kernel_rfl) (by kernel_rfl) (fun _ _ _ h => h) (Or.inl ⟨by rfl, fun w_ hS_ => by (first | (go_simp; done) | (go_simp; rfl))⟩) ⟨(rowAt Zb), (rowAt Zz), (rowMid Zr (2) (Rl.bal R)), (rowAt Za), (rowCell Zr (0) rfl)⟩ ?_
            try simp only [Act.put, List.getElem_toArray, List.getElem_cons_zero, List.getElem_cons_succ, List.setIfInBounds_toArray, List.set_cons_zero, List.set_cons_succ]
            refine wpAnyH_take (i := 6) (v := .pointer (some ⟨r, 0, none⟩)) rfl (by kernel_rfl) (by kernel_rfl) (by kernel_rfl) (fun _ _ _ h => h) (Or.inl ⟨by rfl, fun w_ hS_ => by (first | (go_simp; done) | (go_simp; rfl))⟩) ⟨(rowAt Zb), (rowAt Zz), (rowMid Zr (2) (Rl.bal R)), (rowAt Za), (rowCell Zr (0) rfl)⟩ ?_
            try simp only [Act.put, List.getElem_toArray, List.getElem_cons_zero, List.getElem_cons_succ, List.setIfInBounds_toArray, List.set_cons_zero, List.set_cons_succ]
            refine wpAnyH_take (i := 7) (v := .pointer (some ⟨r, 2, none⟩)) rfl (by kernel_rfl) (by kernel_rfl) (by kernel_rfl) (fun _ _ _ h => h) (Or.inl ⟨by rfl, fun w_ hS_ => by (first | (go_simp; done) | (go_simp; rfl))⟩) ⟨(rowAt Zb), (rowAt Zz), (rowMid Zr (2) (Rl.bal R)), (rowAt Za), (rowCell Zr (0) rfl)⟩ ?_
            try simp only [Act.put, List.getElem_toArray, List.getElem_cons_zero, List.getElem_cons_succ, List.setIfInBounds_toArray, List.set_cons_zero, List.set_cons_succ]
            refine wpAnyH_take (i := 8) (v := .agg ([.int .u32 (R.br : Int), .int .i64 R.bn]).toArray) rfl (by kernel_rfl) (by kernel_rfl) (by kernel_rfl) (fun _ _ _ h => h) (yieldsIf_load_mid (by rfl) 40 _ rfl (r) (2) rfl ([.int .u32 (R.br : Int), .int .i64 R.bn]) _ (fun _ h => h.2.2.1) Tryd.underlying40 rfl sizeRBal) ⟨(rowAt Zb), (rowAt Zz), (rowMid Zr (2) (Rl.bal R)), (rowAt Za), (rowCell Zr (0) rfl)⟩ ?_
            try simp only [Act.put, List.getElem_toArray, List.getElem_cons_zero, List.getElem_cons_succ, List.setIfInBounds_toArray, List.set_cons_zero, List.set_cons_succ]
            refine wpAnyH_take (i := 9) (v := .bool false) rfl (by kernel_rfl) (by kernel_rfl) (by kernel_rfl) (fun _ _ _ h => h) (Or.inl ⟨by rfl, fun w_ hS_ => by (first | (go_simp; done) | (go_simp; rfl))⟩) ⟨(rowAt Zb), (rowAt Zz), (rowMid Zr (2) (Rl.bal R)), (rowAt Za), (rowCell Zr (0) rfl)⟩ ?_
            try simp only [Act.put, List.getElem_toArray, List.getElem_cons_zero, List.getElem_cons_succ, List.setIfInBounds_toArray, List.set_cons_zero, List.set_cons_succ]
            refine wpAnyH_take (i := 10) (v := .bool false) rfl (by kernel_rfl) (by kernel_rfl) (by kernel_rfl) (fun _ _ _ h => h) (Or.inl ⟨by rfl, fun w_ hS_ => by (first | (go_simp; done) | (go_simp; rfl))⟩) ⟨(rowAt Zb), (rowAt Zz), (rowMid Zr (2) (Rl.bal R)), (rowAt Za), (rowCell Zr (0) rfl)⟩ ?_
            try simp only [Act.put, List.getElem_toArray, List.getElem_cons_zero, List.getElem_cons_succ, List.setIfInBounds_toArray, List.set_cons_zero, List.set_cons_succ]
            refine wpAnyH_take (i := 11) (v := .bool false) rfl (by kernel_rfl) (by kernel_rfl) (by kernel_rfl) (fun _ _ _ h => h) (Or.inl ⟨by rfl, fun w_ hS_ => by (first | (go_simp; done) | (go_simp; rfl))⟩) ⟨(rowAt Zb), (rowAt Zz), (rowMid Zr (2) (Rl.bal R)), (rowAt Za), (rowCell Zr (0) rfl)⟩ ?_
            try simp only [Act.put, List.getElem_toArray, List.getElem_cons_zero, List.getElem_cons_succ, List.setIfInBounds_toArray, List.set_cons_zero, List.set_cons_succ]
            refine wpAnyH_take (i := 12) (v := .agg (a.cells).toArray) rfl (by kernel_rfl) (by kernel_rfl) (by kernel_rfl) (fun _ _ _ h => h) (yieldsIf_load_mid (by rfl) 43 _ rfl (w.heap.size + 1) (0) rfl (a.cells) _ (fun _ h => h.2.2.2.1) Tryd.underlying43 rfl sizeRAc) ⟨(rowAt Zb), (rowAt Zz), (rowMid Zr (2) (Rl.bal R)), (rowAt Za), (rowCell Zr (0) rfl)⟩ ?_
            try simp only [Act.put, List.getElem_toArray, List.getElem_cons_zero, List.getElem_cons_succ, List.setIfInBounds_toArray, List.set_cons_zero, List.set_cons_succ]
            refine wpAnyH_ready (rs := [13]) (by kernel_rfl) (by simp) ?_
            refine AllReadyH.cons rfl (fun K hK => ?_) AllReadyH.nil
            rw [if_pos (by rfl)]
            go_simp
            go_wp2_with (go_at_call 21; refine (HFO.out z3 ee).mono ?_; rintro e z4 ⟨rfl, t⟩)
            have Zr := hpB Zr t
            have Zb := hpB Zb t
            have Za := hpB Za t
            have Zz := hpB Zz t
            have hP := ownBelow hP t
            have hL := ownBelow hL t
            have hV := ownBelow hV t
            have ee := ee.trans (t.mono (Nat.le_trans hB ee.size))
            have ff := ogBelow ff t
            clear t
            refine hK.out _ _ ⟨(rowAt Zb), (rowAt Zz), (rowMid Zr (2) (Rl.bal R)), (rowAt Za), (rowCell Zr (0) rfl)⟩ (fun hH => ?_)
            clear hK K hH
            try simp only [Act.put, List.getElem_toArray, List.getElem_cons_zero, List.getElem_cons_succ, List.setIfInBounds_toArray, List.set_cons_zero, List.set_cons_succ]
            refine wpAnyH_take (i := 14) (v := .bool false) rfl (by kernel_rfl) (by kernel_rfl) (by kernel_rfl) (fun _ _ _ h => h) (Or.inl ⟨by rfl, fun w_ hS_ => by (first | (go_simp; done) | (go_simp; rfl))⟩) ⟨(rowAt Zb), (rowAt Zz), (rowMid Zr (2) (Rl.bal R)), (rowAt Za), (rowCell Zr (0) rfl)⟩ ?_
            try simp only [Act.put, List.getElem_toArray, List.getElem_cons_zero, List.getElem_cons_succ, List.setIfInBounds_toArray, List.set_cons_zero, List.set_cons_succ]
            refine wpAnyH_take (i := 15) (v := .bool false) rfl (by kernel_rfl) (by kernel_rfl) (by kernel_rfl) (fun _ _ _ h => h) (Or.inl ⟨by rfl, fun w_ hS_ => by (first | (go_simp; done) | (go_simp; rfl))⟩) ⟨(rowAt Zb), (rowAt Zz), (rowMid Zr (2) (Rl.bal R)), (rowAt Za), (rowCell Zr (0) rfl)⟩ ?_
            try simp only [Act.put, List.getElem_toArray, List.getElem_cons_zero, List.getElem_cons_succ, List.setIfInBounds_toArray, List.set_cons_zero, List.set_cons_succ]
            refine wpAnyH_take (i := 16) (v := .bool false) rfl (by kernel_rfl) (by kernel_rfl) (by kernel_rfl) (fun _ _ _ h => h) (Or.inl ⟨by rfl, fun w_ hS_ => by (first | (go_simp; done) | (go_simp; rfl))⟩) ⟨(rowAt Zb), (rowAt Zz), (rowMid Zr (2) (Rl.bal R)), (rowAt Za), (rowCell Zr (0) rfl)⟩ ?_
            try simp only [Act.put, List.getElem_toArray, List.getElem_cons_zero, List.getElem_cons_succ, List.setIfInBounds_toArray, List.set_cons_zero, List.set_cons_succ]
            refine wpAnyH_take (i := 17) (v := .int .i64 k) rfl (by kernel_rfl) (by kernel_rfl) (by kernel_rfl) (fun _ _ _ h => h) (Or.inl ⟨by rfl, fun w_ hS_ => by (first | (go_simp; done) | (go_simp; rfl))⟩) ⟨(rowAt Zb), (rowAt Zz), (rowMid Zr (2) (Rl.bal R)), (rowAt Za), (rowCell Zr (0) rfl)⟩ ?_
            try simp only [Act.put, List.getElem_toArray, List.getElem_cons_zero, List.getElem_cons_succ, List.setIfInBounds_toArray, List.set_cons_zero, List.set_cons_succ]
            refine wpAnyH_take (i := 18) (v := .bool false) rfl (by kernel_rfl) (by kernel_rfl) (by kernel_rfl) (fun _ _ _ h => h) (Or.inl ⟨by rfl, fun w_ hS_ => by (first | (go_simp; done) | (go_simp; rfl))⟩) ⟨(rowAt Zb), (rowAt Zz), (rowMid Zr (2) (Rl.bal R)), (rowAt Za), (rowCell Zr (0) rfl)⟩ ?_
            try simp only [Act.put, List.getElem_toArray, List.getElem_cons_zero, List.getElem_cons_succ, List.setIfInBounds_toArray, List.set_cons_zero, List.set_cons_succ]
            refine wpAnyH_take (i := 19) (v := .bool false) rfl (by kernel_rfl) (by kernel_rfl) (by kernel_rfl) (fun _ _ _ h => h) (Or.inl ⟨by rfl, fun w_ hS_ => by (first | (go_simp; done) | (go_simp; rfl))⟩) ⟨(rowAt Zb), (rowAt Zz), (rowMid Zr (2) (Rl.bal R)), (rowAt Za), (rowCell Zr (0) rfl)⟩ ?_
            try simp only [Act.put, List.getElem_toArray, List.getElem_cons_zero, List.getElem_cons_succ, List.setIfInBounds_toArray, List.set_cons_zero, List.set_cons_succ]
            refine wpAnyH_take (i := 20) (v := .bool false) rfl (by kernel_rfl) (by kernel_rfl) (by kernel_rfl) (fun _ _ _ h => h) (Or.inl ⟨by rfl, fun w_ hS_ => by (first | (go_simp; done) | (go_simp; rfl))⟩) ⟨(rowAt Zb), (rowAt Zz), (rowMid Zr (2) (Rl.bal R)), (rowAt Za), (rowCell Zr (0) rfl)⟩ ?_
            try simp only [Act.put, List.getElem_toArray, List.getElem_cons_zero, List.getElem_cons_succ, List.setIfInBounds_toArray, List.set_cons_zero, List.set_cons_succ]
            refine wpAnyH_take (i := 21) (v := .int .i64 k) rfl (by kernel_rfl) (by kernel_rfl) (by kernel_rfl) (fun _ _ _ h => h) (Or.inl ⟨by rfl, fun w_ hS_ => by (first | (go_simp; done) | (go_simp; rfl))⟩) ⟨(rowAt Zb), (rowAt Zz), (rowMid Zr (2) (Rl.bal R)), (rowAt Za), (rowCell Zr (0) rfl)⟩ ?_
            try simp only [Act.put, List.getElem_toArray, List.getElem_cons_zero, List.getElem_cons_succ, List.setIfInBounds_toArray, List.set_cons_zero, List.set_cons_succ]
            refine wpAnyH_take (i := 22) (v := .pointer (some ⟨r, 0, none⟩)) rfl (by kernel_rfl) (by kernel_rfl) (by kernel_rfl) (fun _ _ _ h => h) (Or.inl ⟨by rfl, fun w_ hS_ => by (first | (go_simp; done) | (go_simp; rfl))⟩) ⟨(rowAt Zb), (rowAt Zz), (rowMid Zr (2) (Rl.bal R)), (rowAt Za), (rowCell Zr (0) rfl)⟩ ?_
            try simp only [Act.put, List.getElem_toArray, List.getElem_cons_zero, List.getElem_cons_succ, List.setIfInBounds_toArray, List.set_cons_zero, List.set_cons_succ]
            refine wpAnyH_take (i := 23) (v := .pointer (some ⟨r, 0, none⟩)) rfl (by kernel_rfl) (by kernel_rfl) (by kernel_rfl) (fun _ _ _ h => h) (Or.inl ⟨by rfl, fun w_ hS_ => by (first | (go_simp; done) | (go_simp; rfl))⟩) ⟨(rowAt Zb), (rowAt Zz), (rowMid Zr (2) (Rl.bal R)), (rowAt Za), (rowCell Zr (0) rfl)⟩ ?_
            try simp only [Act.put, List.getElem_toArray, List.getElem_cons_zero, List.getElem_cons_succ, List.setIfInBounds_toArray, List.set_cons_zero, List.set_cons_succ]
            refine wpAnyH_take (i := 24) (v := .pointer (some ⟨r, 0, none⟩)) rfl (by kernel_rfl) (by kernel_rfl) (by kernel_rfl) (fun _ _ _ h => h) (Or.inl ⟨by rfl, fun w_ hS_ => by (first | (go_simp; done) | (go_simp; rfl))⟩) ⟨(rowAt Zb), (rowAt Zz), (rowMid Zr (2) (Rl.bal R)), (rowAt Za), (rowCell Zr (0) rfl)⟩ ?_
            try simp only [Act.put, List.getElem_toArray, List.getElem_cons_zero, List.getElem_cons_succ, List.setIfInBounds_toArray, List.set_cons_zero, List.set_cons_succ]
            refine wpAnyH_take (i := 25) (v := .int .i64 R.n) rfl (by kernel_rfl) (by kernel_rfl) (by kernel_rfl) (fun _ _ _ h => h) (Or.inl ⟨by rfl, fun w_ hS_ => by (have c_ := hS_.2.2.2.2; first | (go_simp; done) | (go_simp; rfl))⟩) ⟨(rowAt Zb), (rowAt Zz), (rowMid Zr (2) (Rl.bal R)), (rowAt Za), (rowCell Zr (0) rfl)⟩ ?_
            try simp only [Act.put, List.getElem_toArray, List.getElem_cons_zero, List.getElem_cons_succ, List.setIfInBounds_toArray, List.set_cons_zero, List.set_cons_succ]
            refine wpAnyH_take (i := 26) (v := .bool true) rfl (by kernel_rfl) (by kernel_rfl) (by kernel_rfl) (fun _ _ _ h => h) (Or.inl ⟨by rfl, fun w_ hS_ => by (first | (go_simp; done) | (go_simp; rfl))⟩) ⟨(rowAt Zb), (rowAt Zz), (rowMid Zr (2) (Rl.bal R)), (rowAt Za), (rowCell Zr (0) rfl)⟩ ?_
            try simp only [Act.put, List.getElem_toArray, List.getElem_cons_zero, List.getElem_cons_succ, List.setIfInBounds_toArray, List.set_cons_zero, List.set_cons_succ]
            refine wpAnyH_take (i := 27) (v := .bool true) rfl (by kernel_rfl) (by kernel_rfl) (by kernel_rfl) (fun _ _ _ h => h) (Or.inl ⟨by rfl, fun w_ hS_ => by (first | (go_simp; done) | (go_simp; rfl))⟩) ⟨(rowAt Zb), (rowAt Zz), (rowMid Zr (2) (Rl.bal R)), (rowAt Za), (rowCell Zr (0) rfl)⟩ ?_
            try simp only [Act.put, List.getElem_toArray, List.getElem_cons_zero, List.getElem_cons_succ, List.setIfInBounds_toArray, List.set_cons_zero, List.set_cons_succ]
            refine wpAnyH_take (i := 28) (v := .bool true) rfl (by kernel_rfl) (by kernel_rfl) (by kernel_rfl) (fun _ _ _ h => h) (Or.inl ⟨by rfl, fun w_ hS_ => by (first | (go_simp; done) | (go_simp; rfl))⟩) ⟨(rowAt Zb), (rowAt Zz), (rowMid Zr (2) (Rl.bal R)), (rowAt Za), (rowCell Zr (0) rfl)⟩ ?_
            try simp only [Act.put, List.getElem_toArray, List.getElem_cons_zero, List.getElem_cons_succ, List.setIfInBounds_toArray, List.set_cons_zero, List.set_cons_succ]
            refine wpAnyH_take (i := 29) (v := undef) rfl (by kernel_rfl) (by kernel_rfl) (by kernel_rfl) (fun _ _ _ h => h) (Or.inr ⟨by rfl, rfl⟩) ⟨(rowAt Zb), (rowAt Zz), (rowMid Zr (2) (Rl.bal R)), (rowAt Za), (rowCell Zr (0) rfl)⟩ ?_
            try simp only [Act.put, List.getElem_toArray, List.getElem_cons_zero, List.getElem_cons_succ, List.setIfInBounds_toArray, List.set_cons_zero, List.set_cons_succ]
            refine wpAnyH_take (i := 30) (v := undef) rfl (by kernel_rfl) (by kernel_rfl) (by kernel_rfl) (fun _ _ _ h => h) (Or.inr ⟨by rfl, rfl⟩) ⟨(rowAt Zb), (rowAt Zz), (rowMid Zr (2) (Rl.bal R)), (rowAt Za), (rowCell Zr (0) rfl)⟩ ?_
            try simp only [Act.put, List.getElem_toArray, List.getElem_cons_zero, List.getElem_cons_succ, List.setIfInBounds_toArray, List.set_cons_zero, List.set_cons_succ]
            refine wpAnyH_take (i := 31) (v := undef) rfl (by kernel_rfl) (by kernel_rfl) (by kernel_rfl) (fun _ _ _ h => h) (Or.inr ⟨by rfl, rfl⟩) ⟨(rowAt Zb), (rowAt Zz), (rowMid Zr (2) (Rl.bal R)), (rowAt Za), (rowCell Zr (0) rfl)⟩ ?_
            try simp only [Act.put, List.getElem_toArray, List.getElem_cons_zero, List.getElem_cons_succ, List.setIfInBounds_toArray, List.set_cons_zero, List.set_cons_succ]
            refine wpAnyH_take (i := 32) (v := undef) rfl (by kernel_rfl) (by kernel_rfl) (by kernel_rfl) (fun _ _ _ h => h) (Or.inr ⟨by rfl, rfl⟩) ⟨(rowAt Zb), (rowAt Zz), (rowMid Zr (2) (Rl.bal R)), (rowAt Za), (rowCell Zr (0) rfl)⟩ ?_
            try simp only [Act.put, List.getElem_toArray, List.getElem_cons_zero, List.getElem_cons_succ, List.setIfInBounds_toArray, List.set_cons_zero, List.set_cons_succ]
            refine wpAnyH_take (i := 33) (v := undef) rfl (by kernel_rfl) (by kernel_rfl) (by kernel_rfl) (fun _ _ _ h => h) (Or.inr ⟨by rfl, rfl⟩) ⟨(rowAt Zb), (rowAt Zz), (rowMid Zr (2) (Rl.bal R)), (rowAt Za), (rowCell Zr (0) rfl)⟩ ?_
            try simp only [Act.put, List.getElem_toArray, List.getElem_cons_zero, List.getElem_cons_succ, List.setIfInBounds_toArray, List.set_cons_zero, List.set_cons_succ]
            refine wpAnyH_take (i := 34) (v := undef) rfl (by kernel_rfl) (by kernel_rfl) (by kernel_rfl) (fun _ _ _ h => h) (Or.inr ⟨by rfl, rfl⟩) ⟨(rowAt Zb), (rowAt Zz), (rowMid Zr (2) (Rl.bal R)), (rowAt Za), (rowCell Zr (0) rfl)⟩ ?_
            try simp only [Act.put, List.getElem_toArray, List.getElem_cons_zero, List.getElem_cons_succ, List.setIfInBounds_toArray, List.set_cons_zero, List.set_cons_succ]
            refine wpAnyH_take (i := 35) (v := .bool true) rfl (by kernel_rfl) (by kernel_rfl) (by kernel_rfl) (fun _ _ _ h => h) (Or.inl ⟨by rfl, fun w_ hS_ => by (first | (go_simp; done) | (go_simp; rfl))⟩) ⟨(rowAt Zb), (rowAt Zz), (rowMid Zr (2) (Rl.bal R)), (rowAt Za), (rowCell Zr (0) rfl)⟩ ?_
            try simp only [Act.put, List.getElem_toArray, List.getElem_cons_zero, List.getElem_cons_succ, List.setIfInBounds_toArray, List.set_cons_zero, List.set_cons_succ]
            refine wpAnyH_done (by kernel_rfl) ?_ _
            clear HIN HFO hI hJ h4 h5
            go_wp2_with fail
            go_ret
            exact ⟨RetB.mk _, ⟨R, (H.out.keepF ff ee Zr hP hL hV).more⟩, ff, ee⟩
          | false =>
            cases d6 with
            | true =>
              have Zr : z2.drew.heap[r]? = some (.cells R.cells.toArray 150) := Zr
              have Zb : z2.drew.heap[w.heap.size]? = some (.cells [.int .u32 (br : Int), .int .i64 bn].toArray 40) := Zb
              have Za : z2.drew.heap[w.heap.size + 1]? = some (.cells a.cells.toArray 43) := Za
              have Zz : z2.drew.heap[gz]? = some (.cells ([.int .u32 0, .int .i64 0]).toArray 40) := Zz
              have hP := World.ownsRow.drew hP
              have hL := World.ownsRow.drew hL
              have hV := World.ownsRow.drew hV
              have ee := belowDrewS ee
              have ff := ogDrew ff
              refine wp_region_held_drew (S := fun z' => z'.rangeAt w.heap.size (0) ([.int .u32 (br : Int), .int .i64 bn]) ∧ z'.rangeAt gz (0) ([.int .u32 0, .int .i64 0]) ∧ z'.rangeAt r (2) ([.int .u32 (R.br : Int), .int .i64 R.bn]) ∧ z'.rangeAt (w.heap.size + 1) (0) a.cells ∧ z'.cell? ⟨r, 0, none⟩ = some (.int .i64 R.n) ∧ z'.cell? ⟨r, 4, none⟩ = some (.slice R.PA R.ps.length R.pc)) (by kernel_rfl) ⟨(rowAt Zb), (rowAt Zz), (rowMid Zr (2) (Rl.bal R)), (rowAt Za), (rowCell Zr (0) rfl), (rowCell Zr (4) rfl)⟩ (fun hH => ?_)
              clear hH
              generalize z2.drew = z3 at Zr Zb Za Zz hP hL hV ee ff ⊢
              refine wpAnyH_take (i := 0) (v := .agg ([.int .u32 (br : Int), .int .i64 bn]).toArray) rfl (by kernel_rfl) (by kernel_rfl) (by kernel_rfl) (fun _ _ _ h => h) (yieldsIf_load_mid (by rfl) 40 _ rfl (w.heap.size) (0) rfl ([.int .u32 (br : Int), .int .i64 bn]) _ (fun _ h => h.1) Tryd.underlying40 rfl sizeRBal) ⟨(rowAt Zb), (rowAt Zz), (rowMid Zr (2) (Rl.bal R)), (rowAt Za), (rowCell Zr (0) rfl), (rowCell Zr (4) rfl)⟩ ?_
              try simp only [Act.put, List.getElem_toArray, List.getElem_cons_zero, List.getElem_cons_succ, List.setIfInBounds_toArray, List.set_cons_zero, List.set_cons_succ]
              refine wpAnyH_take (i := 1) (v := .agg ([.int .u32 0, .int .i64 0]).toArray) rfl (by kernel_rfl) (by kernel_rfl) (by kernel_rfl) (fun _ _ _ h => h) (yieldsIf_load_mid (by rfl) 40 _ rfl (gz) (0) rfl ([.int .u32 0, .int .i64 0]) _ (fun _ h => h.2.1) Tryd.underlying40 rfl sizeRBal) ⟨(rowAt Zb), (rowAt Zz), (rowMid Zr (2) (Rl.bal R)), (rowAt Za), (rowCell Zr (0) rfl), (rowCell Zr (4) rfl)⟩ ?_
              try simp only [Act.put, List.getElem_toArray, List.getElem_cons_zero, List.getElem_cons_succ, List.setIfInBounds_toArray, List.set_cons_zero, List.set_cons_succ]
              refine wpAnyH_take (i := 2) (v := .bool false) rfl (by kernel_rfl) (by kernel_rfl) (by kernel_rfl) (fun _ _ _ h => h) (Or.inl ⟨by rfl, fun w_ hS_ => by (first | (go_simp; done) | (go_simp; rfl))⟩) ⟨(rowAt Zb), (rowAt Zz), (rowMid Zr (2) (Rl.bal R)), (rowAt Za), (rowCell Zr (0) rfl), (rowCell Zr (4) rfl)⟩ ?_
              try simp only [Act.put, List.getElem_toArray, List.getElem_cons_zero, List.getElem_cons_succ, List.setIfInBounds_toArray, List.set_cons_zero, List.set_cons_succ]
              refine wpAnyH_take (i := 3) (v := .bool false) rfl (by kernel_rfl) (by kernel_rfl) (by kernel_rfl) (fun _ _ _ h => h) (Or.inl ⟨by rfl, fun w_ hS_ => by (first | (go_simp; done) | (go_simp; rfl))⟩) ⟨(rowAt Zb), (rowAt Zz), (rowMid Zr (2) (Rl.bal R)), (rowAt Za), (rowCell Zr (0) rfl), (rowCell Zr (4) rfl)⟩ ?_
              try simp only [Act.put, List.getElem_toArray, List.getElem_cons_zero, List.getElem_cons_succ, List.setIfInBounds_toArray, List.set_cons_zero, List.set_cons_succ]
              refine wpAnyH_take (i := 4) (v := .agg ([.int .u32 (br : Int), .int .i64 bn]).toArray) rfl (by kernel_rfl) (by kernel_rfl) (by kernel_rfl) (fun _ _ _ h => h) (yieldsIf_load_mid (by rfl) 40 _ rfl (w.heap.size) (0) rfl ([.int .u32 (br : Int), .int .i64 bn]) _ (fun _ h => h.1) Tryd.underlying40 rfl sizeRBal) ⟨(rowAt Zb), (rowAt Zz), (rowMid Zr (2) (Rl.bal R)), (rowAt Za), (rowCell Zr (0) rfl), (rowCell Zr (4) rfl)⟩ ?_
              try simp only [Act.put, List.getElem_toArray, List.getElem_cons_zero, List.getElem_cons_succ, List.setIfInBounds_toArray, List.set_cons_zero, List.set_cons_succ]
              refine wpAnyH_take (i := 5) (v := .pointer (some ⟨r, 0, none⟩)) rfl (by kernel_rfl) (by kernel_rfl) (by kernel_rfl) (fun _ _ _ h => h) (Or.inl ⟨by rfl, fun w_ hS_ => by (first | (go_simp; done) | (go_simp; rfl))⟩) ⟨(rowAt Zb), (rowAt Zz), (rowMid Zr (2) (Rl.bal R)), (rowAt Za), (rowCell Zr (0) rfl), (rowCell Zr (4) rfl)⟩ ?_
              try simp only [Act.put, List.getElem_toArray, List.getElem_cons_zero, List.getElem_cons_succ, List.setIfInBounds_toArray, List.set_cons_zero, List.set_cons_succ]
              refine wpAnyH_take (i := 6) (v := .pointer (some ⟨r, 0, none⟩)) rfl (by kernel_rfl) (by kernel_rfl) (by kernel_rfl) (fun _ _ _ h => h) (Or.inl ⟨by rfl, fun w_ hS_ => by (first | (go_simp; done) | (go_simp; rfl))⟩) ⟨(rowAt Zb), (rowAt Zz), (rowMid Zr (2) (Rl.bal R)), (rowAt Za), (rowCell Zr (0) rfl), (rowCell Zr (4) rfl)⟩ ?_
              try simp only [Act.put, List.getElem_toArray, List.getElem_cons_zero, List.getElem_cons_succ, List.setIfInBounds_toArray, List.set_cons_zero, List.set_cons_succ]
              refine wpAnyH_take (i := 7) (v := .pointer (some ⟨r, 2, none⟩)) rfl (by kernel_rfl) (by kernel_rfl) (by kernel_rfl) (fun _ _ _ h => h) (Or.inl ⟨by rfl, fun w_ hS_ => by (first | (go_simp; done) | (go_simp; rfl))⟩) ⟨(rowAt Zb), (rowAt Zz), (rowMid Zr (2) (Rl.bal R)), (rowAt Za), (rowCell Zr (0) rfl), (rowCell Zr (4) rfl)⟩ ?_
              try simp only [Act.put, List.getElem_toArray, List.getElem_cons_zero, List.getElem_cons_succ, List.setIfInBounds_toArray, List.set_cons_zero, List.set_cons_succ]
              refine wpAnyH_take (i := 8) (v := .agg ([.int .u32 (R.br : Int), .int .i64 R.bn]).toArray) rfl (by kernel_rfl) (by kernel_rfl) (by kernel_rfl) (fun _ _ _ h => h) (yieldsIf_load_mid (by rfl) 40 _ rfl (r) (2) rfl ([.int .u32 (R.br : Int), .int .i64 R.bn]) _ (fun _ h => h.2.2.1) Tryd.underlying40 rfl sizeRBal) ⟨(rowAt Zb), (rowAt Zz), (rowMid Zr (2) (Rl.bal R)), (rowAt Za), (rowCell Zr (0) rfl), (rowCell Zr (4) rfl)⟩ ?_
              try simp only [Act.put, List.getElem_toArray, List.getElem_cons_zero, List.getElem_cons_succ, List.setIfInBounds_toArray, List.set_cons_zero, List.set_cons_succ]
              refine wpAnyH_take (i := 9) (v := .bool false) rfl (by kernel_rfl) (by kernel_rfl) (by kernel_rfl) (fun _ _ _ h => h) (Or.inl ⟨by rfl, fun w_ hS_ => by (first | (go_simp; done) | (go_simp; rfl))⟩) ⟨(rowAt Zb), (rowAt Zz), (rowMid Zr (2) (Rl.bal R)), (rowAt Za), (rowCell Zr (0) rfl), (rowCell Zr (4) rfl)⟩ ?_
              try simp only [Act.put, List.getElem_toArray, List.getElem_cons_zero, List.getElem_cons_succ, List.setIfInBounds_toArray, List.set_cons_zero, List.set_cons_succ]
              refine wpAnyH_take (i := 10) (v := .bool false) rfl (by kernel_rfl) (by kernel_rfl) (by kernel_rfl) (fun _ _ _ h => h) (Or.inl ⟨by rfl, fun w_ hS_ => by (first | (go_simp; done) | (go_simp; rfl))⟩) ⟨(rowAt Zb), (rowAt Zz), (rowMid Zr (2) (Rl.bal R)), (rowAt Za), (rowCell Zr (0) rfl), (rowCell Zr (4) rfl)⟩ ?_
              try simp only [Act.put, List.getElem_toArray, List.getElem_cons_zero, List.getElem_cons_succ, List.setIfInBounds_toArray, List.set_cons_zero, List.set_cons_succ]
              refine wpAnyH_take (i := 11) (v := .bool false) rfl (by kernel_rfl) (by kernel_rfl) (by kernel_rfl) (fun _ _ _ h => h) (Or.inl ⟨by rfl, fun w_ hS_ => by (first | (go_simp; done) | (go_simp; rfl))⟩) ⟨(rowAt Zb), (rowAt Zz), (rowMid Zr (2) (Rl.bal R)), (rowAt Za), (rowCell Zr (0) rfl), (rowCell Zr (4) rfl)⟩ ?_
              try simp only [Act.put, List.getElem_toArray, List.getElem_cons_zero, List.getElem_cons_succ, List.setIfInBounds_toArray, List.set_cons_zero, List.set_cons_succ]
              refine wpAnyH_take (i := 12) (v := .agg (a.cells).toArray) rfl (by kernel_rfl) (by kernel_rfl) (by kernel_rfl) (fun _ _ _ h => h) (yieldsIf_load_mid (by rfl) 43 _ rfl (w.heap.size + 1) (0) rfl (a.cells) _ (fun _ h => h.2.2.2.1) Tryd.underlying43 rfl sizeRAc) ⟨(rowAt Zb), (rowAt Zz), (rowMid Zr (2) (Rl.bal R)), (rowAt Za), (rowCell Zr (0) rfl), (rowCell Zr (4) rfl)⟩ ?_
              try simp only [Act.put, List.getElem_toArray, List.getElem_cons_zero, List.getElem_cons_succ, List.setIfInBounds_toArray, List.set_cons_zero, List.set_cons_succ]
              refine wpAnyH_ready (rs := [13]) (by kernel_rfl) (by simp) ?_
              refine AllReadyH.cons rfl (fun K hK => ?_) AllReadyH.nil
              rw [if_pos (by rfl)]
              go_simp
              go_wp2_with (go_at_call 21; refine (HFO.out z3 ee).mono ?_; rintro e z4 ⟨rfl, t⟩)
              have Zr := hpB Zr t
              have Zb := hpB Zb t
              have Za := hpB Za t
              have Zz := hpB Zz t
              have hP := ownBelow hP t
              have hL := ownBelow hL t
              have hV := ownBelow hV t
              have ee := ee.trans (t.mono (Nat.le_trans hB ee.size))
              have ff := ogBelow ff t
              clear t
              refine hK.out _ _ ⟨(rowAt Zb), (rowAt Zz), (rowMid Zr (2) (Rl.bal R)), (rowAt Za), (rowCell Zr (0) rfl), (rowCell Zr (4) rfl)⟩ (fun hH => ?_)
              clear hK K hH
              try simp only [Act.put, List.getElem_toArray, List.getElem_cons_zero, List.getElem_cons_succ, List.setIfInBounds_toArray, List.set_cons_zero, List.set_cons_succ]
              refine wpAnyH_take (i := 14) (v := .bool false) rfl (by kernel_rfl) (by kernel_rfl) (by kernel_rfl) (fun _ _ _ h => h) (Or.inl ⟨by rfl, fun w_ hS_ => by (first | (go_simp; done) | (go_simp; rfl))⟩) ⟨(rowAt Zb), (rowAt Zz), (rowMid Zr (2) (Rl.bal R)), (rowAt Za), (rowCell Zr (0) rfl), (rowCell Zr (4) rfl)⟩ ?_
              try simp only [Act.put, List.getElem_toArray, List.getElem_cons_zero, List.getElem_cons_succ, List.setIfInBounds_toArray, List.set_cons_zero, List.set_cons_succ]
              refine wpAnyH_take (i := 15) (v := .bool false) rfl (by kernel_rfl) (by kernel_rfl) (by kernel_rfl) (fun _ _ _ h => h) (Or.inl ⟨by rfl, fun w_ hS_ => by (first | (go_simp; done) | (go_simp; rfl))⟩) ⟨(rowAt Zb), (rowAt Zz), (rowMid Zr (2) (Rl.bal R)), (rowAt Za), (rowCell Zr (0) rfl), (rowCell Zr (4) rfl)⟩ ?_
              try simp only [Act.put, List.getElem_toArray, List.getElem_cons_zero, List.getElem_cons_succ, List.setIfInBounds_toArray, List.set_cons_zero, List.set_cons_succ]
              refine wpAnyH_take (i := 16) (v := .bool false) rfl (by kernel_rfl) (by kernel_rfl) (by kernel_rfl) (fun _ _ _ h => h) (Or.inl ⟨by rfl, fun w_ hS_ => by (first | (go_simp; done) | (go_simp; rfl))⟩) ⟨(rowAt Zb), (rowAt Zz), (rowMid Zr (2) (Rl.bal R)), (rowAt Za), (rowCell Zr (0) rfl), (rowCell Zr (4) rfl)⟩ ?_
              try simp only [Act.put, List.getElem_toArray, List.getElem_cons_zero, List.getElem_cons_succ, List.setIfInBounds_toArray, List.set_cons_zero, List.set_cons_succ]
              refine wpAnyH_take (i := 17) (v := .int .i64 k) rfl (by kernel_rfl) (by kernel_rfl) (by kernel_rfl) (fun _ _ _ h => h) (Or.inl ⟨by rfl, fun w_ hS_ => by (first | (go_simp; done) | (go_simp; rfl))⟩) ⟨(rowAt Zb), (rowAt Zz), (rowMid Zr (2) (Rl.bal R)), (rowAt Za), (rowCell Zr (0) rfl), (rowCell Zr (4) rfl)⟩ ?_
              try simp only [Act.put, List.getElem_toArray, List.getElem_cons_zero, List.getElem_cons_succ, List.setIfInBounds_toArray, List.set_cons_zero, List.set_cons_succ]
              refine wpAnyH_take (i := 18) (v := .bool false) rfl (by kernel_rfl) (by kernel_rfl) (by kernel_rfl) (fun _ _ _ h => h) (Or.inl ⟨by rfl, fun w_ hS_ => by (first | (go_simp; done) | (go_simp; rfl))⟩) ⟨(rowAt Zb), (rowAt Zz), (rowMid Zr (2) (Rl.bal R)), (rowAt Za), (rowCell Zr (0) rfl), (rowCell Zr (4) rfl)⟩ ?_
              try simp only [Act.put, List.getElem_toArray, List.getElem_cons_zero, List.getElem_cons_succ, List.setIfInBounds_toArray, List.set_cons_zero, List.set_cons_succ]
              refine wpAnyH_take (i := 19) (v := .bool false) rfl (by kernel_rfl) (by kernel_rfl) (by kernel_rfl) (fun _ _ _ h => h) (Or.inl ⟨by rfl, fun w_ hS_ => by (first | (go_simp; done) | (go_simp; rfl))⟩) ⟨(rowAt Zb), (rowAt Zz), (rowMid Zr (2) (Rl.bal R)), (rowAt Za), (rowCell Zr (0) rfl), (rowCell Zr (4) rfl)⟩ ?_
              try simp only [Act.put, List.getElem_toArray, List.getElem_cons_zero, List.getElem_cons_succ, List.setIfInBounds_toArray, List.set_cons_zero, List.set_cons_succ]
              refine wpAnyH_take (i := 20) (v := .bool false) rfl (by kernel_rfl) (by kernel_rfl) (by kernel_rfl) (fun _ _ _ h => h) (Or.inl ⟨by rfl, fun w_ hS_ => by (first | (go_simp; done) | (go_simp; rfl))⟩) ⟨(rowAt Zb), (rowAt Zz), (rowMid Zr (2) (Rl.bal R)), (rowAt Za), (rowCell Zr (0) rfl), (rowCell Zr (4) rfl)⟩ ?_
              try simp only [Act.put, List.getElem_toArray, List.getElem_cons_zero, List.getElem_cons_succ, List.setIfInBounds_toArray, List.set_cons_zero, List.set_cons_succ]
              refine wpAnyH_take (i := 21) (v := .int .i64 k) rfl (by kernel_rfl) (by kernel_rfl) (by kernel_rfl) (fun _ _ _ h => h) (Or.inl ⟨by rfl, fun w_ hS_ => by (first | (go_simp; done) | (go_simp; rfl))⟩) ⟨(rowAt Zb), (rowAt Zz), (rowMid Zr (2) (Rl.bal R)), (rowAt Za), (rowCell Zr (0) rfl), (rowCell Zr (4) rfl)⟩ ?_
              try simp only [Act.put, List.getElem_toArray, List.getElem_cons_zero, List.getElem_cons_succ, List.setIfInBounds_toArray, List.set_cons_zero, List.set_cons_succ]
              refine wpAnyH_take (i := 22) (v := .pointer (some ⟨r, 0, none⟩)) rfl (by kernel_rfl) (by kernel_rfl) (by kernel_rfl) (fun _ _ _ h => h) (Or.inl ⟨by rfl, fun w_ hS_ => by (first | (go_simp; done) | (go_simp; rfl))⟩) ⟨(rowAt Zb), (rowAt Zz), (rowMid Zr (2) (Rl.bal R)), (rowAt Za), (rowCell Zr (0) rfl), (rowCell Zr (4) rfl)⟩ ?_
              try simp only [Act.put, List.getElem_toArray, List.getElem_cons_zero, List.getElem_cons_succ, List.setIfInBounds_toArray, List.set_cons_zero, List.set_cons_succ]
              refine wpAnyH_take (i := 23) (v := .pointer (some ⟨r, 0, none⟩)) rfl (by kernel_rfl) (by kernel_rfl) (by kernel_rfl) (fun _ _ _ h => h) (Or.inl ⟨by rfl, fun w_ hS_ => by (first | (go_simp; done) | (go_simp; rfl))⟩) ⟨(rowAt Zb), (rowAt Zz), (rowMid Zr (2) (Rl.bal R)), (rowAt Za), (rowCell Zr (0) rfl), (rowCell Zr (4) rfl)⟩ ?_
              try simp only [Act.put, List.getElem_toArray, List.getElem_cons_zero, List.getElem_cons_succ, List.setIfInBounds_toArray, List.set_cons_zero, List.set_cons_succ]
              refine wpAnyH_take (i := 24) (v := .pointer (some ⟨r, 0, none⟩)) rfl (by kernel_rfl) (by kernel_rfl) (by kernel_rfl) (fun _ _ _ h => h) (Or.inl ⟨by rfl, fun w_ hS_ => by (first | (go_simp; done) | (go_simp; rfl))⟩) ⟨(rowAt Zb), (rowAt Zz), (rowMid Zr (2) (Rl.bal R)), (rowAt Za), (rowCell Zr (0) rfl), (rowCell Zr (4) rfl)⟩ ?_
              try simp only [Act.put, List.getElem_toArray, List.getElem_cons_zero, List.getElem_cons_succ, List.setIfInBounds_toArray, List.set_cons_zero, List.set_cons_succ]
              refine wpAnyH_take (i := 25) (v := .int .i64 R.n) rfl (by kernel_rfl) (by kernel_rfl) (by kernel_rfl) (fun _ _ _ h => h) (Or.inl ⟨by rfl, fun w_ hS_ => by (have c_ := hS_.2.2.2.2.1; first | (go_simp; done) | (go_simp; rfl))⟩) ⟨(rowAt Zb), (rowAt Zz), (rowMid Zr (2) (Rl.bal R)), (rowAt Za), (rowCell Zr (0) rfl), (rowCell Zr (4) rfl)⟩ ?_
              try simp only [Act.put, List.getElem_toArray, List.getElem_cons_zero, List.getElem_cons_succ, List.setIfInBounds_toArray, List.set_cons_zero, List.set_cons_succ]
              refine wpAnyH_take (i := 26) (v := .bool false) rfl (by kernel_rfl) (by kernel_rfl) (by kernel_rfl) (fun _ _ _ h => h) (Or.inl ⟨by rfl, fun w_ hS_ => by (first | (go_simp; done) | (go_simp; rfl))⟩) ⟨(rowAt Zb), (rowAt Zz), (rowMid Zr (2) (Rl.bal R)), (rowAt Za), (rowCell Zr (0) rfl), (rowCell Zr (4) rfl)⟩ ?_
              try simp only [Act.put, List.getElem_toArray, List.getElem_cons_zero, List.getElem_cons_succ, List.setIfInBounds_toArray, List.set_cons_zero, List.set_cons_succ]
              refine wpAnyH_take (i := 27) (v := .bool false) rfl (by kernel_rfl) (by kernel_rfl) (by kernel_rfl) (fun _ _ _ h => h) (Or.inl ⟨by rfl, fun w_ hS_ => by (first | (go_simp; done) | (go_simp; rfl))⟩) ⟨(rowAt Zb), (rowAt Zz), (rowMid Zr (2) (Rl.bal R)), (rowAt Za), (rowCell Zr (0) rfl), (rowCell Zr (4) rfl)⟩ ?_
              try simp only [Act.put, List.getElem_toArray, List.getElem_cons_zero, List.getElem_cons_succ, List.setIfInBounds_toArray, List.set_cons_zero, List.set_cons_succ]
              refine wpAnyH_take (i := 28) (v := .bool false) rfl (by kernel_rfl) (by kernel_rfl) (by kernel_rfl) (fun _ _ _ h => h) (Or.inl ⟨by rfl, fun w_ hS_ => by (first | (go_simp; done) | (go_simp; rfl))⟩) ⟨(rowAt Zb), (rowAt Zz), (rowMid Zr (2) (Rl.bal R)), (rowAt Za), (rowCell Zr (0) rfl), (rowCell Zr (4) rfl)⟩ ?_
              try simp only [Act.put, List.getElem_toArray, List.getElem_cons_zero, List.getElem_cons_succ, List.setIfInBounds_toArray, List.set_cons_zero, List.set_cons_succ]
              refine wpAnyH_take (i := 29) (v := .pointer (some ⟨r, 0, none⟩)) rfl (by kernel_rfl) (by kernel_rfl) (by kernel_rfl) (fun _ _ _ h => h) (Or.inl ⟨by rfl, fun w_ hS_ => by (first | (go_simp; done) | (go_simp; rfl))⟩) ⟨(rowAt Zb), (rowAt Zz), (rowMid Zr (2) (Rl.bal R)), (rowAt Za), (rowCell Zr (0) rfl), (rowCell Zr (4) rfl)⟩ ?_
              try simp only [Act.put, List.getElem_toArray, List.getElem_cons_zero, List.getElem_cons_succ, List.setIfInBounds_toArray, List.set_cons_zero, List.set_cons_succ]
              refine wpAnyH_take (i := 30) (v := .pointer (some ⟨r, 0, none⟩)) rfl (by kernel_rfl) (by kernel_rfl) (by kernel_rfl) (fun _ _ _ h => h) (Or.inl ⟨by rfl, fun w_ hS_ => by (first | (go_simp; done) | (go_simp; rfl))⟩) ⟨(rowAt Zb), (rowAt Zz), (rowMid Zr (2) (Rl.bal R)), (rowAt Za), (rowCell Zr (0) rfl), (rowCell Zr (4) rfl)⟩ ?_
              try simp only [Act.put, List.getElem_toArray, List.getElem_cons_zero, List.getElem_cons_succ, List.setIfInBounds_toArray, List.set_cons_zero, List.set_cons_succ]
              refine wpAnyH_take (i := 31) (v := .pointer (some ⟨r, 4, none⟩)) rfl (by kernel_rfl) (by kernel_rfl) (by kernel_rfl) (fun _ _ _ h => h) (Or.inl ⟨by rfl, fun w_ hS_ => by (first | (go_simp; done) | (go_simp; rfl))⟩) ⟨(rowAt Zb), (rowAt Zz), (rowMid Zr (2) (Rl.bal R)), (rowAt Za), (rowCell Zr (0) rfl), (rowCell Zr (4) rfl)⟩ ?_
              try simp only [Act.put, List.getElem_toArray, List.getElem_cons_zero, List.getElem_cons_succ, List.setIfInBounds_toArray, List.set_cons_zero, List.set_cons_succ]
              refine wpAnyH_take (i := 32) (v := .slice R.PA R.ps.length R.pc) rfl (by kernel_rfl) (by kernel_rfl) (by kernel_rfl) (fun _ _ _ h => h) (Or.inl ⟨by rfl, fun w_ hS_ => by (have c_ := hS_.2.2.2.2.2; first | (go_simp; done) | (go_simp; rfl))⟩) ⟨(rowAt Zb), (rowAt Zz), (rowMid Zr (2) (Rl.bal R)), (rowAt Za), (rowCell Zr (0) rfl), (rowCell Zr (4) rfl)⟩ ?_
              try simp only [Act.put, List.getElem_toArray, List.getElem_cons_zero, List.getElem_cons_succ, List.setIfInBounds_toArray, List.set_cons_zero, List.set_cons_succ]
              refine wpAnyH_take (i := 33) (v := .int .i64 k) rfl (by kernel_rfl) (by kernel_rfl) (by kernel_rfl) (fun _ _ _ h => h) (Or.inl ⟨by rfl, fun w_ hS_ => by (first | (go_simp; done) | (go_simp; rfl))⟩) ⟨(rowAt Zb), (rowAt Zz), (rowMid Zr (2) (Rl.bal R)), (rowAt Za), (rowCell Zr (0) rfl), (rowCell Zr (4) rfl)⟩ ?_
              try simp only [Act.put, List.getElem_toArray, List.getElem_cons_zero, List.getElem_cons_succ, List.setIfInBounds_toArray, List.set_cons_zero, List.set_cons_succ]
              refine wpAnyH_ready (rs := [34]) (by kernel_rfl) (by simp) ?_
              refine AllReadyH.cons rfl (fun K hK => ?_) AllReadyH.nil
              rw [if_pos (by rfl)]
              go_simp
              go_wp2_with (go_at_call 116; refine (HIN.out z4 hP).mono ?_; rintro e z5 ⟨rfl, hw_⟩; rw [← hw_]; clear hw_ z5)
              refine hK.out _ _ ⟨(rowAt Zb), (rowAt Zz), (rowMid Zr (2) (Rl.bal R)), (rowAt Za), (rowCell Zr (0) rfl), (rowCell Zr (4) rfl)⟩ (fun hH => ?_)
              clear hK K hH
              try simp only [Act.put, List.getElem_toArray, List.getElem_cons_zero, List.getElem_cons_succ, List.setIfInBounds_toArray, List.set_cons_zero, List.set_cons_succ]
              refine wpAnyH_take (i := 35) (v := .bool true) rfl (by kernel_rfl) (by kernel_rfl) (by kernel_rfl) (fun _ _ _ h => h) (Or.inl ⟨by rfl, fun w_ hS_ => by (first | (go_simp; done) | (go_simp; rfl))⟩) ⟨(rowAt Zb), (rowAt Zz), (rowMid Zr (2) (Rl.bal R)), (rowAt Za), (rowCell Zr (0) rfl), (rowCell Zr (4) rfl)⟩ ?_
              try simp only [Act.put, List.getElem_toArray, List.getElem_cons_zero, List.getElem_cons_succ, List.setIfInBounds_toArray, List.set_cons_zero, List.set_cons_succ]
              refine wpAnyH_done (by kernel_rfl) ?_ _
              clear HIN HFO hI hJ h4 h5
              go_wp2_with fail
              go_ret
              exact ⟨RetB.mk _, ⟨R, (H.out.keepF ff ee Zr hP hL hV).more⟩, ff, ee⟩
            | false =>
              have Zr : z2.drew.heap[r]? = some (.cells R.cells.toArray 150) := Zr
              have Zb : z2.drew.heap[w.heap.size]? = some (.cells [.int .u32 (br : Int), .int .i64 bn].toArray 40) := Zb
              have Za : z2.drew.heap[w.heap.size + 1]? = some (.cells a.cells.toArray 43) := Za
              have Zz : z2.drew.heap[gz]? = some (.cells ([.int .u32 0, .int .i64 0]).toArray 40) := Zz
              have hP := World.ownsRow.drew hP
              have hL := World.ownsRow.drew hL
              have hV := World.ownsRow.drew hV
              have ee := belowDrewS ee
              have ff := ogDrew ff
              refine wp_region_held_drew (S := fun z' => z'.rangeAt w.heap.size (0) ([.int .u32 (br : Int), .int .i64 bn]) ∧ z'.rangeAt gz (0) ([.int .u32 0, .int .i64 0]) ∧ z'.rangeAt r (2) ([.int .u32 (R.br : Int), .int .i64 R.bn]) ∧ z'.rangeAt (w.heap.size + 1) (0) a.cells ∧ z'.cell? ⟨r, 0, none⟩ = some (.int .i64 R.n) ∧ z'.cell? ⟨r, 4, none⟩ = some (.slice R.PA R.ps.length R.pc)) (by kernel_rfl) ⟨(rowAt Zb), (rowAt Zz), (rowMid Zr (2) (Rl.bal R)), (rowAt Za), (rowCell Zr (0) rfl), (rowCell Zr (4) rfl)⟩ (fun hH => ?_)
              clear hH
              generalize z2.drew = z3 at Zr Zb Za Zz hP hL hV ee ff ⊢
              refine wpAnyH_take (i := 0) (v := .agg ([.int .u32 (br : Int), .int .i64 bn]).toArray) rfl (by kernel_rfl) (by kernel_rfl) (by kernel_rfl) (fun _ _ _ h => h) (yieldsIf_load_mid (by rfl) 40 _ rfl (w.heap.size) (0) rfl ([.int .u32 (br : Int), .int .i64 bn]) _ (fun _ h => h.1) Tryd.underlying40 rfl sizeRBal) ⟨(rowAt Zb), (rowAt Zz), (rowMid Zr (2) (Rl.bal R)), (rowAt Za), (rowCell Zr (0) rfl), (rowCell Zr (4) rfl)⟩ ?_
              try simp only [Act.put, List.getElem_toArray, List.getElem_cons_zero, List.getElem_cons_succ, List.setIfInBounds_toArray, List.set_cons_zero, List.set_cons_succ]
              refine wpAnyH_take (i := 1) (v := .agg ([.int .u32 0, .int .i64 0]).toArray) rfl (by kernel_rfl) (by kernel_rfl) (by kernel_rfl) (fun _ _ _ h => h) (yieldsIf_load_mid (by rfl) 40 _ rfl (gz) (0) rfl ([.int .u32 0, .int .i64 0]) _ (fun _ h => h.2.1) Tryd.underlying40 rfl sizeRBal) ⟨(rowAt Zb), (rowAt Zz), (rowMid Zr (2) (Rl.bal R)), (rowAt Za), (rowCell Zr (0) rfl), (rowCell Zr (4) rfl)⟩ ?_
              try simp only [Act.put, List.getElem_toArray, List.getElem_cons_zero, List.getElem_cons_succ, List.setIfInBounds_toArray, List.set_cons_zero, List.set_cons_succ]
              refine wpAnyH_take (i := 2) (v := .bool false) rfl (by kernel_rfl) (by kernel_rfl) (by kernel_rfl) (fun _ _ _ h => h) (Or.inl ⟨by rfl, fun w_ hS_ => by (first | (go_simp; done) | (go_simp; rfl))⟩) ⟨(rowAt Zb), (rowAt Zz), (rowMid Zr (2) (Rl.bal R)), (rowAt Za), (rowCell Zr (0) rfl), (rowCell Zr (4) rfl)⟩ ?_
              try simp only [Act.put, List.getElem_toArray, List.getElem_cons_zero, List.getElem_cons_succ, List.setIfInBounds_toArray, List.set_cons_zero, List.set_cons_succ]
              refine wpAnyH_take (i := 3) (v := .bool false) rfl (by kernel_rfl) (by kernel_rfl) (by kernel_rfl) (fun _ _ _ h => h) (Or.inl ⟨by rfl, fun w_ hS_ => by (first | (go_simp; done) | (go_simp; rfl))⟩) ⟨(rowAt Zb), (rowAt Zz), (rowMid Zr (2) (Rl.bal R)), (rowAt Za), (rowCell Zr (0) rfl), (rowCell Zr (4) rfl)⟩ ?_
              try simp only [Act.put, List.getElem_toArray, List.getElem_cons_zero, List.getElem_cons_succ, List.setIfInBounds_toArray, List.set_cons_zero, List.set_cons_succ]
              refine wpAnyH_take (i := 4) (v := .agg ([.int .u32 (br : Int), .int .i64 bn]).toArray) rfl (by kernel_rfl) (by kernel_rfl) (by kernel_rfl) (fun _ _ _ h => h) (yieldsIf_load_mid (by rfl) 40 _ rfl (w.heap.size) (0) rfl ([.int .u32 (br : Int), .int .i64 bn]) _ (fun _ h => h.1) Tryd.underlying40 rfl sizeRBal) ⟨(rowAt Zb), (rowAt Zz), (rowMid Zr (2) (Rl.bal R)), (rowAt Za), (rowCell Zr (0) rfl), (rowCell Zr (4) rfl)⟩ ?_
              try simp only [Act.put, List.getElem_toArray, List.getElem_cons_zero, List.getElem_cons_succ, List.setIfInBounds_toArray, List.set_cons_zero, List.set_cons_succ]
              refine wpAnyH_take (i := 5) (v := .pointer (some ⟨r, 0, none⟩)) rfl (by kernel_rfl) (by kernel_rfl) (by kernel_rfl) (fun _ _ _ h => h) (Or.inl ⟨by rfl, fun w_ hS_ => by (first | (go_simp; done) | (go_simp; rfl))⟩) ⟨(rowAt Zb), (rowAt Zz), (rowMid Zr (2) (Rl.bal R)), (rowAt Za), (rowCell Zr (0) rfl), (rowCell Zr (4) rfl)⟩ ?_
              try simp only [Act.put, List.getElem_toArray, List.getElem_cons_zero, List.getElem_cons_succ, List.setIfInBounds_toArray, List.set_cons_zero, List.set_cons_succ]
              refine wpAnyH_take (i := 6) (v := .pointer (some ⟨r, 0, none⟩)) rfl (by kernel_rfl) (by kernel_rfl) (by kernel_rfl) (fun _ _ _ h => h) (Or.inl ⟨by rfl, fun w_ hS_ => by (first | (go_simp; done) | (go_simp; rfl))⟩) ⟨(rowAt Zb), (rowAt Zz), (rowMid Zr (2) (Rl.bal R)), (rowAt Za), (rowCell Zr (0) rfl), (rowCell Zr (4) rfl)⟩ ?_
              try simp only [Act.put, List.getElem_toArray, List.getElem_cons_zero, List.getElem_cons_succ, List.setIfInBounds_toArray, List.set_cons_zero, List.set_cons_succ]
              refine wpAnyH_take (i := 7) (v := .pointer (some ⟨r, 2, none⟩)) rfl (by kernel_rfl) (by kernel_rfl) (by kernel_rfl) (fun _ _ _ h => h) (Or.inl ⟨by rfl, fun w_ hS_ => by (first | (go_simp; done) | (go_simp; rfl))⟩) ⟨(rowAt Zb), (rowAt Zz), (rowMid Zr (2) (Rl.bal R)), (rowAt Za), (rowCell Zr (0) rfl), (rowCell Zr (4) rfl)⟩ ?_
              try simp only [Act.put, List.getElem_toArray, List.getElem_cons_zero, List.getElem_cons_succ, List.setIfInBounds_toArray, List.set_cons_zero, List.set_cons_succ]
              refine wpAnyH_take (i := 8) (v := .agg ([.int .u32 (R.br : Int), .int .i64 R.bn]).toArray) rfl (by kernel_rfl) (by kernel_rfl) (by kernel_rfl) (fun _ _ _ h => h) (yieldsIf_load_mid (by rfl) 40 _ rfl (r) (2) rfl ([.int .u32 (R.br : Int), .int .i64 R.bn]) _ (fun _ h => h.2.2.1) Tryd.underlying40 rfl sizeRBal) ⟨(rowAt Zb), (rowAt Zz), (rowMid Zr (2) (Rl.bal R)), (rowAt Za), (rowCell Zr (0) rfl), (rowCell Zr (4) rfl)⟩ ?_
              try simp only [Act.put, List.getElem_toArray, List.getElem_cons_zero, List.getElem_cons_succ, List.setIfInBounds_toArray, List.set_cons_zero, List.set_cons_succ]
              refine wpAnyH_take (i := 9) (v := .bool false) rfl (by kernel_rfl) (by kernel_rfl) (by kernel_rfl) (fun _ _ _ h => h) (Or.inl ⟨by rfl, fun w_ hS_ => by (first | (go_simp; done) | (go_simp; rfl))⟩) ⟨(rowAt Zb), (rowAt Zz), (rowMid Zr (2) (Rl.bal R)), (rowAt Za), (rowCell Zr (0) rfl), (rowCell Zr (4) rfl)⟩ ?_
              try simp only [Act.put, List.getElem_toArray, List.getElem_cons_zero, List.getElem_cons_succ, List.setIfInBounds_toArray, List.set_cons_zero, List.set_cons_succ]
              refine wpAnyH_take (i := 10) (v := .bool false) rfl (by kernel_rfl) (by kernel_rfl) (by kernel_rfl) (fun _ _ _ h => h) (Or.inl ⟨by rfl, fun w_ hS_ => by (first | (go_simp; done) | (go_simp; rfl))⟩) ⟨(rowAt Zb), (rowAt Zz), (rowMid Zr (2) (Rl.bal R)), (rowAt Za), (rowCell Zr (0) rfl), (rowCell Zr (4) rfl)⟩ ?_
              try simp only [Act.put, List.getElem_toArray, List.getElem_cons_zero, List.getElem_cons_succ, List.setIfInBounds_toArray, List.set_cons_zero, List.set_cons_succ]
              refine wpAnyH_take (i := 11) (v := .bool false) rfl (by kernel_rfl) (by kernel_rfl) (by kernel_rfl) (fun _ _ _ h => h) (Or.inl ⟨by rfl, fun w_ hS_ => by (first | (go_simp; done) | (go_simp; rfl))⟩) ⟨(rowAt Zb), (rowAt Zz), (rowMid Zr (2) (Rl.bal R)), (rowAt Za), (rowCell Zr (0) rfl), (rowCell Zr (4) rfl)⟩ ?_
              try simp only [Act.put, List.getElem_toArray, List.getElem_cons_zero, List.getElem_cons_succ, List.setIfInBounds_toArray, List.set_cons_zero, List.set_cons_succ]
              refine wpAnyH_take (i := 12) (v := .agg (a.cells).toArray) rfl (by kernel_rfl) (by kernel_rfl) (by kernel_rfl) (fun _ _ _ h => h) (yieldsIf_load_mid (by rfl) 43 _ rfl (w.heap.size + 1) (0) rfl (a.cells) _ (fun _ h => h.2.2.2.1) Tryd.underlying43 rfl sizeRAc) ⟨(rowAt Zb), (rowAt Zz), (rowMid Zr (2) (Rl.bal R)), (rowAt Za), (rowCell Zr (0) rfl), (rowCell Zr (4) rfl)⟩ ?_
              try simp only [Act.put, List.getElem_toArray, List.getElem_cons_zero, List.getElem_cons_succ, List.setIfInBounds_toArray, List.set_cons_zero, List.set_cons_succ]
              refine wpAnyH_ready (rs := [13]) (by kernel_rfl) (by simp) ?_
              refine AllReadyH.cons rfl (fun K hK => ?_) AllReadyH.nil
              rw [if_pos (by rfl)]
              go_simp
              go_wp2_with (go_at_call 21; refine (HFO.out z3 ee).mono ?_; rintro e z4 ⟨rfl, t⟩)
              have Zr := hpB Zr t
              have Zb := hpB Zb t
              have Za := hpB Za t
              have Zz := hpB Zz t
              have hP := ownBelow hP t
              have hL := ownBelow hL t
              have hV := ownBelow hV t
              have ee := ee.trans (t.mono (Nat.le_trans hB ee.size))
              have ff := ogBelow ff t
              clear t
              refine hK.out _ _ ⟨(rowAt Zb), (rowAt Zz), (rowMid Zr (2) (Rl.bal R)), (rowAt Za), (rowCell Zr (0) rfl), (rowCell Zr (4) rfl)⟩ (fun hH => ?_)
              clear hK K hH
              try simp only [Act.put, List.getElem_toArray, List.getElem_cons_zero, List.getElem_cons_succ, List.setIfInBounds_toArray, List.set_cons_zero, List.set_cons_succ]
              refine wpAnyH_take (i := 14) (v := .bool false) rfl (by kernel_rfl) (by kernel_rfl) (by kernel_rfl) (fun _ _ _ h => h) (Or.inl ⟨by rfl, fun w_ hS_ => by (first | (go_simp; done) | (go_simp; rfl))⟩) ⟨(rowAt Zb), (rowAt Zz), (rowMid Zr (2) (Rl.bal R)), (rowAt Za), (rowCell Zr (0) rfl), (rowCell Zr (4) rfl)⟩ ?_
              try simp only [Act.put, List.getElem_toArray, List.getElem_cons_zero, List.getElem_cons_succ, List.setIfInBounds_toArray, List.set_cons_zero, List.set_cons_succ]
              refine wpAnyH_take (i := 15) (v := .bool false) rfl (by kernel_rfl) (by kernel_rfl) (by kernel_rfl) (fun _ _ _ h => h) (Or.inl ⟨by rfl, fun w_ hS_ => by (first | (go_simp; done) | (go_simp; rfl))⟩) ⟨(rowAt Zb), (rowAt Zz), (rowMid Zr (2) (Rl.bal R)), (rowAt Za), (rowCell Zr (0) rfl), (rowCell Zr (4) rfl)⟩ ?_
              try simp only [Act.put, List.getElem_toArray, List.getElem_cons_zero, List.getElem_cons_succ, List.setIfInBounds_toArray, List.set_cons_zero, List.set_cons_succ]
              refine wpAnyH_take (i := 16) (v := .bool false) rfl (by kernel_rfl) (by kernel_rfl) (by kernel_rfl) (fun _ _ _ h => h) (Or.inl ⟨by rfl, fun w_ hS_ => by (first | (go_simp; done) | (go_simp; rfl))⟩) ⟨(rowAt Zb), (rowAt Zz), (rowMid Zr (2) (Rl.bal R)), (rowAt Za), (rowCell Zr (0) rfl), (rowCell Zr (4) rfl)⟩ ?_
              try simp only [Act.put, List.getElem_toArray, List.getElem_cons_zero, List.getElem_cons_succ, List.setIfInBounds_toArray, List.set_cons_zero, List.set_cons_succ]
              refine wpAnyH_take (i := 17) (v := .int .i64 k) rfl (by kernel_rfl) (by kernel_rfl) (by kernel_rfl) (fun _ _ _ h => h) (Or.inl ⟨by rfl, fun w_ hS_ => by (first | (go_simp; done) | (go_simp; rfl))⟩) ⟨(rowAt Zb), (rowAt Zz), (rowMid Zr (2) (Rl.bal R)), (rowAt Za), (rowCell Zr (0) rfl), (rowCell Zr (4) rfl)⟩ ?_
              try simp only [Act.put, List.getElem_toArray, List.getElem_cons_zero, List.getElem_cons_succ, List.setIfInBounds_toArray, List.set_cons_zero, List.set_cons_succ]
              refine wpAnyH_take (i := 18) (v := .bool false) rfl (by kernel_rfl) (by kernel_rfl) (by kernel_rfl) (fun _ _ _ h => h) (Or.inl ⟨by rfl, fun w_ hS_ => by (first | (go_simp; done) | (go_simp; rfl))⟩) ⟨(rowAt Zb), (rowAt Zz), (rowMid Zr (2) (Rl.bal R)), (rowAt Za), (rowCell Zr (0) rfl), (rowCell Zr (4) rfl)⟩ ?_
              try simp only [Act.put, List.getElem_toArray, List.getElem_cons_zero, List.getElem_cons_succ, List.setIfInBounds_toArray, List.set_cons_zero, List.set_cons_succ]
              refine wpAnyH_take (i := 19) (v := .bool false) rfl (by kernel_rfl) (by kernel_rfl) (by kernel_rfl) (fun _ _ _ h => h) (Or.inl ⟨by rfl, fun w_ hS_ => by (first | (go_simp; done) | (go_simp; rfl))⟩) ⟨(rowAt Zb), (rowAt Zz), (rowMid Zr (2) (Rl.bal R)), (rowAt Za), (rowCell Zr (0) rfl), (rowCell Zr (4) rfl)⟩ ?_
              try simp only [Act.put, List.getElem_toArray, List.getElem_cons_zero, List.getElem_cons_succ, List.setIfInBounds_toArray, List.set_cons_zero, List.set_cons_succ]
              refine wpAnyH_take (i := 20) (v := .bool false) rfl (by kernel_rfl) (by kernel_rfl) (by kernel_rfl) (fun _ _ _ h => h) (Or.inl ⟨by rfl, fun w_ hS_ => by (first | (go_simp; done) | (go_simp; rfl))⟩) ⟨(rowAt Zb), (rowAt Zz), (rowMid Zr (2) (Rl.bal R)), (rowAt Za), (rowCell Zr (0) rfl), (rowCell Zr (4) rfl)⟩ ?_
              try simp only [Act.put, List.getElem_toArray, List.getElem_cons_zero, List.getElem_cons_succ, List.setIfInBounds_toArray, List.set_cons_zero, List.set_cons_succ]
              refine wpAnyH_take (i := 21) (v := .int .i64 k) rfl (by kernel_rfl) (by kernel_rfl) (by kernel_rfl) (fun _ _ _ h => h) (Or.inl ⟨by rfl, fun w_ hS_ => by (first | (go_simp; done) | (go_simp; rfl))⟩) ⟨(rowAt Zb), (rowAt Zz), (rowMid Zr (2) (Rl.bal R)), (rowAt Za), (rowCell Zr (0) rfl), (rowCell Zr (4) rfl)⟩ ?_
              try simp only [Act.put, List.getElem_toArray, List.getElem_cons_zero, List.getElem_cons_succ, List.setIfInBounds_toArray, List.set_cons_zero, List.set_cons_succ]
              refine wpAnyH_take (i := 22) (v := .pointer (some ⟨r, 0, none⟩)) rfl (by kernel_rfl) (by kernel_rfl) (by kernel_rfl) (fun _ _ _ h => h) (Or.inl ⟨by rfl, fun w_ hS_ => by (first | (go_simp; done) | (go_simp; rfl))⟩) ⟨(rowAt Zb), (rowAt Zz), (rowMid Zr (2) (Rl.bal R)), (rowAt Za), (rowCell Zr (0) rfl), (rowCell Zr (4) rfl)⟩ ?_
              try simp only [Act.put, List.getElem_toArray, List.getElem_cons_zero, List.getElem_cons_succ, List.setIfInBounds_toArray, List.set_cons_zero, List.set_cons_succ]
              refine wpAnyH_take (i := 23) (v := .pointer (some ⟨r, 0, none⟩)) rfl (by kernel_rfl) (by kernel_rfl) (by kernel_rfl) (fun _ _ _ h => h) (Or.inl ⟨by rfl, fun w_ hS_ => by (first | (go_simp; done) | (go_simp; rfl))⟩) ⟨(rowAt Zb), (rowAt Zz), (rowMid Zr (2) (Rl.bal R)), (rowAt Za), (rowCell Zr (0) rfl), (rowCell Zr (4) rfl)⟩ ?_
              try simp only [Act.put, List.getElem_toArray, List.getElem_cons_zero, List.getElem_cons_succ, List.setIfInBounds_toArray, List.set_cons_zero, List.set_cons_succ]
              refine wpAnyH_take (i := 24) (v := .pointer (some ⟨r, 0, none⟩)) rfl (by kernel_rfl) (by kernel_rfl) (by kernel_rfl) (fun _ _ _ h => h) (Or.inl ⟨by rfl, fun w_ hS_ => by (first | (go_simp; done) | (go_simp; rfl))⟩) ⟨(rowAt Zb), (rowAt Zz), (rowMid Zr (2) (Rl.bal R)), (rowAt Za), (rowCell Zr (0) rfl), (rowCell Zr (4) rfl)⟩ ?_
              try simp only [Act.put, List.getElem_toArray, List.getElem_cons_zero, List.getElem_cons_succ, List.setIfInBounds_toArray, List.set_cons_zero, List.set_cons_succ]
              refine wpAnyH_take (i := 25) (v := .int .i64 R.n) rfl (by kernel_rfl) (by kernel_rfl) (by kernel_rfl) (fun _ _ _ h => h) (Or.inl ⟨by rfl, fun w_ hS_ => by (have c_ := hS_.2.2.2.2.1; first | (go_simp; done) | (go_simp; rfl))⟩) ⟨(rowAt Zb), (rowAt Zz), (rowMid Zr (2) (Rl.bal R)), (rowAt Za), (rowCell Zr (0) rfl), (rowCell Zr (4) rfl)⟩ ?_
              try simp only [Act.put, List.getElem_toArray, List.getElem_cons_zero, List.getElem_cons_succ, List.setIfInBounds_toArray, List.set_cons_zero, List.set_cons_succ]
              refine wpAnyH_take (i := 26) (v := .bool false) rfl (by kernel_rfl) (by kernel_rfl) (by kernel_rfl) (fun _ _ _ h => h) (Or.inl ⟨by rfl, fun w_ hS_ => by (first | (go_simp; done) | (go_simp; rfl))⟩) ⟨(rowAt Zb), (rowAt Zz), (rowMid Zr (2) (Rl.bal R)), (rowAt Za), (rowCell Zr (0) rfl), (rowCell Zr (4) rfl)⟩ ?_
              try simp only [Act.put, List.getElem_toArray, List.getElem_cons_zero, List.getElem_cons_succ, List.setIfInBounds_toArray, List.set_cons_zero, List.set_cons_succ]
              refine wpAnyH_take (i := 27) (v := .bool false) rfl (by kernel_rfl) (by kernel_rfl) (by kernel_rfl) (fun _ _ _ h => h) (Or.inl ⟨by rfl, fun w_ hS_ => by (first | (go_simp; done) | (go_simp; rfl))⟩) ⟨(rowAt Zb), (rowAt Zz), (rowMid Zr (2) (Rl.bal R)), (rowAt Za), (rowCell Zr (0) rfl), (rowCell Zr (4) rfl)⟩ ?_
              try simp only [Act.put, List.getElem_toArray, List.getElem_cons_zero, List.getElem_cons_succ, List.setIfInBounds_toArray, List.set_cons_zero, List.set_cons_succ]
              refine wpAnyH_take (i := 28) (v := .bool false) rfl (by kernel_rfl) (by kernel_rfl) (by kernel_rfl) (fun _ _ _ h => h) (Or.inl ⟨by rfl, fun w_ hS_ => by (first | (go_simp; done) | (go_simp; rfl))⟩) ⟨(rowAt Zb), (rowAt Zz), (rowMid Zr (2) (Rl.bal R)), (rowAt Za), (rowCell Zr (0) rfl), (rowCell Zr (4) rfl)⟩ ?_
              try simp only [Act.put, List.getElem_toArray, List.getElem_cons_zero, List.getElem_cons_succ, List.setIfInBounds_toArray, List.set_cons_zero, List.set_cons_succ]
              refine wpAnyH_take (i := 29) (v := .pointer (some ⟨r, 0, none⟩)) rfl (by kernel_rfl) (by kernel_rfl) (by kernel_rfl) (fun _ _ _ h => h) (Or.inl ⟨by rfl, fun w_ hS_ => by (first | (go_simp; done) | (go_simp; rfl))⟩) ⟨(rowAt Zb), (rowAt Zz), (rowMid Zr (2) (Rl.bal R)), (rowAt Za), (rowCell Zr (0) rfl), (rowCell Zr (4) rfl)⟩ ?_
              try simp only [Act.put, List.getElem_toArray, List.getElem_cons_zero, List.getElem_cons_succ, List.setIfInBounds_toArray, List.set_cons_zero, List.set_cons_succ]
              refine wpAnyH_take (i := 30) (v := .pointer (some ⟨r, 0, none⟩)) rfl (by kernel_rfl) (by kernel_rfl) (by kernel_rfl) (fun _ _ _ h => h) (Or.inl ⟨by rfl, fun w_ hS_ => by (first | (go_simp; done) | (go_simp; rfl))⟩) ⟨(rowAt Zb), (rowAt Zz), (rowMid Zr (2) (Rl.bal R)), (rowAt Za), (rowCell Zr (0) rfl), (rowCell Zr (4) rfl)⟩ ?_
              try simp only [Act.put, List.getElem_toArray, List.getElem_cons_zero, List.getElem_cons_succ, List.setIfInBounds_toArray, List.set_cons_zero, List.set_cons_succ]
              refine wpAnyH_take (i := 31) (v := .pointer (some ⟨r, 4, none⟩)) rfl (by kernel_rfl) (by kernel_rfl) (by kernel_rfl) (fun _ _ _ h => h) (Or.inl ⟨by rfl, fun w_ hS_ => by (first | (go_simp; done) | (go_simp; rfl))⟩) ⟨(rowAt Zb), (rowAt Zz), (rowMid Zr (2) (Rl.bal R)), (rowAt Za), (rowCell Zr (0) rfl), (rowCell Zr (4) rfl)⟩ ?_
              try simp only [Act.put, List.getElem_toArray, List.getElem_cons_zero, List.getElem_cons_succ, List.setIfInBounds_toArray, List.set_cons_zero, List.set_cons_succ]
              refine wpAnyH_take (i := 32) (v := .slice R.PA R.ps.length R.pc) rfl (by kernel_rfl) (by kernel_rfl) (by kernel_rfl) (fun _ _ _ h => h) (Or.inl ⟨by rfl, fun w_ hS_ => by (have c_ := hS_.2.2.2.2.2; first | (go_simp; done) | (go_simp; rfl))⟩) ⟨(rowAt Zb), (rowAt Zz), (rowMid Zr (2) (Rl.bal R)), (rowAt Za), (rowCell Zr (0) rfl), (rowCell Zr (4) rfl)⟩ ?_
              try simp only [Act.put, List.getElem_toArray, List.getElem_cons_zero, List.getElem_cons_succ, List.setIfInBounds_toArray, List.set_cons_zero, List.set_cons_succ]
              refine wpAnyH_take (i := 33) (v := .int .i64 k) rfl (by kernel_rfl) (by kernel_rfl) (by kernel_rfl) (fun _ _ _ h => h) (Or.inl ⟨by rfl, fun w_ hS_ => by (first | (go_simp; done) | (go_simp; rfl))⟩) ⟨(rowAt Zb), (rowAt Zz), (rowMid Zr (2) (Rl.bal R)), (rowAt Za), (rowCell Zr (0) rfl), (rowCell Zr (4) rfl)⟩ ?_
              try simp only [Act.put, List.getElem_toArray, List.getElem_cons_zero, List.getElem_cons_succ, List.setIfInBounds_toArray, List.set_cons_zero, List.set_cons_succ]
              refine wpAnyH_ready (rs := [34]) (by kernel_rfl) (by simp) ?_
              refine AllReadyH.cons rfl (fun K hK => ?_) AllReadyH.nil
              rw [if_pos (by rfl)]
              go_simp
              go_wp2_with (go_at_call 116; refine (HIN.out z4 hP).mono ?_; rintro e z5 ⟨rfl, hw_⟩; rw [← hw_]; clear hw_ z5)
              refine hK.out _ _ ⟨(rowAt Zb), (rowAt Zz), (rowMid Zr (2) (Rl.bal R)), (rowAt Za), (rowCell Zr (0) rfl), (rowCell Zr (4) rfl)⟩ (fun hH => ?_)
              clear hK K hH
              try simp only [Act.put, List.getElem_toArray, List.getElem_cons_zero, List.getElem_cons_succ, List.setIfInBounds_toArray, List.set_cons_zero, List.set_cons_succ]
              refine wpAnyH_take (i := 35) (v := .bool false) rfl (by kernel_rfl) (by kernel_rfl) (by kernel_rfl) (fun _ _ _ h => h) (Or.inl ⟨by rfl, fun w_ hS_ => by (first | (go_simp; done) | (go_simp; rfl))⟩) ⟨(rowAt Zb), (rowAt Zz), (rowMid Zr (2) (Rl.bal R)), (rowAt Za), (rowCell Zr (0) rfl), (rowCell Zr (4) rfl)⟩ ?_
              try simp only [Act.put, List.getElem_toArray, List.getElem_cons_zero, List.getElem_cons_succ, List.setIfInBounds_toArray, List.set_cons_zero, List.set_cons_succ]
              refine wpAnyH_done (by kernel_rfl) ?_ _
              clear HIN HFO hI hJ h4 h5
              go_upto_region 4 with fail
              refine wp_region_lit ?_
              have c4 := rowCell Zr 4 rfl
              iterate 18 go_step
              refine wpList_buildSlice rfl 61 3 1 #[(0, .tmp 52)] rfl #[.int .i64 k] i1 (.int .i64 0) Tryd.underlying61 hi1 hz10 (by rw [hz11]; decide) (by rw [hz11]; decide) (by rw [hz11]; simp only [List.map_toArray, List.map_cons, List.map_nil]; exact fillI _ _ (by simp)) ?_
              have lZr := (Array.getElem?_eq_some_iff.1 Zr).1
              have lZb := (Array.getElem?_eq_some_iff.1 Zb).1
              have lZa := (Array.getElem?_eq_some_iff.1 Za).1
              have lZz := (Array.getElem?_eq_some_iff.1 Zz).1
              have sz_ := ff.size
              have ne_hP_Zm : (Value.slice R.PA R.ps.length R.pc).ownBlock ≠ some (z4.heap.size) := fun hb_ => by have hh_ := (hP.lt _ hb_).2; omega
              have ne_hV_Zm : (Value.slice R.VA R.vs.length R.vc).ownBlock ≠ some (z4.heap.size) := fun hb_ => by have hh_ := (hV.lt _ hb_).2; omega
              have Zr := hpA Zr (.cells ([.int .i64 k]).toArray 3)
              have Zb := hpA Zb (.cells ([.int .i64 k]).toArray 3)
              have Za := hpA Za (.cells ([.int .i64 k]).toArray 3)
              have Zz := hpA Zz (.cells ([.int .i64 k]).toArray 3)
              have hP := hP.alloc (.cells ([.int .i64 k]).toArray 3)
              have hL := hL.alloc (.cells ([.int .i64 k]).toArray 3)
              have hV := hV.alloc (.cells ([.int .i64 k]).toArray 3)
              have ee := ee.alloc (Nat.le_trans hB ee.size) (.cells ([.int .i64 k]).toArray 3)
              have ff := ogAlloc ff (.cells ([.int .i64 k]).toArray 3)
              have Zm := hpN z4 (.cells ([.int .i64 k]).toArray 3) rfl
              generalize z4.alloc (.cells ([.int .i64 k]).toArray 3) = z6 at Zr Zb Za Zz Zm hP hL hV ee ff ⊢
              refine wpList_append_ownW _ rfl (.tmp 51) (.tmp 53) 61 rfl B 3 i1 (.int .i64 0) 1 8 Tryd.underlying61 hi1 hz10 hz11 hz12 rfl (by decide) _ _ _ rfl hP ⟨z4.heap.size, 0, none⟩ 1 1 ([.int .i64 k]) rfl rfl (ogRowAdd Zm) (by simp [Value.oneCell']) (by unfold maxLen; omega) (by omega) (Nat.le_trans hB ff.size) ?_
              intro u_ z7 ho_ hg_ hw_
              have hw_ : ∀ g_, u_.ownBlock = some g_ → (Value.slice R.PA R.ps.length R.pc).ownBlock = some g_ ∨ w.heap.size ≤ g_ := fun g_ e_ => by
                rcases hw_ with h_ | h_ | h_
                · rw [h_] at e_; cases e_
                · have h2_ : u_.ownBlock = (Value.slice R.PA R.ps.length R.pc).ownBlock := h_
                  left; rw [← h2_]; exact e_
                · right; rw [h_] at e_; injection e_ with e_; have := ff.size; omega
              clear Zm
              clear Zb
              clear Zz
              have Zr := ogHeap Zr hP (by decide) hg_
              have Za := ogHeap Za hP (by decide) hg_
              have hL := hL.kept hg_ (own_ne hP hL (by decide))
              have hV := hV.kept hg_ hap
              have ee := ee.grown hg_ (Nat.le_trans hB ee.size) (fun g_ hg2_ => by have hh_ := (hP.lt g_ hg2_).1; omega)
              have ff := ogOwnE ff hg_ (fun i_ hi_ => by have hh_ := (hP.lt i_ hi_).1; first | exact Or.inl (Or.inr hi_) | exact Or.inl (Or.inr (Or.inl hi_)) | exact Or.inl (Or.inr (Or.inr (Or.inl hi_))) | exact Or.inl (Or.inr (Or.inr (Or.inr hi_))) | (right; omega) | (left; first | rfl | omega))
              clear hg_ hP
              obtain ⟨A9, c9, hu9, hc9, _, _⟩ := ownShape ho_
              subst hu9
              have hP := ho_
              clear ho_
              clear c4
              have hP : z7.ownsRow B 3 1 (.slice A9 (R.ps ++ [k]).length c9) (R.ps ++ [k]).length (iv (R.ps ++ [k])) := by rw [List.length_append, List.length_singleton, iv_snoc]; exact hP
              have hw_ : ∀ g_, (Value.slice A9 (R.ps ++ [k]).length c9).ownBlock = some g_ → (Value.slice R.PA R.ps.length R.pc).ownBlock = some g_ ∨ w.heap.size ≤ g_ := by rw [List.length_append, List.length_singleton]; exact hw_
              iterate 40 (first | with_reducible refine isStore (ty := 61) rfl ?_ | go_step)
              have f_ : z7.frozen? ⟨r, 4, none⟩ = false := freeAt Zr (4)
              have c_ := rowCell Zr (4) rfl
              iterate 3 go_step
              clear f_ c_
              have N_ : (z7.setCells (r) (4) ([.slice A9 (R.ps.length + 1) c9])).heap[r]? = some (.cells ((Rl.mk R.n R.nd R.br R.bn (R.ps ++ [k]) A9 c9 R.l R.LA R.lc R.af R.sl R.x R.vs R.VA R.vc).cells).toArray 150) := (by rw [show ((Rl.mk R.n R.nd R.br R.bn (R.ps ++ [k]) A9 c9 R.l R.LA R.lc R.af R.sl R.x R.vs R.VA R.vc).cells) = putAt R.cells 4 [.slice A9 (R.ps.length + 1) c9] by simp only [T.Rl.cells, List.length_append, List.length_singleton]; rfl]; exact hpC _ _ _ _ Zr)
              have hP := ogOwnC hP (ogKind hP Zr (by decide)) ([.slice A9 (R.ps.length + 1) c9]) (4)
              have hL := ogOwnC hL (ogKind hL Zr (by decide)) ([.slice A9 (R.ps.length + 1) c9]) (4)
              have hV := ogOwnC hV (ogKind hV Zr (by decide)) ([.slice A9 (R.ps.length + 1) c9]) (4)
              have ee := belowC (g := r) (by omega) ([.slice A9 (R.ps.length + 1) c9]) (4) z7 ee
              have ff := ogCells (k := r) (by first | (right; omega) | exact Or.inl (Or.inl rfl)) ([.slice A9 (R.ps.length + 1) c9]) (4) z7 ff
              have Za := hpCo (g' := r) (by omega) ([.slice A9 (R.ps.length + 1) c9]) (4) z7 Za
              clear Zr
              have Zr := N_
              clear N_
              change wpList _ _ _ _ _ (z7.setCells (r) (4) ([.slice A9 (R.ps.length + 1) c9]))
              generalize z7.setCells (r) (4) ([.slice A9 (R.ps.length + 1) c9]) = z8 at Zr Za hP hL hV ee ff ⊢
              generalize hpn : R.ps ++ [k] = pn at Zr hP hw_
              have hpl : pn.length ≤ t + 1 := by rw [← hpn, List.length_append, List.length_singleton]; omega
              clear hpn
              go_upto_region 5 with fail
              have Zr : z8.drew.heap[r]? = some (.cells (Rl.mk R.n R.nd R.br R.bn pn A9 c9 R.l R.LA R.lc R.af R.sl R.x R.vs R.VA R.vc).cells.toArray 150) := Zr
              have Za : z8.drew.heap[w.heap.size + 1]? = some (.cells a.cells.toArray 43) := Za
              have hP := World.ownsRow.drew hP
              have hL := World.ownsRow.drew hL
              have hV := World.ownsRow.drew hV
              have ee := belowDrewS ee
              have ff := ogDrew ff
              refine wp_region_held_drew (S := fun z' => z'.rangeAt (w.heap.size + 1) (0) a.cells) (by kernel_rfl) (rowAt Za) (fun hH => ?_)
              clear hH
              generalize z8.drew = z9 at Zr Za hP hL hV ee ff ⊢
              refine wpAnyH_take (i := 0) (v := .pointer (some ⟨r, 0, none⟩)) rfl (by kernel_rfl) (by kernel_rfl) (by kernel_rfl) (fun _ _ _ h => h) (Or.inl ⟨by rfl, fun w_ hS_ => by (first | (go_simp; done) | (go_simp; rfl))⟩) (rowAt Za) ?_
              try simp only [Act.put, List.getElem_toArray, List.getElem_cons_zero, List.getElem_cons_succ, List.setIfInBounds_toArray, List.set_cons_zero, List.set_cons_succ]
              refine wpAnyH_take (i := 1) (v := .pointer (some ⟨r, 0, none⟩)) rfl (by kernel_rfl) (by kernel_rfl) (by kernel_rfl) (fun _ _ _ h => h) (Or.inl ⟨by rfl, fun w_ hS_ => by (first | (go_simp; done) | (go_simp; rfl))⟩) (rowAt Za) ?_
              try simp only [Act.put, List.getElem_toArray, List.getElem_cons_zero, List.getElem_cons_succ, List.setIfInBounds_toArray, List.set_cons_zero, List.set_cons_succ]
              refine wpAnyH_take (i := 2) (v := .pointer (some ⟨r, 0, none⟩)) rfl (by kernel_rfl) (by kernel_rfl) (by kernel_rfl) (fun _ _ _ h => h) (Or.inl ⟨by rfl, fun w_ hS_ => by (first | (go_simp; done) | (go_simp; rfl))⟩) (rowAt Za) ?_
              try simp only [Act.put, List.getElem_toArray, List.getElem_cons_zero, List.getElem_cons_succ, List.setIfInBounds_toArray, List.set_cons_zero, List.set_cons_succ]
              refine wpAnyH_take (i := 3) (v := .pointer (some ⟨r, 5, none⟩)) rfl (by kernel_rfl) (by kernel_rfl) (by kernel_rfl) (fun _ _ _ h => h) (Or.inl ⟨by rfl, fun w_ hS_ => by (first | (go_simp; done) | (go_simp; rfl))⟩) (rowAt Za) ?_
              try simp only [Act.put, List.getElem_toArray, List.getElem_cons_zero, List.getElem_cons_succ, List.setIfInBounds_toArray, List.set_cons_zero, List.set_cons_succ]
              refine wpAnyH_take (i := 5) (v := .agg (a.cells).toArray) rfl (by kernel_rfl) (by kernel_rfl) (by kernel_rfl) (fun _ _ _ h => h) (yieldsIf_load_mid (by rfl) 43 _ rfl (w.heap.size + 1) (0) rfl (a.cells) _ (fun _ h => h) Tryd.underlying43 rfl sizeRAc) (rowAt Za) ?_
              try simp only [Act.put, List.getElem_toArray, List.getElem_cons_zero, List.getElem_cons_succ, List.setIfInBounds_toArray, List.set_cons_zero, List.set_cons_succ]
              refine wpAnyH_ready (rs := [4, 6]) (by kernel_rfl) (by simp) ?_
              refine AllReadyH.cons rfl (fun K hK => ?_) (AllReadyH.cons rfl (fun K hK => ?_) AllReadyH.nil)
              · rw [if_pos (by rfl)]
                have c_ := rowCell Zr 5 (v := .slice R.LA R.l.length R.lc) rfl
                go_simp
                clear c_
                refine hK.out _ _ (rowAt Za) (fun hH => ?_)
                clear hK K hH
                try simp only [Act.put, List.getElem_toArray, List.getElem_cons_zero, List.getElem_cons_succ, List.setIfInBounds_toArray, List.set_cons_zero, List.set_cons_succ]
                refine wpAnyH_ready (rs := [6]) (by kernel_rfl) (by simp) ?_
                refine AllReadyH.cons rfl (fun K hK => ?_) AllReadyH.nil
                rw [if_pos (by rfl)]
                refine wp_buildSlice 24 43 1 #[(0, .tmp 62)] rfl (a.cells).toArray i2 (.agg #[.int .u32 0, .int .i64 0, .int .i64 0, .bool false, .int .u32 0, .int .i64 0, .int .i64 0, .int .i64 0, .int .i64 0, .slice none 0 0, .slice none 0 0, .int .i64 0, .int .i64 0, .int .i64 0, .int .u64 0, .bool false]) Tryd.underlying24 hi2 hz20 (by rw [hz21]; decide) (by rw [hz21]; decide) (by rw [hz21]; simp only [List.map_toArray, List.map_cons, List.map_nil]; exact ogFill (by omega) _ (Ac.cells_len _) _ (by simp)) ?_
                have lZr := (Array.getElem?_eq_some_iff.1 Zr).1
                have lZa := (Array.getElem?_eq_some_iff.1 Za).1
                have sz_ := ff.size
                have ne_hL_Zn : (Value.slice R.LA R.l.length R.lc).ownBlock ≠ some (z9.heap.size) := fun hb_ => by have hh_ := (hL.lt _ hb_).2; omega
                have Zr := hpA Zr (.cells (a.cells).toArray 43)
                have Za := hpA Za (.cells (a.cells).toArray 43)
                have hP := hP.alloc (.cells (a.cells).toArray 43)
                have hL := hL.alloc (.cells (a.cells).toArray 43)
                have hV := hV.alloc (.cells (a.cells).toArray 43)
                have ee := ee.alloc (Nat.le_trans hB ee.size) (.cells (a.cells).toArray 43)
                have ff := ogAlloc ff (.cells (a.cells).toArray 43)
                have Zn := hpN z9 (.cells (a.cells).toArray 43) rfl
                generalize z9.alloc (.cells (a.cells).toArray 43) = z10 at Zr Za Zn hP hL hV ee ff ⊢
                refine hK.out _ _ (rowAt Za) (fun hH => ?_)
                clear hK K hH
                try simp only [Act.put, List.getElem_toArray, List.getElem_cons_zero, List.getElem_cons_succ, List.setIfInBounds_toArray, List.set_cons_zero, List.set_cons_succ]
                refine wpAnyH_ready (rs := [7]) (by kernel_rfl) (by simp) ?_
                refine AllReadyH.cons rfl (fun K hK => ?_) AllReadyH.nil
                rw [if_pos (by rfl)]
                refine wp_append_own _ (.tmp 61) (.tmp 63) 24 rfl B 43 i2 (.agg #[.int .u32 0, .int .i64 0, .int .i64 0, .bool false, .int .u32 0, .int .i64 0, .int .i64 0, .int .i64 0, .int .i64 0, .slice none 0 0, .slice none 0 0, .int .i64 0, .int .i64 0, .int .i64 0, .int .u64 0, .bool false]) 16 160 Tryd.underlying24 hi2 hz20 hz21 hz22 rfl (by decide) _ _ _ rfl hL ⟨z9.heap.size, 0, none⟩ 1 1 (a.cells) rfl rfl (ogRowAdd Zn) (oneAc3 _) (by unfold maxLen; omega) (by omega) (Nat.le_trans hB ff.size) ?_
                intro u_ z11 ho_ hg_ _
                clear Zn
                have Zr := ogHeap Zr hL (by decide) hg_
                have Za := ogHeapB Za ne_hL_Za hg_
                have hP := hP.kept hg_ (own_ne hL hP (by decide))
                have hV := hV.kept hg_ (own_ne hL hV (by decide))
                have ee := ee.grown hg_ (Nat.le_trans hB ee.size) (fun g_ hg2_ => by have hh_ := (hL.lt g_ hg2_).1; omega)
                have ff := ogOwnE ff hg_ (fun i_ hi_ => by have hh_ := (hL.lt i_ hi_).1; first | exact Or.inl (Or.inr hi_) | exact Or.inl (Or.inr (Or.inl hi_)) | exact Or.inl (Or.inr (Or.inr (Or.inl hi_))) | exact Or.inl (Or.inr (Or.inr (Or.inr hi_))) | (right; omega) | (left; first | rfl | omega))
                clear hg_ hL
                obtain ⟨A8, c8, hu9, hc9, _, _⟩ := ownShape ho_
                subst hu9
                have hL := ho_
                clear ho_
                refine hK.out _ _ (rowAt Za) (fun hH => ?_)
                clear hK K hH
                try simp only [Act.put, List.getElem_toArray, List.getElem_cons_zero, List.getElem_cons_succ, List.setIfInBounds_toArray, List.set_cons_zero, List.set_cons_succ]
                refine wpAnyH_take (i := 8) (v := .pointer (some ⟨r, 0, none⟩)) rfl (by kernel_rfl) (by kernel_rfl) (by kernel_rfl) (fun _ _ _ h => h) (Or.inl ⟨by rfl, fun w_ hS_ => by (first | (go_simp; done) | (go_simp; rfl))⟩) (rowAt Za) ?_
                try simp only [Act.put, List.getElem_toArray, List.getElem_cons_zero, List.getElem_cons_succ, List.setIfInBounds_toArray, List.set_cons_zero, List.set_cons_succ]
                refine wpAnyH_take (i := 9) (v := .pointer (some ⟨r, 5, none⟩)) rfl (by kernel_rfl) (by kernel_rfl) (by kernel_rfl) (fun _ _ _ h => h) (Or.inl ⟨by rfl, fun w_ hS_ => by (first | (go_simp; done) | (go_simp; rfl))⟩) (rowAt Za) ?_
                try simp only [Act.put, List.getElem_toArray, List.getElem_cons_zero, List.getElem_cons_succ, List.setIfInBounds_toArray, List.set_cons_zero, List.set_cons_succ]
                refine wpAnyH_ready (rs := [10]) (by kernel_rfl) (by simp) ?_
                refine AllReadyH.cons rfl (fun K hK => ?_) AllReadyH.nil
                rw [if_pos (by rfl)]
                have f_ : z11.frozen? ⟨r, 5, none⟩ = false := freeAt Zr (5)
                have c_ := rowCell Zr (5) rfl
                go_simp
                clear f_ c_
                have N_ : (z11.setCells (r) (5) ([.slice A8 (R.l.length + 1) c8])).heap[r]? = some (.cells (Rl.cells (Rl.mk R.n R.nd R.br R.bn pn A9 c9 (R.l ++ [a]) A8 c8 R.af R.sl R.x R.vs R.VA R.vc)).toArray 150) := (by rw [show (Rl.cells (Rl.mk R.n R.nd R.br R.bn pn A9 c9 (R.l ++ [a]) A8 c8 R.af R.sl R.x R.vs R.VA R.vc)) = putAt (Rl.cells (Rl.mk R.n R.nd R.br R.bn pn A9 c9 R.l R.LA R.lc R.af R.sl R.x R.vs R.VA R.vc)) 5 [.slice A8 (R.l.length + 1) c8] by simp only [T.Rl.cells, List.length_append, List.length_singleton]; rfl]; exact hpC _ _ _ _ Zr)
                have hP := ogOwnC hP (ogKind hP Zr (by decide)) ([.slice A8 (R.l.length + 1) c8]) (5)
                have hL := ogOwnC hL (ogKind hL Zr (by decide)) ([.slice A8 (R.l.length + 1) c8]) (5)
                have hV := ogOwnC hV (ogKind hV Zr (by decide)) ([.slice A8 (R.l.length + 1) c8]) (5)
                have ee := belowC (g := r) (by omega) ([.slice A8 (R.l.length + 1) c8]) (5) z11 ee
                have ff := ogCells (k := r) (by first | (right; omega) | exact Or.inl (Or.inl rfl)) ([.slice A8 (R.l.length + 1) c8]) (5) z11 ff
                have Za := hpCo (g' := r) (by omega) ([.slice A8 (R.l.length + 1) c8]) (5) z11 Za
                clear Zr
                have Zr := N_
                clear N_
                change K _ (z11.setCells (r) (5) ([.slice A8 (R.l.length + 1) c8]))
                generalize z11.setCells (r) (5) ([.slice A8 (R.l.length + 1) c8]) = z12 at Zr Za hP hL hV ee ff ⊢
                refine hK.out _ _ (rowAt Za) (fun hH => ?_)
                clear hK K hH
                try simp only [Act.put, List.getElem_toArray, List.getElem_cons_zero, List.getElem_cons_succ, List.setIfInBounds_toArray, List.set_cons_zero, List.set_cons_succ]
                refine wpAnyH_done (by kernel_rfl) ?_ _
                have hL : z12.ownsRow B 43 16 (.slice A8 (R.l ++ [a]).length c8) (R.l ++ [a]).length (acCells (R.l ++ [a])) := by rw [List.length_append, List.length_singleton, acCells_snoc]; exact hL
                go_wp2_with fail
                go_ret
                refine ⟨RetB.mk _, ⟨(Rl.mk R.n R.nd R.br R.bn pn A9 c9 (R.l ++ [a]) A8 c8 R.af R.sl R.x R.vs R.VA R.vc), ⟨Zr, hBr, hP, hL, hV, fun g hg hv => ?_, hpl, by show (R.l ++ [a]).length ≤ _; rw [List.length_append, List.length_singleton]; omega, by have := H.out.lv; show R.vs.length ≤ _; omega, fun b hb => ?_, H.out.cx.below ee (Nat.le_refl _), H.out.b4, H.out.sr, H.out.nn, H.out.af⟩⟩, ff, ee⟩
                · rcases hw_ g hg with q | q
                  · exact H.out.ap g q hv
                  · have := (H.out.pV.lt g hv).2; omega
                · rcases List.mem_append.1 hb with q | q
                  · exact (H.out.cl b q).below ee (Nat.le_refl _)
                  · rw [List.mem_singleton] at q; subst q; exact HOK.out.below ee (Nat.le_refl _)
              · rw [if_pos (by rfl)]
                refine wp_buildSlice 24 43 1 #[(0, .tmp 62)] rfl (a.cells).toArray i2 (.agg #[.int .u32 0, .int .i64 0, .int .i64 0, .bool false, .int .u32 0, .int .i64 0, .int .i64 0, .int .i64 0, .int .i64 0, .slice none 0 0, .slice none 0 0, .int .i64 0, .int .i64 0, .int .i64 0, .int .u64 0, .bool false]) Tryd.underlying24 hi2 hz20 (by rw [hz21]; decide) (by rw [hz21]; decide) (by rw [hz21]; simp only [List.map_toArray, List.map_cons, List.map_nil]; exact ogFill (by omega) _ (Ac.cells_len _) _ (by simp)) ?_
                have lZr := (Array.getElem?_eq_some_iff.1 Zr).1
                have lZa := (Array.getElem?_eq_some_iff.1 Za).1
                have sz_ := ff.size
                have ne_hL_Zn : (Value.slice R.LA R.l.length R.lc).ownBlock ≠ some (z9.heap.size) := fun hb_ => by have hh_ := (hL.lt _ hb_).2; omega
                have Zr := hpA Zr (.cells (a.cells).toArray 43)
                have Za := hpA Za (.cells (a.cells).toArray 43)
                have hP := hP.alloc (.cells (a.cells).toArray 43)
                have hL := hL.alloc (.cells (a.cells).toArray 43)
                have hV := hV.alloc (.cells (a.cells).toArray 43)
                have ee := ee.alloc (Nat.le_trans hB ee.size) (.cells (a.cells).toArray 43)
                have ff := ogAlloc ff (.cells (a.cells).toArray 43)
                have Zn := hpN z9 (.cells (a.cells).toArray 43) rfl
                generalize z9.alloc (.cells (a.cells).toArray 43) = z10 at Zr Za Zn hP hL hV ee ff ⊢
                refine hK.out _ _ (rowAt Za) (fun hH => ?_)
                clear hK K hH
                try simp only [Act.put, List.getElem_toArray, List.getElem_cons_zero, List.getElem_cons_succ, List.setIfInBounds_toArray, List.set_cons_zero, List.set_cons_succ]
                refine wpAnyH_ready (rs := [4]) (by kernel_rfl) (by simp) ?_
                refine AllReadyH.cons rfl (fun K hK => ?_) AllReadyH.nil
                rw [if_pos (by rfl)]
                have c_ := rowCell Zr 5 (v := .slice R.LA R.l.length R.lc) rfl
                go_simp
                clear c_
                refine hK.out _ _ (rowAt Za) (fun hH => ?_)
                clear hK K hH
                try simp only [Act.put, List.getElem_toArray, List.getElem_cons_zero, List.getElem_cons_succ, List.setIfInBounds_toArray, List.set_cons_zero, List.set_cons_succ]
                refine wpAnyH_ready (rs := [7]) (by kernel_rfl) (by simp) ?_
                refine AllReadyH.cons rfl (fun K hK => ?_) AllReadyH.nil
                rw [if_pos (by rfl)]
                refine wp_append_own _ (.tmp 61) (.tmp 63) 24 rfl B 43 i2 (.agg #[.int .u32 0, .int .i64 0, .int .i64 0, .bool false, .int .u32 0, .int .i64 0, .int .i64 0, .int .i64 0, .int .i64 0, .slice none 0 0, .slice none 0 0, .int .i64 0, .int .i64 0, .int .i64 0, .int .u64 0, .bool false]) 16 160 Tryd.underlying24 hi2 hz20 hz21 hz22 rfl (by decide) _ _ _ rfl hL ⟨z9.heap.size, 0, none⟩ 1 1 (a.cells) rfl rfl (ogRowAdd Zn) (oneAc3 _) (by unfold maxLen; omega) (by omega) (Nat.le_trans hB ff.size) ?_
                intro u_ z11 ho_ hg_ _
                clear Zn
                have Zr := ogHeap Zr hL (by decide) hg_
                have Za := ogHeapB Za ne_hL_Za hg_
                have hP := hP.kept hg_ (own_ne hL hP (by decide))
                have hV := hV.kept hg_ (own_ne hL hV (by decide))
                have ee := ee.grown hg_ (Nat.le_trans hB ee.size) (fun g_ hg2_ => by have hh_ := (hL.lt g_ hg2_).1; omega)
                have ff := ogOwnE ff hg_ (fun i_ hi_ => by have hh_ := (hL.lt i_ hi_).1; first | exact Or.inl (Or.inr hi_) | exact Or.inl (Or.inr (Or.inl hi_)) | exact Or.inl (Or.inr (Or.inr (Or.inl hi_))) | exact Or.inl (Or.inr (Or.inr (Or.inr hi_))) | (right; omega) | (left; first | rfl | omega))
                clear hg_ hL
                obtain ⟨A8, c8, hu9, hc9, _, _⟩ := ownShape ho_
                subst hu9
                have hL := ho_
                clear ho_
                refine hK.out _ _ (rowAt Za) (fun hH => ?_)
                clear hK K hH
                try simp only [Act.put, List.getElem_toArray, List.getElem_cons_zero, List.getElem_cons_succ, List.setIfInBounds_toArray, List.set_cons_zero, List.set_cons_succ]
                refine wpAnyH_take (i := 8) (v := .pointer (some ⟨r, 0, none⟩)) rfl (by kernel_rfl) (by kernel_rfl) (by kernel_rfl) (fun _ _ _ h => h) (Or.inl ⟨by rfl, fun w_ hS_ => by (first | (go_simp; done) | (go_simp; rfl))⟩) (rowAt Za) ?_
                try simp only [Act.put, List.getElem_toArray, List.getElem_cons_zero, List.getElem_cons_succ, List.setIfInBounds_toArray, List.set_cons_zero, List.set_cons_succ]
                refine wpAnyH_take (i := 9) (v := .pointer (some ⟨r, 5, none⟩)) rfl (by kernel_rfl) (by kernel_rfl) (by kernel_rfl) (fun _ _ _ h => h) (Or.inl ⟨by rfl, fun w_ hS_ => by (first | (go_simp; done) | (go_simp; rfl))⟩) (rowAt Za) ?_
                try simp only [Act.put, List.getElem_toArray, List.getElem_cons_zero, List.getElem_cons_succ, List.setIfInBounds_toArray, List.set_cons_zero, List.set_cons_succ]
                refine wpAnyH_ready (rs := [10]) (by kernel_rfl) (by simp) ?_
                refine AllReadyH.cons rfl (fun K hK => ?_) AllReadyH.nil
                rw [if_pos (by rfl)]
                have f_ : z11.frozen? ⟨r, 5, none⟩ = false := freeAt Zr (5)
                have c_ := rowCell Zr (5) rfl
                go_simp
                clear f_ c_
                have N_ : (z11.setCells (r) (5) ([.slice A8 (R.l.length + 1) c8])).heap[r]? = some (.cells (Rl.cells (Rl.mk R.n R.nd R.br R.bn pn A9 c9 (R.l ++ [a]) A8 c8 R.af R.sl R.x R.vs R.VA R.vc)).toArray 150) := (by rw [show (Rl.cells (Rl.mk R.n R.nd R.br R.bn pn A9 c9 (R.l ++ [a]) A8 c8 R.af R.sl R.x R.vs R.VA R.vc)) = putAt (Rl.cells (Rl.mk R.n R.nd R.br R.bn pn A9 c9 R.l R.LA R.lc R.af R.sl R.x R.vs R.VA R.vc)) 5 [.slice A8 (R.l.length + 1) c8] by simp only [T.Rl.cells, List.length_append, List.length_singleton]; rfl]; exact hpC _ _ _ _ Zr)
                have hP := ogOwnC hP (ogKind hP Zr (by decide)) ([.slice A8 (R.l.length + 1) c8]) (5)
                have hL := ogOwnC hL (ogKind hL Zr (by decide)) ([.slice A8 (R.l.length + 1) c8]) (5)
                have hV := ogOwnC hV (ogKind hV Zr (by decide)) ([.slice A8 (R.l.length + 1) c8]) (5)
                have ee := belowC (g := r) (by omega) ([.slice A8 (R.l.length + 1) c8]) (5) z11 ee
                have ff := ogCells (k := r) (by first | (right; omega) | exact Or.inl (Or.inl rfl)) ([.slice A8 (R.l.length + 1) c8]) (5) z11 ff
                have Za := hpCo (g' := r) (by omega) ([.slice A8 (R.l.length + 1) c8]) (5) z11 Za
                clear Zr
                have Zr := N_
                clear N_
                change K _ (z11.setCells (r) (5) ([.slice A8 (R.l.length + 1) c8]))
                generalize z11.setCells (r) (5) ([.slice A8 (R.l.length + 1) c8]) = z12 at Zr Za hP hL hV ee ff ⊢
                refine hK.out _ _ (rowAt Za) (fun hH => ?_)
                clear hK K hH
                try simp only [Act.put, List.getElem_toArray, List.getElem_cons_zero, List.getElem_cons_succ, List.setIfInBounds_toArray, List.set_cons_zero, List.set_cons_succ]
                refine wpAnyH_done (by kernel_rfl) ?_ _
                have hL : z12.ownsRow B 43 16 (.slice A8 (R.l ++ [a]).length c8) (R.l ++ [a]).length (acCells (R.l ++ [a])) := by rw [List.length_append, List.length_singleton, acCells_snoc]; exact hL
                go_wp2_with fail
                go_ret
                refine ⟨RetB.mk _, ⟨(Rl.mk R.n R.nd R.br R.bn pn A9 c9 (R.l ++ [a]) A8 c8 R.af R.sl R.x R.vs R.VA R.vc), ⟨Zr, hBr, hP, hL, hV, fun g hg hv => ?_, hpl, by show (R.l ++ [a]).length ≤ _; rw [List.length_append, List.length_singleton]; omega, by have := H.out.lv; show R.vs.length ≤ _; omega, fun b hb => ?_, H.out.cx.below ee (Nat.le_refl _), H.out.b4, H.out.sr, H.out.nn, H.out.af⟩⟩, ff, ee⟩
                · rcases hw_ g hg with q | q
                  · exact H.out.ap g q hv
                  · have := (H.out.pV.lt g hv).2; omega
                · rcases List.mem_append.1 hb with q | q
                  · exact (H.out.cl b q).below ee (Nat.le_refl _)
                  · rw [List.mem_singleton] at q; subst q; exact HOK.out.below ee (Nat.le_refl _)
set_option maxHeartbeats 12800000 in
theorem rpropose (w : World) (B r t : Nat) (R : Rl) (s : Int) (x : Cm) (h : RlAt w B r t R) (ht : t ≤ 1000) (ok : CmOk w B x) : Calls Tryd.prog 86 #[.pointer (some ⟨r, 0, none⟩), .int .i64 s, .agg x.cells.toArray] w fun e w' => RetCB w' B e ∧ (∃ R', RlAt w' B r (t + 1) R') ∧ OgF w w' (RF r R) ∧ Below B w w' := by
  have hlr := h.lt
  have hBr := h.rB
  have hB : B ≤ w.heap.size := by omega
  obtain ⟨w0, hw0⟩ : ∃ w0, w0 = (w.alloc (.cells x.cells.toArray 41)).alloc (.cells #[.int .i64 0, .int .i64 0, .int .i64 0, .slice none 0 0, .slice none 0 0, .int .i64 0, .int .i64 0, .int .i64 0, .int .u64 0, .bool false] 41) := ⟨_, rfl⟩
  have ff : OgF w w0 (RF r R) := by rw [hw0]; exact (ogAlloc (ogAlloc (OgF.refl _ _) _) _)
  have ee : Below B w w0 := by rw [hw0]; exact ((((Below.refl _ _).alloc (Nat.le_refl _) _).alloc (by simp) _).mono hB)
  have Zr : w0.heap[r]? = some (.cells R.cells.toArray 150) := by rw [hw0]; exact (hpA (hpA h.blk _) _)
  have hP : w0.ownsRow B 3 1 (.slice R.PA R.ps.length R.pc) R.ps.length (iv R.ps) := by rw [hw0]; exact ((h.pP.alloc _).alloc _)
  have hL : w0.ownsRow B 43 16 (.slice R.LA R.l.length R.lc) R.l.length (acCells R.l) := by rw [hw0]; exact ((h.pL.alloc _).alloc _)
  have hV : w0.ownsRow B 3 1 (.slice R.VA R.vs.length R.vc) R.vs.length (iv R.vs) := by rw [hw0]; exact ((h.pV.alloc _).alloc _)
  have Zx : w0.heap[w.heap.size]? = some (.cells x.cells.toArray 41) := by rw [hw0]; exact (hpA (hpN _ _ rfl) _)
  have Zo : w0.heap[w.heap.size + 1]? = some (.cells #[.int .i64 0, .int .i64 0, .int .i64 0, .slice none 0 0, .slice none 0 0, .int .i64 0, .int .i64 0, .int .i64 0, .int .u64 0, .bool false] 41) := by rw [hw0]; exact (hpN _ _ (by simp))
  have H := Lib.hid h
  have hll := h.ll
  have HFO := Lib.hid (fun z (hz : Below B w z) => cr_cformed x z z.heap.size (Nat.le_refl _) ((ok.below hz (Nat.le_refl _)).more (Nat.le_trans hB hz.size)))
  generalize x.formed = d5 at HFO
  have HPK := Lib.hid (fun z (hz : z.ownsRow B 43 16 (.slice R.LA R.l.length R.lc) R.l.length (acCells R.l)) => rpick_any R.LA R.lc R.l z z.heap.size (by omega) (acRows hz).1 (acRows hz).2 (Nat.le_refl _))
  have HOY : Hid (CmOk w B (best (topOf R.l) R.l).c) := bestOkB w B R.l h.cl _ _ CmOk.zero
  generalize (best (topOf R.l) R.l).c = y at HPK HOY
  generalize (best (topOf R.l) R.l).ha = yo at HPK
  have HOK := Lib.hid ok
  have HAF := Lib.hid h.af
  clear h ok
  go_enter Tryd.func86, Tryd.ntmps86
  go_upto_region 1 with fail
  change Code.wp _ _ _ _ ((w.alloc (.cells x.cells.toArray 41)).alloc (.cells #[.int .i64 0, .int .i64 0, .int .i64 0, .slice none 0 0, .slice none 0 0, .int .i64 0, .int .i64 0, .int .i64 0, .int .u64 0, .bool false] 41))
  rw [← hw0]
  clear hw0
  refine wp_region_lit ?_
  go_wp2_with fail
  refine (rleads w0 B r t R (H.out.keepF ff ee Zr hP hL hV) ht).mono ?_
  rintro e z1 ⟨⟨d1, rfl⟩, t⟩
  have Zr := hpB Zr t
  have Zx := hpB Zx t
  have Zo := hpB Zo t
  have hP := ownBelow hP t
  have hL := ownBelow hL t
  have hV := ownBelow hV t
  have ee := ee.trans (t.mono (Nat.le_trans hB ee.size))
  have ff := ogBelow ff t
  clear t
  try dsimp only
  rename_i hK
  refine hK _ _ ?_
  clear hK
  have c7 := rowCell Zr 7 rfl
  generalize h2 : (R.sl != 0) = d2
  cases d1 with
  | false =>
    go_upto_region 2 with fail
    clear c7 h2 
    refine wp_region_lit ?_
    iterate 27 (first | with_reducible refine isStore (ty := 41) rfl ?_ | go_step)
    refine wpList_store_row rfl 41 _ _ rfl (w.heap.size + 1) (Cm.zero.cells).toArray rfl rfl 41 _ Zo sizeRCm (by rfl) (Cm.one _) ?_
    have N_ := setRow_heap z1 (w.heap.size + 1) _ (Cm.zero.cells).toArray _ _ Zo
    have hP := ogOwnR (cs := (Cm.zero.cells).toArray) hP (ogKind hP Zo (by decide))
    have hL := ogOwnR (cs := (Cm.zero.cells).toArray) hL (ogKind hL Zo (by decide))
    have hV := ogOwnR (cs := (Cm.zero.cells).toArray) hV (ogKind hV Zo (by decide))
    have ee := belowSet (cs := (Cm.zero.cells).toArray) ee Zo (by omega)
    have ff := ogRow (cs := (Cm.zero.cells).toArray) (by first | (right; omega) | exact Or.inl (Or.inl rfl)) Zo ff
    have Zr := hpR Zr (g' := w.heap.size + 1) (by omega) (Cm.zero.cells).toArray
    have Zx := hpR Zx (g' := w.heap.size + 1) (by omega) (Cm.zero.cells).toArray
    clear Zo
    have Zo := N_
    clear N_
    generalize z1.setRow (w.heap.size + 1) (Cm.zero.cells).toArray = z2 at Zr Zx Zo hP hL hV ee ff ⊢
    go_wp2_with fail
    refine bodyPost_ret (v := .tuple #[.agg Cm.zero.cells.toArray, .bool false]) (res_ct rfl rfl rfl Zo Tryd.underlying41 rfl sizeRCm) rfl ⟨RetCB.mk _ _ CmOk.zero, ⟨R, (H.out.keepF ff ee Zr hP hL hV).more⟩, ff, ee⟩
  | true =>
    cases d2 with
    | true =>
      go_upto_region 2 with fail
      clear c7 h2 
      refine wp_region_lit ?_
      iterate 27 (first | with_reducible refine isStore (ty := 41) rfl ?_ | go_step)
      refine wpList_store_row rfl 41 _ _ rfl (w.heap.size + 1) (Cm.zero.cells).toArray rfl rfl 41 _ Zo sizeRCm (by rfl) (Cm.one _) ?_
      have N_ := setRow_heap z1 (w.heap.size + 1) _ (Cm.zero.cells).toArray _ _ Zo
      have hP := ogOwnR (cs := (Cm.zero.cells).toArray) hP (ogKind hP Zo (by decide))
      have hL := ogOwnR (cs := (Cm.zero.cells).toArray) hL (ogKind hL Zo (by decide))
      have hV := ogOwnR (cs := (Cm.zero.cells).toArray) hV (ogKind hV Zo (by decide))
      have ee := belowSet (cs := (Cm.zero.cells).toArray) ee Zo (by omega)
      have ff := ogRow (cs := (Cm.zero.cells).toArray) (by first | (right; omega) | exact Or.inl (Or.inl rfl)) Zo ff
      have Zr := hpR Zr (g' := w.heap.size + 1) (by omega) (Cm.zero.cells).toArray
      have Zx := hpR Zx (g' := w.heap.size + 1) (by omega) (Cm.zero.cells).toArray
      clear Zo
      have Zo := N_
      clear N_
      generalize z1.setRow (w.heap.size + 1) (Cm.zero.cells).toArray = z2 at Zr Zx Zo hP hL hV ee ff ⊢
      go_wp2_with fail
      refine bodyPost_ret (v := .tuple #[.agg Cm.zero.cells.toArray, .bool false]) (res_ct rfl rfl rfl Zo Tryd.underlying41 rfl sizeRCm) rfl ⟨RetCB.mk _ _ CmOk.zero, ⟨R, (H.out.keepF ff ee Zr hP hL hV).more⟩, ff, ee⟩
    | false =>
      go_wp2_with fail
      refine (rfirst z1 B r t R (H.out.keepF ff ee Zr hP hL hV) ht).mono ?_
      rintro e z2 ⟨⟨f1, haff1, rfl⟩, hw_⟩
      rw [← hw_]
      clear hw_ z2
      try dsimp only
      rename_i hK
      refine hK _ _ ?_
      clear hK
      by_cases hs1 : s < f1
      · have e3 : decide (s < f1) = true := decide_eq_true hs1
        go_upto_region 2 with fail
        clear c7 h2 e3
        refine wp_region_lit ?_
        iterate 27 (first | with_reducible refine isStore (ty := 41) rfl ?_ | go_step)
        refine wpList_store_row rfl 41 _ _ rfl (w.heap.size + 1) (Cm.zero.cells).toArray rfl rfl 41 _ Zo sizeRCm (by rfl) (Cm.one _) ?_
        have N_ := setRow_heap z1 (w.heap.size + 1) _ (Cm.zero.cells).toArray _ _ Zo
        have hP := ogOwnR (cs := (Cm.zero.cells).toArray) hP (ogKind hP Zo (by decide))
        have hL := ogOwnR (cs := (Cm.zero.cells).toArray) hL (ogKind hL Zo (by decide))
        have hV := ogOwnR (cs := (Cm.zero.cells).toArray) hV (ogKind hV Zo (by decide))
        have ee := belowSet (cs := (Cm.zero.cells).toArray) ee Zo (by omega)
        have ff := ogRow (cs := (Cm.zero.cells).toArray) (by first | (right; omega) | exact Or.inl (Or.inl rfl)) Zo ff
        have Zr := hpR Zr (g' := w.heap.size + 1) (by omega) (Cm.zero.cells).toArray
        have Zx := hpR Zx (g' := w.heap.size + 1) (by omega) (Cm.zero.cells).toArray
        clear Zo
        have Zo := N_
        clear N_
        generalize z1.setRow (w.heap.size + 1) (Cm.zero.cells).toArray = z3 at Zr Zx Zo hP hL hV ee ff ⊢
        go_wp2_with fail
        refine bodyPost_ret (v := .tuple #[.agg Cm.zero.cells.toArray, .bool false]) (res_ct rfl rfl rfl Zo Tryd.underlying41 rfl sizeRCm) rfl ⟨RetCB.mk _ _ CmOk.zero, ⟨R, (H.out.keepF ff ee Zr hP hL hV).more⟩, ff, ee⟩
      · have e3 : decide (s < f1) = false := decide_eq_false hs1
        by_cases hs2 : 1000000 < s
        · have e4 : decide (1000000 < s) = true := decide_eq_true hs2
          go_upto_region 2 with fail
          clear c7 h2 e3 e4
          refine wp_region_lit ?_
          iterate 27 (first | with_reducible refine isStore (ty := 41) rfl ?_ | go_step)
          refine wpList_store_row rfl 41 _ _ rfl (w.heap.size + 1) (Cm.zero.cells).toArray rfl rfl 41 _ Zo sizeRCm (by rfl) (Cm.one _) ?_
          have N_ := setRow_heap z1 (w.heap.size + 1) _ (Cm.zero.cells).toArray _ _ Zo
          have hP := ogOwnR (cs := (Cm.zero.cells).toArray) hP (ogKind hP Zo (by decide))
          have hL := ogOwnR (cs := (Cm.zero.cells).toArray) hL (ogKind hL Zo (by decide))
          have hV := ogOwnR (cs := (Cm.zero.cells).toArray) hV (ogKind hV Zo (by decide))
          have ee := belowSet (cs := (Cm.zero.cells).toArray) ee Zo (by omega)
          have ff := ogRow (cs := (Cm.zero.cells).toArray) (by first | (right; omega) | exact Or.inl (Or.inl rfl)) Zo ff
          have Zr := hpR Zr (g' := w.heap.size + 1) (by omega) (Cm.zero.cells).toArray
          have Zx := hpR Zx (g' := w.heap.size + 1) (by omega) (Cm.zero.cells).toArray
          clear Zo
          have Zo := N_
          clear N_
          generalize z1.setRow (w.heap.size + 1) (Cm.zero.cells).toArray = z3 at Zr Zx Zo hP hL hV ee ff ⊢
          go_wp2_with fail
          refine bodyPost_ret (v := .tuple #[.agg Cm.zero.cells.toArray, .bool false]) (res_ct rfl rfl rfl Zo Tryd.underlying41 rfl sizeRCm) rfl ⟨RetCB.mk _ _ CmOk.zero, ⟨R, (H.out.keepF ff ee Zr hP hL hV).more⟩, ff, ee⟩
        · have e4 : decide (1000000 < s) = false := decide_eq_false hs2
          have HSR : Hid (0 ≤ s ∧ s ≤ 1000000) := ⟨by have := HAF.out; omega, by omega⟩
          clear hs1 hs2 haff1
          iterate 90 (first | with_reducible refine isLoad (ty := 41) rfl ?_ | go_step)
          refine wpList_load_g (by rfl) 41 _ rfl (w.heap.size) 0 rfl (x.cells) _ (rowAt Zx) Tryd.underlying41 rfl sizeRCm ?_
          clear c7 h2 e3 e4
          go_wp2_with fail
          refine (HFO.out z1 ee).mono ?_
          rintro e z3 ⟨rfl, t⟩
          have Zr := hpB Zr t
          have Zx := hpB Zx t
          have Zo := hpB Zo t
          have hP := ownBelow hP t
          have hL := ownBelow hL t
          have hV := ownBelow hV t
          have ee := ee.trans (t.mono (Nat.le_trans hB ee.size))
          have ff := ogBelow ff t
          clear t
          try dsimp only
          rename_i hK
          refine hK _ _ ?_
          clear hK
          cases d5 with
          | false =>
            have c7 : True := trivial
            have h2 : True := trivial
            go_upto_region 2 with fail
            clear c7 h2 
            refine wp_region_lit ?_
            iterate 27 (first | with_reducible refine isStore (ty := 41) rfl ?_ | go_step)
            refine wpList_store_row rfl 41 _ _ rfl (w.heap.size + 1) (Cm.zero.cells).toArray rfl rfl 41 _ Zo sizeRCm (by rfl) (Cm.one _) ?_
            have N_ := setRow_heap z3 (w.heap.size + 1) _ (Cm.zero.cells).toArray _ _ Zo
            have hP := ogOwnR (cs := (Cm.zero.cells).toArray) hP (ogKind hP Zo (by decide))
            have hL := ogOwnR (cs := (Cm.zero.cells).toArray) hL (ogKind hL Zo (by decide))
            have hV := ogOwnR (cs := (Cm.zero.cells).toArray) hV (ogKind hV Zo (by decide))
            have ee := belowSet (cs := (Cm.zero.cells).toArray) ee Zo (by omega)
            have ff := ogRow (cs := (Cm.zero.cells).toArray) (by first | (right; omega) | exact Or.inl (Or.inl rfl)) Zo ff
            have Zr := hpR Zr (g' := w.heap.size + 1) (by omega) (Cm.zero.cells).toArray
            have Zx := hpR Zx (g' := w.heap.size + 1) (by omega) (Cm.zero.cells).toArray
            clear Zo
            have Zo := N_
            clear N_
            generalize z3.setRow (w.heap.size + 1) (Cm.zero.cells).toArray = z4 at Zr Zx Zo hP hL hV ee ff ⊢
            go_wp2_with fail
            refine bodyPost_ret (v := .tuple #[.agg Cm.zero.cells.toArray, .bool false]) (res_ct rfl rfl rfl Zo Tryd.underlying41 rfl sizeRCm) rfl ⟨RetCB.mk _ _ CmOk.zero, ⟨R, (H.out.keepF ff ee Zr hP hL hV).more⟩, ff, ee⟩
          | true =>
            go_upto_region 3 with fail
            refine wp_region_lit ?_
            have c5 := rowCell Zr 5 rfl
            go_wp2_with fail
            refine (HPK.out z3 hL).mono ?_
            rintro e z4 ⟨rfl, t⟩
            have Zr := hpB Zr t
            have Zx := hpB Zx t
            have Zo := hpB Zo t
            have hP := ownBelow hP t
            have hL := ownBelow hL t
            have hV := ownBelow hV t
            have ee := ee.trans (t.mono (Nat.le_trans hB ee.size))
            have ff := ogBelow ff t
            clear t
            try dsimp only
            rename_i hK
            refine hK _ _ ?_
            clear hK
            clear c5 HPK HFO
            iterate 12 go_step
            have lZr := (Array.getElem?_eq_some_iff.1 Zr).1
            have lZx := (Array.getElem?_eq_some_iff.1 Zx).1
            have lZo := (Array.getElem?_eq_some_iff.1 Zo).1
            have sz_ := ff.size
            have Zr := hpA Zr (.cells #[.int .i64 0, .int .i64 0, .int .i64 0, .slice none 0 0, .slice none 0 0, .int .i64 0, .int .i64 0, .int .i64 0, .int .u64 0, .bool false] 41)
            have Zx := hpA Zx (.cells #[.int .i64 0, .int .i64 0, .int .i64 0, .slice none 0 0, .slice none 0 0, .int .i64 0, .int .i64 0, .int .i64 0, .int .u64 0, .bool false] 41)
            have Zo := hpA Zo (.cells #[.int .i64 0, .int .i64 0, .int .i64 0, .slice none 0 0, .slice none 0 0, .int .i64 0, .int .i64 0, .int .i64 0, .int .u64 0, .bool false] 41)
            have hP := hP.alloc (.cells #[.int .i64 0, .int .i64 0, .int .i64 0, .slice none 0 0, .slice none 0 0, .int .i64 0, .int .i64 0, .int .i64 0, .int .u64 0, .bool false] 41)
            have hL := hL.alloc (.cells #[.int .i64 0, .int .i64 0, .int .i64 0, .slice none 0 0, .slice none 0 0, .int .i64 0, .int .i64 0, .int .i64 0, .int .u64 0, .bool false] 41)
            have hV := hV.alloc (.cells #[.int .i64 0, .int .i64 0, .int .i64 0, .slice none 0 0, .slice none 0 0, .int .i64 0, .int .i64 0, .int .i64 0, .int .u64 0, .bool false] 41)
            have ee := ee.alloc (Nat.le_trans hB ee.size) (.cells #[.int .i64 0, .int .i64 0, .int .i64 0, .slice none 0 0, .slice none 0 0, .int .i64 0, .int .i64 0, .int .i64 0, .int .u64 0, .bool false] 41)
            have ff := ogAlloc ff (.cells #[.int .i64 0, .int .i64 0, .int .i64 0, .slice none 0 0, .slice none 0 0, .int .i64 0, .int .i64 0, .int .i64 0, .int .u64 0, .bool false] 41)
            have Zp := hpN z4 (.cells #[.int .i64 0, .int .i64 0, .int .i64 0, .slice none 0 0, .slice none 0 0, .int .i64 0, .int .i64 0, .int .i64 0, .int .u64 0, .bool false] 41) rfl
            generalize z4.alloc (.cells #[.int .i64 0, .int .i64 0, .int .i64 0, .slice none 0 0, .slice none 0 0, .int .i64 0, .int .i64 0, .int .i64 0, .int .u64 0, .bool false] 41) = z5 at Zr Zx Zo Zp hP hL hV ee ff ⊢
            iterate 27 (first | with_reducible refine isStore (ty := 41) rfl ?_ | go_step)
            refine wpList_store_row rfl 41 _ _ rfl (z4.heap.size) (y.cells).toArray rfl rfl 41 _ Zp sizeRCm (by rfl) (Cm.one _) ?_
            have N_ := setRow_heap z5 (z4.heap.size) _ (y.cells).toArray _ _ Zp
            have hP := ogOwnR (cs := (y.cells).toArray) hP (ogKind hP Zp (by decide))
            have hL := ogOwnR (cs := (y.cells).toArray) hL (ogKind hL Zp (by decide))
            have hV := ogOwnR (cs := (y.cells).toArray) hV (ogKind hV Zp (by decide))
            have ee := belowSet (cs := (y.cells).toArray) ee Zp (by omega)
            have ff := ogRow (cs := (y.cells).toArray) (by first | (right; omega) | exact Or.inl (Or.inl rfl)) Zp ff
            have Zr := hpR Zr (g' := z4.heap.size) (by omega) (y.cells).toArray
            have Zx := hpR Zx (g' := z4.heap.size) (by omega) (y.cells).toArray
            have Zo := hpR Zo (g' := z4.heap.size) (by omega) (y.cells).toArray
            clear Zp
            have Zp := N_
            clear N_
            generalize z5.setRow (z4.heap.size) (y.cells).toArray = z6 at Zr Zx Zo Zp hP hL hV ee ff ⊢
            cases yo with
            | false =>
              go_upto_region 6 with fail
              refine wp_region_lit ?_
              iterate 40 (first | with_reducible refine isStore (ty := 3) rfl ?_ | go_step)
              have f_ : z6.frozen? ⟨r, 7, none⟩ = false := freeAt Zr (7)
              have c_ := rowCell Zr (7) rfl
              iterate 3 go_step
              clear f_ c_
              have N_ : (z6.setCells (r) (7) ([.int .i64 s])).heap[r]? = some (.cells ((Rl.mk R.n R.nd R.br R.bn R.ps R.PA R.pc R.l R.LA R.lc R.af s R.x R.vs R.VA R.vc).cells).toArray 150) := hpC ([.int .i64 s]) (7) _ z6 Zr
              have hP := ogOwnC hP (ogKind hP Zr (by decide)) ([.int .i64 s]) (7)
              have hL := ogOwnC hL (ogKind hL Zr (by decide)) ([.int .i64 s]) (7)
              have hV := ogOwnC hV (ogKind hV Zr (by decide)) ([.int .i64 s]) (7)
              have ee := belowC (g := r) (by omega) ([.int .i64 s]) (7) z6 ee
              have ff := ogCells (k := r) (by first | (right; omega) | exact Or.inl (Or.inl rfl)) ([.int .i64 s]) (7) z6 ff
              have Zx := hpCo (g' := r) (by omega) ([.int .i64 s]) (7) z6 Zx
              have Zo := hpCo (g' := r) (by omega) ([.int .i64 s]) (7) z6 Zo
              have Zp := hpCo (g' := r) (by omega) ([.int .i64 s]) (7) z6 Zp
              clear Zr
              have Zr := N_
              clear N_
              change wpList _ _ _ _ _ (z6.setCells (r) (7) ([.int .i64 s]))
              generalize z6.setCells (r) (7) ([.int .i64 s]) = z7 at Zr Zx Zo Zp hP hL hV ee ff ⊢
              go_upto_region 7 with fail
              refine wp_region_lit ?_
              iterate 27 (first | with_reducible refine isLoad (ty := 41) rfl ?_ | go_step)
              refine wpList_load_mid rfl 41 _ rfl (w.heap.size) 0 rfl (x.cells) _ (rowAt Zx) Tryd.underlying41 rfl sizeRCm ?_
              iterate 40 (first | with_reducible refine isStore (ty := 41) rfl ?_ | go_step)
              refine wpList_store_mid rfl 41 _ _ rfl (r) (8) (x.cells).toArray rfl rfl (rowThere Zr (by simp [T.Rl.cells, T.Cm.cells])) sizeRCm (Cm.one _) ?_
              have N_ : (z7.setCells (r) (8) (x.cells)).heap[r]? = some (.cells ((Rl.mk R.n R.nd R.br R.bn R.ps R.PA R.pc R.l R.LA R.lc R.af s x R.vs R.VA R.vc).cells).toArray 150) := hpC (x.cells) (8) _ z7 Zr
              have hP := ogOwnC hP (ogKind hP Zr (by decide)) (x.cells) (8)
              have hL := ogOwnC hL (ogKind hL Zr (by decide)) (x.cells) (8)
              have hV := ogOwnC hV (ogKind hV Zr (by decide)) (x.cells) (8)
              have ee := belowC (g := r) (by omega) (x.cells) (8) z7 ee
              have ff := ogCells (k := r) (by first | (right; omega) | exact Or.inl (Or.inl rfl)) (x.cells) (8) z7 ff
              have Zx := hpCo (g' := r) (by omega) (x.cells) (8) z7 Zx
              have Zo := hpCo (g' := r) (by omega) (x.cells) (8) z7 Zo
              have Zp := hpCo (g' := r) (by omega) (x.cells) (8) z7 Zp
              clear Zr
              have Zr := N_
              clear N_
              change wpList _ _ _ _ _ (z7.setCells (r) (8) (x.cells))
              generalize z7.setCells (r) (8) (x.cells) = z8 at Zr Zx Zo Zp hP hL hV ee ff ⊢
              go_upto_region 8 with fail
              refine wp_region_lit ?_
              iterate 40 (first | with_reducible refine isStore (ty := 61) rfl ?_ | go_step)
              have f_ : z8.frozen? ⟨r, 18, none⟩ = false := freeAt Zr (18)
              have c_ := rowCell Zr (18) rfl
              iterate 3 go_step
              clear f_ c_
              have N_ : (z8.setCells (r) (18) ([.slice none 0 0])).heap[r]? = some (.cells ((Rl.mk R.n R.nd R.br R.bn R.ps R.PA R.pc R.l R.LA R.lc R.af s x [] none 0).cells).toArray 150) := hpC ([.slice none 0 0]) (18) _ z8 Zr
              have hP := ogOwnC hP (ogKind hP Zr (by decide)) ([.slice none 0 0]) (18)
              have hL := ogOwnC hL (ogKind hL Zr (by decide)) ([.slice none 0 0]) (18)
              have hV := ogOwnC hV (ogKind hV Zr (by decide)) ([.slice none 0 0]) (18)
              have ee := belowC (g := r) (by omega) ([.slice none 0 0]) (18) z8 ee
              have ff := ogCells (k := r) (by first | (right; omega) | exact Or.inl (Or.inl rfl)) ([.slice none 0 0]) (18) z8 ff
              have Zx := hpCo (g' := r) (by omega) ([.slice none 0 0]) (18) z8 Zx
              have Zo := hpCo (g' := r) (by omega) ([.slice none 0 0]) (18) z8 Zo
              have Zp := hpCo (g' := r) (by omega) ([.slice none 0 0]) (18) z8 Zp
              clear Zr
              have Zr := N_
              clear N_
              change wpList _ _ _ _ _ (z8.setCells (r) (18) ([.slice none 0 0]))
              generalize z8.setCells (r) (18) ([.slice none 0 0]) = z9 at Zr Zx Zo Zp hP hL hV ee ff ⊢
              go_upto_region 9 with fail
              refine wp_region_lit ?_
              iterate 27 (first | with_reducible refine isLoad (ty := 41) rfl ?_ | go_step)
              refine wpList_load_mid rfl 41 _ rfl (w.heap.size) 0 rfl (x.cells) _ (rowAt Zx) Tryd.underlying41 rfl sizeRCm ?_
              iterate 27 (first | with_reducible refine isStore (ty := 41) rfl ?_ | go_step)
              refine wpList_store_row rfl 41 _ _ rfl (w.heap.size + 1) (x.cells).toArray rfl rfl 41 _ Zo sizeRCm (by rfl) (Cm.one _) ?_
              have N_ := setRow_heap z9 (w.heap.size + 1) _ (x.cells).toArray _ _ Zo
              have hP := ogOwnR (cs := (x.cells).toArray) hP (ogKind hP Zo (by decide))
              have hL := ogOwnR (cs := (x.cells).toArray) hL (ogKind hL Zo (by decide))
              have hV := ogOwnR (cs := (x.cells).toArray) hV (ogKind hV Zo (by decide))
              have ee := belowSet (cs := (x.cells).toArray) ee Zo (by omega)
              have ff := ogRow (cs := (x.cells).toArray) (by first | (right; omega) | exact Or.inl (Or.inl rfl)) Zo ff
              have Zr := hpR Zr (g' := w.heap.size + 1) (by omega) (x.cells).toArray
              have Zx := hpR Zx (g' := w.heap.size + 1) (by omega) (x.cells).toArray
              have Zp := hpR Zp (g' := w.heap.size + 1) (by omega) (x.cells).toArray
              clear Zo
              have Zo := N_
              clear N_
              generalize z9.setRow (w.heap.size + 1) (x.cells).toArray = z10 at Zr Zx Zo Zp hP hL hV ee ff ⊢
              go_wp2_with fail
              refine bodyPost_ret (v := .tuple #[.agg x.cells.toArray, .bool true]) (res_ct rfl rfl rfl Zo Tryd.underlying41 rfl sizeRCm) rfl ⟨RetCB.mk _ _ (HOK.out.below ee (Nat.le_refl _)), ⟨(Rl.mk R.n R.nd R.br R.bn R.ps R.PA R.pc R.l R.LA R.lc R.af s x [] none 0), ⟨Zr, hBr, hP, hL, World.ownsRow_nil _ _ _ _, (fun g hg hv => by cases hv), by have := H.out.lp; show R.ps.length ≤ _; omega, by have := H.out.ll; show R.l.length ≤ _; omega, Nat.zero_le _, fun b hb => (H.out.cl b hb).below ee (Nat.le_refl _), HOK.out.below ee (Nat.le_refl _), H.out.b4, HSR.out, H.out.nn, H.out.af⟩⟩, ff, ee⟩
            | true =>
              go_upto_region 4 with fail
              go_wp2_with fail
              refine (rfirst z6 B r t R (H.out.keepF ff ee Zr hP hL hV) ht).mono ?_
              rintro e z7 ⟨⟨f2, haff2, rfl⟩, hw_⟩
              rw [← hw_]
              clear hw_ z7
              try dsimp only
              rename_i hK
              refine hK _ _ ?_
              clear hK
              generalize hsf : (s == f2) = d9
              cases d9 with
              | false =>
                go_upto_region 6 with fail
                refine wp_region_lit ?_
                iterate 40 (first | with_reducible refine isStore (ty := 3) rfl ?_ | go_step)
                have f_ : z6.frozen? ⟨r, 7, none⟩ = false := freeAt Zr (7)
                have c_ := rowCell Zr (7) rfl
                iterate 3 go_step
                clear f_ c_
                have N_ : (z6.setCells (r) (7) ([.int .i64 s])).heap[r]? = some (.cells ((Rl.mk R.n R.nd R.br R.bn R.ps R.PA R.pc R.l R.LA R.lc R.af s R.x R.vs R.VA R.vc).cells).toArray 150) := hpC ([.int .i64 s]) (7) _ z6 Zr
                have hP := ogOwnC hP (ogKind hP Zr (by decide)) ([.int .i64 s]) (7)
                have hL := ogOwnC hL (ogKind hL Zr (by decide)) ([.int .i64 s]) (7)
                have hV := ogOwnC hV (ogKind hV Zr (by decide)) ([.int .i64 s]) (7)
                have ee := belowC (g := r) (by omega) ([.int .i64 s]) (7) z6 ee
                have ff := ogCells (k := r) (by first | (right; omega) | exact Or.inl (Or.inl rfl)) ([.int .i64 s]) (7) z6 ff
                have Zx := hpCo (g' := r) (by omega) ([.int .i64 s]) (7) z6 Zx
                have Zo := hpCo (g' := r) (by omega) ([.int .i64 s]) (7) z6 Zo
                have Zp := hpCo (g' := r) (by omega) ([.int .i64 s]) (7) z6 Zp
                clear Zr
                have Zr := N_
                clear N_
                change wpList _ _ _ _ _ (z6.setCells (r) (7) ([.int .i64 s]))
                generalize z6.setCells (r) (7) ([.int .i64 s]) = z8 at Zr Zx Zo Zp hP hL hV ee ff ⊢
                go_upto_region 7 with fail
                refine wp_region_lit ?_
                iterate 27 (first | with_reducible refine isLoad (ty := 41) rfl ?_ | go_step)
                refine wpList_load_mid rfl 41 _ rfl (w.heap.size) 0 rfl (x.cells) _ (rowAt Zx) Tryd.underlying41 rfl sizeRCm ?_
                iterate 40 (first | with_reducible refine isStore (ty := 41) rfl ?_ | go_step)
                refine wpList_store_mid rfl 41 _ _ rfl (r) (8) (x.cells).toArray rfl rfl (rowThere Zr (by simp [T.Rl.cells, T.Cm.cells])) sizeRCm (Cm.one _) ?_
                have N_ : (z8.setCells (r) (8) (x.cells)).heap[r]? = some (.cells ((Rl.mk R.n R.nd R.br R.bn R.ps R.PA R.pc R.l R.LA R.lc R.af s x R.vs R.VA R.vc).cells).toArray 150) := hpC (x.cells) (8) _ z8 Zr
                have hP := ogOwnC hP (ogKind hP Zr (by decide)) (x.cells) (8)
                have hL := ogOwnC hL (ogKind hL Zr (by decide)) (x.cells) (8)
                have hV := ogOwnC hV (ogKind hV Zr (by decide)) (x.cells) (8)
                have ee := belowC (g := r) (by omega) (x.cells) (8) z8 ee
                have ff := ogCells (k := r) (by first | (right; omega) | exact Or.inl (Or.inl rfl)) (x.cells) (8) z8 ff
                have Zx := hpCo (g' := r) (by omega) (x.cells) (8) z8 Zx
                have Zo := hpCo (g' := r) (by omega) (x.cells) (8) z8 Zo
                have Zp := hpCo (g' := r) (by omega) (x.cells) (8) z8 Zp
                clear Zr
                have Zr := N_
                clear N_
                change wpList _ _ _ _ _ (z8.setCells (r) (8) (x.cells))
                generalize z8.setCells (r) (8) (x.cells) = z9 at Zr Zx Zo Zp hP hL hV ee ff ⊢
                go_upto_region 8 with fail
                refine wp_region_lit ?_
                iterate 40 (first | with_reducible refine isStore (ty := 61) rfl ?_ | go_step)
                have f_ : z9.frozen? ⟨r, 18, none⟩ = false := freeAt Zr (18)
                have c_ := rowCell Zr (18) rfl
                iterate 3 go_step
                clear f_ c_
                have N_ : (z9.setCells (r) (18) ([.slice none 0 0])).heap[r]? = some (.cells ((Rl.mk R.n R.nd R.br R.bn R.ps R.PA R.pc R.l R.LA R.lc R.af s x [] none 0).cells).toArray 150) := hpC ([.slice none 0 0]) (18) _ z9 Zr
                have hP := ogOwnC hP (ogKind hP Zr (by decide)) ([.slice none 0 0]) (18)
                have hL := ogOwnC hL (ogKind hL Zr (by decide)) ([.slice none 0 0]) (18)
                have hV := ogOwnC hV (ogKind hV Zr (by decide)) ([.slice none 0 0]) (18)
                have ee := belowC (g := r) (by omega) ([.slice none 0 0]) (18) z9 ee
                have ff := ogCells (k := r) (by first | (right; omega) | exact Or.inl (Or.inl rfl)) ([.slice none 0 0]) (18) z9 ff
                have Zx := hpCo (g' := r) (by omega) ([.slice none 0 0]) (18) z9 Zx
                have Zo := hpCo (g' := r) (by omega) ([.slice none 0 0]) (18) z9 Zo
                have Zp := hpCo (g' := r) (by omega) ([.slice none 0 0]) (18) z9 Zp
                clear Zr
                have Zr := N_
                clear N_
                change wpList _ _ _ _ _ (z9.setCells (r) (18) ([.slice none 0 0]))
                generalize z9.setCells (r) (18) ([.slice none 0 0]) = z10 at Zr Zx Zo Zp hP hL hV ee ff ⊢
                go_upto_region 9 with fail
                refine wp_region_lit ?_
                iterate 27 (first | with_reducible refine isLoad (ty := 41) rfl ?_ | go_step)
                refine wpList_load_mid rfl 41 _ rfl (w.heap.size) 0 rfl (x.cells) _ (rowAt Zx) Tryd.underlying41 rfl sizeRCm ?_
                iterate 27 (first | with_reducible refine isStore (ty := 41) rfl ?_ | go_step)
                refine wpList_store_row rfl 41 _ _ rfl (w.heap.size + 1) (x.cells).toArray rfl rfl 41 _ Zo sizeRCm (by rfl) (Cm.one _) ?_
                have N_ := setRow_heap z10 (w.heap.size + 1) _ (x.cells).toArray _ _ Zo
                have hP := ogOwnR (cs := (x.cells).toArray) hP (ogKind hP Zo (by decide))
                have hL := ogOwnR (cs := (x.cells).toArray) hL (ogKind hL Zo (by decide))
                have hV := ogOwnR (cs := (x.cells).toArray) hV (ogKind hV Zo (by decide))
                have ee := belowSet (cs := (x.cells).toArray) ee Zo (by omega)
                have ff := ogRow (cs := (x.cells).toArray) (by first | (right; omega) | exact Or.inl (Or.inl rfl)) Zo ff
                have Zr := hpR Zr (g' := w.heap.size + 1) (by omega) (x.cells).toArray
                have Zx := hpR Zx (g' := w.heap.size + 1) (by omega) (x.cells).toArray
                have Zp := hpR Zp (g' := w.heap.size + 1) (by omega) (x.cells).toArray
                clear Zo
                have Zo := N_
                clear N_
                generalize z10.setRow (w.heap.size + 1) (x.cells).toArray = z11 at Zr Zx Zo Zp hP hL hV ee ff ⊢
                go_wp2_with fail
                refine bodyPost_ret (v := .tuple #[.agg x.cells.toArray, .bool true]) (res_ct rfl rfl rfl Zo Tryd.underlying41 rfl sizeRCm) rfl ⟨RetCB.mk _ _ (HOK.out.below ee (Nat.le_refl _)), ⟨(Rl.mk R.n R.nd R.br R.bn R.ps R.PA R.pc R.l R.LA R.lc R.af s x [] none 0), ⟨Zr, hBr, hP, hL, World.ownsRow_nil _ _ _ _, (fun g hg hv => by cases hv), by have := H.out.lp; show R.ps.length ≤ _; omega, by have := H.out.ll; show R.l.length ≤ _; omega, Nat.zero_le _, fun b hb => (H.out.cl b hb).below ee (Nat.le_refl _), HOK.out.below ee (Nat.le_refl _), H.out.b4, HSR.out, H.out.nn, H.out.af⟩⟩, ff, ee⟩
              | true =>
                go_upto_region 5 with fail
                clear hsf
                refine wp_region_lit ?_
                iterate 27 (first | with_reducible refine isLoad (ty := 41) rfl ?_ | go_step)
                refine wpList_load_mid rfl 41 _ rfl (z4.heap.size) 0 rfl ((y.cells)) _ (rowAt Zp) Tryd.underlying41 rfl sizeRCm ?_
                iterate 27 (first | with_reducible refine isStore (ty := 41) rfl ?_ | go_step)
                refine wpList_store_row rfl 41 _ _ rfl (w.heap.size) (y.cells).toArray rfl rfl 41 _ Zx sizeRCm (by rfl) (Cm.one _) ?_
                have N_ := setRow_heap z6 (w.heap.size) _ (y.cells).toArray _ _ Zx
                have hP := ogOwnR (cs := (y.cells).toArray) hP (ogKind hP Zx (by decide))
                have hL := ogOwnR (cs := (y.cells).toArray) hL (ogKind hL Zx (by decide))
                have hV := ogOwnR (cs := (y.cells).toArray) hV (ogKind hV Zx (by decide))
                have ee := belowSet (cs := (y.cells).toArray) ee Zx (by omega)
                have ff := ogRow (cs := (y.cells).toArray) (by first | (right; omega) | exact Or.inl (Or.inl rfl)) Zx ff
                have Zr := hpR Zr (g' := w.heap.size) (by omega) (y.cells).toArray
                have Zo := hpR Zo (g' := w.heap.size) (by omega) (y.cells).toArray
                have Zp := hpR Zp (g' := w.heap.size) (by omega) (y.cells).toArray
                clear Zx
                have Zx := N_
                clear N_
                generalize z6.setRow (w.heap.size) (y.cells).toArray = z8 at Zr Zx Zo Zp hP hL hV ee ff ⊢
                go_upto_region 6 with fail
                refine wp_region_lit ?_
                iterate 40 (first | with_reducible refine isStore (ty := 3) rfl ?_ | go_step)
                have f_ : z8.frozen? ⟨r, 7, none⟩ = false := freeAt Zr (7)
                have c_ := rowCell Zr (7) rfl
                iterate 3 go_step
                clear f_ c_
                have N_ : (z8.setCells (r) (7) ([.int .i64 s])).heap[r]? = some (.cells ((Rl.mk R.n R.nd R.br R.bn R.ps R.PA R.pc R.l R.LA R.lc R.af s R.x R.vs R.VA R.vc).cells).toArray 150) := hpC ([.int .i64 s]) (7) _ z8 Zr
                have hP := ogOwnC hP (ogKind hP Zr (by decide)) ([.int .i64 s]) (7)
                have hL := ogOwnC hL (ogKind hL Zr (by decide)) ([.int .i64 s]) (7)
                have hV := ogOwnC hV (ogKind hV Zr (by decide)) ([.int .i64 s]) (7)
                have ee := belowC (g := r) (by omega) ([.int .i64 s]) (7) z8 ee
                have ff := ogCells (k := r) (by first | (right; omega) | exact Or.inl (Or.inl rfl)) ([.int .i64 s]) (7) z8 ff
                have Zx := hpCo (g' := r) (by omega) ([.int .i64 s]) (7) z8 Zx
                have Zo := hpCo (g' := r) (by omega) ([.int .i64 s]) (7) z8 Zo
                have Zp := hpCo (g' := r) (by omega) ([.int .i64 s]) (7) z8 Zp
                clear Zr
                have Zr := N_
                clear N_
                change wpList _ _ _ _ _ (z8.setCells (r) (7) ([.int .i64 s]))
                generalize z8.setCells (r) (7) ([.int .i64 s]) = z9 at Zr Zx Zo Zp hP hL hV ee ff ⊢
                go_upto_region 7 with fail
                refine wp_region_lit ?_
                iterate 27 (first | with_reducible refine isLoad (ty := 41) rfl ?_ | go_step)
                refine wpList_load_mid rfl 41 _ rfl (w.heap.size) 0 rfl ((y.cells)) _ (rowAt Zx) Tryd.underlying41 rfl sizeRCm ?_
                iterate 40 (first | with_reducible refine isStore (ty := 41) rfl ?_ | go_step)
                refine wpList_store_mid rfl 41 _ _ rfl (r) (8) (y.cells).toArray rfl rfl (rowThere Zr (by simp [T.Rl.cells, T.Cm.cells])) sizeRCm (Cm.one _) ?_
                have N_ : (z9.setCells (r) (8) (y.cells)).heap[r]? = some (.cells ((Rl.mk R.n R.nd R.br R.bn R.ps R.PA R.pc R.l R.LA R.lc R.af s y R.vs R.VA R.vc).cells).toArray 150) := hpC (y.cells) (8) _ z9 Zr
                have hP := ogOwnC hP (ogKind hP Zr (by decide)) (y.cells) (8)
                have hL := ogOwnC hL (ogKind hL Zr (by decide)) (y.cells) (8)
                have hV := ogOwnC hV (ogKind hV Zr (by decide)) (y.cells) (8)
                have ee := belowC (g := r) (by omega) (y.cells) (8) z9 ee
                have ff := ogCells (k := r) (by first | (right; omega) | exact Or.inl (Or.inl rfl)) (y.cells) (8) z9 ff
                have Zx := hpCo (g' := r) (by omega) (y.cells) (8) z9 Zx
                have Zo := hpCo (g' := r) (by omega) (y.cells) (8) z9 Zo
                have Zp := hpCo (g' := r) (by omega) (y.cells) (8) z9 Zp
                clear Zr
                have Zr := N_
                clear N_
                change wpList _ _ _ _ _ (z9.setCells (r) (8) (y.cells))
                generalize z9.setCells (r) (8) (y.cells) = z10 at Zr Zx Zo Zp hP hL hV ee ff ⊢
                go_upto_region 8 with fail
                refine wp_region_lit ?_
                iterate 40 (first | with_reducible refine isStore (ty := 61) rfl ?_ | go_step)
                have f_ : z10.frozen? ⟨r, 18, none⟩ = false := freeAt Zr (18)
                have c_ := rowCell Zr (18) rfl
                iterate 3 go_step
                clear f_ c_
                have N_ : (z10.setCells (r) (18) ([.slice none 0 0])).heap[r]? = some (.cells ((Rl.mk R.n R.nd R.br R.bn R.ps R.PA R.pc R.l R.LA R.lc R.af s y [] none 0).cells).toArray 150) := hpC ([.slice none 0 0]) (18) _ z10 Zr
                have hP := ogOwnC hP (ogKind hP Zr (by decide)) ([.slice none 0 0]) (18)
                have hL := ogOwnC hL (ogKind hL Zr (by decide)) ([.slice none 0 0]) (18)
                have hV := ogOwnC hV (ogKind hV Zr (by decide)) ([.slice none 0 0]) (18)
                have ee := belowC (g := r) (by omega) ([.slice none 0 0]) (18) z10 ee
                have ff := ogCells (k := r) (by first | (right; omega) | exact Or.inl (Or.inl rfl)) ([.slice none 0 0]) (18) z10 ff
                have Zx := hpCo (g' := r) (by omega) ([.slice none 0 0]) (18) z10 Zx
                have Zo := hpCo (g' := r) (by omega) ([.slice none 0 0]) (18) z10 Zo
                have Zp := hpCo (g' := r) (by omega) ([.slice none 0 0]) (18) z10 Zp
                clear Zr
                have Zr := N_
                clear N_
                change wpList _ _ _ _ _ (z10.setCells (r) (18) ([.slice none 0 0]))
                generalize z10.setCells (r) (18) ([.slice none 0 0]) = z11 at Zr Zx Zo Zp hP hL hV ee ff ⊢
                go_upto_region 9 with fail
                refine wp_region_lit ?_
                iterate 27 (first | with_reducible refine isLoad (ty := 41) rfl ?_ | go_step)
                refine wpList_load_mid rfl 41 _ rfl (w.heap.size) 0 rfl ((y.cells)) _ (rowAt Zx) Tryd.underlying41 rfl sizeRCm ?_
                iterate 27 (first | with_reducible refine isStore (ty := 41) rfl ?_ | go_step)
                refine wpList_store_row rfl 41 _ _ rfl (w.heap.size + 1) (y.cells).toArray rfl rfl 41 _ Zo sizeRCm (by rfl) (Cm.one _) ?_
                have N_ := setRow_heap z11 (w.heap.size + 1) _ (y.cells).toArray _ _ Zo
                have hP := ogOwnR (cs := (y.cells).toArray) hP (ogKind hP Zo (by decide))
                have hL := ogOwnR (cs := (y.cells).toArray) hL (ogKind hL Zo (by decide))
                have hV := ogOwnR (cs := (y.cells).toArray) hV (ogKind hV Zo (by decide))
                have ee := belowSet (cs := (y.cells).toArray) ee Zo (by omega)
                have ff := ogRow (cs := (y.cells).toArray) (by first | (right; omega) | exact Or.inl (Or.inl rfl)) Zo ff
                have Zr := hpR Zr (g' := w.heap.size + 1) (by omega) (y.cells).toArray
                have Zx := hpR Zx (g' := w.heap.size + 1) (by omega) (y.cells).toArray
                have Zp := hpR Zp (g' := w.heap.size + 1) (by omega) (y.cells).toArray
                clear Zo
                have Zo := N_
                clear N_
                generalize z11.setRow (w.heap.size + 1) (y.cells).toArray = z12 at Zr Zx Zo Zp hP hL hV ee ff ⊢
                go_wp2_with fail
                refine bodyPost_ret (v := .tuple #[.agg y.cells.toArray, .bool true]) (res_ct rfl rfl rfl Zo Tryd.underlying41 rfl sizeRCm) rfl ⟨RetCB.mk _ _ (HOY.out.below ee (Nat.le_refl _)), ⟨(Rl.mk R.n R.nd R.br R.bn R.ps R.PA R.pc R.l R.LA R.lc R.af s y [] none 0), ⟨Zr, hBr, hP, hL, World.ownsRow_nil _ _ _ _, (fun g hg hv => by cases hv), by have := H.out.lp; show R.ps.length ≤ _; omega, by have := H.out.ll; show R.l.length ≤ _; omega, Nat.zero_le _, fun b hb => (H.out.cl b hb).below ee (Nat.le_refl _), HOY.out.below ee (Nat.le_refl _), H.out.b4, HSR.out, H.out.nn, H.out.af⟩⟩, ff, ee⟩
end Go.Proofs.YtbahooohkigcnaaDoor
