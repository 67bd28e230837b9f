/- Is what any two have learnt the same? Conditions: what lies, lies below; the tables lie. (Printed by gen_agree.py.) -/
import Derived.Test.YtbahooohkigcnaaDoorAgM2
import Derived.Test.YtbahooohkigcnaaDoorTxnD
namespace Go.Proofs.YtbahooohkigcnaaDoor
set_option maxRecDepth 20000
open Go.RowKit T Ag
set_option linter.unusedSimpArgs false
set_option linter.unusedVariables false

theorem infoCm3 : (Tryd.prog.info? 37).map (fun i => (i.zero, i.size, i.bytes)) = some (some (.agg #[.int .i64 0, .int .i64 0, .int .i64 0, .slice none 0 0, .slice none 0 0, .int .i64 0, .int .i64 0, .int .i64 0, .int .u64 0, .bool false]), 10, 112) := by kernel_rfl
theorem oneCm3 (x : Cm) : ∀ u ∈ x.cells, u.oneCell' = true := fun u hu => (Array.all_eq_true_iff_forall_mem.1 (Cm.one x)) u (by simpa using hu)
theorem crThere {z : World} {gc n k i : Nat} {A : Nat → Ac} {Hv S : Nat → Value} {t : TypeId} (hz : z.heap[gc]? = some (.cells (crC n A Hv S k).toArray t (0, 0))) (hi : i < 5) : z.there gc (1 + i * 16) 16 := rowThere hz (by rw [crC_len]; omega)
set_option maxHeartbeats 6400000 in
theorem clearn (B gc n i k : Nat) (A : Nat → Ac) (H : Nat → Nat) (L : Nat → Ld) (S : Nat → Value) (X : Nat → List Cm) (x : Cm) (w : World) (h : CrewAt w B gc n A H L S X k) (hi : i < 5) (hfa : flatC (A i).c) (hlen : (X i).length ≤ 1000) (hT : ∀ z, Below B w z → Tabs z) (hls : (A i).learns (A i).sl = true) :
    Calls Tryd.prog 60 #[.pointer (some ⟨gc, 0, none⟩), .int .i64 (i : Int), .agg x.cells.toArray] w fun e w' => e = .returned (.bool true) ∧ (∃ v, CrewAt w' B gc n (Px.upd A i ((A i).learn (A i).sl)) H L (updF S i v) (updF X i (X i ++ [x])) k) ∧ Below B w w' := by
  obtain ⟨i1, hi1, hz10, hz11, hz12⟩ := info_parts infoCm3
  have HT := Lib.hid hT
  have HF := Lib.hid hfa
  have HC := Lib.hid h
  have hlg : gc < w.heap.size := (Array.getElem?_eq_some_iff.1 h.blk).1
  have hBg : B ≤ gc := h.gB
  have hB : B ≤ w.heap.size := by omega
  have hux := h.xs i hi
  obtain ⟨A0, c0, hS, hc0, _, _⟩ := ownShape hux
  rw [hS] at hux
  have HS := Lib.hid hS
  have HMV : Hid (∀ (w' : World) (v : Value) (y : List Cm) (A' : Nat → Ac), OgF w w' (fun b => b = gc ∨ (Value.slice A0 (X i).length c0).ownBlock = some b) → w'.heap[gc]? = some (.cells (crC n A' (fun j => pv (H j)) (updF S i v) k).toArray 122 (0, 0)) → w'.ownsRow B 37 10 v y.length (flat Cm.cells y) → (∀ g, v.ownBlock = some g → (Value.slice A0 (X i).length c0).ownBlock = some g ∨ w.heap.size ≤ g) → CrewAt w' B gc n A' H L (updF S i v) (updF X i y) k) := fun w' v y A' f b x1 x2 => h.moveX hi (by rw [hS]; exact f) b x1 (by rw [hS]; exact x2)
  have HLC := Lib.hid (fun z (hz : Below B w z) => c_learn (A i) (A i).sl z z.heap.size (Nat.le_refl _) (okFlat HF.out) (HT.out z hz))
  rw [hls] at HLC
  have Zc0 := h.blk
  have hPU : ∀ a : Ac, Hid (putAt (crC n A (fun j => pv (H j)) S k) (1 + i * 16) a.cells = crC n (Px.upd A i a) (fun j => pv (H j)) S k) := fun a => crPutA n A _ S k i hi a
  have HRA := Lib.hid (crA n A (fun j => pv (H j)) S k i hi)
  clear hT hfa h hls hS
  generalize hAi : A i = a at HLC HRA HF ⊢
  clear hAi
  generalize hXi : X i = xi at hux hlen HMV HS ⊢
  clear hXi
  obtain ⟨w0, hw0⟩ : ∃ w0, w0 = w.alloc (.cells x.cells.toArray 37) := ⟨_, rfl⟩
  have ff : OgF w w0 (fun b => b = gc ∨ (Value.slice A0 xi.length c0).ownBlock = some b) := by rw [hw0]; exact ogAlloc (OgF.refl _ _) _
  have ee : Below B w w0 := by rw [hw0]; exact ((Below.refl _ _).alloc (Nat.le_refl _) _).mono hB
  have Zc : w0.heap[gc]? = some (.cells (crC n A (fun j => pv (H j)) S k).toArray 122) := by rw [hw0]; exact hpA Zc0 _
  have Zx : w0.heap[w.heap.size]? = some (.cells x.cells.toArray 37) := by rw [hw0]; exact hpN _ _ rfl
  have hu : w0.ownsRow B 37 10 (.slice A0 xi.length c0) xi.length (flat Cm.cells xi) := by rw [hw0]; exact hux.alloc _
  have hi0 : (0 : Int) ≤ (i : Int) := by omega
  have hi5 : (i : Int) < 5 := by omega
  have hnex : (Value.slice A0 xi.length c0).ownBlock ≠ some w.heap.size := fun e_ => by have := (hux.lt _ e_).2; omega
  clear hux
  go_enter Tryd.func60, Tryd.ntmps60
  go_upto_region 1 with fail
  change Code.wp _ _ _ _ (w.alloc (.cells x.cells.toArray 37))
  rw [← hw0]
  clear hw0 Zc0
  have ne_hu_Zx := hnex
  have Zc : w0.drew.heap[gc]? = some (.cells (crC n A (fun j => pv (H j)) S k).toArray 122) := Zc
  have Zx : w0.drew.heap[w.heap.size]? = some (.cells x.cells.toArray 37) := Zx
  have hu := World.ownsRow.drew hu
  have ee := belowDrewS ee
  have ff := ogDrew ff
  refine wp_region_held_drew (S := fun z' => z'.rangeAt gc (1 + i * 16) a.cells) (by kernel_rfl) (rowMid Zc (1 + i * 16) HRA.out) (fun hH => ?_)
  clear hH
  generalize w0.drew = z1 at Zc Zx hu ee ff ⊢
  refine wpAnyH_take (i := 0) (v := .pointer (some ⟨gc, 0, none⟩)) rfl (by kernel_rfl) (by kernel_rfl) (by kernel_rfl) (fun _ _ _ h => h) (Or.inl ⟨by rfl, fun w_ hS_ => by (first | (go_simp; done) | (go_simp; rfl))⟩) (rowMid Zc (1 + i * 16) HRA.out) ?_
  try simp only [Act.put, List.getElem_toArray, List.getElem_cons_zero, List.getElem_cons_succ, List.setIfInBounds_toArray, List.set_cons_zero, List.set_cons_succ]
  refine wpAnyH_take (i := 1) (v := .int .i64 (i : Int)) rfl (by kernel_rfl) (by kernel_rfl) (by kernel_rfl) (fun _ _ _ h => h) (Or.inl ⟨by rfl, fun w_ hS_ => by (first | (go_simp; done) | (go_simp; rfl))⟩) (rowMid Zc (1 + i * 16) HRA.out) ?_
  try simp only [Act.put, List.getElem_toArray, List.getElem_cons_zero, List.getElem_cons_succ, List.setIfInBounds_toArray, List.set_cons_zero, List.set_cons_succ]
  refine wpAnyH_take (i := 2) (v := .pointer (some ⟨gc, 0, none⟩)) rfl (by kernel_rfl) (by kernel_rfl) (by kernel_rfl) (fun _ _ _ h => h) (Or.inl ⟨by rfl, fun w_ hS_ => by (first | (go_simp; done) | (go_simp; rfl))⟩) (rowMid Zc (1 + i * 16) HRA.out) ?_
  try simp only [Act.put, List.getElem_toArray, List.getElem_cons_zero, List.getElem_cons_succ, List.setIfInBounds_toArray, List.set_cons_zero, List.set_cons_succ]
  refine wpAnyH_take (i := 3) (v := .pointer (some ⟨gc, 1, none⟩)) rfl (by kernel_rfl) (by kernel_rfl) (by kernel_rfl) (fun _ _ _ h => h) (Or.inl ⟨by rfl, fun w_ hS_ => by (first | (go_simp; done) | (go_simp; rfl))⟩) (rowMid Zc (1 + i * 16) HRA.out) ?_
  try simp only [Act.put, List.getElem_toArray, List.getElem_cons_zero, List.getElem_cons_succ, List.setIfInBounds_toArray, List.set_cons_zero, List.set_cons_succ]
  refine wpAnyH_take (i := 4) (v := .pointer (some ⟨gc, 1 + i * 16, none⟩)) rfl (by kernel_rfl) (by kernel_rfl) (by kernel_rfl) (fun _ _ _ h => h) (Or.inl ⟨by rfl, fun w_ hS_ => by (first | (go_simp; done) | (go_simp; rfl))⟩) (rowMid Zc (1 + i * 16) HRA.out) ?_
  try simp only [Act.put, List.getElem_toArray, List.getElem_cons_zero, List.getElem_cons_succ, List.setIfInBounds_toArray, List.set_cons_zero, List.set_cons_succ]
  refine wpAnyH_take (i := 5) (v := .agg (a.cells).toArray) rfl (by kernel_rfl) (by kernel_rfl) (by kernel_rfl) (fun _ _ _ h => h) (yieldsIf_load_mid (by rfl) 39 _ rfl (gc) (1 + i * 16) rfl (a.cells) _ (fun _ h => h) Tryd.underlying39 rfl sizeAc) (rowMid Zc (1 + i * 16) HRA.out) ?_
  try simp only [Act.put, List.getElem_toArray, List.getElem_cons_zero, List.getElem_cons_succ, List.setIfInBounds_toArray, List.set_cons_zero, List.set_cons_succ]
  refine wpAnyH_take (i := 6) (v := .pointer (some ⟨gc, 0, none⟩)) rfl (by kernel_rfl) (by kernel_rfl) (by kernel_rfl) (fun _ _ _ h => h) (Or.inl ⟨by rfl, fun w_ hS_ => by (first | (go_simp; done) | (go_simp; rfl))⟩) (rowMid Zc (1 + i * 16) HRA.out) ?_
  try simp only [Act.put, List.getElem_toArray, List.getElem_cons_zero, List.getElem_cons_succ, List.setIfInBounds_toArray, List.set_cons_zero, List.set_cons_succ]
  refine wpAnyH_take (i := 7) (v := .int .i64 (i : Int)) rfl (by kernel_rfl) (by kernel_rfl) (by kernel_rfl) (fun _ _ _ h => h) (Or.inl ⟨by rfl, fun w_ hS_ => by (first | (go_simp; done) | (go_simp; rfl))⟩) (rowMid Zc (1 + i * 16) HRA.out) ?_
  try simp only [Act.put, List.getElem_toArray, List.getElem_cons_zero, List.getElem_cons_succ, List.setIfInBounds_toArray, List.set_cons_zero, List.set_cons_succ]
  refine wpAnyH_take (i := 8) (v := .pointer (some ⟨gc, 0, none⟩)) rfl (by kernel_rfl) (by kernel_rfl) (by kernel_rfl) (fun _ _ _ h => h) (Or.inl ⟨by rfl, fun w_ hS_ => by (first | (go_simp; done) | (go_simp; rfl))⟩) (rowMid Zc (1 + i * 16) HRA.out) ?_
  try simp only [Act.put, List.getElem_toArray, List.getElem_cons_zero, List.getElem_cons_succ, List.setIfInBounds_toArray, List.set_cons_zero, List.set_cons_succ]
  refine wpAnyH_take (i := 9) (v := .pointer (some ⟨gc, 1, none⟩)) rfl (by kernel_rfl) (by kernel_rfl) (by kernel_rfl) (fun _ _ _ h => h) (Or.inl ⟨by rfl, fun w_ hS_ => by (first | (go_simp; done) | (go_simp; rfl))⟩) (rowMid Zc (1 + i * 16) HRA.out) ?_
  try simp only [Act.put, List.getElem_toArray, List.getElem_cons_zero, List.getElem_cons_succ, List.setIfInBounds_toArray, List.set_cons_zero, List.set_cons_succ]
  refine wpAnyH_take (i := 10) (v := .pointer (some ⟨gc, 1 + i * 16, none⟩)) rfl (by kernel_rfl) (by kernel_rfl) (by kernel_rfl) (fun _ _ _ h => h) (Or.inl ⟨by rfl, fun w_ hS_ => by (first | (go_simp; done) | (go_simp; rfl))⟩) (rowMid Zc (1 + i * 16) HRA.out) ?_
  try simp only [Act.put, List.getElem_toArray, List.getElem_cons_zero, List.getElem_cons_succ, List.setIfInBounds_toArray, List.set_cons_zero, List.set_cons_succ]
  refine wpAnyH_take (i := 11) (v := .pointer (some ⟨gc, 1 + i * 16 + 2, none⟩)) rfl (by kernel_rfl) (by kernel_rfl) (by kernel_rfl) (fun _ _ _ h => h) (Or.inl ⟨by rfl, fun w_ hS_ => by (first | (go_simp; done) | (go_simp; rfl))⟩) (rowMid Zc (1 + i * 16) HRA.out) ?_
  try simp only [Act.put, List.getElem_toArray, List.getElem_cons_zero, List.getElem_cons_succ, List.setIfInBounds_toArray, List.set_cons_zero, List.set_cons_succ]
  refine wpAnyH_take (i := 12) (v := .int .i64 a.sl) rfl (by kernel_rfl) (by kernel_rfl) (by kernel_rfl) (fun _ _ _ h => h) (Or.inl ⟨by rfl, fun w_ hS_ => by (have c_ := rangeCell hS_ 2 (v := .int .i64 a.sl) rfl; first | (go_simp; done) | (go_simp; rfl))⟩) (rowMid Zc (1 + i * 16) HRA.out) ?_
  try simp only [Act.put, List.getElem_toArray, List.getElem_cons_zero, List.getElem_cons_succ, List.setIfInBounds_toArray, List.set_cons_zero, List.set_cons_succ]
  refine wpAnyH_ready (rs := [13, 17]) (by kernel_rfl) (by simp) ?_
  refine AllReadyH.cons rfl (fun K hK => ?_) (AllReadyH.cons rfl (fun K hK => ?_) AllReadyH.nil)
  · rw [if_pos (by rfl)]
    go_simp
    go_wp2_with (go_at_call 68; refine (HLC.out z1 ee).mono ?_; rintro e z2 ⟨rfl, t⟩)
    have Zc := hpB Zc t
    have Zx := hpB Zx t
    have hu := ownBelow hu t
    have ee := ee.trans (t.mono (Nat.le_trans hB ee.size))
    have ff := ogBelow ff t
    clear t
    refine hK.out _ _ (rowMid Zc (1 + i * 16) HRA.out) (fun hH => ?_)
    clear hK K hH
    try simp only [Act.put, List.getElem_toArray, List.getElem_cons_zero, List.getElem_cons_succ, List.setIfInBounds_toArray, List.set_cons_zero, List.set_cons_succ]
    refine wpAnyH_take (i := 14) (v := .tuple #[.agg (a.learn a.sl).cells.toArray, .bool true]) rfl (by kernel_rfl) (by kernel_rfl) (by kernel_rfl) (fun _ _ _ h => h) (Or.inl ⟨by rfl, fun w_ hS_ => by (first | (go_simp; done) | (go_simp; rfl))⟩) (rowMid Zc (1 + i * 16) HRA.out) ?_
    try simp only [Act.put, List.getElem_toArray, List.getElem_cons_zero, List.getElem_cons_succ, List.setIfInBounds_toArray, List.set_cons_zero, List.set_cons_succ]
    refine wpAnyH_take (i := 15) (v := .agg (a.learn a.sl).cells.toArray) rfl (by kernel_rfl) (by kernel_rfl) (by kernel_rfl) (fun _ _ _ h => h) (Or.inl ⟨by rfl, fun w_ hS_ => by (first | (go_simp; done) | (go_simp; rfl))⟩) (rowMid Zc (1 + i * 16) HRA.out) ?_
    try simp only [Act.put, List.getElem_toArray, List.getElem_cons_zero, List.getElem_cons_succ, List.setIfInBounds_toArray, List.set_cons_zero, List.set_cons_succ]
    refine wpAnyH_take (i := 16) (v := .bool true) rfl (by kernel_rfl) (by kernel_rfl) (by kernel_rfl) (fun _ _ _ h => h) (Or.inl ⟨by rfl, fun w_ hS_ => by (first | (go_simp; done) | (go_simp; rfl))⟩) (rowMid Zc (1 + i * 16) HRA.out) ?_
    try simp only [Act.put, List.getElem_toArray, List.getElem_cons_zero, List.getElem_cons_succ, List.setIfInBounds_toArray, List.set_cons_zero, List.set_cons_succ]
    refine wpAnyH_ready (rs := [17]) (by kernel_rfl) (by simp) ?_
    refine AllReadyH.cons rfl (fun K hK => ?_) AllReadyH.nil
    rw [if_pos (by rfl)]
    go_simp
    have lZc := (Array.getElem?_eq_some_iff.1 Zc).1
    have lZx := (Array.getElem?_eq_some_iff.1 Zx).1
    have sz_ := ff.size
    have Zc := hpA Zc (.cells #[.int .u32 0, .int .i64 0, .int .i64 0, .bool false, .int .u32 0, .int .i64 0, .int .i64 0, .int .i64 0, .int .i64 0, .slice none 0 0, .slice none 0 0, .int .i64 0, .int .i64 0, .int .i64 0, .int .u64 0, .bool false] 39)
    have Zx := hpA Zx (.cells #[.int .u32 0, .int .i64 0, .int .i64 0, .bool false, .int .u32 0, .int .i64 0, .int .i64 0, .int .i64 0, .int .i64 0, .slice none 0 0, .slice none 0 0, .int .i64 0, .int .i64 0, .int .i64 0, .int .u64 0, .bool false] 39)
    have hu := hu.alloc (.cells #[.int .u32 0, .int .i64 0, .int .i64 0, .bool false, .int .u32 0, .int .i64 0, .int .i64 0, .int .i64 0, .int .i64 0, .slice none 0 0, .slice none 0 0, .int .i64 0, .int .i64 0, .int .i64 0, .int .u64 0, .bool false] 39)
    have ee := ee.alloc (Nat.le_trans hB ee.size) (.cells #[.int .u32 0, .int .i64 0, .int .i64 0, .bool false, .int .u32 0, .int .i64 0, .int .i64 0, .int .i64 0, .int .i64 0, .slice none 0 0, .slice none 0 0, .int .i64 0, .int .i64 0, .int .i64 0, .int .u64 0, .bool false] 39)
    have ff := ogAlloc ff (.cells #[.int .u32 0, .int .i64 0, .int .i64 0, .bool false, .int .u32 0, .int .i64 0, .int .i64 0, .int .i64 0, .int .i64 0, .slice none 0 0, .slice none 0 0, .int .i64 0, .int .i64 0, .int .i64 0, .int .u64 0, .bool false] 39)
    have Zn := hpN z2 (.cells #[.int .u32 0, .int .i64 0, .int .i64 0, .bool false, .int .u32 0, .int .i64 0, .int .i64 0, .int .i64 0, .int .i64 0, .slice none 0 0, .slice none 0 0, .int .i64 0, .int .i64 0, .int .i64 0, .int .u64 0, .bool false] 39) rfl
    generalize z2.alloc (.cells #[.int .u32 0, .int .i64 0, .int .i64 0, .bool false, .int .u32 0, .int .i64 0, .int .i64 0, .int .i64 0, .int .i64 0, .slice none 0 0, .slice none 0 0, .int .i64 0, .int .i64 0, .int .i64 0, .int .u64 0, .bool false] 39) = z3 at Zc Zx Zn hu ee ff ⊢
    refine hK.out _ _ (rowMid Zc (1 + i * 16) HRA.out) (fun hH => ?_)
    clear hK K hH
    try simp only [Act.put, List.getElem_toArray, List.getElem_cons_zero, List.getElem_cons_succ, List.setIfInBounds_toArray, List.set_cons_zero, List.set_cons_succ]
    refine wpAnyH_ready (rs := [18]) (by kernel_rfl) (by simp) ?_
    refine AllReadyH.cons rfl (fun K hK => ?_) AllReadyH.nil
    rw [if_pos (by rfl)]
    refine wp_store_row 39 _ _ rfl (z2.heap.size) ((a.learn a.sl).cells).toArray rfl rfl 39 _ Zn sizeAc (by rfl) (Ac.one _) ?_
    have N_ := setRow_heap z3 (z2.heap.size) _ ((a.learn a.sl).cells).toArray _ _ Zn
    have hu := ogOwnR (cs := ((a.learn a.sl).cells).toArray) hu (ogKind hu Zn (by decide))
    have ee := belowSet (cs := ((a.learn a.sl).cells).toArray) ee Zn (by omega)
    have ff := ogRow (cs := ((a.learn a.sl).cells).toArray) (by first | (right; omega) | (left; left; rfl)) Zn ff
    have Zc := hpR Zc (g' := z2.heap.size) (by omega) ((a.learn a.sl).cells).toArray
    have Zx := hpR Zx (g' := z2.heap.size) (by omega) ((a.learn a.sl).cells).toArray
    clear Zn
    have Zn := N_
    clear N_
    generalize z3.setRow (z2.heap.size) ((a.learn a.sl).cells).toArray = z4 at Zc Zx Zn hu ee ff ⊢
    refine hK.out _ _ (rowMid Zc (1 + i * 16) HRA.out) (fun hH => ?_)
    clear hK K hH
    try simp only [Act.put, List.getElem_toArray, List.getElem_cons_zero, List.getElem_cons_succ, List.setIfInBounds_toArray, List.set_cons_zero, List.set_cons_succ]
    refine wpAnyH_take (i := 19) (v := .bool true) rfl (by kernel_rfl) (by kernel_rfl) (by kernel_rfl) (fun _ _ _ h => h) (Or.inl ⟨by rfl, fun w_ hS_ => by (first | (go_simp; done) | (go_simp; rfl))⟩) (rowMid Zc (1 + i * 16) HRA.out) ?_
    try simp only [Act.put, List.getElem_toArray, List.getElem_cons_zero, List.getElem_cons_succ, List.setIfInBounds_toArray, List.set_cons_zero, List.set_cons_succ]
    refine wpAnyH_done (by kernel_rfl) ?_ _
    go_upto_region 2 with fail
    have Zc : z4.drew.heap[gc]? = some (.cells (crC n A (fun j => pv (H j)) S k).toArray 122) := Zc
    have Zx : z4.drew.heap[w.heap.size]? = some (.cells x.cells.toArray 37) := Zx
    have Zn : z4.drew.heap[z2.heap.size]? = some (.cells ((a.learn a.sl).cells).toArray 39) := Zn
    have hu := World.ownsRow.drew hu
    have ee := belowDrewS ee
    have ff := ogDrew ff
    refine wp_region_held_drew (S := fun z' => z'.rangeAt (z2.heap.size) 0 (a.learn a.sl).cells) (by kernel_rfl) (rowAt Zn) (fun hH => ?_)
    clear hH
    generalize z4.drew = z5 at Zc Zx Zn hu ee ff ⊢
    refine wpAnyH_take (i := 0) (v := .pointer (some ⟨gc, 0, none⟩)) rfl (by kernel_rfl) (by kernel_rfl) (by kernel_rfl) (fun _ _ _ h => h) (Or.inl ⟨by rfl, fun w_ hS_ => by (first | (go_simp; done) | (go_simp; rfl))⟩) (rowAt Zn) ?_
    try simp only [Act.put, List.getElem_toArray, List.getElem_cons_zero, List.getElem_cons_succ, List.setIfInBounds_toArray, List.set_cons_zero, List.set_cons_succ]
    refine wpAnyH_take (i := 1) (v := .int .i64 (i : Int)) rfl (by kernel_rfl) (by kernel_rfl) (by kernel_rfl) (fun _ _ _ h => h) (Or.inl ⟨by rfl, fun w_ hS_ => by (first | (go_simp; done) | (go_simp; rfl))⟩) (rowAt Zn) ?_
    try simp only [Act.put, List.getElem_toArray, List.getElem_cons_zero, List.getElem_cons_succ, List.setIfInBounds_toArray, List.set_cons_zero, List.set_cons_succ]
    refine wpAnyH_take (i := 2) (v := .agg (((a.learn a.sl).cells)).toArray) rfl (by kernel_rfl) (by kernel_rfl) (by kernel_rfl) (fun _ _ _ h => h) (yieldsIf_load_mid (by rfl) 39 _ rfl (z2.heap.size) (0) rfl (((a.learn a.sl).cells)) _ (fun _ h => h) Tryd.underlying39 rfl sizeAc) (rowAt Zn) ?_
    try simp only [Act.put, List.getElem_toArray, List.getElem_cons_zero, List.getElem_cons_succ, List.setIfInBounds_toArray, List.set_cons_zero, List.set_cons_succ]
    refine wpAnyH_take (i := 3) (v := .pointer (some ⟨gc, 0, none⟩)) rfl (by kernel_rfl) (by kernel_rfl) (by kernel_rfl) (fun _ _ _ h => h) (Or.inl ⟨by rfl, fun w_ hS_ => by (first | (go_simp; done) | (go_simp; rfl))⟩) (rowAt Zn) ?_
    try simp only [Act.put, List.getElem_toArray, List.getElem_cons_zero, List.getElem_cons_succ, List.setIfInBounds_toArray, List.set_cons_zero, List.set_cons_succ]
    refine wpAnyH_take (i := 4) (v := .pointer (some ⟨gc, 1, none⟩)) rfl (by kernel_rfl) (by kernel_rfl) (by kernel_rfl) (fun _ _ _ h => h) (Or.inl ⟨by rfl, fun w_ hS_ => by (first | (go_simp; done) | (go_simp; rfl))⟩) (rowAt Zn) ?_
    try simp only [Act.put, List.getElem_toArray, List.getElem_cons_zero, List.getElem_cons_succ, List.setIfInBounds_toArray, List.set_cons_zero, List.set_cons_succ]
    refine wpAnyH_take (i := 5) (v := .pointer (some ⟨gc, 1 + i * 16, none⟩)) rfl (by kernel_rfl) (by kernel_rfl) (by kernel_rfl) (fun _ _ _ h => h) (Or.inl ⟨by rfl, fun w_ hS_ => by (first | (go_simp; done) | (go_simp; rfl))⟩) (rowAt Zn) ?_
    try simp only [Act.put, List.getElem_toArray, List.getElem_cons_zero, List.getElem_cons_succ, List.setIfInBounds_toArray, List.set_cons_zero, List.set_cons_succ]
    refine wpAnyH_ready (rs := [6]) (by kernel_rfl) (by simp) ?_
    refine AllReadyH.cons rfl (fun K hK => ?_) AllReadyH.nil
    rw [if_pos (by rfl)]
    refine wp_store_mid 39 _ _ rfl (gc) (1 + i * 16) ((a.learn a.sl).cells).toArray rfl rfl (crThere Zc hi) sizeAc (Ac.one _) ?_
    have N_ : (z5.setCells (gc) (1 + i * 16) ((a.learn a.sl).cells)).heap[gc]? = some (.cells (crC n (Px.upd A i (a.learn a.sl)) (fun j => pv (H j)) S k).toArray 122) := (by rw [← (hPU (a.learn a.sl)).out]; exact hpC _ _ _ _ Zc)
    have hu := ogOwnC hu (ogKind hu Zc (by decide)) ((a.learn a.sl).cells) (1 + i * 16)
    have ee := belowC (g := gc) (by omega) ((a.learn a.sl).cells) (1 + i * 16) z5 ee
    have ff := ogCells (k := gc) (by first | (right; omega) | (left; left; rfl)) ((a.learn a.sl).cells) (1 + i * 16) z5 ff
    have Zx := hpCo (g' := gc) (by omega) ((a.learn a.sl).cells) (1 + i * 16) z5 Zx
    have Zn := hpCo (g' := gc) (by omega) ((a.learn a.sl).cells) (1 + i * 16) z5 Zn
    clear Zc
    have Zc := N_
    clear N_
    change K _ (z5.setCells (gc) (1 + i * 16) ((a.learn a.sl).cells))
    generalize z5.setCells (gc) (1 + i * 16) ((a.learn a.sl).cells) = z6 at Zc Zx Zn hu ee ff ⊢
    refine hK.out _ _ (rowAt Zn) (fun hH => ?_)
    clear hK K hH
    try simp only [Act.put, List.getElem_toArray, List.getElem_cons_zero, List.getElem_cons_succ, List.setIfInBounds_toArray, List.set_cons_zero, List.set_cons_succ]
    refine wpAnyH_done (by kernel_rfl) ?_ _
    clear Zn
    go_upto_region 3 with fail
    have Zc : z6.drew.heap[gc]? = some (.cells (crC n (Px.upd A i (a.learn a.sl)) (fun j => pv (H j)) S k).toArray 122) := Zc
    have Zx : z6.drew.heap[w.heap.size]? = some (.cells x.cells.toArray 37) := Zx
    have hu := World.ownsRow.drew hu
    have ee := belowDrewS ee
    have ff := ogDrew ff
    refine wp_region_held_drew (S := fun z' => z'.rangeAt w.heap.size 0 x.cells) (by kernel_rfl) (rowAt Zx) (fun hH => ?_)
    clear hH
    generalize z6.drew = z7 at Zc Zx hu ee ff ⊢
    refine wpAnyH_take (i := 0) (v := .pointer (some ⟨gc, 0, none⟩)) rfl (by kernel_rfl) (by kernel_rfl) (by kernel_rfl) (fun _ _ _ h => h) (Or.inl ⟨by rfl, fun w_ hS_ => by (first | (go_simp; done) | (go_simp; rfl))⟩) (rowAt Zx) ?_
    try simp only [Act.put, List.getElem_toArray, List.getElem_cons_zero, List.getElem_cons_succ, List.setIfInBounds_toArray, List.set_cons_zero, List.set_cons_succ]
    refine wpAnyH_take (i := 1) (v := .int .i64 (i : Int)) rfl (by kernel_rfl) (by kernel_rfl) (by kernel_rfl) (fun _ _ _ h => h) (Or.inl ⟨by rfl, fun w_ hS_ => by (first | (go_simp; done) | (go_simp; rfl))⟩) (rowAt Zx) ?_
    try simp only [Act.put, List.getElem_toArray, List.getElem_cons_zero, List.getElem_cons_succ, List.setIfInBounds_toArray, List.set_cons_zero, List.set_cons_succ]
    refine wpAnyH_take (i := 2) (v := .pointer (some ⟨gc, 0, none⟩)) rfl (by kernel_rfl) (by kernel_rfl) (by kernel_rfl) (fun _ _ _ h => h) (Or.inl ⟨by rfl, fun w_ hS_ => by (first | (go_simp; done) | (go_simp; rfl))⟩) (rowAt Zx) ?_
    try simp only [Act.put, List.getElem_toArray, List.getElem_cons_zero, List.getElem_cons_succ, List.setIfInBounds_toArray, List.set_cons_zero, List.set_cons_succ]
    refine wpAnyH_take (i := 3) (v := .int .i64 (i : Int)) rfl (by kernel_rfl) (by kernel_rfl) (by kernel_rfl) (fun _ _ _ h => h) (Or.inl ⟨by rfl, fun w_ hS_ => by (first | (go_simp; done) | (go_simp; rfl))⟩) (rowAt Zx) ?_
    try simp only [Act.put, List.getElem_toArray, List.getElem_cons_zero, List.getElem_cons_succ, List.setIfInBounds_toArray, List.set_cons_zero, List.set_cons_succ]
    refine wpAnyH_take (i := 4) (v := .pointer (some ⟨gc, 0, none⟩)) rfl (by kernel_rfl) (by kernel_rfl) (by kernel_rfl) (fun _ _ _ h => h) (Or.inl ⟨by rfl, fun w_ hS_ => by (first | (go_simp; done) | (go_simp; rfl))⟩) (rowAt Zx) ?_
    try simp only [Act.put, List.getElem_toArray, List.getElem_cons_zero, List.getElem_cons_succ, List.setIfInBounds_toArray, List.set_cons_zero, List.set_cons_succ]
    refine wpAnyH_take (i := 5) (v := .pointer (some ⟨gc, 86, none⟩)) rfl (by kernel_rfl) (by kernel_rfl) (by kernel_rfl) (fun _ _ _ h => h) (Or.inl ⟨by rfl, fun w_ hS_ => by (first | (go_simp; done) | (go_simp; rfl))⟩) (rowAt Zx) ?_
    try simp only [Act.put, List.getElem_toArray, List.getElem_cons_zero, List.getElem_cons_succ, List.setIfInBounds_toArray, List.set_cons_zero, List.set_cons_succ]
    refine wpAnyH_take (i := 6) (v := .pointer (some ⟨gc, 86 + i, none⟩)) rfl (by kernel_rfl) (by kernel_rfl) (by kernel_rfl) (fun _ _ _ h => h) (Or.inl ⟨by rfl, fun w_ hS_ => by (first | (go_simp; done) | (go_simp; rfl))⟩) (rowAt Zx) ?_
    try simp only [Act.put, List.getElem_toArray, List.getElem_cons_zero, List.getElem_cons_succ, List.setIfInBounds_toArray, List.set_cons_zero, List.set_cons_succ]
    refine wpAnyH_take (i := 8) (v := .agg (x.cells).toArray) rfl (by kernel_rfl) (by kernel_rfl) (by kernel_rfl) (fun _ _ _ h => h) (yieldsIf_load_mid (by rfl) 37 _ rfl (w.heap.size) (0) rfl (x.cells) _ (fun _ h => h) Tryd.underlying37 rfl sizeCm) (rowAt Zx) ?_
    try simp only [Act.put, List.getElem_toArray, List.getElem_cons_zero, List.getElem_cons_succ, List.setIfInBounds_toArray, List.set_cons_zero, List.set_cons_succ]
    refine wpAnyH_take (i := 11) (v := .pointer (some ⟨gc, 0, none⟩)) rfl (by kernel_rfl) (by kernel_rfl) (by kernel_rfl) (fun _ _ _ h => h) (Or.inl ⟨by rfl, fun w_ hS_ => by (first | (go_simp; done) | (go_simp; rfl))⟩) (rowAt Zx) ?_
    try simp only [Act.put, List.getElem_toArray, List.getElem_cons_zero, List.getElem_cons_succ, List.setIfInBounds_toArray, List.set_cons_zero, List.set_cons_succ]
    refine wpAnyH_take (i := 12) (v := .pointer (some ⟨gc, 86, none⟩)) rfl (by kernel_rfl) (by kernel_rfl) (by kernel_rfl) (fun _ _ _ h => h) (Or.inl ⟨by rfl, fun w_ hS_ => by (first | (go_simp; done) | (go_simp; rfl))⟩) (rowAt Zx) ?_
    try simp only [Act.put, List.getElem_toArray, List.getElem_cons_zero, List.getElem_cons_succ, List.setIfInBounds_toArray, List.set_cons_zero, List.set_cons_succ]
    refine wpAnyH_ready (rs := [7, 9]) (by kernel_rfl) (by simp) ?_
    refine AllReadyH.cons rfl (fun K hK => ?_) (AllReadyH.cons rfl (fun K hK => ?_) AllReadyH.nil)
    · rw [if_pos (by rfl)]
      have c_ := rowCell Zc (86 + i) (crS n _ _ S k i hi)
      rw [HS.out] at c_
      go_simp
      clear c_
      refine hK.out _ _ (rowAt Zx) (fun hH => ?_)
      clear hK K hH
      try simp only [Act.put, List.getElem_toArray, List.getElem_cons_zero, List.getElem_cons_succ, List.setIfInBounds_toArray, List.set_cons_zero, List.set_cons_succ]
      refine wpAnyH_ready (rs := [9]) (by kernel_rfl) (by simp) ?_
      refine AllReadyH.cons rfl (fun K hK => ?_) AllReadyH.nil
      rw [if_pos (by rfl)]
      refine wp_buildSlice 119 37 1 #[(0, .tmp 40)] rfl (x.cells).toArray i1 (.agg #[.int .i64 0, .int .i64 0, .int .i64 0, .slice none 0 0, .slice none 0 0, .int .i64 0, .int .i64 0, .int .i64 0, .int .u64 0, .bool false]) Tryd.underlying119 hi1 hz10 (by rw [hz11]; decide) (by rw [hz11]; decide) (by rw [hz11]; simp only [List.map_toArray, List.map_cons, List.map_nil]; exact ogFill (by omega) _ (Cm.cells_len _) _ (by simp)) ?_
      have lZc := (Array.getElem?_eq_some_iff.1 Zc).1
      have lZx := (Array.getElem?_eq_some_iff.1 Zx).1
      have sz_ := ff.size
      have ne_hu_Zm : (Value.slice A0 xi.length c0).ownBlock ≠ some (z7.heap.size) := fun hb_ => by have hh_ := (hu.lt _ hb_).2; omega
      have Zc := hpA Zc (.cells (x.cells).toArray 37)
      have Zx := hpA Zx (.cells (x.cells).toArray 37)
      have hu := hu.alloc (.cells (x.cells).toArray 37)
      have ee := ee.alloc (Nat.le_trans hB ee.size) (.cells (x.cells).toArray 37)
      have ff := ogAlloc ff (.cells (x.cells).toArray 37)
      have Zm := hpN z7 (.cells (x.cells).toArray 37) rfl
      generalize z7.alloc (.cells (x.cells).toArray 37) = z8 at Zc Zx Zm hu ee ff ⊢
      refine hK.out _ _ (rowAt Zx) (fun hH => ?_)
      clear hK K hH
      try simp only [Act.put, List.getElem_toArray, List.getElem_cons_zero, List.getElem_cons_succ, List.setIfInBounds_toArray, List.set_cons_zero, List.set_cons_succ]
      refine wpAnyH_ready (rs := [10]) (by kernel_rfl) (by simp) ?_
      refine AllReadyH.cons rfl (fun K hK => ?_) AllReadyH.nil
      rw [if_pos (by rfl)]
      refine wp_append_ownW _ (.tmp 39) (.tmp 41) 119 rfl B 37 i1 (.agg #[.int .i64 0, .int .i64 0, .int .i64 0, .slice none 0 0, .slice none 0 0, .int .i64 0, .int .i64 0, .int .i64 0, .int .u64 0, .bool false]) 10 112 Tryd.underlying119 hi1 hz10 hz11 hz12 rfl (by decide) _ _ _ rfl hu ⟨z7.heap.size, 0, none⟩ 1 1 (x.cells) rfl rfl (ogRowAdd Zm) (oneCm3 _) (by unfold maxLen; omega) (by omega) (Nat.le_trans hB ff.size) ?_
      intro u_ z9 ho_ hg_ hw_
      have hw_ : ∀ g_, u_.ownBlock = some g_ → (Value.slice A0 xi.length c0).ownBlock = some g_ ∨ w.heap.size ≤ g_ := fun g_ e_ => by
        rcases hw_ with h_ | h_ | h_
        · rw [h_] at e_; cases e_
        · have h2_ : u_.ownBlock = (Value.slice A0 xi.length c0).ownBlock := h_
          left; rw [← h2_]; exact e_
        · right; rw [h_] at e_; injection e_ with e_; have := ff.size; omega
      clear Zm
      have Zc := ogHeap Zc hu (by decide) hg_
      have Zx := ogHeapB Zx hnex hg_
      have ee := ee.grown hg_ (Nat.le_trans hB ee.size) (fun g_ hg2_ => by have hh_ := (hu.lt g_ hg2_).1; omega)
      have ff := ogOwnE ff hg_ (fun i_ hi_ => by have hh_ := (hu.lt i_ hi_).1; first | exact Or.inl (Or.inr hi_) | (right; omega) | (left; first | rfl | omega))
      clear hg_ hu
      obtain ⟨A9, c9, hu9, hc9, _, _⟩ := ownShape ho_
      subst hu9
      have hu := ho_
      clear ho_
      refine hK.out _ _ (rowAt Zx) (fun hH => ?_)
      clear hK K hH
      try simp only [Act.put, List.getElem_toArray, List.getElem_cons_zero, List.getElem_cons_succ, List.setIfInBounds_toArray, List.set_cons_zero, List.set_cons_succ]
      refine wpAnyH_take (i := 13) (v := .pointer (some ⟨gc, 86 + i, none⟩)) rfl (by kernel_rfl) (by kernel_rfl) (by kernel_rfl) (fun _ _ _ h => h) (Or.inl ⟨by rfl, fun w_ hS_ => by (first | (go_simp; done) | (go_simp; rfl))⟩) (rowAt Zx) ?_
      try simp only [Act.put, List.getElem_toArray, List.getElem_cons_zero, List.getElem_cons_succ, List.setIfInBounds_toArray, List.set_cons_zero, List.set_cons_succ]
      refine wpAnyH_ready (rs := [14]) (by kernel_rfl) (by simp) ?_
      refine AllReadyH.cons rfl (fun K hK => ?_) AllReadyH.nil
      rw [if_pos (by rfl)]
      have f_ : z9.frozen? ⟨gc, 86 + i, none⟩ = false := freeAt Zc (86 + i)
      have c_ := rowCell Zc (86 + i) (crS n _ _ S k i hi)
      go_simp
      clear f_ c_
      have N_ : (z9.setCells (gc) (86 + i) ([.slice A9 (xi.length + 1) c9])).heap[gc]? = some (.cells (crC n (Px.upd A i (a.learn a.sl)) (fun j => pv (H j)) (updF S i (.slice A9 (xi.length + 1) c9)) k).toArray 122) := (by rw [← crPutS n _ _ S k i hi]; exact hpC _ _ _ _ Zc)
      have hu := ogOwnC hu (ogKind hu Zc (by decide)) ([.slice A9 (xi.length + 1) c9]) (86 + i)
      have ee := belowC (g := gc) (by omega) ([.slice A9 (xi.length + 1) c9]) (86 + i) z9 ee
      have ff := ogCells (k := gc) (by first | (right; omega) | (left; left; rfl)) ([.slice A9 (xi.length + 1) c9]) (86 + i) z9 ff
      have Zx := hpCo (g' := gc) (by omega) ([.slice A9 (xi.length + 1) c9]) (86 + i) z9 Zx
      clear Zc
      have Zc := N_
      clear N_
      change K _ (z9.setCells (gc) (86 + i) ([.slice A9 (xi.length + 1) c9]))
      generalize z9.setCells (gc) (86 + i) ([.slice A9 (xi.length + 1) c9]) = z10 at Zc Zx hu ee ff ⊢
      refine hK.out _ _ (rowAt Zx) (fun hH => ?_)
      clear hK K hH
      try simp only [Act.put, List.getElem_toArray, List.getElem_cons_zero, List.getElem_cons_succ, List.setIfInBounds_toArray, List.set_cons_zero, List.set_cons_succ]
      refine wpAnyH_done (by kernel_rfl) ?_ _
      clear hi0 hi5
      go_wp2_with fail
      go_ret
      refine ⟨rfl, ⟨_, HMV.out _ _ (xi ++ [x]) _ ff Zc ?_ hw_⟩, ee⟩
      rw [List.length_append, List.length_singleton, flat_snoc]
      exact hu
    · rw [if_pos (by rfl)]
      refine wp_buildSlice 119 37 1 #[(0, .tmp 40)] rfl (x.cells).toArray i1 (.agg #[.int .i64 0, .int .i64 0, .int .i64 0, .slice none 0 0, .slice none 0 0, .int .i64 0, .int .i64 0, .int .i64 0, .int .u64 0, .bool false]) Tryd.underlying119 hi1 hz10 (by rw [hz11]; decide) (by rw [hz11]; decide) (by rw [hz11]; simp only [List.map_toArray, List.map_cons, List.map_nil]; exact ogFill (by omega) _ (Cm.cells_len _) _ (by simp)) ?_
      have lZc := (Array.getElem?_eq_some_iff.1 Zc).1
      have lZx := (Array.getElem?_eq_some_iff.1 Zx).1
      have sz_ := ff.size
      have ne_hu_Zm : (Value.slice A0 xi.length c0).ownBlock ≠ some (z7.heap.size) := fun hb_ => by have hh_ := (hu.lt _ hb_).2; omega
      have Zc := hpA Zc (.cells (x.cells).toArray 37)
      have Zx := hpA Zx (.cells (x.cells).toArray 37)
      have hu := hu.alloc (.cells (x.cells).toArray 37)
      have ee := ee.alloc (Nat.le_trans hB ee.size) (.cells (x.cells).toArray 37)
      have ff := ogAlloc ff (.cells (x.cells).toArray 37)
      have Zm := hpN z7 (.cells (x.cells).toArray 37) rfl
      generalize z7.alloc (.cells (x.cells).toArray 37) = z8 at Zc Zx Zm hu ee ff ⊢
      refine hK.out _ _ (rowAt Zx) (fun hH => ?_)
      clear hK K hH
      try simp only [Act.put, List.getElem_toArray, List.getElem_cons_zero, List.getElem_cons_succ, List.setIfInBounds_toArray, List.set_cons_zero, List.set_cons_succ]
      refine wpAnyH_ready (rs := [7]) (by kernel_rfl) (by simp) ?_
      refine AllReadyH.cons rfl (fun K hK => ?_) AllReadyH.nil
      rw [if_pos (by rfl)]
      have c_ := rowCell Zc (86 + i) (crS n _ _ S k i hi)
      rw [HS.out] at c_
      go_simp
      clear c_
      refine hK.out _ _ (rowAt Zx) (fun hH => ?_)
      clear hK K hH
      try simp only [Act.put, List.getElem_toArray, List.getElem_cons_zero, List.getElem_cons_succ, List.setIfInBounds_toArray, List.set_cons_zero, List.set_cons_succ]
      refine wpAnyH_ready (rs := [10]) (by kernel_rfl) (by simp) ?_
      refine AllReadyH.cons rfl (fun K hK => ?_) AllReadyH.nil
      rw [if_pos (by rfl)]
      refine wp_append_ownW _ (.tmp 39) (.tmp 41) 119 rfl B 37 i1 (.agg #[.int .i64 0, .int .i64 0, .int .i64 0, .slice none 0 0, .slice none 0 0, .int .i64 0, .int .i64 0, .int .i64 0, .int .u64 0, .bool false]) 10 112 Tryd.underlying119 hi1 hz10 hz11 hz12 rfl (by decide) _ _ _ rfl hu ⟨z7.heap.size, 0, none⟩ 1 1 (x.cells) rfl rfl (ogRowAdd Zm) (oneCm3 _) (by unfold maxLen; omega) (by omega) (Nat.le_trans hB ff.size) ?_
      intro u_ z9 ho_ hg_ hw_
      have hw_ : ∀ g_, u_.ownBlock = some g_ → (Value.slice A0 xi.length c0).ownBlock = some g_ ∨ w.heap.size ≤ g_ := fun g_ e_ => by
        rcases hw_ with h_ | h_ | h_
        · rw [h_] at e_; cases e_
        · have h2_ : u_.ownBlock = (Value.slice A0 xi.length c0).ownBlock := h_
          left; rw [← h2_]; exact e_
        · right; rw [h_] at e_; injection e_ with e_; have := ff.size; omega
      clear Zm
      have Zc := ogHeap Zc hu (by decide) hg_
      have Zx := ogHeapB Zx hnex hg_
      have ee := ee.grown hg_ (Nat.le_trans hB ee.size) (fun g_ hg2_ => by have hh_ := (hu.lt g_ hg2_).1; omega)
      have ff := ogOwnE ff hg_ (fun i_ hi_ => by have hh_ := (hu.lt i_ hi_).1; first | exact Or.inl (Or.inr hi_) | (right; omega) | (left; first | rfl | omega))
      clear hg_ hu
      obtain ⟨A9, c9, hu9, hc9, _, _⟩ := ownShape ho_
      subst hu9
      have hu := ho_
      clear ho_
      refine hK.out _ _ (rowAt Zx) (fun hH => ?_)
      clear hK K hH
      try simp only [Act.put, List.getElem_toArray, List.getElem_cons_zero, List.getElem_cons_succ, List.setIfInBounds_toArray, List.set_cons_zero, List.set_cons_succ]
      refine wpAnyH_take (i := 13) (v := .pointer (some ⟨gc, 86 + i, none⟩)) rfl (by kernel_rfl) (by kernel_rfl) (by kernel_rfl) (fun _ _ _ h => h) (Or.inl ⟨by rfl, fun w_ hS_ => by (first | (go_simp; done) | (go_simp; rfl))⟩) (rowAt Zx) ?_
      try simp only [Act.put, List.getElem_toArray, List.getElem_cons_zero, List.getElem_cons_succ, List.setIfInBounds_toArray, List.set_cons_zero, List.set_cons_succ]
      refine wpAnyH_ready (rs := [14]) (by kernel_rfl) (by simp) ?_
      refine AllReadyH.cons rfl (fun K hK => ?_) AllReadyH.nil
      rw [if_pos (by rfl)]
      have f_ : z9.frozen? ⟨gc, 86 + i, none⟩ = false := freeAt Zc (86 + i)
      have c_ := rowCell Zc (86 + i) (crS n _ _ S k i hi)
      go_simp
      clear f_ c_
      have N_ : (z9.setCells (gc) (86 + i) ([.slice A9 (xi.length + 1) c9])).heap[gc]? = some (.cells (crC n (Px.upd A i (a.learn a.sl)) (fun j => pv (H j)) (updF S i (.slice A9 (xi.length + 1) c9)) k).toArray 122) := (by rw [← crPutS n _ _ S k i hi]; exact hpC _ _ _ _ Zc)
      have hu := ogOwnC hu (ogKind hu Zc (by decide)) ([.slice A9 (xi.length + 1) c9]) (86 + i)
      have ee := belowC (g := gc) (by omega) ([.slice A9 (xi.length + 1) c9]) (86 + i) z9 ee
      have ff := ogCells (k := gc) (by first | (right; omega) | (left; left; rfl)) ([.slice A9 (xi.length + 1) c9]) (86 + i) z9 ff
      have Zx := hpCo (g' := gc) (by omega) ([.slice A9 (xi.length + 1) c9]) (86 + i) z9 Zx
      clear Zc
      have Zc := N_
      clear N_
      change K _ (z9.setCells (gc) (86 + i) ([.slice A9 (xi.length + 1) c9]))
      generalize z9.setCells (gc) (86 + i) ([.slice A9 (xi.length + 1) c9]) = z10 at Zc Zx hu ee ff ⊢
      refine hK.out _ _ (rowAt Zx) (fun hH => ?_)
      clear hK K hH
      try simp only [Act.put, List.getElem_toArray, List.getElem_cons_zero, List.getElem_cons_succ, List.setIfInBounds_toArray, List.set_cons_zero, List.set_cons_succ]
      refine wpAnyH_done (by kernel_rfl) ?_ _
      clear hi0 hi5
      go_wp2_with fail
      go_ret
      refine ⟨rfl, ⟨_, HMV.out _ _ (xi ++ [x]) _ ff Zc ?_ hw_⟩, ee⟩
      rw [List.length_append, List.length_singleton, flat_snoc]
      exact hu
  · rw [if_pos (by rfl)]
    go_simp
    have lZc := (Array.getElem?_eq_some_iff.1 Zc).1
    have lZx := (Array.getElem?_eq_some_iff.1 Zx).1
    have sz_ := ff.size
    have Zc := hpA Zc (.cells #[.int .u32 0, .int .i64 0, .int .i64 0, .bool false, .int .u32 0, .int .i64 0, .int .i64 0, .int .i64 0, .int .i64 0, .slice none 0 0, .slice none 0 0, .int .i64 0, .int .i64 0, .int .i64 0, .int .u64 0, .bool false] 39)
    have Zx := hpA Zx (.cells #[.int .u32 0, .int .i64 0, .int .i64 0, .bool false, .int .u32 0, .int .i64 0, .int .i64 0, .int .i64 0, .int .i64 0, .slice none 0 0, .slice none 0 0, .int .i64 0, .int .i64 0, .int .i64 0, .int .u64 0, .bool false] 39)
    have hu := hu.alloc (.cells #[.int .u32 0, .int .i64 0, .int .i64 0, .bool false, .int .u32 0, .int .i64 0, .int .i64 0, .int .i64 0, .int .i64 0, .slice none 0 0, .slice none 0 0, .int .i64 0, .int .i64 0, .int .i64 0, .int .u64 0, .bool false] 39)
    have ee := ee.alloc (Nat.le_trans hB ee.size) (.cells #[.int .u32 0, .int .i64 0, .int .i64 0, .bool false, .int .u32 0, .int .i64 0, .int .i64 0, .int .i64 0, .int .i64 0, .slice none 0 0, .slice none 0 0, .int .i64 0, .int .i64 0, .int .i64 0, .int .u64 0, .bool false] 39)
    have ff := ogAlloc ff (.cells #[.int .u32 0, .int .i64 0, .int .i64 0, .bool false, .int .u32 0, .int .i64 0, .int .i64 0, .int .i64 0, .int .i64 0, .slice none 0 0, .slice none 0 0, .int .i64 0, .int .i64 0, .int .i64 0, .int .u64 0, .bool false] 39)
    have Zn := hpN z1 (.cells #[.int .u32 0, .int .i64 0, .int .i64 0, .bool false, .int .u32 0, .int .i64 0, .int .i64 0, .int .i64 0, .int .i64 0, .slice none 0 0, .slice none 0 0, .int .i64 0, .int .i64 0, .int .i64 0, .int .u64 0, .bool false] 39) rfl
    generalize z1.alloc (.cells #[.int .u32 0, .int .i64 0, .int .i64 0, .bool false, .int .u32 0, .int .i64 0, .int .i64 0, .int .i64 0, .int .i64 0, .slice none 0 0, .slice none 0 0, .int .i64 0, .int .i64 0, .int .i64 0, .int .u64 0, .bool false] 39) = z2 at Zc Zx Zn hu ee ff ⊢
    refine hK.out _ _ (rowMid Zc (1 + i * 16) HRA.out) (fun hH => ?_)
    clear hK K hH
    try simp only [Act.put, List.getElem_toArray, List.getElem_cons_zero, List.getElem_cons_succ, List.setIfInBounds_toArray, List.set_cons_zero, List.set_cons_succ]
    refine wpAnyH_ready (rs := [13]) (by kernel_rfl) (by simp) ?_
    refine AllReadyH.cons rfl (fun K hK => ?_) AllReadyH.nil
    rw [if_pos (by rfl)]
    go_simp
    go_wp2_with (go_at_call 68; refine (HLC.out z2 ee).mono ?_; rintro e z3 ⟨rfl, t⟩)
    have Zc := hpB Zc t
    have Zx := hpB Zx t
    have Zn := hpB Zn t
    have hu := ownBelow hu t
    have ee := ee.trans (t.mono (Nat.le_trans hB ee.size))
    have ff := ogBelow ff t
    clear t
    refine hK.out _ _ (rowMid Zc (1 + i * 16) HRA.out) (fun hH => ?_)
    clear hK K hH
    try simp only [Act.put, List.getElem_toArray, List.getElem_cons_zero, List.getElem_cons_succ, List.setIfInBounds_toArray, List.set_cons_zero, List.set_cons_succ]
    refine wpAnyH_take (i := 14) (v := .tuple #[.agg (a.learn a.sl).cells.toArray, .bool true]) rfl (by kernel_rfl) (by kernel_rfl) (by kernel_rfl) (fun _ _ _ h => h) (Or.inl ⟨by rfl, fun w_ hS_ => by (first | (go_simp; done) | (go_simp; rfl))⟩) (rowMid Zc (1 + i * 16) HRA.out) ?_
    try simp only [Act.put, List.getElem_toArray, List.getElem_cons_zero, List.getElem_cons_succ, List.setIfInBounds_toArray, List.set_cons_zero, List.set_cons_succ]
    refine wpAnyH_take (i := 15) (v := .agg (a.learn a.sl).cells.toArray) rfl (by kernel_rfl) (by kernel_rfl) (by kernel_rfl) (fun _ _ _ h => h) (Or.inl ⟨by rfl, fun w_ hS_ => by (first | (go_simp; done) | (go_simp; rfl))⟩) (rowMid Zc (1 + i * 16) HRA.out) ?_
    try simp only [Act.put, List.getElem_toArray, List.getElem_cons_zero, List.getElem_cons_succ, List.setIfInBounds_toArray, List.set_cons_zero, List.set_cons_succ]
    refine wpAnyH_take (i := 16) (v := .bool true) rfl (by kernel_rfl) (by kernel_rfl) (by kernel_rfl) (fun _ _ _ h => h) (Or.inl ⟨by rfl, fun w_ hS_ => by (first | (go_simp; done) | (go_simp; rfl))⟩) (rowMid Zc (1 + i * 16) HRA.out) ?_
    try simp only [Act.put, List.getElem_toArray, List.getElem_cons_zero, List.getElem_cons_succ, List.setIfInBounds_toArray, List.set_cons_zero, List.set_cons_succ]
    refine wpAnyH_ready (rs := [18]) (by kernel_rfl) (by simp) ?_
    refine AllReadyH.cons rfl (fun K hK => ?_) AllReadyH.nil
    rw [if_pos (by rfl)]
    refine wp_store_row 39 _ _ rfl (z1.heap.size) ((a.learn a.sl).cells).toArray rfl rfl 39 _ Zn sizeAc (by rfl) (Ac.one _) ?_
    have N_ := setRow_heap z3 (z1.heap.size) _ ((a.learn a.sl).cells).toArray _ _ Zn
    have hu := ogOwnR (cs := ((a.learn a.sl).cells).toArray) hu (ogKind hu Zn (by decide))
    have ee := belowSet (cs := ((a.learn a.sl).cells).toArray) ee Zn (by omega)
    have ff := ogRow (cs := ((a.learn a.sl).cells).toArray) (by first | (right; omega) | (left; left; rfl)) Zn ff
    have Zc := hpR Zc (g' := z1.heap.size) (by omega) ((a.learn a.sl).cells).toArray
    have Zx := hpR Zx (g' := z1.heap.size) (by omega) ((a.learn a.sl).cells).toArray
    clear Zn
    have Zn := N_
    clear N_
    generalize z3.setRow (z1.heap.size) ((a.learn a.sl).cells).toArray = z4 at Zc Zx Zn hu ee ff ⊢
    refine hK.out _ _ (rowMid Zc (1 + i * 16) HRA.out) (fun hH => ?_)
    clear hK K hH
    try simp only [Act.put, List.getElem_toArray, List.getElem_cons_zero, List.getElem_cons_succ, List.setIfInBounds_toArray, List.set_cons_zero, List.set_cons_succ]
    refine wpAnyH_take (i := 19) (v := .bool true) rfl (by kernel_rfl) (by kernel_rfl) (by kernel_rfl) (fun _ _ _ h => h) (Or.inl ⟨by rfl, fun w_ hS_ => by (first | (go_simp; done) | (go_simp; rfl))⟩) (rowMid Zc (1 + i * 16) HRA.out) ?_
    try simp only [Act.put, List.getElem_toArray, List.getElem_cons_zero, List.getElem_cons_succ, List.setIfInBounds_toArray, List.set_cons_zero, List.set_cons_succ]
    refine wpAnyH_done (by kernel_rfl) ?_ _
    go_upto_region 2 with fail
    have Zc : z4.drew.heap[gc]? = some (.cells (crC n A (fun j => pv (H j)) S k).toArray 122) := Zc
    have Zx : z4.drew.heap[w.heap.size]? = some (.cells x.cells.toArray 37) := Zx
    have Zn : z4.drew.heap[z1.heap.size]? = some (.cells ((a.learn a.sl).cells).toArray 39) := Zn
    have hu := World.ownsRow.drew hu
    have ee := belowDrewS ee
    have ff := ogDrew ff
    refine wp_region_held_drew (S := fun z' => z'.rangeAt (z1.heap.size) 0 (a.learn a.sl).cells) (by kernel_rfl) (rowAt Zn) (fun hH => ?_)
    clear hH
    generalize z4.drew = z5 at Zc Zx Zn hu ee ff ⊢
    refine wpAnyH_take (i := 0) (v := .pointer (some ⟨gc, 0, none⟩)) rfl (by kernel_rfl) (by kernel_rfl) (by kernel_rfl) (fun _ _ _ h => h) (Or.inl ⟨by rfl, fun w_ hS_ => by (first | (go_simp; done) | (go_simp; rfl))⟩) (rowAt Zn) ?_
    try simp only [Act.put, List.getElem_toArray, List.getElem_cons_zero, List.getElem_cons_succ, List.setIfInBounds_toArray, List.set_cons_zero, List.set_cons_succ]
    refine wpAnyH_take (i := 1) (v := .int .i64 (i : Int)) rfl (by kernel_rfl) (by kernel_rfl) (by kernel_rfl) (fun _ _ _ h => h) (Or.inl ⟨by rfl, fun w_ hS_ => by (first | (go_simp; done) | (go_simp; rfl))⟩) (rowAt Zn) ?_
    try simp only [Act.put, List.getElem_toArray, List.getElem_cons_zero, List.getElem_cons_succ, List.setIfInBounds_toArray, List.set_cons_zero, List.set_cons_succ]
    refine wpAnyH_take (i := 2) (v := .agg (((a.learn a.sl).cells)).toArray) rfl (by kernel_rfl) (by kernel_rfl) (by kernel_rfl) (fun _ _ _ h => h) (yieldsIf_load_mid (by rfl) 39 _ rfl (z1.heap.size) (0) rfl (((a.learn a.sl).cells)) _ (fun _ h => h) Tryd.underlying39 rfl sizeAc) (rowAt Zn) ?_
    try simp only [Act.put, List.getElem_toArray, List.getElem_cons_zero, List.getElem_cons_succ, List.setIfInBounds_toArray, List.set_cons_zero, List.set_cons_succ]
    refine wpAnyH_take (i := 3) (v := .pointer (some ⟨gc, 0, none⟩)) rfl (by kernel_rfl) (by kernel_rfl) (by kernel_rfl) (fun _ _ _ h => h) (Or.inl ⟨by rfl, fun w_ hS_ => by (first | (go_simp; done) | (go_simp; rfl))⟩) (rowAt Zn) ?_
    try simp only [Act.put, List.getElem_toArray, List.getElem_cons_zero, List.getElem_cons_succ, List.setIfInBounds_toArray, List.set_cons_zero, List.set_cons_succ]
    refine wpAnyH_take (i := 4) (v := .pointer (some ⟨gc, 1, none⟩)) rfl (by kernel_rfl) (by kernel_rfl) (by kernel_rfl) (fun _ _ _ h => h) (Or.inl ⟨by rfl, fun w_ hS_ => by (first | (go_simp; done) | (go_simp; rfl))⟩) (rowAt Zn) ?_
    try simp only [Act.put, List.getElem_toArray, List.getElem_cons_zero, List.getElem_cons_succ, List.setIfInBounds_toArray, List.set_cons_zero, List.set_cons_succ]
    refine wpAnyH_take (i := 5) (v := .pointer (some ⟨gc, 1 + i * 16, none⟩)) rfl (by kernel_rfl) (by kernel_rfl) (by kernel_rfl) (fun _ _ _ h => h) (Or.inl ⟨by rfl, fun w_ hS_ => by (first | (go_simp; done) | (go_simp; rfl))⟩) (rowAt Zn) ?_
    try simp only [Act.put, List.getElem_toArray, List.getElem_cons_zero, List.getElem_cons_succ, List.setIfInBounds_toArray, List.set_cons_zero, List.set_cons_succ]
    refine wpAnyH_ready (rs := [6]) (by kernel_rfl) (by simp) ?_
    refine AllReadyH.cons rfl (fun K hK => ?_) AllReadyH.nil
    rw [if_pos (by rfl)]
    refine wp_store_mid 39 _ _ rfl (gc) (1 + i * 16) ((a.learn a.sl).cells).toArray rfl rfl (crThere Zc hi) sizeAc (Ac.one _) ?_
    have N_ : (z5.setCells (gc) (1 + i * 16) ((a.learn a.sl).cells)).heap[gc]? = some (.cells (crC n (Px.upd A i (a.learn a.sl)) (fun j => pv (H j)) S k).toArray 122) := (by rw [← (hPU (a.learn a.sl)).out]; exact hpC _ _ _ _ Zc)
    have hu := ogOwnC hu (ogKind hu Zc (by decide)) ((a.learn a.sl).cells) (1 + i * 16)
    have ee := belowC (g := gc) (by omega) ((a.learn a.sl).cells) (1 + i * 16) z5 ee
    have ff := ogCells (k := gc) (by first | (right; omega) | (left; left; rfl)) ((a.learn a.sl).cells) (1 + i * 16) z5 ff
    have Zx := hpCo (g' := gc) (by omega) ((a.learn a.sl).cells) (1 + i * 16) z5 Zx
    have Zn := hpCo (g' := gc) (by omega) ((a.learn a.sl).cells) (1 + i * 16) z5 Zn
    clear Zc
    have Zc := N_
    clear N_
    change K _ (z5.setCells (gc) (1 + i * 16) ((a.learn a.sl).cells))
    generalize z5.setCells (gc) (1 + i * 16) ((a.learn a.sl).cells) = z6 at Zc Zx Zn hu ee ff ⊢
    refine hK.out _ _ (rowAt Zn) (fun hH => ?_)
    clear hK K hH
    try simp only [Act.put, List.getElem_toArray, List.getElem_cons_zero, List.getElem_cons_succ, List.setIfInBounds_toArray, List.set_cons_zero, List.set_cons_succ]
    refine wpAnyH_done (by kernel_rfl) ?_ _
    clear Zn
    go_upto_region 3 with fail
    have Zc : z6.drew.heap[gc]? = some (.cells (crC n (Px.upd A i (a.learn a.sl)) (fun j => pv (H j)) S k).toArray 122) := Zc
    have Zx : z6.drew.heap[w.heap.size]? = some (.cells x.cells.toArray 37) := Zx
    have hu := World.ownsRow.drew hu
    have ee := belowDrewS ee
    have ff := ogDrew ff
    refine wp_region_held_drew (S := fun z' => z'.rangeAt w.heap.size 0 x.cells) (by kernel_rfl) (rowAt Zx) (fun hH => ?_)
    clear hH
    generalize z6.drew = z7 at Zc Zx hu ee ff ⊢
    refine wpAnyH_take (i := 0) (v := .pointer (some ⟨gc, 0, none⟩)) rfl (by kernel_rfl) (by kernel_rfl) (by kernel_rfl) (fun _ _ _ h => h) (Or.inl ⟨by rfl, fun w_ hS_ => by (first | (go_simp; done) | (go_simp; rfl))⟩) (rowAt Zx) ?_
    try simp only [Act.put, List.getElem_toArray, List.getElem_cons_zero, List.getElem_cons_succ, List.setIfInBounds_toArray, List.set_cons_zero, List.set_cons_succ]
    refine wpAnyH_take (i := 1) (v := .int .i64 (i : Int)) rfl (by kernel_rfl) (by kernel_rfl) (by kernel_rfl) (fun _ _ _ h => h) (Or.inl ⟨by rfl, fun w_ hS_ => by (first | (go_simp; done) | (go_simp; rfl))⟩) (rowAt Zx) ?_
    try simp only [Act.put, List.getElem_toArray, List.getElem_cons_zero, List.getElem_cons_succ, List.setIfInBounds_toArray, List.set_cons_zero, List.set_cons_succ]
    refine wpAnyH_take (i := 2) (v := .pointer (some ⟨gc, 0, none⟩)) rfl (by kernel_rfl) (by kernel_rfl) (by kernel_rfl) (fun _ _ _ h => h) (Or.inl ⟨by rfl, fun w_ hS_ => by (first | (go_simp; done) | (go_simp; rfl))⟩) (rowAt Zx) ?_
    try simp only [Act.put, List.getElem_toArray, List.getElem_cons_zero, List.getElem_cons_succ, List.setIfInBounds_toArray, List.set_cons_zero, List.set_cons_succ]
    refine wpAnyH_take (i := 3) (v := .int .i64 (i : Int)) rfl (by kernel_rfl) (by kernel_rfl) (by kernel_rfl) (fun _ _ _ h => h) (Or.inl ⟨by rfl, fun w_ hS_ => by (first | (go_simp; done) | (go_simp; rfl))⟩) (rowAt Zx) ?_
    try simp only [Act.put, List.getElem_toArray, List.getElem_cons_zero, List.getElem_cons_succ, List.setIfInBounds_toArray, List.set_cons_zero, List.set_cons_succ]
    refine wpAnyH_take (i := 4) (v := .pointer (some ⟨gc, 0, none⟩)) rfl (by kernel_rfl) (by kernel_rfl) (by kernel_rfl) (fun _ _ _ h => h) (Or.inl ⟨by rfl, fun w_ hS_ => by (first | (go_simp; done) | (go_simp; rfl))⟩) (rowAt Zx) ?_
    try simp only [Act.put, List.getElem_toArray, List.getElem_cons_zero, List.getElem_cons_succ, List.setIfInBounds_toArray, List.set_cons_zero, List.set_cons_succ]
    refine wpAnyH_take (i := 5) (v := .pointer (some ⟨gc, 86, none⟩)) rfl (by kernel_rfl) (by kernel_rfl) (by kernel_rfl) (fun _ _ _ h => h) (Or.inl ⟨by rfl, fun w_ hS_ => by (first | (go_simp; done) | (go_simp; rfl))⟩) (rowAt Zx) ?_
    try simp only [Act.put, List.getElem_toArray, List.getElem_cons_zero, List.getElem_cons_succ, List.setIfInBounds_toArray, List.set_cons_zero, List.set_cons_succ]
    refine wpAnyH_take (i := 6) (v := .pointer (some ⟨gc, 86 + i, none⟩)) rfl (by kernel_rfl) (by kernel_rfl) (by kernel_rfl) (fun _ _ _ h => h) (Or.inl ⟨by rfl, fun w_ hS_ => by (first | (go_simp; done) | (go_simp; rfl))⟩) (rowAt Zx) ?_
    try simp only [Act.put, List.getElem_toArray, List.getElem_cons_zero, List.getElem_cons_succ, List.setIfInBounds_toArray, List.set_cons_zero, List.set_cons_succ]
    refine wpAnyH_take (i := 8) (v := .agg (x.cells).toArray) rfl (by kernel_rfl) (by kernel_rfl) (by kernel_rfl) (fun _ _ _ h => h) (yieldsIf_load_mid (by rfl) 37 _ rfl (w.heap.size) (0) rfl (x.cells) _ (fun _ h => h) Tryd.underlying37 rfl sizeCm) (rowAt Zx) ?_
    try simp only [Act.put, List.getElem_toArray, List.getElem_cons_zero, List.getElem_cons_succ, List.setIfInBounds_toArray, List.set_cons_zero, List.set_cons_succ]
    refine wpAnyH_take (i := 11) (v := .pointer (some ⟨gc, 0, none⟩)) rfl (by kernel_rfl) (by kernel_rfl) (by kernel_rfl) (fun _ _ _ h => h) (Or.inl ⟨by rfl, fun w_ hS_ => by (first | (go_simp; done) | (go_simp; rfl))⟩) (rowAt Zx) ?_
    try simp only [Act.put, List.getElem_toArray, List.getElem_cons_zero, List.getElem_cons_succ, List.setIfInBounds_toArray, List.set_cons_zero, List.set_cons_succ]
    refine wpAnyH_take (i := 12) (v := .pointer (some ⟨gc, 86, none⟩)) rfl (by kernel_rfl) (by kernel_rfl) (by kernel_rfl) (fun _ _ _ h => h) (Or.inl ⟨by rfl, fun w_ hS_ => by (first | (go_simp; done) | (go_simp; rfl))⟩) (rowAt Zx) ?_
    try simp only [Act.put, List.getElem_toArray, List.getElem_cons_zero, List.getElem_cons_succ, List.setIfInBounds_toArray, List.set_cons_zero, List.set_cons_succ]
    refine wpAnyH_ready (rs := [7, 9]) (by kernel_rfl) (by simp) ?_
    refine AllReadyH.cons rfl (fun K hK => ?_) (AllReadyH.cons rfl (fun K hK => ?_) AllReadyH.nil)
    · rw [if_pos (by rfl)]
      have c_ := rowCell Zc (86 + i) (crS n _ _ S k i hi)
      rw [HS.out] at c_
      go_simp
      clear c_
      refine hK.out _ _ (rowAt Zx) (fun hH => ?_)
      clear hK K hH
      try simp only [Act.put, List.getElem_toArray, List.getElem_cons_zero, List.getElem_cons_succ, List.setIfInBounds_toArray, List.set_cons_zero, List.set_cons_succ]
      refine wpAnyH_ready (rs := [9]) (by kernel_rfl) (by simp) ?_
      refine AllReadyH.cons rfl (fun K hK => ?_) AllReadyH.nil
      rw [if_pos (by rfl)]
      refine wp_buildSlice 119 37 1 #[(0, .tmp 40)] rfl (x.cells).toArray i1 (.agg #[.int .i64 0, .int .i64 0, .int .i64 0, .slice none 0 0, .slice none 0 0, .int .i64 0, .int .i64 0, .int .i64 0, .int .u64 0, .bool false]) Tryd.underlying119 hi1 hz10 (by rw [hz11]; decide) (by rw [hz11]; decide) (by rw [hz11]; simp only [List.map_toArray, List.map_cons, List.map_nil]; exact ogFill (by omega) _ (Cm.cells_len _) _ (by simp)) ?_
      have lZc := (Array.getElem?_eq_some_iff.1 Zc).1
      have lZx := (Array.getElem?_eq_some_iff.1 Zx).1
      have sz_ := ff.size
      have ne_hu_Zm : (Value.slice A0 xi.length c0).ownBlock ≠ some (z7.heap.size) := fun hb_ => by have hh_ := (hu.lt _ hb_).2; omega
      have Zc := hpA Zc (.cells (x.cells).toArray 37)
      have Zx := hpA Zx (.cells (x.cells).toArray 37)
      have hu := hu.alloc (.cells (x.cells).toArray 37)
      have ee := ee.alloc (Nat.le_trans hB ee.size) (.cells (x.cells).toArray 37)
      have ff := ogAlloc ff (.cells (x.cells).toArray 37)
      have Zm := hpN z7 (.cells (x.cells).toArray 37) rfl
      generalize z7.alloc (.cells (x.cells).toArray 37) = z8 at Zc Zx Zm hu ee ff ⊢
      refine hK.out _ _ (rowAt Zx) (fun hH => ?_)
      clear hK K hH
      try simp only [Act.put, List.getElem_toArray, List.getElem_cons_zero, List.getElem_cons_succ, List.setIfInBounds_toArray, List.set_cons_zero, List.set_cons_succ]
      refine wpAnyH_ready (rs := [10]) (by kernel_rfl) (by simp) ?_
      refine AllReadyH.cons rfl (fun K hK => ?_) AllReadyH.nil
      rw [if_pos (by rfl)]
      refine wp_append_ownW _ (.tmp 39) (.tmp 41) 119 rfl B 37 i1 (.agg #[.int .i64 0, .int .i64 0, .int .i64 0, .slice none 0 0, .slice none 0 0, .int .i64 0, .int .i64 0, .int .i64 0, .int .u64 0, .bool false]) 10 112 Tryd.underlying119 hi1 hz10 hz11 hz12 rfl (by decide) _ _ _ rfl hu ⟨z7.heap.size, 0, none⟩ 1 1 (x.cells) rfl rfl (ogRowAdd Zm) (oneCm3 _) (by unfold maxLen; omega) (by omega) (Nat.le_trans hB ff.size) ?_
      intro u_ z9 ho_ hg_ hw_
      have hw_ : ∀ g_, u_.ownBlock = some g_ → (Value.slice A0 xi.length c0).ownBlock = some g_ ∨ w.heap.size ≤ g_ := fun g_ e_ => by
        rcases hw_ with h_ | h_ | h_
        · rw [h_] at e_; cases e_
        · have h2_ : u_.ownBlock = (Value.slice A0 xi.length c0).ownBlock := h_
          left; rw [← h2_]; exact e_
        · right; rw [h_] at e_; injection e_ with e_; have := ff.size; omega
      clear Zm
      have Zc := ogHeap Zc hu (by decide) hg_
      have Zx := ogHeapB Zx hnex hg_
      have ee := ee.grown hg_ (Nat.le_trans hB ee.size) (fun g_ hg2_ => by have hh_ := (hu.lt g_ hg2_).1; omega)
      have ff := ogOwnE ff hg_ (fun i_ hi_ => by have hh_ := (hu.lt i_ hi_).1; first | exact Or.inl (Or.inr hi_) | (right; omega) | (left; first | rfl | omega))
      clear hg_ hu
      obtain ⟨A9, c9, hu9, hc9, _, _⟩ := ownShape ho_
      subst hu9
      have hu := ho_
      clear ho_
      refine hK.out _ _ (rowAt Zx) (fun hH => ?_)
      clear hK K hH
      try simp only [Act.put, List.getElem_toArray, List.getElem_cons_zero, List.getElem_cons_succ, List.setIfInBounds_toArray, List.set_cons_zero, List.set_cons_succ]
      refine wpAnyH_take (i := 13) (v := .pointer (some ⟨gc, 86 + i, none⟩)) rfl (by kernel_rfl) (by kernel_rfl) (by kernel_rfl) (fun _ _ _ h => h) (Or.inl ⟨by rfl, fun w_ hS_ => by (first | (go_simp; done) | (go_simp; rfl))⟩) (rowAt Zx) ?_
      try simp only [Act.put, List.getElem_toArray, List.getElem_cons_zero, List.getElem_cons_succ, List.setIfInBounds_toArray, List.set_cons_zero, List.set_cons_succ]
      refine wpAnyH_ready (rs := [14]) (by kernel_rfl) (by simp) ?_
      refine AllReadyH.cons rfl (fun K hK => ?_) AllReadyH.nil
      rw [if_pos (by rfl)]
      have f_ : z9.frozen? ⟨gc, 86 + i, none⟩ = false := freeAt Zc (86 + i)
      have c_ := rowCell Zc (86 + i) (crS n _ _ S k i hi)
      go_simp
      clear f_ c_
      have N_ : (z9.setCells (gc) (86 + i) ([.slice A9 (xi.length + 1) c9])).heap[gc]? = some (.cells (crC n (Px.upd A i (a.learn a.sl)) (fun j => pv (H j)) (updF S i (.slice A9 (xi.length + 1) c9)) k).toArray 122) := (by rw [← crPutS n _ _ S k i hi]; exact hpC _ _ _ _ Zc)
      have hu := ogOwnC hu (ogKind hu Zc (by decide)) ([.slice A9 (xi.length + 1) c9]) (86 + i)
      have ee := belowC (g := gc) (by omega) ([.slice A9 (xi.length + 1) c9]) (86 + i) z9 ee
      have ff := ogCells (k := gc) (by first | (right; omega) | (left; left; rfl)) ([.slice A9 (xi.length + 1) c9]) (86 + i) z9 ff
      have Zx := hpCo (g' := gc) (by omega) ([.slice A9 (xi.length + 1) c9]) (86 + i) z9 Zx
      clear Zc
      have Zc := N_
      clear N_
      change K _ (z9.setCells (gc) (86 + i) ([.slice A9 (xi.length + 1) c9]))
      generalize z9.setCells (gc) (86 + i) ([.slice A9 (xi.length + 1) c9]) = z10 at Zc Zx hu ee ff ⊢
      refine hK.out _ _ (rowAt Zx) (fun hH => ?_)
      clear hK K hH
      try simp only [Act.put, List.getElem_toArray, List.getElem_cons_zero, List.getElem_cons_succ, List.setIfInBounds_toArray, List.set_cons_zero, List.set_cons_succ]
      refine wpAnyH_done (by kernel_rfl) ?_ _
      clear hi0 hi5
      go_wp2_with fail
      go_ret
      refine ⟨rfl, ⟨_, HMV.out _ _ (xi ++ [x]) _ ff Zc ?_ hw_⟩, ee⟩
      rw [List.length_append, List.length_singleton, flat_snoc]
      exact hu
    · rw [if_pos (by rfl)]
      refine wp_buildSlice 119 37 1 #[(0, .tmp 40)] rfl (x.cells).toArray i1 (.agg #[.int .i64 0, .int .i64 0, .int .i64 0, .slice none 0 0, .slice none 0 0, .int .i64 0, .int .i64 0, .int .i64 0, .int .u64 0, .bool false]) Tryd.underlying119 hi1 hz10 (by rw [hz11]; decide) (by rw [hz11]; decide) (by rw [hz11]; simp only [List.map_toArray, List.map_cons, List.map_nil]; exact ogFill (by omega) _ (Cm.cells_len _) _ (by simp)) ?_
      have lZc := (Array.getElem?_eq_some_iff.1 Zc).1
      have lZx := (Array.getElem?_eq_some_iff.1 Zx).1
      have sz_ := ff.size
      have ne_hu_Zm : (Value.slice A0 xi.length c0).ownBlock ≠ some (z7.heap.size) := fun hb_ => by have hh_ := (hu.lt _ hb_).2; omega
      have Zc := hpA Zc (.cells (x.cells).toArray 37)
      have Zx := hpA Zx (.cells (x.cells).toArray 37)
      have hu := hu.alloc (.cells (x.cells).toArray 37)
      have ee := ee.alloc (Nat.le_trans hB ee.size) (.cells (x.cells).toArray 37)
      have ff := ogAlloc ff (.cells (x.cells).toArray 37)
      have Zm := hpN z7 (.cells (x.cells).toArray 37) rfl
      generalize z7.alloc (.cells (x.cells).toArray 37) = z8 at Zc Zx Zm hu ee ff ⊢
      refine hK.out _ _ (rowAt Zx) (fun hH => ?_)
      clear hK K hH
      try simp only [Act.put, List.getElem_toArray, List.getElem_cons_zero, List.getElem_cons_succ, List.setIfInBounds_toArray, List.set_cons_zero, List.set_cons_succ]
      refine wpAnyH_ready (rs := [7]) (by kernel_rfl) (by simp) ?_
      refine AllReadyH.cons rfl (fun K hK => ?_) AllReadyH.nil
      rw [if_pos (by rfl)]
      have c_ := rowCell Zc (86 + i) (crS n _ _ S k i hi)
      rw [HS.out] at c_
      go_simp
      clear c_
      refine hK.out _ _ (rowAt Zx) (fun hH => ?_)
      clear hK K hH
      try simp only [Act.put, List.getElem_toArray, List.getElem_cons_zero, List.getElem_cons_succ, List.setIfInBounds_toArray, List.set_cons_zero, List.set_cons_succ]
      refine wpAnyH_ready (rs := [10]) (by kernel_rfl) (by simp) ?_
      refine AllReadyH.cons rfl (fun K hK => ?_) AllReadyH.nil
      rw [if_pos (by rfl)]
      refine wp_append_ownW _ (.tmp 39) (.tmp 41) 119 rfl B 37 i1 (.agg #[.int .i64 0, .int .i64 0, .int .i64 0, .slice none 0 0, .slice none 0 0, .int .i64 0, .int .i64 0, .int .i64 0, .int .u64 0, .bool false]) 10 112 Tryd.underlying119 hi1 hz10 hz11 hz12 rfl (by decide) _ _ _ rfl hu ⟨z7.heap.size, 0, none⟩ 1 1 (x.cells) rfl rfl (ogRowAdd Zm) (oneCm3 _) (by unfold maxLen; omega) (by omega) (Nat.le_trans hB ff.size) ?_
      intro u_ z9 ho_ hg_ hw_
      have hw_ : ∀ g_, u_.ownBlock = some g_ → (Value.slice A0 xi.length c0).ownBlock = some g_ ∨ w.heap.size ≤ g_ := fun g_ e_ => by
        rcases hw_ with h_ | h_ | h_
        · rw [h_] at e_; cases e_
        · have h2_ : u_.ownBlock = (Value.slice A0 xi.length c0).ownBlock := h_
          left; rw [← h2_]; exact e_
        · right; rw [h_] at e_; injection e_ with e_; have := ff.size; omega
      clear Zm
      have Zc := ogHeap Zc hu (by decide) hg_
      have Zx := ogHeapB Zx hnex hg_
      have ee := ee.grown hg_ (Nat.le_trans hB ee.size) (fun g_ hg2_ => by have hh_ := (hu.lt g_ hg2_).1; omega)
      have ff := ogOwnE ff hg_ (fun i_ hi_ => by have hh_ := (hu.lt i_ hi_).1; first | exact Or.inl (Or.inr hi_) | (right; omega) | (left; first | rfl | omega))
      clear hg_ hu
      obtain ⟨A9, c9, hu9, hc9, _, _⟩ := ownShape ho_
      subst hu9
      have hu := ho_
      clear ho_
      refine hK.out _ _ (rowAt Zx) (fun hH => ?_)
      clear hK K hH
      try simp only [Act.put, List.getElem_toArray, List.getElem_cons_zero, List.getElem_cons_succ, List.setIfInBounds_toArray, List.set_cons_zero, List.set_cons_succ]
      refine wpAnyH_take (i := 13) (v := .pointer (some ⟨gc, 86 + i, none⟩)) rfl (by kernel_rfl) (by kernel_rfl) (by kernel_rfl) (fun _ _ _ h => h) (Or.inl ⟨by rfl, fun w_ hS_ => by (first | (go_simp; done) | (go_simp; rfl))⟩) (rowAt Zx) ?_
      try simp only [Act.put, List.getElem_toArray, List.getElem_cons_zero, List.getElem_cons_succ, List.setIfInBounds_toArray, List.set_cons_zero, List.set_cons_succ]
      refine wpAnyH_ready (rs := [14]) (by kernel_rfl) (by simp) ?_
      refine AllReadyH.cons rfl (fun K hK => ?_) AllReadyH.nil
      rw [if_pos (by rfl)]
      have f_ : z9.frozen? ⟨gc, 86 + i, none⟩ = false := freeAt Zc (86 + i)
      have c_ := rowCell Zc (86 + i) (crS n _ _ S k i hi)
      go_simp
      clear f_ c_
      have N_ : (z9.setCells (gc) (86 + i) ([.slice A9 (xi.length + 1) c9])).heap[gc]? = some (.cells (crC n (Px.upd A i (a.learn a.sl)) (fun j => pv (H j)) (updF S i (.slice A9 (xi.length + 1) c9)) k).toArray 122) := (by rw [← crPutS n _ _ S k i hi]; exact hpC _ _ _ _ Zc)
      have hu := ogOwnC hu (ogKind hu Zc (by decide)) ([.slice A9 (xi.length + 1) c9]) (86 + i)
      have ee := belowC (g := gc) (by omega) ([.slice A9 (xi.length + 1) c9]) (86 + i) z9 ee
      have ff := ogCells (k := gc) (by first | (right; omega) | (left; left; rfl)) ([.slice A9 (xi.length + 1) c9]) (86 + i) z9 ff
      have Zx := hpCo (g' := gc) (by omega) ([.slice A9 (xi.length + 1) c9]) (86 + i) z9 Zx
      clear Zc
      have Zc := N_
      clear N_
      change K _ (z9.setCells (gc) (86 + i) ([.slice A9 (xi.length + 1) c9]))
      generalize z9.setCells (gc) (86 + i) ([.slice A9 (xi.length + 1) c9]) = z10 at Zc Zx hu ee ff ⊢
      refine hK.out _ _ (rowAt Zx) (fun hH => ?_)
      clear hK K hH
      try simp only [Act.put, List.getElem_toArray, List.getElem_cons_zero, List.getElem_cons_succ, List.setIfInBounds_toArray, List.set_cons_zero, List.set_cons_succ]
      refine wpAnyH_done (by kernel_rfl) ?_ _
      clear hi0 hi5
      go_wp2_with fail
      go_ret
      refine ⟨rfl, ⟨_, HMV.out _ _ (xi ++ [x]) _ ff Zc ?_ hw_⟩, ee⟩
      rw [List.length_append, List.length_singleton, flat_snoc]
      exact hu
end Go.Proofs.YtbahooohkigcnaaDoor

namespace Go.Proofs.YtbahooohkigcnaaDoor
set_option maxRecDepth 20001
open Go.RowKit T Ag
set_option linter.unusedSimpArgs false
set_option linter.unusedVariables false

theorem bit8one (m j : Nat) (hm : m < 256) : (bits .and .u8 ((m : Int) / 2 ^ j) 1 == 1) = m.testBit j := by
  have h1 : ((m : Int) / 2 ^ j) = ((m / 2 ^ j : Nat) : Int) := by
    rw [Int.natCast_ediv]; simp
  have hq : m / 2 ^ j < 256 := Nat.lt_of_le_of_lt (Nat.div_le_self _ _) hm
  rw [h1, show ((1 : Int)) = ((1 : Nat) : Int) from rfl, u8_and_nat _ _ hq (by omega), Nat.and_one_is_mod]
  rw [Nat.testBit_eq_decide_div_mod_eq]
  have h2 : m / 2 ^ j % 2 = 0 ∨ m / 2 ^ j % 2 = 1 := by omega
  rcases h2 with h2 | h2 <;> rw [h2] <;> rfl
/-- is the bit j set? -/
def tb3 (m j : Nat) : Bool := m.testBit j
theorem acPr (a : Ac) : ∀ j v, ([.int .u32 (a.pr : Int), .int .i64 a.pn] : List Value)[j]? = some v → a.cells[0 + j]? = some v := fun j v h => by
  match j, h with
  | 0, h => exact h
  | 1, h => exact h
  | j + 2, h => simp at h
theorem crBal {n : Nat} {A : Nat → Ac} {H S : Nat → Value} {k j : Nat} (hj : j < 5) : ∀ i v, ([.int .u32 ((A j).pr : Int), .int .i64 (A j).pn] : List Value)[i]? = some v → (crC n A H S k)[1 + j * 16 + i]? = some v := fun i v h => by
  have h1 := acPr (A j) i v h
  rw [Nat.zero_add] at h1
  exact crA n A H S k j hj i v h1
/-- what the ballot is that is begun -/
theorem nx_begun {n t i : Nat} {A : Nat → Ac} {P : List Px.Pr} {V : Px.Vt} {l : Ld} (h : Lok n t A P V i l) (hi : i < 5) (ht : t < 1000) {sr : Nat} {sn : Int} (hs : sr ≤ t) :
    ∃ br : Nat, l.nx sr sn = (br, (i : Int), 0) ∧ l.br < br ∧ br ≤ t + 1 ∧ l.start sr sn = Ag.begun n i br := by
  have hm := B.most_mem [(sr, sn), (l.br, l.bn)] (by simp)
  have hg := B.most_ge [(sr, sn), (l.br, l.bn)] (l.br, l.bn) (by simp)
  have hb := h.br
  have hnx : l.nx sr sn = ((B.most [(sr, sn), (l.br, l.bn)]).1 + 1, (i : Int), 0) := by
    unfold Ld.nx B.next
    rw [h.nd]
    have h1 : (B.most [(sr, sn), (l.br, l.bn)]).1 ≤ t := by
      simp only [List.mem_cons, List.not_mem_nil, or_false] at hm
      rcases hm with e | e <;> rw [e] <;> assumption
    rw [if_neg (by omega), if_neg (by omega)]
  refine ⟨_, hnx, ?_, ?_, ?_⟩
  · rw [Px.nlt_iff] at hg
    omega
  · simp only [List.mem_cons, List.not_mem_nil, or_false] at hm
    rcases hm with e | e <;> rw [e] <;> simp only <;> omega
  · unfold Ld.start
    rw [hnx]
    simp only [decide_true, cond_true]
    unfold Ag.begun
    rw [h.num, h.nd]
theorem most2 (sr : Nat) (sn : Int) (pr : Nat) (pn : Int) : ∃ (mr : Nat) (mn : Int), (mr = sr ∨ mr = pr) ∧ ∀ (z : World) (b : Nat), b + 1 ≤ z.heap.size → z.heap[b]? = some (.cells [.int .u32 (sr : Int), .int .i64 sn, .int .u32 (pr : Int), .int .i64 pn].toArray 28 (0, 0)) → Calls Tryd.prog 79 #[.slice (some ⟨b, 0, none⟩) 2 2] z fun e w' => e = .returned (bal mr mn) ∧ Below z.heap.size z w' := by
  have hm := B.most_mem [(sr, sn), (pr, pn)] (by simp)
  refine ⟨(B.most [(sr, sn), (pr, pn)]).1, (B.most [(sr, sn), (pr, pn)]).2, ?_, fun z b hb hz => most_any (some ⟨b, 0, none⟩) 2 [(sr, sn), (pr, pn)] z (b + 1) (by simp) (by simp) (balsAt2 hz) hb⟩
  simp only [List.mem_cons, List.not_mem_nil, or_false] at hm
  rcases hm with e | e
  · left; rw [e]
  · right; rw [e]
theorem updF_updF {α : Type} (f : Nat → α) (i : Nat) (a b : α) : updF (updF f i a) i b = updF f i b := funext fun k => by unfold updF; split <;> rfl
theorem infoBal3 : (Tryd.prog.info? 28).map (fun i => (i.zero, i.size, i.bytes)) = some (some (.agg #[.int .u32 0, .int .i64 0]), 2, 16) := by kernel_rfl
theorem fillB3 (r1 r2 : Nat) (n1 n2 : Int) (cells : Array Value) (hn : cells.size = 4) : Instr.fill (fun i => some (i * 2, 2)) cells [(0, .agg [.int .u32 (r1 : Int), .int .i64 n1].toArray), (1, .agg [.int .u32 (r2 : Int), .int .i64 n2].toArray)] = some [.int .u32 (r1 : Int), .int .i64 n1, .int .u32 (r2 : Int), .int .i64 n2].toArray := fillB2 r1 r2 n1 n2 cells hn
set_option maxHeartbeats 12800000 in
theorem cbegin (B gc n i k t m : Nat) (A : Nat → Ac) (H : Nat → Nat) (L : Nat → Ld) (S : Nat → Value) (X : Nat → List Cm) (P : List Px.Pr) (V : Px.Vt) (w : World) (h : CrewAt w B gc n A H L S X k) (hI : Cinv n t A L X P V) (hi : i < n) (h5 : n ≤ 5) (ht : t < 1000) (hm : m < 256) (hT : ∀ z, Below B w z → Tabs z) :
    Calls Tryd.prog 58 #[.pointer (some ⟨gc, 0, none⟩), .int .i64 (i : Int), .int .u8 (m : Int)] w fun e w' => e = .returned (.bool true) ∧ (∃ A' l', CrewAt w' B gc n A' H (updF L i l') S X k ∧ Cinv n (t + 1) A' (updF L i l') X P V) ∧ Below B w w' := by
  obtain ⟨i1, hi1, hz10, hz11, hz12⟩ := info_parts infoBal3
  have HT := Lib.hid hT
  have HI := Lib.hid hI
  have hlg : gc < w.heap.size := (Array.getElem?_eq_some_iff.1 h.blk).1
  have hBg : B ≤ gc := h.gB
  have hB : B ≤ w.heap.size := by omega
  have hBh : B ≤ H i := (h.ld i (by omega)).2
  have hlh : H i < w.heap.size := (Array.getElem?_eq_some_iff.1 (h.ld i (by omega)).1).1
  have hgh : gc ≠ H i := heapNe h.blk (h.ld i (by omega)).1 (by decide)
  have HMV : Hid (∀ (w' : World) (l' : Ld) (A' : Nat → Ac), OgF w w' (fun b => b = gc ∨ b = H i) → w'.heap[gc]? = some (.cells (crC n A' (fun j => pv (H j)) S k).toArray 122 (0, 0)) → LdAt w' (H i) l' → w'.ownsRow B 39 16 (rowv l') l'.l.length (acCells l'.l) → (∀ g, (rowv l').ownBlock = some g → w.heap.size ≤ g) → CrewAt w' B gc n A' H (updF L i l') S X k) := fun w' l' A' f b x1 x2 x3 => h.moveL (by omega) f b x1 x2 (fun g hg => .inr (x3 g hg))
  have hc0 := h.blk
  have hl0 := (h.ld i (by omega)).1
  clear hT hI h
  have ee : Below B w w := Below.refl _ _
  have ff : OgF w w (fun b => b = gc ∨ b = H i) := OgF.refl _ _
  have Zc : w.heap[gc]? = some (.cells (crC n A (fun j => pv (H j)) S k).toArray 122) := hc0
  have Zl : w.heap[H i]? = some (.cells (L i).cells.toArray 144) := hl0
  clear hc0 hl0
  have hi0 : (0 : Int) ≤ (i : Int) := by omega
  have hi5 : (i : Int) < 5 := by omega
  generalize hHi : H i = hh at hBh hlh hgh HMV ff Zl
  have HHI := Lib.hid hHi
  clear hHi
  go_enter Tryd.func58, Tryd.ntmps58
  go_upto_region 1 with fail
  refine wp_region_lit ?_
  iterate 3 go_step
  iterate 3 go_step
  have lZc := (Array.getElem?_eq_some_iff.1 Zc).1
  have lZl := (Array.getElem?_eq_some_iff.1 Zl).1
  have sz_ := ff.size
  have Zc := hpA Zc (.cells #[.int .u32 0, .int .i64 0] 28)
  have Zl := hpA Zl (.cells #[.int .u32 0, .int .i64 0] 28)
  have ee := ee.alloc (Nat.le_trans hB ee.size) (.cells #[.int .u32 0, .int .i64 0] 28)
  have ff := ogAlloc ff (.cells #[.int .u32 0, .int .i64 0] 28)
  have Zq := hpN w (.cells #[.int .u32 0, .int .i64 0] 28) rfl
  generalize w.alloc (.cells #[.int .u32 0, .int .i64 0] 28) = z1 at Zc Zl Zq ee ff ⊢
  obtain ⟨gq, hg_gq⟩ : ∃ g_, g_ = w.heap.size := ⟨_, rfl⟩
  have hwgq : w.heap.size ≤ gq := by omega
  rw [← hg_gq] at Zq ⊢
  clear hg_gq
  iterate 27 (first | with_reducible refine isStore (ty := 28) rfl ?_ | go_step)
  refine wpList_store_row rfl 28 _ _ rfl (gq) ([.int .u32 ((0 : Nat) : Int), .int .i64 0]).toArray rfl rfl 28 _ Zq sizeBal (by rfl) (by simp [Value.oneCell']) ?_
  have N_ := setRow_heap z1 (gq) _ ([.int .u32 ((0 : Nat) : Int), .int .i64 0]).toArray _ _ Zq
  have ee := belowSet (cs := ([.int .u32 ((0 : Nat) : Int), .int .i64 0]).toArray) ee Zq (by omega)
  have ff := ogRow (cs := ([.int .u32 ((0 : Nat) : Int), .int .i64 0]).toArray) (by first | (right; omega) | exact Or.inl (Or.inl rfl) | exact Or.inl (Or.inr rfl)) Zq ff
  have Zc := hpR Zc (g' := gq) (by omega) ([.int .u32 ((0 : Nat) : Int), .int .i64 0]).toArray
  have Zl := hpR Zl (g' := gq) (by omega) ([.int .u32 ((0 : Nat) : Int), .int .i64 0]).toArray
  clear Zq
  have Zq := N_
  clear N_
  generalize z1.setRow (gq) ([.int .u32 ((0 : Nat) : Int), .int .i64 0]).toArray = z2 at Zc Zl Zq ee ff ⊢
  go_upto_region 3 with fail
  go_wp2_with fail
  go_loopw [8] (fun u wr => ∃ (j sr : Nat) (sn : Int), j ≤ n ∧ u = .int .i64 (j : Int) ∧ Hid (sr ≤ t) ∧ Hid (wr.heap[gc]? = some (.cells (crC n A (fun j => pv (H j)) S k).toArray 122 (0, 0))) ∧ Hid (wr.heap[hh]? = some (.cells (L i).cells.toArray 144 (0, 0))) ∧ Hid (wr.heap[gq]? = some (.cells [.int .u32 (sr : Int), .int .i64 sn].toArray 28 (0, 0))) ∧ Hid (OgF w wr (fun b => b = gc ∨ b = hh)) ∧ Hid (Below B w wr)) (fun u _ => n - (intOf u).toNat)
  case atStart => exact ⟨0, 0, 0, Nat.zero_le _, rfl, Nat.zero_le _, Zc, Zl, Zq, ff, ee⟩
  case round =>
    clear Zc Zl Zq ff ee
    obtain ⟨j, sr, sn, hj, rfl, hsr, Zc, Zl, Zq, ff, ee⟩ := hrel
    have hsr := hsr.out
    have Zc := Zc.out
    have Zl := Zl.out
    have Zq := Zq.out
    have ff := ff.out
    have ee := ee.out
    have cn := rowCell Zc 0 (v := .int .i64 (n : Int)) rfl
    by_cases hlt : j < n
    · have hja := (HI.out.ac j hlt).2.2.2
      have HCB := Lib.hid (crBal (n := n) (A := A) (H := fun j => pv (H j)) (S := S) (k := k) (show j < 5 by omega))
      generalize hpr : (A j).pr = pr at hja HCB
      generalize hpn : (A j).pn = pn at HCB
      clear hpr hpn
      obtain ⟨mr, mn, hmr0, hMO⟩ := most2 sr sn pr pn
      have HMO := Lib.hid hMO
      have hmr : mr ≤ t := by omega
      clear hmr0 hMO
      have hj0 : (0 : Int) ≤ (j : Int) := by omega
      have hj5 : (j : Int) < 5 := by omega
      go_upto_region 5 with fail
      clear cn
      have Zc : wr.drew.heap[gc]? = some (.cells (crC n A (fun j => pv (H j)) S k).toArray 122) := Zc
      have Zl : wr.drew.heap[hh]? = some (.cells (L i).cells.toArray 144) := Zl
      have Zq : wr.drew.heap[gq]? = some (.cells [.int .u32 (sr : Int), .int .i64 sn].toArray 28) := Zq
      have ee := belowDrewS ee
      have ff := ogDrew ff
      refine wp_region_held_drew (S := fun z' => z'.rangeAt gc (1 + j * 16) [.int .u32 (pr : Int), .int .i64 pn]) (by kernel_rfl) (rowMid Zc (1 + j * 16) HCB.out) (fun hH => ?_)
      clear hH
      generalize wr.drew = x1 at Zc Zl Zq ee ff ⊢
      refine wpAnyH_take (i := 1) (v := .pointer (some ⟨gc, 0, none⟩)) rfl (by kernel_rfl) (by kernel_rfl) (by kernel_rfl) (fun _ _ _ h => h) (Or.inl ⟨by rfl, fun w_ hS_ => by (first | (go_simp; done) | (go_simp; rfl))⟩) (rowMid Zc (1 + j * 16) HCB.out) ?_
      try simp only [Act.put, List.getElem_toArray, List.getElem_cons_zero, List.getElem_cons_succ, List.setIfInBounds_toArray, List.set_cons_zero, List.set_cons_succ]
      refine wpAnyH_take (i := 2) (v := .int .i64 (j : Int)) rfl (by kernel_rfl) (by kernel_rfl) (by kernel_rfl) (fun _ _ _ h => h) (Or.inl ⟨by rfl, fun w_ hS_ => by (first | (go_simp; done) | (go_simp; rfl))⟩) (rowMid Zc (1 + j * 16) HCB.out) ?_
      try simp only [Act.put, List.getElem_toArray, List.getElem_cons_zero, List.getElem_cons_succ, List.setIfInBounds_toArray, List.set_cons_zero, List.set_cons_succ]
      refine wpAnyH_take (i := 3) (v := .pointer (some ⟨gc, 0, none⟩)) rfl (by kernel_rfl) (by kernel_rfl) (by kernel_rfl) (fun _ _ _ h => h) (Or.inl ⟨by rfl, fun w_ hS_ => by (first | (go_simp; done) | (go_simp; rfl))⟩) (rowMid Zc (1 + j * 16) HCB.out) ?_
      try simp only [Act.put, List.getElem_toArray, List.getElem_cons_zero, List.getElem_cons_succ, List.setIfInBounds_toArray, List.set_cons_zero, List.set_cons_succ]
      refine wpAnyH_take (i := 4) (v := .pointer (some ⟨gc, 1, none⟩)) rfl (by kernel_rfl) (by kernel_rfl) (by kernel_rfl) (fun _ _ _ h => h) (Or.inl ⟨by rfl, fun w_ hS_ => by (first | (go_simp; done) | (go_simp; rfl))⟩) (rowMid Zc (1 + j * 16) HCB.out) ?_
      try simp only [Act.put, List.getElem_toArray, List.getElem_cons_zero, List.getElem_cons_succ, List.setIfInBounds_toArray, List.set_cons_zero, List.set_cons_succ]
      refine wpAnyH_take (i := 5) (v := .pointer (some ⟨gc, 1 + j * 16, none⟩)) rfl (by kernel_rfl) (by kernel_rfl) (by kernel_rfl) (fun _ _ _ h => h) (Or.inl ⟨by rfl, fun w_ hS_ => by (first | (go_simp; done) | (go_simp; rfl))⟩) (rowMid Zc (1 + j * 16) HCB.out) ?_
      try simp only [Act.put, List.getElem_toArray, List.getElem_cons_zero, List.getElem_cons_succ, List.setIfInBounds_toArray, List.set_cons_zero, List.set_cons_succ]
      refine wpAnyH_take (i := 6) (v := .pointer (some ⟨gc, 1 + j * 16, none⟩)) rfl (by kernel_rfl) (by kernel_rfl) (by kernel_rfl) (fun _ _ _ h => h) (Or.inl ⟨by rfl, fun w_ hS_ => by (first | (go_simp; done) | (go_simp; rfl))⟩) (rowMid Zc (1 + j * 16) HCB.out) ?_
      try simp only [Act.put, List.getElem_toArray, List.getElem_cons_zero, List.getElem_cons_succ, List.setIfInBounds_toArray, List.set_cons_zero, List.set_cons_succ]
      refine wpAnyH_take (i := 7) (v := .agg ([.int .u32 (pr : Int), .int .i64 pn]).toArray) rfl (by kernel_rfl) (by kernel_rfl) (by kernel_rfl) (fun _ _ _ h => h) (yieldsIf_load_mid (by rfl) 28 _ rfl (gc) (1 + j * 16) rfl ([.int .u32 (pr : Int), .int .i64 pn]) _ (fun _ h => h) Tryd.underlying28 rfl sizeBal) (rowMid Zc (1 + j * 16) HCB.out) ?_
      try simp only [Act.put, List.getElem_toArray, List.getElem_cons_zero, List.getElem_cons_succ, List.setIfInBounds_toArray, List.set_cons_zero, List.set_cons_succ]
      refine wpAnyH_ready (rs := [0]) (by kernel_rfl) (by simp) ?_
      refine AllReadyH.cons rfl (fun K hK => ?_) AllReadyH.nil
      rw [if_pos (by rfl)]
      refine wp_load_mid 28 _ rfl (gq) 0 rfl ([.int .u32 (sr : Int), .int .i64 sn]) _ (rowAt Zq) Tryd.underlying28 rfl sizeBal ?_
      refine hK.out _ _ (rowMid Zc (1 + j * 16) HCB.out) (fun hH => ?_)
      clear hK K hH
      try simp only [Act.put, List.getElem_toArray, List.getElem_cons_zero, List.getElem_cons_succ, List.setIfInBounds_toArray, List.set_cons_zero, List.set_cons_succ]
      refine wpAnyH_ready (rs := [8]) (by kernel_rfl) (by simp) ?_
      refine AllReadyH.cons rfl (fun K hK => ?_) AllReadyH.nil
      rw [if_pos (by rfl)]
      refine wp_buildSlice 183 28 2 #[(0, .tmp 23), (1, .tmp 30)] rfl [.int .u32 (sr : Int), .int .i64 sn, .int .u32 (pr : Int), .int .i64 pn].toArray i1 (.agg #[.int .u32 0, .int .i64 0]) Tryd.underlying183 hi1 hz10 (by rw [hz11]; decide) (by rw [hz11]; decide) (by rw [hz11]; simp only [List.map_toArray, List.map_cons, List.map_nil]; exact fillB3 _ _ _ _ _ (by simp)) ?_
      have lZc := (Array.getElem?_eq_some_iff.1 Zc).1
      have lZl := (Array.getElem?_eq_some_iff.1 Zl).1
      have lZq := (Array.getElem?_eq_some_iff.1 Zq).1
      have sz_ := ff.size
      have Zc := hpA Zc (.cells [.int .u32 (sr : Int), .int .i64 sn, .int .u32 (pr : Int), .int .i64 pn].toArray 28)
      have Zl := hpA Zl (.cells [.int .u32 (sr : Int), .int .i64 sn, .int .u32 (pr : Int), .int .i64 pn].toArray 28)
      have Zq := hpA Zq (.cells [.int .u32 (sr : Int), .int .i64 sn, .int .u32 (pr : Int), .int .i64 pn].toArray 28)
      have ee := ee.alloc (Nat.le_trans hB ee.size) (.cells [.int .u32 (sr : Int), .int .i64 sn, .int .u32 (pr : Int), .int .i64 pn].toArray 28)
      have ff := ogAlloc ff (.cells [.int .u32 (sr : Int), .int .i64 sn, .int .u32 (pr : Int), .int .i64 pn].toArray 28)
      have Zm := hpN x1 (.cells [.int .u32 (sr : Int), .int .i64 sn, .int .u32 (pr : Int), .int .i64 pn].toArray 28) rfl
      generalize x1.alloc (.cells [.int .u32 (sr : Int), .int .i64 sn, .int .u32 (pr : Int), .int .i64 pn].toArray 28) = x2 at Zc Zl Zq Zm ee ff ⊢
      refine hK.out _ _ (rowMid Zc (1 + j * 16) HCB.out) (fun hH => ?_)
      clear hK K hH
      try simp only [Act.put, List.getElem_toArray, List.getElem_cons_zero, List.getElem_cons_succ, List.setIfInBounds_toArray, List.set_cons_zero, List.set_cons_succ]
      refine wpAnyH_ready (rs := [9]) (by kernel_rfl) (by simp) ?_
      refine AllReadyH.cons rfl (fun K hK => ?_) AllReadyH.nil
      rw [if_pos (by rfl)]
      have hb_ := (Array.getElem?_eq_some_iff.1 Zm).1
      go_simp
      go_wp2_with (go_at_call 79; refine (HMO.out x2 (x1.heap.size) hb_ Zm).mono ?_; rintro e x3 ⟨rfl, t_⟩)
      clear hb_
      have Zc := hpB Zc t_
      have Zl := hpB Zl t_
      have Zq := hpB Zq t_
      have Zm := hpB Zm t_
      have ee := ee.trans (t_.mono (Nat.le_trans hB ee.size))
      have ff := ogBelow ff t_
      clear t_
      refine hK.out _ _ (rowMid Zc (1 + j * 16) HCB.out) (fun hH => ?_)
      clear hK K hH
      try simp only [Act.put, List.getElem_toArray, List.getElem_cons_zero, List.getElem_cons_succ, List.setIfInBounds_toArray, List.set_cons_zero, List.set_cons_succ]
      refine wpAnyH_ready (rs := [10]) (by kernel_rfl) (by simp) ?_
      refine AllReadyH.cons rfl (fun K hK => ?_) AllReadyH.nil
      rw [if_pos (by rfl)]
      refine wp_store_row 28 _ _ rfl (gq) ([.int .u32 (mr : Int), .int .i64 mn]).toArray rfl rfl 28 _ Zq sizeBal (by rfl) (by simp [Value.oneCell']) ?_
      have N_ := setRow_heap x3 (gq) _ ([.int .u32 (mr : Int), .int .i64 mn]).toArray _ _ Zq
      have ee := belowSet (cs := ([.int .u32 (mr : Int), .int .i64 mn]).toArray) ee Zq (by omega)
      have ff := ogRow (cs := ([.int .u32 (mr : Int), .int .i64 mn]).toArray) (by first | (right; omega) | exact Or.inl (Or.inl rfl) | exact Or.inl (Or.inr rfl)) Zq ff
      have Zc := hpR Zc (g' := gq) (by omega) ([.int .u32 (mr : Int), .int .i64 mn]).toArray
      have Zl := hpR Zl (g' := gq) (by omega) ([.int .u32 (mr : Int), .int .i64 mn]).toArray
      have Zm := hpR Zm (g' := gq) (by omega) ([.int .u32 (mr : Int), .int .i64 mn]).toArray
      clear Zq
      have Zq := N_
      clear N_
      generalize x3.setRow (gq) ([.int .u32 (mr : Int), .int .i64 mn]).toArray = x4 at Zc Zl Zq Zm ee ff ⊢
      refine hK.out _ _ (rowMid Zc (1 + j * 16) HCB.out) (fun hH => ?_)
      clear hK K hH
      try simp only [Act.put, List.getElem_toArray, List.getElem_cons_zero, List.getElem_cons_succ, List.setIfInBounds_toArray, List.set_cons_zero, List.set_cons_succ]
      refine wpAnyH_done (by kernel_rfl) ?_ _
      clear hj0 hj5
      go_wp2_with fail
      go_roundw
      case rel => exact ⟨j + 1, mr, mn, by omega, by go_num, hmr, Zc, Zl, Zq, ff, ee⟩
      case measure => simp [intOf]; omega
    · obtain rfl : n = j := by omega
      clear hlt hj
      obtain ⟨br, hnx, hbr1, hbr2, hst⟩ := nx_begun (HI.out.ld i hi) (by omega) ht hsr
      have HLB := Lib.hid (fun z (hz : LdAt z hh (L i)) => lstart z hh (L i) sr sn (by omega) (by have := (HI.out.ld i hi).br; omega) hz)
      rw [hnx, hst] at HLB
      have HCI : Hid (Cinv n (t + 1) A (updF L i (Ag.begun n i br)) X P V) := HI.out.start hi hbr1 hbr2
      have HPH : Hid ((crC n A (fun j => pv (H j)) S k)[81 + i]? = some (.pointer (some ⟨hh, 0, none⟩))) := by show _ = _; rw [crH n A _ S k i (by omega)]; show some (pv (H i)) = _; rw [HHI.out]; rfl
      clear hnx hst
      simp only at HLB
      go_upto_region 6 with fail
      clear cn
      have Zc : wr.drew.heap[gc]? = some (.cells (crC n A (fun j => pv (H j)) S k).toArray 122) := Zc
      have Zl : wr.drew.heap[hh]? = some (.cells (L i).cells.toArray 144) := Zl
      have Zq : wr.drew.heap[gq]? = some (.cells [.int .u32 (sr : Int), .int .i64 sn].toArray 28) := Zq
      have ee := belowDrewS ee
      have ff := ogDrew ff
      refine wp_region_held_drew (S := fun z' => z'.rangeAt gq 0 [.int .u32 (sr : Int), .int .i64 sn] ∧ z'.cell? ⟨gc, 81 + i, none⟩ = some (.pointer (some ⟨hh, 0, none⟩))) (by kernel_rfl) ⟨rowAt Zq, rowCell Zc (81 + i) HPH.out⟩ (fun hH => ?_)
      clear hH
      generalize wr.drew = x1 at Zc Zl Zq ee ff ⊢
      refine wpAnyH_take (i := 0) (v := .pointer (some ⟨gc, 0, none⟩)) rfl (by kernel_rfl) (by kernel_rfl) (by kernel_rfl) (fun _ _ _ h => h) (Or.inl ⟨by rfl, fun w_ hS_ => by (first | (go_simp; done) | (go_simp; rfl))⟩) ⟨rowAt Zq, rowCell Zc (81 + i) HPH.out⟩ ?_
      try simp only [Act.put, List.getElem_toArray, List.getElem_cons_zero, List.getElem_cons_succ, List.setIfInBounds_toArray, List.set_cons_zero, List.set_cons_succ]
      refine wpAnyH_take (i := 1) (v := .int .i64 (i : Int)) rfl (by kernel_rfl) (by kernel_rfl) (by kernel_rfl) (fun _ _ _ h => h) (Or.inl ⟨by rfl, fun w_ hS_ => by (first | (go_simp; done) | (go_simp; rfl))⟩) ⟨rowAt Zq, rowCell Zc (81 + i) HPH.out⟩ ?_
      try simp only [Act.put, List.getElem_toArray, List.getElem_cons_zero, List.getElem_cons_succ, List.setIfInBounds_toArray, List.set_cons_zero, List.set_cons_succ]
      refine wpAnyH_take (i := 2) (v := .pointer (some ⟨gc, 0, none⟩)) rfl (by kernel_rfl) (by kernel_rfl) (by kernel_rfl) (fun _ _ _ h => h) (Or.inl ⟨by rfl, fun w_ hS_ => by (first | (go_simp; done) | (go_simp; rfl))⟩) ⟨rowAt Zq, rowCell Zc (81 + i) HPH.out⟩ ?_
      try simp only [Act.put, List.getElem_toArray, List.getElem_cons_zero, List.getElem_cons_succ, List.setIfInBounds_toArray, List.set_cons_zero, List.set_cons_succ]
      refine wpAnyH_take (i := 3) (v := .pointer (some ⟨gc, 81, none⟩)) rfl (by kernel_rfl) (by kernel_rfl) (by kernel_rfl) (fun _ _ _ h => h) (Or.inl ⟨by rfl, fun w_ hS_ => by (first | (go_simp; done) | (go_simp; rfl))⟩) ⟨rowAt Zq, rowCell Zc (81 + i) HPH.out⟩ ?_
      try simp only [Act.put, List.getElem_toArray, List.getElem_cons_zero, List.getElem_cons_succ, List.setIfInBounds_toArray, List.set_cons_zero, List.set_cons_succ]
      refine wpAnyH_take (i := 4) (v := .pointer (some ⟨gc, 81 + i, none⟩)) rfl (by kernel_rfl) (by kernel_rfl) (by kernel_rfl) (fun _ _ _ h => h) (Or.inl ⟨by rfl, fun w_ hS_ => by (first | (go_simp; done) | (go_simp; rfl))⟩) ⟨rowAt Zq, rowCell Zc (81 + i) HPH.out⟩ ?_
      try simp only [Act.put, List.getElem_toArray, List.getElem_cons_zero, List.getElem_cons_succ, List.setIfInBounds_toArray, List.set_cons_zero, List.set_cons_succ]
      refine wpAnyH_take (i := 5) (v := .pointer (some ⟨hh, 0, none⟩)) rfl (by kernel_rfl) (by kernel_rfl) (by kernel_rfl) (fun _ _ _ h => h) (Or.inl ⟨by rfl, fun w_ hS_ => by (have c_ := hS_.2; go_simp)⟩) ⟨rowAt Zq, rowCell Zc (81 + i) HPH.out⟩ ?_
      try simp only [Act.put, List.getElem_toArray, List.getElem_cons_zero, List.getElem_cons_succ, List.setIfInBounds_toArray, List.set_cons_zero, List.set_cons_succ]
      refine wpAnyH_take (i := 6) (v := .agg ([.int .u32 (sr : Int), .int .i64 sn]).toArray) rfl (by kernel_rfl) (by kernel_rfl) (by kernel_rfl) (fun _ _ _ h => h) (yieldsIf_load_mid (by rfl) 28 _ rfl (gq) (0) rfl ([.int .u32 (sr : Int), .int .i64 sn]) _ (fun _ h => h.1) Tryd.underlying28 rfl sizeBal) ⟨rowAt Zq, rowCell Zc (81 + i) HPH.out⟩ ?_
      try simp only [Act.put, List.getElem_toArray, List.getElem_cons_zero, List.getElem_cons_succ, List.setIfInBounds_toArray, List.set_cons_zero, List.set_cons_succ]
      refine wpAnyH_ready (rs := [7, 11]) (by kernel_rfl) (by simp) ?_
      refine AllReadyH.cons rfl (fun K hK => ?_) (AllReadyH.cons rfl (fun K hK => ?_) AllReadyH.nil)
      · rw [if_pos (by rfl)]
        go_simp
        go_wp2_with (go_at_call 35; refine (HLB.out x1 Zl).mono ?_; rintro e x2 ⟨rfl, Zm_, t_⟩)
        have Zc := ogHeapG Zc t_ hgh
        have Zq := ogHeapG Zq t_ (by omega)
        have ff := ogGrown ff t_ (Or.inl (Or.inr rfl))
        have ee := ee.grown t_ (Nat.le_trans hB ee.size) (fun g_ e_ => by injection e_ with e_; omega)
        clear Zl t_
        have Zl : x2.heap[hh]? = some (.cells (Ag.begun n i br).cells.toArray 144) := Zm_
        clear Zm_
        refine hK.out _ _ ⟨rowAt Zq, rowCell Zc (81 + i) HPH.out⟩ (fun hH => ?_)
        clear hK K hH
        try simp only [Act.put, List.getElem_toArray, List.getElem_cons_zero, List.getElem_cons_succ, List.setIfInBounds_toArray, List.set_cons_zero, List.set_cons_succ]
        refine wpAnyH_take (i := 8) (v := .tuple #[.agg [.int .u32 (br : Int), .int .i64 (i : Int)].toArray, .int .i64 0]) rfl (by kernel_rfl) (by kernel_rfl) (by kernel_rfl) (fun _ _ _ h => h) (Or.inl ⟨by rfl, fun w_ hS_ => by (first | (go_simp; done) | (go_simp; rfl))⟩) ⟨rowAt Zq, rowCell Zc (81 + i) HPH.out⟩ ?_
        try simp only [Act.put, List.getElem_toArray, List.getElem_cons_zero, List.getElem_cons_succ, List.setIfInBounds_toArray, List.set_cons_zero, List.set_cons_succ]
        refine wpAnyH_take (i := 9) (v := .agg [.int .u32 (br : Int), .int .i64 (i : Int)].toArray) rfl (by kernel_rfl) (by kernel_rfl) (by kernel_rfl) (fun _ _ _ h => h) (Or.inl ⟨by rfl, fun w_ hS_ => by (first | (go_simp; done) | (go_simp; rfl))⟩) ⟨rowAt Zq, rowCell Zc (81 + i) HPH.out⟩ ?_
        try simp only [Act.put, List.getElem_toArray, List.getElem_cons_zero, List.getElem_cons_succ, List.setIfInBounds_toArray, List.set_cons_zero, List.set_cons_succ]
        refine wpAnyH_take (i := 10) (v := .int .i64 0) rfl (by kernel_rfl) (by kernel_rfl) (by kernel_rfl) (fun _ _ _ h => h) (Or.inl ⟨by rfl, fun w_ hS_ => by (first | (go_simp; done) | (go_simp; rfl))⟩) ⟨rowAt Zq, rowCell Zc (81 + i) HPH.out⟩ ?_
        try simp only [Act.put, List.getElem_toArray, List.getElem_cons_zero, List.getElem_cons_succ, List.setIfInBounds_toArray, List.set_cons_zero, List.set_cons_succ]
        refine wpAnyH_ready (rs := [11]) (by kernel_rfl) (by simp) ?_
        refine AllReadyH.cons rfl (fun K hK => ?_) AllReadyH.nil
        rw [if_pos (by rfl)]
        go_simp
        have lZc := (Array.getElem?_eq_some_iff.1 Zc).1
        have lZl := (Array.getElem?_eq_some_iff.1 Zl).1
        have lZq := (Array.getElem?_eq_some_iff.1 Zq).1
        have sz_ := ff.size
        have Zc := hpA Zc (.cells #[.int .u32 0, .int .i64 0] 28)
        have Zl := hpA Zl (.cells #[.int .u32 0, .int .i64 0] 28)
        have Zq := hpA Zq (.cells #[.int .u32 0, .int .i64 0] 28)
        have ee := ee.alloc (Nat.le_trans hB ee.size) (.cells #[.int .u32 0, .int .i64 0] 28)
        have ff := ogAlloc ff (.cells #[.int .u32 0, .int .i64 0] 28)
        have Zb := hpN x2 (.cells #[.int .u32 0, .int .i64 0] 28) rfl
        generalize x2.alloc (.cells #[.int .u32 0, .int .i64 0] 28) = x3 at Zc Zl Zq Zb ee ff ⊢
        refine hK.out _ _ ⟨rowAt Zq, rowCell Zc (81 + i) HPH.out⟩ (fun hH => ?_)
        clear hK K hH
        try simp only [Act.put, List.getElem_toArray, List.getElem_cons_zero, List.getElem_cons_succ, List.setIfInBounds_toArray, List.set_cons_zero, List.set_cons_succ]
        refine wpAnyH_ready (rs := [12]) (by kernel_rfl) (by simp) ?_
        refine AllReadyH.cons rfl (fun K hK => ?_) AllReadyH.nil
        rw [if_pos (by rfl)]
        refine wp_store_row 28 _ _ rfl (x2.heap.size) ([.int .u32 (br : Int), .int .i64 (i : Int)]).toArray rfl rfl 28 _ Zb sizeBal (by rfl) (by simp [Value.oneCell']) ?_
        have N_ := setRow_heap x3 (x2.heap.size) _ ([.int .u32 (br : Int), .int .i64 (i : Int)]).toArray _ _ Zb
        have ee := belowSet (cs := ([.int .u32 (br : Int), .int .i64 (i : Int)]).toArray) ee Zb (by omega)
        have ff := ogRow (cs := ([.int .u32 (br : Int), .int .i64 (i : Int)]).toArray) (by first | (right; omega) | exact Or.inl (Or.inl rfl) | exact Or.inl (Or.inr rfl)) Zb ff
        have Zc := hpR Zc (g' := x2.heap.size) (by omega) ([.int .u32 (br : Int), .int .i64 (i : Int)]).toArray
        have Zl := hpR Zl (g' := x2.heap.size) (by omega) ([.int .u32 (br : Int), .int .i64 (i : Int)]).toArray
        have Zq := hpR Zq (g' := x2.heap.size) (by omega) ([.int .u32 (br : Int), .int .i64 (i : Int)]).toArray
        clear Zb
        have Zb := N_
        clear N_
        generalize x3.setRow (x2.heap.size) ([.int .u32 (br : Int), .int .i64 (i : Int)]).toArray = x4 at Zc Zl Zq Zb ee ff ⊢
        refine hK.out _ _ ⟨rowAt Zq, rowCell Zc (81 + i) HPH.out⟩ (fun hH => ?_)
        clear hK K hH
        try simp only [Act.put, List.getElem_toArray, List.getElem_cons_zero, List.getElem_cons_succ, List.setIfInBounds_toArray, List.set_cons_zero, List.set_cons_succ]
        refine wpAnyH_take (i := 13) (v := .int .i64 0) rfl (by kernel_rfl) (by kernel_rfl) (by kernel_rfl) (fun _ _ _ h => h) (Or.inl ⟨by rfl, fun w_ hS_ => by (first | (go_simp; done) | (go_simp; rfl))⟩) ⟨rowAt Zq, rowCell Zc (81 + i) HPH.out⟩ ?_
        try simp only [Act.put, List.getElem_toArray, List.getElem_cons_zero, List.getElem_cons_succ, List.setIfInBounds_toArray, List.set_cons_zero, List.set_cons_succ]
        refine wpAnyH_done (by kernel_rfl) ?_ _
        clear HLB HPH
        obtain ⟨gb, hg_gb⟩ : ∃ g_, g_ = x2.heap.size := ⟨_, rfl⟩
        have hwgb : w.heap.size ≤ gb := by omega
        rw [← hg_gb] at Zb ⊢
        clear hg_gb
        have hu : x4.ownsRow B 39 16 (.slice none 0 0) 0 (acCells []) := World.ownsRow_nil _ _ _ _
        go_upto_region 10 with fail
        go_wp2_with fail
        go_loopw [11] (fun u wr => ∃ (j : Nat) (A' : Nat → Ac) (l' : Ld), j ≤ n ∧ u = .int .i64 (j : Int) ∧ Hid (Cinv n (t + 1) A' (updF L i l') X P V ∧ l'.br ≠ 0 ∧ l'.sl = 0 ∧ (l'.l = [] → l'.fs = 0) ∧ l'.l.length ≤ j ∧ ∀ q : Nat, j ≤ q → Q.hasB l'.pr (q : Int) = false) ∧ Hid (wr.heap[gc]? = some (.cells (crC n A' (fun j => pv (H j)) S k).toArray 122 (0, 0))) ∧ Hid (wr.heap[hh]? = some (.cells l'.cells.toArray 144 (0, 0))) ∧ Hid (wr.ownsRow B 39 16 (.slice l'.A l'.l.length l'.c) l'.l.length (acCells l'.l)) ∧ Hid (∀ g, (Value.slice l'.A l'.l.length l'.c).ownBlock = some g → w.heap.size ≤ g) ∧ Hid (wr.heap[gb]? = some (.cells [.int .u32 (l'.br : Int), .int .i64 l'.bn].toArray 28 (0, 0))) ∧ Hid (OgF w wr (fun b => b = gc ∨ b = hh)) ∧ Hid (Below B w wr)) (fun u _ => n - (intOf u).toNat)
        case atStart => exact ⟨0, A, Ag.begun n i br, Nat.zero_le _, rfl, ⟨HCI.out, (by show br ≠ 0; omega), rfl, fun _ => rfl, Nat.le_refl _, fun q _ => has0 q⟩, Zc, Zl, hu, (fun g hg => by cases hg), Zb, ff, ee⟩
        case round =>
          clear Zc Zl hu Zb ff ee HCI Zq
          obtain ⟨j, A', l', hj, rfl, HP, Zc, Zl, hu, HFR, Zb, ff, ee⟩ := hrel
          have Zc := Zc.out
          have Zl := Zl.out
          have hu := hu.out
          have Zb := Zb.out
          have ff := ff.out
          have ee := ee.out
          have cn := rowCell Zc 0 (v := .int .i64 (n : Int)) rfl
          by_cases hlt : j < n
          · have hj0 : (0 : Int) ≤ (j : Int) := by omega
            have hj5 : (j : Int) < 5 := by omega
            have HBT := Lib.hid (bit8one m j hm)
            cases hb : tb3 m j with
            | false =>
              have hx : (bits BinOp.and IntKind.u8 ((m : Int) / 2 ^ j) 1 == 1) = false := by rw [HBT.out]; exact hb
              clear hb HBT
              have HP2 : Hid (Cinv n (t + 1) A' (updF L i l') X P V ∧ l'.br ≠ 0 ∧ l'.sl = 0 ∧ (l'.l = [] → l'.fs = 0) ∧ l'.l.length ≤ j + 1 ∧ ∀ q : Nat, j + 1 ≤ q → Q.hasB l'.pr (q : Int) = false) := by
                obtain ⟨p1, p2, p3, p4, p5, p6⟩ := HP.out
                exact ⟨p1, p2, p3, p4, by omega, fun q hq => p6 q (by omega)⟩
              go_wp2_with fail
              go_roundw
              case rel => exact ⟨j + 1, A', l', by omega, by go_num, HP2, Zc, Zl, hu, HFR, Zb, ff, ee⟩
              case measure => simp [intOf]; omega
            | true =>
              have hx : (bits BinOp.and IntKind.u8 ((m : Int) / 2 ^ j) 1 == 1) = true := by rw [HBT.out]; exact hb
              clear hb HBT
              go_upto_region 13 with fail
              clear hx cn
              obtain ⟨a, ha⟩ : ∃ a, a = A' j := ⟨_, rfl⟩
              have HA := Lib.hid ha
              have HRA := Lib.hid (crA n A' (fun j => pv (H j)) S k j (by omega))
              rw [← ha] at HRA
              have HFA : Hid (flatC a.c) := by show flatC a.c; rw [ha]; exact (HP.out.1.ac j hlt).1
              have HPU := Lib.hid (crPutA n A' (fun j => pv (H j)) S k j (by omega) (a.prep l'.br l'.bn))
              clear ha
              have HPC := Lib.hid (fun z (hz : Below B w z) => c_prep a l'.br l'.bn z z.heap.size (Nat.le_refl _) (okFlat HFA.out) (HT.out z hz))
              have Zc : wr.drew.heap[gc]? = some (.cells (crC n A' (fun j => pv (H j)) S k).toArray 122) := Zc
              have Zl : wr.drew.heap[hh]? = some (.cells l'.cells.toArray 144) := Zl
              have Zb : wr.drew.heap[gb]? = some (.cells [.int .u32 (l'.br : Int), .int .i64 l'.bn].toArray 28) := Zb
              have hu := World.ownsRow.drew hu
              have ee := belowDrewS ee
              have ff := ogDrew ff
              refine wp_region_held_drew (S := fun z' => z'.rangeAt gc (1 + j * 16) a.cells ∧ z'.rangeAt gb 0 [.int .u32 (l'.br : Int), .int .i64 l'.bn]) (by kernel_rfl) ⟨rowMid Zc (1 + j * 16) HRA.out, rowAt Zb⟩ (fun hH => ?_)
              clear hH
              generalize wr.drew = y1 at Zc Zl Zb hu ee ff ⊢
              refine wpAnyH_take (i := 0) (v := .pointer (some ⟨gc, 0, none⟩)) rfl (by kernel_rfl) (by kernel_rfl) (by kernel_rfl) (fun _ _ _ h => h) (Or.inl ⟨by rfl, fun w_ hS_ => by (first | (go_simp; done) | (go_simp; rfl))⟩) ⟨rowMid Zc (1 + j * 16) HRA.out, rowAt Zb⟩ ?_
              try simp only [Act.put, List.getElem_toArray, List.getElem_cons_zero, List.getElem_cons_succ, List.setIfInBounds_toArray, List.set_cons_zero, List.set_cons_succ]
              refine wpAnyH_take (i := 1) (v := .int .i64 (j : Int)) rfl (by kernel_rfl) (by kernel_rfl) (by kernel_rfl) (fun _ _ _ h => h) (Or.inl ⟨by rfl, fun w_ hS_ => by (first | (go_simp; done) | (go_simp; rfl))⟩) ⟨rowMid Zc (1 + j * 16) HRA.out, rowAt Zb⟩ ?_
              try simp only [Act.put, List.getElem_toArray, List.getElem_cons_zero, List.getElem_cons_succ, List.setIfInBounds_toArray, List.set_cons_zero, List.set_cons_succ]
              refine wpAnyH_take (i := 2) (v := .pointer (some ⟨gc, 0, none⟩)) rfl (by kernel_rfl) (by kernel_rfl) (by kernel_rfl) (fun _ _ _ h => h) (Or.inl ⟨by rfl, fun w_ hS_ => by (first | (go_simp; done) | (go_simp; rfl))⟩) ⟨rowMid Zc (1 + j * 16) HRA.out, rowAt Zb⟩ ?_
              try simp only [Act.put, List.getElem_toArray, List.getElem_cons_zero, List.getElem_cons_succ, List.setIfInBounds_toArray, List.set_cons_zero, List.set_cons_succ]
              refine wpAnyH_take (i := 3) (v := .pointer (some ⟨gc, 1, none⟩)) rfl (by kernel_rfl) (by kernel_rfl) (by kernel_rfl) (fun _ _ _ h => h) (Or.inl ⟨by rfl, fun w_ hS_ => by (first | (go_simp; done) | (go_simp; rfl))⟩) ⟨rowMid Zc (1 + j * 16) HRA.out, rowAt Zb⟩ ?_
              try simp only [Act.put, List.getElem_toArray, List.getElem_cons_zero, List.getElem_cons_succ, List.setIfInBounds_toArray, List.set_cons_zero, List.set_cons_succ]
              refine wpAnyH_take (i := 4) (v := .pointer (some ⟨gc, 1 + j * 16, none⟩)) rfl (by kernel_rfl) (by kernel_rfl) (by kernel_rfl) (fun _ _ _ h => h) (Or.inl ⟨by rfl, fun w_ hS_ => by (first | (go_simp; done) | (go_simp; rfl))⟩) ⟨rowMid Zc (1 + j * 16) HRA.out, rowAt Zb⟩ ?_
              try simp only [Act.put, List.getElem_toArray, List.getElem_cons_zero, List.getElem_cons_succ, List.setIfInBounds_toArray, List.set_cons_zero, List.set_cons_succ]
              refine wpAnyH_take (i := 5) (v := .agg (a.cells).toArray) rfl (by kernel_rfl) (by kernel_rfl) (by kernel_rfl) (fun _ _ _ h => h) (yieldsIf_load_mid (by rfl) 39 _ rfl (gc) (1 + j * 16) rfl (a.cells) _ (fun _ h => h.1) Tryd.underlying39 rfl sizeAc) ⟨rowMid Zc (1 + j * 16) HRA.out, rowAt Zb⟩ ?_
              try simp only [Act.put, List.getElem_toArray, List.getElem_cons_zero, List.getElem_cons_succ, List.setIfInBounds_toArray, List.set_cons_zero, List.set_cons_succ]
              refine wpAnyH_take (i := 6) (v := .agg ([.int .u32 (l'.br : Int), .int .i64 l'.bn]).toArray) rfl (by kernel_rfl) (by kernel_rfl) (by kernel_rfl) (fun _ _ _ h => h) (yieldsIf_load_mid (by rfl) 28 _ rfl (gb) (0) rfl ([.int .u32 (l'.br : Int), .int .i64 l'.bn]) _ (fun _ h => h.2) Tryd.underlying28 rfl sizeBal) ⟨rowMid Zc (1 + j * 16) HRA.out, rowAt Zb⟩ ?_
              try simp only [Act.put, List.getElem_toArray, List.getElem_cons_zero, List.getElem_cons_succ, List.setIfInBounds_toArray, List.set_cons_zero, List.set_cons_succ]
              refine wpAnyH_ready (rs := [7, 11]) (by kernel_rfl) (by simp) ?_
              refine AllReadyH.cons rfl (fun K hK => ?_) (AllReadyH.cons rfl (fun K hK => ?_) AllReadyH.nil)
              · rw [if_pos (by rfl)]
                go_simp
                go_wp2_with (go_at_call 65; refine (HPC.out y1 ee).mono ?_; rintro e y2 ⟨rfl, t⟩)
                have Zc := hpB Zc t
                have Zl := hpB Zl t
                have Zb := hpB Zb t
                have hu := ownBelow hu t
                have ee := ee.trans (t.mono (Nat.le_trans hB ee.size))
                have ff := ogBelow ff t
                clear t
                refine hK.out _ _ ⟨rowMid Zc (1 + j * 16) HRA.out, rowAt Zb⟩ (fun hH => ?_)
                clear hK K hH
                try simp only [Act.put, List.getElem_toArray, List.getElem_cons_zero, List.getElem_cons_succ, List.setIfInBounds_toArray, List.set_cons_zero, List.set_cons_succ]
                refine wpAnyH_take (i := 8) (v := .tuple #[.agg (a.prep l'.br l'.bn).cells.toArray, .bool (a.may l'.br l'.bn)]) rfl (by kernel_rfl) (by kernel_rfl) (by kernel_rfl) (fun _ _ _ h => h) (Or.inl ⟨by rfl, fun w_ hS_ => by (first | (go_simp; done) | (go_simp; rfl))⟩) ⟨rowMid Zc (1 + j * 16) HRA.out, rowAt Zb⟩ ?_
                try simp only [Act.put, List.getElem_toArray, List.getElem_cons_zero, List.getElem_cons_succ, List.setIfInBounds_toArray, List.set_cons_zero, List.set_cons_succ]
                refine wpAnyH_take (i := 9) (v := .agg (a.prep l'.br l'.bn).cells.toArray) rfl (by kernel_rfl) (by kernel_rfl) (by kernel_rfl) (fun _ _ _ h => h) (Or.inl ⟨by rfl, fun w_ hS_ => by (first | (go_simp; done) | (go_simp; rfl))⟩) ⟨rowMid Zc (1 + j * 16) HRA.out, rowAt Zb⟩ ?_
                try simp only [Act.put, List.getElem_toArray, List.getElem_cons_zero, List.getElem_cons_succ, List.setIfInBounds_toArray, List.set_cons_zero, List.set_cons_succ]
                refine wpAnyH_take (i := 10) (v := .bool (a.may l'.br l'.bn)) rfl (by kernel_rfl) (by kernel_rfl) (by kernel_rfl) (fun _ _ _ h => h) (Or.inl ⟨by rfl, fun w_ hS_ => by (first | (go_simp; done) | (go_simp; rfl))⟩) ⟨rowMid Zc (1 + j * 16) HRA.out, rowAt Zb⟩ ?_
                try simp only [Act.put, List.getElem_toArray, List.getElem_cons_zero, List.getElem_cons_succ, List.setIfInBounds_toArray, List.set_cons_zero, List.set_cons_succ]
                refine wpAnyH_ready (rs := [11]) (by kernel_rfl) (by simp) ?_
                refine AllReadyH.cons rfl (fun K hK => ?_) AllReadyH.nil
                rw [if_pos (by rfl)]
                go_simp
                have lZc := (Array.getElem?_eq_some_iff.1 Zc).1
                have lZl := (Array.getElem?_eq_some_iff.1 Zl).1
                have lZb := (Array.getElem?_eq_some_iff.1 Zb).1
                have sz_ := ff.size
                have ne_hu_Zn : (Value.slice l'.A l'.l.length l'.c).ownBlock ≠ some (y2.heap.size) := fun hb_ => by have hh_ := (hu.lt _ hb_).2; omega
                have Zc := hpA Zc (.cells #[.int .u32 0, .int .i64 0, .int .i64 0, .bool false, .int .u32 0, .int .i64 0, .int .i64 0, .int .i64 0, .int .i64 0, .slice none 0 0, .slice none 0 0, .int .i64 0, .int .i64 0, .int .i64 0, .int .u64 0, .bool false] 39)
                have Zl := hpA Zl (.cells #[.int .u32 0, .int .i64 0, .int .i64 0, .bool false, .int .u32 0, .int .i64 0, .int .i64 0, .int .i64 0, .int .i64 0, .slice none 0 0, .slice none 0 0, .int .i64 0, .int .i64 0, .int .i64 0, .int .u64 0, .bool false] 39)
                have Zb := hpA Zb (.cells #[.int .u32 0, .int .i64 0, .int .i64 0, .bool false, .int .u32 0, .int .i64 0, .int .i64 0, .int .i64 0, .int .i64 0, .slice none 0 0, .slice none 0 0, .int .i64 0, .int .i64 0, .int .i64 0, .int .u64 0, .bool false] 39)
                have hu := hu.alloc (.cells #[.int .u32 0, .int .i64 0, .int .i64 0, .bool false, .int .u32 0, .int .i64 0, .int .i64 0, .int .i64 0, .int .i64 0, .slice none 0 0, .slice none 0 0, .int .i64 0, .int .i64 0, .int .i64 0, .int .u64 0, .bool false] 39)
                have ee := ee.alloc (Nat.le_trans hB ee.size) (.cells #[.int .u32 0, .int .i64 0, .int .i64 0, .bool false, .int .u32 0, .int .i64 0, .int .i64 0, .int .i64 0, .int .i64 0, .slice none 0 0, .slice none 0 0, .int .i64 0, .int .i64 0, .int .i64 0, .int .u64 0, .bool false] 39)
                have ff := ogAlloc ff (.cells #[.int .u32 0, .int .i64 0, .int .i64 0, .bool false, .int .u32 0, .int .i64 0, .int .i64 0, .int .i64 0, .int .i64 0, .slice none 0 0, .slice none 0 0, .int .i64 0, .int .i64 0, .int .i64 0, .int .u64 0, .bool false] 39)
                have Zn := hpN y2 (.cells #[.int .u32 0, .int .i64 0, .int .i64 0, .bool false, .int .u32 0, .int .i64 0, .int .i64 0, .int .i64 0, .int .i64 0, .slice none 0 0, .slice none 0 0, .int .i64 0, .int .i64 0, .int .i64 0, .int .u64 0, .bool false] 39) rfl
                generalize y2.alloc (.cells #[.int .u32 0, .int .i64 0, .int .i64 0, .bool false, .int .u32 0, .int .i64 0, .int .i64 0, .int .i64 0, .int .i64 0, .slice none 0 0, .slice none 0 0, .int .i64 0, .int .i64 0, .int .i64 0, .int .u64 0, .bool false] 39) = y3 at Zc Zl Zb Zn hu ee ff ⊢
                refine hK.out _ _ ⟨rowMid Zc (1 + j * 16) HRA.out, rowAt Zb⟩ (fun hH => ?_)
                clear hK K hH
                try simp only [Act.put, List.getElem_toArray, List.getElem_cons_zero, List.getElem_cons_succ, List.setIfInBounds_toArray, List.set_cons_zero, List.set_cons_succ]
                refine wpAnyH_ready (rs := [12]) (by kernel_rfl) (by simp) ?_
                refine AllReadyH.cons rfl (fun K hK => ?_) AllReadyH.nil
                rw [if_pos (by rfl)]
                refine wp_store_row 39 _ _ rfl (y2.heap.size) ((a.prep l'.br l'.bn).cells).toArray rfl rfl 39 _ Zn sizeAc (by rfl) (Ac.one _) ?_
                have N_ := setRow_heap y3 (y2.heap.size) _ ((a.prep l'.br l'.bn).cells).toArray _ _ Zn
                have hu := ogOwnR (cs := ((a.prep l'.br l'.bn).cells).toArray) hu ne_hu_Zn
                have ee := belowSet (cs := ((a.prep l'.br l'.bn).cells).toArray) ee Zn (by omega)
                have ff := ogRow (cs := ((a.prep l'.br l'.bn).cells).toArray) (by first | (right; omega) | exact Or.inl (Or.inl rfl) | exact Or.inl (Or.inr rfl)) Zn ff
                have Zc := hpR Zc (g' := y2.heap.size) (by omega) ((a.prep l'.br l'.bn).cells).toArray
                have Zl := hpR Zl (g' := y2.heap.size) (by omega) ((a.prep l'.br l'.bn).cells).toArray
                have Zb := hpR Zb (g' := y2.heap.size) (by omega) ((a.prep l'.br l'.bn).cells).toArray
                clear Zn
                have Zn := N_
                clear N_
                generalize y3.setRow (y2.heap.size) ((a.prep l'.br l'.bn).cells).toArray = y4 at Zc Zl Zb Zn hu ee ff ⊢
                refine hK.out _ _ ⟨rowMid Zc (1 + j * 16) HRA.out, rowAt Zb⟩ (fun hH => ?_)
                clear hK K hH
                try simp only [Act.put, List.getElem_toArray, List.getElem_cons_zero, List.getElem_cons_succ, List.setIfInBounds_toArray, List.set_cons_zero, List.set_cons_succ]
                refine wpAnyH_take (i := 13) (v := .bool (a.may l'.br l'.bn)) rfl (by kernel_rfl) (by kernel_rfl) (by kernel_rfl) (fun _ _ _ h => h) (Or.inl ⟨by rfl, fun w_ hS_ => by (first | (go_simp; done) | (go_simp; rfl))⟩) ⟨rowMid Zc (1 + j * 16) HRA.out, rowAt Zb⟩ ?_
                try simp only [Act.put, List.getElem_toArray, List.getElem_cons_zero, List.getElem_cons_succ, List.setIfInBounds_toArray, List.set_cons_zero, List.set_cons_succ]
                refine wpAnyH_done (by kernel_rfl) ?_ _
                go_upto_region 14 with fail
                have Zc : y4.drew.heap[gc]? = some (.cells (crC n A' (fun j => pv (H j)) S k).toArray 122) := Zc
                have Zl : y4.drew.heap[hh]? = some (.cells l'.cells.toArray 144) := Zl
                have Zb : y4.drew.heap[gb]? = some (.cells [.int .u32 (l'.br : Int), .int .i64 l'.bn].toArray 28) := Zb
                have Zn : y4.drew.heap[y2.heap.size]? = some (.cells ((a.prep l'.br l'.bn).cells).toArray 39) := Zn
                have hu := World.ownsRow.drew hu
                have ee := belowDrewS ee
                have ff := ogDrew ff
                refine wp_region_held_drew (S := fun z' => z'.rangeAt (y2.heap.size) 0 (a.prep l'.br l'.bn).cells) (by kernel_rfl) (rowAt Zn) (fun hH => ?_)
                clear hH
                generalize y4.drew = y5 at Zc Zl Zb Zn hu ee ff ⊢
                refine wpAnyH_take (i := 0) (v := .pointer (some ⟨gc, 0, none⟩)) rfl (by kernel_rfl) (by kernel_rfl) (by kernel_rfl) (fun _ _ _ h => h) (Or.inl ⟨by rfl, fun w_ hS_ => by (first | (go_simp; done) | (go_simp; rfl))⟩) (rowAt Zn) ?_
                try simp only [Act.put, List.getElem_toArray, List.getElem_cons_zero, List.getElem_cons_succ, List.setIfInBounds_toArray, List.set_cons_zero, List.set_cons_succ]
                refine wpAnyH_take (i := 1) (v := .int .i64 (j : Int)) rfl (by kernel_rfl) (by kernel_rfl) (by kernel_rfl) (fun _ _ _ h => h) (Or.inl ⟨by rfl, fun w_ hS_ => by (first | (go_simp; done) | (go_simp; rfl))⟩) (rowAt Zn) ?_
                try simp only [Act.put, List.getElem_toArray, List.getElem_cons_zero, List.getElem_cons_succ, List.setIfInBounds_toArray, List.set_cons_zero, List.set_cons_succ]
                refine wpAnyH_take (i := 2) (v := .agg (((a.prep l'.br l'.bn).cells)).toArray) rfl (by kernel_rfl) (by kernel_rfl) (by kernel_rfl) (fun _ _ _ h => h) (yieldsIf_load_mid (by rfl) 39 _ rfl (y2.heap.size) (0) rfl (((a.prep l'.br l'.bn).cells)) _ (fun _ h => h) Tryd.underlying39 rfl sizeAc) (rowAt Zn) ?_
                try simp only [Act.put, List.getElem_toArray, List.getElem_cons_zero, List.getElem_cons_succ, List.setIfInBounds_toArray, List.set_cons_zero, List.set_cons_succ]
                refine wpAnyH_take (i := 3) (v := .pointer (some ⟨gc, 0, none⟩)) rfl (by kernel_rfl) (by kernel_rfl) (by kernel_rfl) (fun _ _ _ h => h) (Or.inl ⟨by rfl, fun w_ hS_ => by (first | (go_simp; done) | (go_simp; rfl))⟩) (rowAt Zn) ?_
                try simp only [Act.put, List.getElem_toArray, List.getElem_cons_zero, List.getElem_cons_succ, List.setIfInBounds_toArray, List.set_cons_zero, List.set_cons_succ]
                refine wpAnyH_take (i := 4) (v := .pointer (some ⟨gc, 1, none⟩)) rfl (by kernel_rfl) (by kernel_rfl) (by kernel_rfl) (fun _ _ _ h => h) (Or.inl ⟨by rfl, fun w_ hS_ => by (first | (go_simp; done) | (go_simp; rfl))⟩) (rowAt Zn) ?_
                try simp only [Act.put, List.getElem_toArray, List.getElem_cons_zero, List.getElem_cons_succ, List.setIfInBounds_toArray, List.set_cons_zero, List.set_cons_succ]
                refine wpAnyH_take (i := 5) (v := .pointer (some ⟨gc, 1 + j * 16, none⟩)) rfl (by kernel_rfl) (by kernel_rfl) (by kernel_rfl) (fun _ _ _ h => h) (Or.inl ⟨by rfl, fun w_ hS_ => by (first | (go_simp; done) | (go_simp; rfl))⟩) (rowAt Zn) ?_
                try simp only [Act.put, List.getElem_toArray, List.getElem_cons_zero, List.getElem_cons_succ, List.setIfInBounds_toArray, List.set_cons_zero, List.set_cons_succ]
                refine wpAnyH_ready (rs := [6]) (by kernel_rfl) (by simp) ?_
                refine AllReadyH.cons rfl (fun K hK => ?_) AllReadyH.nil
                rw [if_pos (by rfl)]
                refine wp_store_mid 39 _ _ rfl (gc) (1 + j * 16) ((a.prep l'.br l'.bn).cells).toArray rfl rfl (crThere Zc (by omega)) sizeAc (Ac.one _) ?_
                have N_ : (y5.setCells (gc) (1 + j * 16) ((a.prep l'.br l'.bn).cells)).heap[gc]? = some (.cells (crC n (Px.upd A' j (a.prep l'.br l'.bn)) (fun j => pv (H j)) S k).toArray 122) := (by rw [← HPU.out]; exact hpC _ _ _ _ Zc)
                have hu := ogOwnC hu (ogKind hu Zc (by decide)) ((a.prep l'.br l'.bn).cells) (1 + j * 16)
                have ee := belowC (g := gc) (by omega) ((a.prep l'.br l'.bn).cells) (1 + j * 16) y5 ee
                have ff := ogCells (k := gc) (by first | (right; omega) | exact Or.inl (Or.inl rfl) | exact Or.inl (Or.inr rfl)) ((a.prep l'.br l'.bn).cells) (1 + j * 16) y5 ff
                have Zl := hpCo (g' := gc) (by omega) ((a.prep l'.br l'.bn).cells) (1 + j * 16) y5 Zl
                have Zb := hpCo (g' := gc) (by omega) ((a.prep l'.br l'.bn).cells) (1 + j * 16) y5 Zb
                have Zn := hpCo (g' := gc) (by omega) ((a.prep l'.br l'.bn).cells) (1 + j * 16) y5 Zn
                clear Zc
                have Zc := N_
                clear N_
                change K _ (y5.setCells (gc) (1 + j * 16) ((a.prep l'.br l'.bn).cells))
                generalize y5.setCells (gc) (1 + j * 16) ((a.prep l'.br l'.bn).cells) = y6 at Zc Zl Zb Zn hu ee ff ⊢
                refine hK.out _ _ (rowAt Zn) (fun hH => ?_)
                clear hK K hH
                try simp only [Act.put, List.getElem_toArray, List.getElem_cons_zero, List.getElem_cons_succ, List.setIfInBounds_toArray, List.set_cons_zero, List.set_cons_succ]
                refine wpAnyH_done (by kernel_rfl) ?_ _
                clear HPC HRA
                go_upto_region 15 with fail
                have HMY : Hid ((a.may l'.br l'.bn) = (a.may l'.br l'.bn)) := rfl
                generalize hM : (a.may l'.br l'.bn) = mb at HMY ⊢
                have HM := Lib.hid hM
                clear hM HMY
                cases mb with
                | false =>
                  have HP2 : Hid (Cinv n (t + 1) (Px.upd A' j (a.prep l'.br l'.bn)) (updF L i l') X P V ∧ l'.br ≠ 0 ∧ l'.sl = 0 ∧ (l'.l = [] → l'.fs = 0) ∧ l'.l.length ≤ j + 1 ∧ ∀ q : Nat, j + 1 ≤ q → Q.hasB l'.pr (q : Int) = false) := by
                    obtain ⟨p1, p2, p3, p4, p5, p6⟩ := HP.out
                    have hb9 : l'.br ≤ t + 1 := by have := (p1.ld i hi).br; rwa [updF_same] at this
                    refine ⟨by rw [HA.out]; exact p1.prep hlt hb9 _, p2, p3, p4, by omega, fun q hq => p6 q (by omega)⟩
                  have HFR2 := HFR
                  have Zc : y6.drew.heap[gc]? = some (.cells (crC n (Px.upd A' j (a.prep l'.br l'.bn)) (fun j => pv (H j)) S k).toArray 122) := Zc
                  have Zl : y6.drew.heap[hh]? = some (.cells l'.cells.toArray 144) := Zl
                  have Zb : y6.drew.heap[gb]? = some (.cells [.int .u32 (l'.br : Int), .int .i64 l'.bn].toArray 28) := Zb
                  have Zn : y6.drew.heap[y2.heap.size]? = some (.cells ((a.prep l'.br l'.bn).cells).toArray 39) := Zn
                  have hu := World.ownsRow.drew hu
                  have ee := belowDrewS ee
                  have ff := ogDrew ff
                  refine wp_region_held_drew (S := fun z' => True) (by kernel_rfl) trivial (fun hH => ?_)
                  clear hH
                  generalize y6.drew = y7 at Zc Zl Zb Zn hu ee ff ⊢
                  refine wpAnyH_take (i := 0) (v := .bool false) rfl (by kernel_rfl) (by kernel_rfl) (by kernel_rfl) (fun _ _ _ h => h) (Or.inl ⟨by rfl, fun w_ hS_ => by (first | (go_simp; done) | (go_simp; rfl))⟩) trivial ?_
                  try simp only [Act.put, List.getElem_toArray, List.getElem_cons_zero, List.getElem_cons_succ, List.setIfInBounds_toArray, List.set_cons_zero, List.set_cons_succ]
                  refine wpAnyH_take (i := 1) (v := .bool false) rfl (by kernel_rfl) (by kernel_rfl) (by kernel_rfl) (fun _ _ _ h => h) (Or.inl ⟨by rfl, fun w_ hS_ => by (first | (go_simp; done) | (go_simp; rfl))⟩) trivial ?_
                  try simp only [Act.put, List.getElem_toArray, List.getElem_cons_zero, List.getElem_cons_succ, List.setIfInBounds_toArray, List.set_cons_zero, List.set_cons_succ]
                  refine wpAnyH_take (i := 2) (v := undef) rfl (by kernel_rfl) (by kernel_rfl) (by kernel_rfl) (fun _ _ _ h => h) (Or.inr ⟨by rfl, rfl⟩) trivial ?_
                  try simp only [Act.put, List.getElem_toArray, List.getElem_cons_zero, List.getElem_cons_succ, List.setIfInBounds_toArray, List.set_cons_zero, List.set_cons_succ]
                  refine wpAnyH_take (i := 3) (v := undef) rfl (by kernel_rfl) (by kernel_rfl) (by kernel_rfl) (fun _ _ _ h => h) (Or.inr ⟨by rfl, rfl⟩) trivial ?_
                  try simp only [Act.put, List.getElem_toArray, List.getElem_cons_zero, List.getElem_cons_succ, List.setIfInBounds_toArray, List.set_cons_zero, List.set_cons_succ]
                  refine wpAnyH_take (i := 4) (v := undef) rfl (by kernel_rfl) (by kernel_rfl) (by kernel_rfl) (fun _ _ _ h => h) (Or.inr ⟨by rfl, rfl⟩) trivial ?_
                  try simp only [Act.put, List.getElem_toArray, List.getElem_cons_zero, List.getElem_cons_succ, List.setIfInBounds_toArray, List.set_cons_zero, List.set_cons_succ]
                  refine wpAnyH_take (i := 5) (v := undef) rfl (by kernel_rfl) (by kernel_rfl) (by kernel_rfl) (fun _ _ _ h => h) (Or.inr ⟨by rfl, rfl⟩) trivial ?_
                  try simp only [Act.put, List.getElem_toArray, List.getElem_cons_zero, List.getElem_cons_succ, List.setIfInBounds_toArray, List.set_cons_zero, List.set_cons_succ]
                  refine wpAnyH_take (i := 6) (v := undef) rfl (by kernel_rfl) (by kernel_rfl) (by kernel_rfl) (fun _ _ _ h => h) (Or.inr ⟨by rfl, rfl⟩) trivial ?_
                  try simp only [Act.put, List.getElem_toArray, List.getElem_cons_zero, List.getElem_cons_succ, List.setIfInBounds_toArray, List.set_cons_zero, List.set_cons_succ]
                  refine wpAnyH_take (i := 7) (v := undef) rfl (by kernel_rfl) (by kernel_rfl) (by kernel_rfl) (fun _ _ _ h => h) (Or.inr ⟨by rfl, rfl⟩) trivial ?_
                  try simp only [Act.put, List.getElem_toArray, List.getElem_cons_zero, List.getElem_cons_succ, List.setIfInBounds_toArray, List.set_cons_zero, List.set_cons_succ]
                  refine wpAnyH_take (i := 8) (v := undef) rfl (by kernel_rfl) (by kernel_rfl) (by kernel_rfl) (fun _ _ _ h => h) (Or.inr ⟨by rfl, rfl⟩) trivial ?_
                  try simp only [Act.put, List.getElem_toArray, List.getElem_cons_zero, List.getElem_cons_succ, List.setIfInBounds_toArray, List.set_cons_zero, List.set_cons_succ]
                  refine wpAnyH_take (i := 9) (v := undef) rfl (by kernel_rfl) (by kernel_rfl) (by kernel_rfl) (fun _ _ _ h => h) (Or.inr ⟨by rfl, rfl⟩) trivial ?_
                  try simp only [Act.put, List.getElem_toArray, List.getElem_cons_zero, List.getElem_cons_succ, List.setIfInBounds_toArray, List.set_cons_zero, List.set_cons_succ]
                  refine wpAnyH_take (i := 10) (v := undef) rfl (by kernel_rfl) (by kernel_rfl) (by kernel_rfl) (fun _ _ _ h => h) (Or.inr ⟨by rfl, rfl⟩) trivial ?_
                  try simp only [Act.put, List.getElem_toArray, List.getElem_cons_zero, List.getElem_cons_succ, List.setIfInBounds_toArray, List.set_cons_zero, List.set_cons_succ]
                  refine wpAnyH_take (i := 11) (v := undef) rfl (by kernel_rfl) (by kernel_rfl) (by kernel_rfl) (fun _ _ _ h => h) (Or.inr ⟨by rfl, rfl⟩) trivial ?_
                  try simp only [Act.put, List.getElem_toArray, List.getElem_cons_zero, List.getElem_cons_succ, List.setIfInBounds_toArray, List.set_cons_zero, List.set_cons_succ]
                  refine wpAnyH_take (i := 12) (v := undef) rfl (by kernel_rfl) (by kernel_rfl) (by kernel_rfl) (fun _ _ _ h => h) (Or.inr ⟨by rfl, rfl⟩) trivial ?_
                  try simp only [Act.put, List.getElem_toArray, List.getElem_cons_zero, List.getElem_cons_succ, List.setIfInBounds_toArray, List.set_cons_zero, List.set_cons_succ]
                  refine wpAnyH_take (i := 13) (v := .bool false) rfl (by kernel_rfl) (by kernel_rfl) (by kernel_rfl) (fun _ _ _ h => h) (Or.inl ⟨by rfl, fun w_ hS_ => by (first | (go_simp; done) | (go_simp; rfl))⟩) trivial ?_
                  try simp only [Act.put, List.getElem_toArray, List.getElem_cons_zero, List.getElem_cons_succ, List.setIfInBounds_toArray, List.set_cons_zero, List.set_cons_succ]
                  refine wpAnyH_done (by kernel_rfl) ?_ _
                  go_wp2_with fail
                  go_roundw
                  case rel => exact ⟨j + 1, (Px.upd A' j (a.prep l'.br l'.bn)), l', by omega, by go_num, HP2, Zc, Zl, hu, HFR2, Zb, ff, ee⟩
                  case measure => simp [intOf]; omega
                | true =>
                  have HPH : Hid ((crC n (Px.upd A' j (a.prep l'.br l'.bn)) (fun j => pv (H j)) S k)[81 + i]? = some (.pointer (some ⟨hh, 0, none⟩))) := by show _ = _; rw [crH n _ _ S k i (by omega)]; show some (pv (H i)) = _; rw [HHI.out]; rfl
                  have HPW := Lib.hid (fun (z : World) (hz : Below B w z) (hb : B ≤ z.heap.size) (hL : LdAt z hh l') (hq : z.ownsRow B 39 16 (.slice l'.A l'.l.length l'.c) l'.l.length (acCells l'.l)) => lpromise_w z B hh l' (j : Int) (a.prep l'.br l'.bn) hL hq hb (by have := HP.out.2.2.2.2.1; omega) (by have := (HP.out.1.ld i hi).pw.1; rwa [updF_same] at this) (fun e => HP.out.2.1 e.1) (Ac.prep_formed (by rw [HA.out]; exact HP.out.1.core.fm j hlt) _ _) (okFlat (by rw [(Px.prep_same _ _ _).2.2.2.2]; exact HFA.out)) (HT.out z hz) (by omega) (by have := (HP.out.1.ld i hi).num; rw [updF_same] at this; omega) (HP.out.2.2.2.2.2 j (Nat.le_refl _)))
                  have Zc : y6.drew.heap[gc]? = some (.cells (crC n (Px.upd A' j (a.prep l'.br l'.bn)) (fun j => pv (H j)) S k).toArray 122) := Zc
                  have Zl : y6.drew.heap[hh]? = some (.cells l'.cells.toArray 144) := Zl
                  have Zb : y6.drew.heap[gb]? = some (.cells [.int .u32 (l'.br : Int), .int .i64 l'.bn].toArray 28) := Zb
                  have Zn : y6.drew.heap[y2.heap.size]? = some (.cells ((a.prep l'.br l'.bn).cells).toArray 39) := Zn
                  have hu := World.ownsRow.drew hu
                  have ee := belowDrewS ee
                  have ff := ogDrew ff
                  refine wp_region_held_drew (S := fun z' => z'.cell? ⟨gc, 81 + i, none⟩ = some (.pointer (some ⟨hh, 0, none⟩)) ∧ z'.rangeAt gb 0 [.int .u32 (l'.br : Int), .int .i64 l'.bn] ∧ z'.rangeAt (y2.heap.size) 0 (a.prep l'.br l'.bn).cells) (by kernel_rfl) ⟨rowCell Zc (81 + i) HPH.out, rowAt Zb, rowAt Zn⟩ (fun hH => ?_)
                  clear hH
                  generalize y6.drew = y7 at Zc Zl Zb Zn hu ee ff ⊢
                  refine wpAnyH_take (i := 0) (v := .bool true) rfl (by kernel_rfl) (by kernel_rfl) (by kernel_rfl) (fun _ _ _ h => h) (Or.inl ⟨by rfl, fun w_ hS_ => by (first | (go_simp; done) | (go_simp; rfl))⟩) ⟨rowCell Zc (81 + i) HPH.out, rowAt Zb, rowAt Zn⟩ ?_
                  try simp only [Act.put, List.getElem_toArray, List.getElem_cons_zero, List.getElem_cons_succ, List.setIfInBounds_toArray, List.set_cons_zero, List.set_cons_succ]
                  refine wpAnyH_take (i := 1) (v := .bool true) rfl (by kernel_rfl) (by kernel_rfl) (by kernel_rfl) (fun _ _ _ h => h) (Or.inl ⟨by rfl, fun w_ hS_ => by (first | (go_simp; done) | (go_simp; rfl))⟩) ⟨rowCell Zc (81 + i) HPH.out, rowAt Zb, rowAt Zn⟩ ?_
                  try simp only [Act.put, List.getElem_toArray, List.getElem_cons_zero, List.getElem_cons_succ, List.setIfInBounds_toArray, List.set_cons_zero, List.set_cons_succ]
                  refine wpAnyH_take (i := 2) (v := .pointer (some ⟨gc, 0, none⟩)) rfl (by kernel_rfl) (by kernel_rfl) (by kernel_rfl) (fun _ _ _ h => h) (Or.inl ⟨by rfl, fun w_ hS_ => by (first | (go_simp; done) | (go_simp; rfl))⟩) ⟨rowCell Zc (81 + i) HPH.out, rowAt Zb, rowAt Zn⟩ ?_
                  try simp only [Act.put, List.getElem_toArray, List.getElem_cons_zero, List.getElem_cons_succ, List.setIfInBounds_toArray, List.set_cons_zero, List.set_cons_succ]
                  refine wpAnyH_take (i := 3) (v := .int .i64 (i : Int)) rfl (by kernel_rfl) (by kernel_rfl) (by kernel_rfl) (fun _ _ _ h => h) (Or.inl ⟨by rfl, fun w_ hS_ => by (first | (go_simp; done) | (go_simp; rfl))⟩) ⟨rowCell Zc (81 + i) HPH.out, rowAt Zb, rowAt Zn⟩ ?_
                  try simp only [Act.put, List.getElem_toArray, List.getElem_cons_zero, List.getElem_cons_succ, List.setIfInBounds_toArray, List.set_cons_zero, List.set_cons_succ]
                  refine wpAnyH_take (i := 4) (v := .pointer (some ⟨gc, 0, none⟩)) rfl (by kernel_rfl) (by kernel_rfl) (by kernel_rfl) (fun _ _ _ h => h) (Or.inl ⟨by rfl, fun w_ hS_ => by (first | (go_simp; done) | (go_simp; rfl))⟩) ⟨rowCell Zc (81 + i) HPH.out, rowAt Zb, rowAt Zn⟩ ?_
                  try simp only [Act.put, List.getElem_toArray, List.getElem_cons_zero, List.getElem_cons_succ, List.setIfInBounds_toArray, List.set_cons_zero, List.set_cons_succ]
                  refine wpAnyH_take (i := 5) (v := .pointer (some ⟨gc, 81, none⟩)) rfl (by kernel_rfl) (by kernel_rfl) (by kernel_rfl) (fun _ _ _ h => h) (Or.inl ⟨by rfl, fun w_ hS_ => by (first | (go_simp; done) | (go_simp; rfl))⟩) ⟨rowCell Zc (81 + i) HPH.out, rowAt Zb, rowAt Zn⟩ ?_
                  try simp only [Act.put, List.getElem_toArray, List.getElem_cons_zero, List.getElem_cons_succ, List.setIfInBounds_toArray, List.set_cons_zero, List.set_cons_succ]
                  refine wpAnyH_take (i := 6) (v := .pointer (some ⟨gc, 81 + i, none⟩)) rfl (by kernel_rfl) (by kernel_rfl) (by kernel_rfl) (fun _ _ _ h => h) (Or.inl ⟨by rfl, fun w_ hS_ => by (first | (go_simp; done) | (go_simp; rfl))⟩) ⟨rowCell Zc (81 + i) HPH.out, rowAt Zb, rowAt Zn⟩ ?_
                  try simp only [Act.put, List.getElem_toArray, List.getElem_cons_zero, List.getElem_cons_succ, List.setIfInBounds_toArray, List.set_cons_zero, List.set_cons_succ]
                  refine wpAnyH_take (i := 7) (v := .pointer (some ⟨hh, 0, none⟩)) rfl (by kernel_rfl) (by kernel_rfl) (by kernel_rfl) (fun _ _ _ h => h) (Or.inl ⟨by rfl, fun w_ hS_ => by (have c_ := hS_.1; go_simp)⟩) ⟨rowCell Zc (81 + i) HPH.out, rowAt Zb, rowAt Zn⟩ ?_
                  try simp only [Act.put, List.getElem_toArray, List.getElem_cons_zero, List.getElem_cons_succ, List.setIfInBounds_toArray, List.set_cons_zero, List.set_cons_succ]
                  refine wpAnyH_take (i := 8) (v := .int .i64 (j : Int)) rfl (by kernel_rfl) (by kernel_rfl) (by kernel_rfl) (fun _ _ _ h => h) (Or.inl ⟨by rfl, fun w_ hS_ => by (first | (go_simp; done) | (go_simp; rfl))⟩) ⟨rowCell Zc (81 + i) HPH.out, rowAt Zb, rowAt Zn⟩ ?_
                  try simp only [Act.put, List.getElem_toArray, List.getElem_cons_zero, List.getElem_cons_succ, List.setIfInBounds_toArray, List.set_cons_zero, List.set_cons_succ]
                  refine wpAnyH_take (i := 9) (v := .agg ([.int .u32 (l'.br : Int), .int .i64 l'.bn]).toArray) rfl (by kernel_rfl) (by kernel_rfl) (by kernel_rfl) (fun _ _ _ h => h) (yieldsIf_load_mid (by rfl) 28 _ rfl (gb) (0) rfl ([.int .u32 (l'.br : Int), .int .i64 l'.bn]) _ (fun _ h => h.2.1) Tryd.underlying28 rfl sizeBal) ⟨rowCell Zc (81 + i) HPH.out, rowAt Zb, rowAt Zn⟩ ?_
                  try simp only [Act.put, List.getElem_toArray, List.getElem_cons_zero, List.getElem_cons_succ, List.setIfInBounds_toArray, List.set_cons_zero, List.set_cons_succ]
                  refine wpAnyH_take (i := 10) (v := .agg (((a.prep l'.br l'.bn).cells)).toArray) rfl (by kernel_rfl) (by kernel_rfl) (by kernel_rfl) (fun _ _ _ h => h) (yieldsIf_load_mid (by rfl) 39 _ rfl (y2.heap.size) (0) rfl (((a.prep l'.br l'.bn).cells)) _ (fun _ h => h.2.2) Tryd.underlying39 rfl sizeAc) ⟨rowCell Zc (81 + i) HPH.out, rowAt Zb, rowAt Zn⟩ ?_
                  try simp only [Act.put, List.getElem_toArray, List.getElem_cons_zero, List.getElem_cons_succ, List.setIfInBounds_toArray, List.set_cons_zero, List.set_cons_succ]
                  refine wpAnyH_ready (rs := [11]) (by kernel_rfl) (by simp) ?_
                  refine AllReadyH.cons rfl (fun K hK => ?_) AllReadyH.nil
                  rw [if_pos (by rfl)]
                  go_simp
                  go_wp2_with (go_at_call 36; refine (HPW.out y7 ee (Nat.le_trans hB ee.size) Zl hu).mono ?_; rintro e y8 ⟨rfl, A9, c9, Zm_, hu9, hw9, t_⟩)
                  have hnc : ∀ b_, b_ = hh ∨ (Value.slice l'.A l'.l.length l'.c).ownBlock = some b_ → b_ = hh ∨ w.heap.size ≤ b_ := fun b_ e_ => e_.imp id (fun e_ => HFR.out b_ e_)
                  have szz_ := ee.size
                  have Zc := (t_.2 gc (Array.getElem?_eq_some_iff.1 Zc).1 (fun e_ => by have := hnc _ e_; omega)).trans Zc
                  have Zb := (t_.2 gb (Array.getElem?_eq_some_iff.1 Zb).1 (fun e_ => e_.elim (fun q_ => by omega) (fun q_ => lgKind hu Zb (by decide) q_))).trans Zb
                  have Zn := (t_.2 (y2.heap.size) (Array.getElem?_eq_some_iff.1 Zn).1 (fun e_ => e_.elim (fun q_ => by omega) (fun q_ => ne_hu_Zn q_))).trans Zn
                  have HFR3 : Hid (∀ g, (Value.slice A9 (l'.l ++ [(a.prep l'.br l'.bn)]).length c9).ownBlock = some g → w.heap.size ≤ g) := fun g hg => by
                    rcases hw9 with q_ | q_
                    · exact HFR.out g (by rw [← q_]; exact hg)
                    · have := q_ g hg; have := ff.size; omega
                  have ff := ogTrans ff (Q := fun b => b = hh ∨ (Value.slice l'.A l'.l.length l'.c).ownBlock = some b) t_ (fun b_ e_ => (hnc b_ e_).imp (fun q_ => Or.inr q_) id)
                  have ee := ee.trans (OgF.toBelow (B := B) (P := fun b => b = hh ∨ (Value.slice l'.A l'.l.length l'.c).ownBlock = some b) t_ (fun b_ e_ => by have := hnc b_ e_; omega) (Nat.le_trans hB ee.size))
                  clear Zl hu hnc hw9 t_
                  have Zl : y8.heap[hh]? = some (.cells (promised l' j (a.prep l'.br l'.bn) A9 c9).cells.toArray 144) := Zm_
                  have hu := hu9
                  clear Zm_ hu9
                  refine hK.out _ _ ⟨rowCell Zc (81 + i) HPH.out, rowAt Zb, rowAt Zn⟩ (fun hH => ?_)
                  clear hK K hH
                  try simp only [Act.put, List.getElem_toArray, List.getElem_cons_zero, List.getElem_cons_succ, List.setIfInBounds_toArray, List.set_cons_zero, List.set_cons_succ]
                  refine wpAnyH_take (i := 12) (v := .bool false) rfl (by kernel_rfl) (by kernel_rfl) (by kernel_rfl) (fun _ _ _ h => h) (Or.inl ⟨by rfl, fun w_ hS_ => by (first | (go_simp; done) | (go_simp; rfl))⟩) ⟨rowCell Zc (81 + i) HPH.out, rowAt Zb, rowAt Zn⟩ ?_
                  try simp only [Act.put, List.getElem_toArray, List.getElem_cons_zero, List.getElem_cons_succ, List.setIfInBounds_toArray, List.set_cons_zero, List.set_cons_succ]
                  refine wpAnyH_take (i := 13) (v := .bool false) rfl (by kernel_rfl) (by kernel_rfl) (by kernel_rfl) (fun _ _ _ h => h) (Or.inl ⟨by rfl, fun w_ hS_ => by (first | (go_simp; done) | (go_simp; rfl))⟩) ⟨rowCell Zc (81 + i) HPH.out, rowAt Zb, rowAt Zn⟩ ?_
                  try simp only [Act.put, List.getElem_toArray, List.getElem_cons_zero, List.getElem_cons_succ, List.setIfInBounds_toArray, List.set_cons_zero, List.set_cons_succ]
                  refine wpAnyH_done (by kernel_rfl) ?_ _
                  have HP2 : Hid (Cinv n (t + 1) (Px.upd A' j (a.prep l'.br l'.bn)) (updF L i (promised l' j (a.prep l'.br l'.bn) A9 c9)) X P V ∧ (promised l' j (a.prep l'.br l'.bn) A9 c9).br ≠ 0 ∧ (promised l' j (a.prep l'.br l'.bn) A9 c9).sl = 0 ∧ ((promised l' j (a.prep l'.br l'.bn) A9 c9).l = [] → (promised l' j (a.prep l'.br l'.bn) A9 c9).fs = 0) ∧ (promised l' j (a.prep l'.br l'.bn) A9 c9).l.length ≤ j + 1 ∧ ∀ q : Nat, j + 1 ≤ q → Q.hasB (promised l' j (a.prep l'.br l'.bn) A9 c9).pr (q : Int) = false) := by
                    obtain ⟨p1, p2, p3, p4, p5, p6⟩ := HP.out
                    have hq := p1.promise h5 hi hlt (by rw [updF_same]; exact p2) (by rw [updF_same]; exact p3) (by rw [updF_same]; exact p4) (by rw [updF_same]; omega) (by rw [updF_same, ← HA.out]; exact HM.out) A9 c9
                    rw [updF_same, updF_updF, ← HA.out] at hq
                    refine ⟨hq, p2, p3, fun e_ => by simp [promised] at e_, ?_, fun q hq => ?_⟩
                    · show (l'.l ++ [(a.prep l'.br l'.bn)]).length ≤ j + 1
                      simp; omega
                    · show Q.hasB (Q.addN l'.pr (j : Int)) (q : Int) = false
                      rw [has_add _ _ _ (by omega), p6 q (by omega), decide_eq_false (by omega)]; rfl
                  have HFR2 := HFR3
                  go_wp2_with fail
                  go_roundw
                  case rel => exact ⟨j + 1, (Px.upd A' j (a.prep l'.br l'.bn)), promised l' j (a.prep l'.br l'.bn) A9 c9, by omega, by go_num, HP2, Zc, Zl, hu, HFR2, Zb, ff, ee⟩
                  case measure => simp [intOf]; omega
              · rw [if_pos (by rfl)]
                go_simp
                have lZc := (Array.getElem?_eq_some_iff.1 Zc).1
                have lZl := (Array.getElem?_eq_some_iff.1 Zl).1
                have lZb := (Array.getElem?_eq_some_iff.1 Zb).1
                have sz_ := ff.size
                have ne_hu_Zn : (Value.slice l'.A l'.l.length l'.c).ownBlock ≠ some (y1.heap.size) := fun hb_ => by have hh_ := (hu.lt _ hb_).2; omega
                have Zc := hpA Zc (.cells #[.int .u32 0, .int .i64 0, .int .i64 0, .bool false, .int .u32 0, .int .i64 0, .int .i64 0, .int .i64 0, .int .i64 0, .slice none 0 0, .slice none 0 0, .int .i64 0, .int .i64 0, .int .i64 0, .int .u64 0, .bool false] 39)
                have Zl := hpA Zl (.cells #[.int .u32 0, .int .i64 0, .int .i64 0, .bool false, .int .u32 0, .int .i64 0, .int .i64 0, .int .i64 0, .int .i64 0, .slice none 0 0, .slice none 0 0, .int .i64 0, .int .i64 0, .int .i64 0, .int .u64 0, .bool false] 39)
                have Zb := hpA Zb (.cells #[.int .u32 0, .int .i64 0, .int .i64 0, .bool false, .int .u32 0, .int .i64 0, .int .i64 0, .int .i64 0, .int .i64 0, .slice none 0 0, .slice none 0 0, .int .i64 0, .int .i64 0, .int .i64 0, .int .u64 0, .bool false] 39)
                have hu := hu.alloc (.cells #[.int .u32 0, .int .i64 0, .int .i64 0, .bool false, .int .u32 0, .int .i64 0, .int .i64 0, .int .i64 0, .int .i64 0, .slice none 0 0, .slice none 0 0, .int .i64 0, .int .i64 0, .int .i64 0, .int .u64 0, .bool false] 39)
                have ee := ee.alloc (Nat.le_trans hB ee.size) (.cells #[.int .u32 0, .int .i64 0, .int .i64 0, .bool false, .int .u32 0, .int .i64 0, .int .i64 0, .int .i64 0, .int .i64 0, .slice none 0 0, .slice none 0 0, .int .i64 0, .int .i64 0, .int .i64 0, .int .u64 0, .bool false] 39)
                have ff := ogAlloc ff (.cells #[.int .u32 0, .int .i64 0, .int .i64 0, .bool false, .int .u32 0, .int .i64 0, .int .i64 0, .int .i64 0, .int .i64 0, .slice none 0 0, .slice none 0 0, .int .i64 0, .int .i64 0, .int .i64 0, .int .u64 0, .bool false] 39)
                have Zn := hpN y1 (.cells #[.int .u32 0, .int .i64 0, .int .i64 0, .bool false, .int .u32 0, .int .i64 0, .int .i64 0, .int .i64 0, .int .i64 0, .slice none 0 0, .slice none 0 0, .int .i64 0, .int .i64 0, .int .i64 0, .int .u64 0, .bool false] 39) rfl
                generalize y1.alloc (.cells #[.int .u32 0, .int .i64 0, .int .i64 0, .bool false, .int .u32 0, .int .i64 0, .int .i64 0, .int .i64 0, .int .i64 0, .slice none 0 0, .slice none 0 0, .int .i64 0, .int .i64 0, .int .i64 0, .int .u64 0, .bool false] 39) = y2 at Zc Zl Zb Zn hu ee ff ⊢
                refine hK.out _ _ ⟨rowMid Zc (1 + j * 16) HRA.out, rowAt Zb⟩ (fun hH => ?_)
                clear hK K hH
                try simp only [Act.put, List.getElem_toArray, List.getElem_cons_zero, List.getElem_cons_succ, List.setIfInBounds_toArray, List.set_cons_zero, List.set_cons_succ]
                refine wpAnyH_ready (rs := [7]) (by kernel_rfl) (by simp) ?_
                refine AllReadyH.cons rfl (fun K hK => ?_) AllReadyH.nil
                rw [if_pos (by rfl)]
                go_simp
                go_wp2_with (go_at_call 65; refine (HPC.out y2 ee).mono ?_; rintro e y3 ⟨rfl, t⟩)
                have Zc := hpB Zc t
                have Zl := hpB Zl t
                have Zb := hpB Zb t
                have Zn := hpB Zn t
                have hu := ownBelow hu t
                have ee := ee.trans (t.mono (Nat.le_trans hB ee.size))
                have ff := ogBelow ff t
                clear t
                refine hK.out _ _ ⟨rowMid Zc (1 + j * 16) HRA.out, rowAt Zb⟩ (fun hH => ?_)
                clear hK K hH
                try simp only [Act.put, List.getElem_toArray, List.getElem_cons_zero, List.getElem_cons_succ, List.setIfInBounds_toArray, List.set_cons_zero, List.set_cons_succ]
                refine wpAnyH_take (i := 8) (v := .tuple #[.agg (a.prep l'.br l'.bn).cells.toArray, .bool (a.may l'.br l'.bn)]) rfl (by kernel_rfl) (by kernel_rfl) (by kernel_rfl) (fun _ _ _ h => h) (Or.inl ⟨by rfl, fun w_ hS_ => by (first | (go_simp; done) | (go_simp; rfl))⟩) ⟨rowMid Zc (1 + j * 16) HRA.out, rowAt Zb⟩ ?_
                try simp only [Act.put, List.getElem_toArray, List.getElem_cons_zero, List.getElem_cons_succ, List.setIfInBounds_toArray, List.set_cons_zero, List.set_cons_succ]
                refine wpAnyH_take (i := 9) (v := .agg (a.prep l'.br l'.bn).cells.toArray) rfl (by kernel_rfl) (by kernel_rfl) (by kernel_rfl) (fun _ _ _ h => h) (Or.inl ⟨by rfl, fun w_ hS_ => by (first | (go_simp; done) | (go_simp; rfl))⟩) ⟨rowMid Zc (1 + j * 16) HRA.out, rowAt Zb⟩ ?_
                try simp only [Act.put, List.getElem_toArray, List.getElem_cons_zero, List.getElem_cons_succ, List.setIfInBounds_toArray, List.set_cons_zero, List.set_cons_succ]
                refine wpAnyH_take (i := 10) (v := .bool (a.may l'.br l'.bn)) rfl (by kernel_rfl) (by kernel_rfl) (by kernel_rfl) (fun _ _ _ h => h) (Or.inl ⟨by rfl, fun w_ hS_ => by (first | (go_simp; done) | (go_simp; rfl))⟩) ⟨rowMid Zc (1 + j * 16) HRA.out, rowAt Zb⟩ ?_
                try simp only [Act.put, List.getElem_toArray, List.getElem_cons_zero, List.getElem_cons_succ, List.setIfInBounds_toArray, List.set_cons_zero, List.set_cons_succ]
                refine wpAnyH_ready (rs := [12]) (by kernel_rfl) (by simp) ?_
                refine AllReadyH.cons rfl (fun K hK => ?_) AllReadyH.nil
                rw [if_pos (by rfl)]
                refine wp_store_row 39 _ _ rfl (y1.heap.size) ((a.prep l'.br l'.bn).cells).toArray rfl rfl 39 _ Zn sizeAc (by rfl) (Ac.one _) ?_
                have N_ := setRow_heap y3 (y1.heap.size) _ ((a.prep l'.br l'.bn).cells).toArray _ _ Zn
                have hu := ogOwnR (cs := ((a.prep l'.br l'.bn).cells).toArray) hu ne_hu_Zn
                have ee := belowSet (cs := ((a.prep l'.br l'.bn).cells).toArray) ee Zn (by omega)
                have ff := ogRow (cs := ((a.prep l'.br l'.bn).cells).toArray) (by first | (right; omega) | exact Or.inl (Or.inl rfl) | exact Or.inl (Or.inr rfl)) Zn ff
                have Zc := hpR Zc (g' := y1.heap.size) (by omega) ((a.prep l'.br l'.bn).cells).toArray
                have Zl := hpR Zl (g' := y1.heap.size) (by omega) ((a.prep l'.br l'.bn).cells).toArray
                have Zb := hpR Zb (g' := y1.heap.size) (by omega) ((a.prep l'.br l'.bn).cells).toArray
                clear Zn
                have Zn := N_
                clear N_
                generalize y3.setRow (y1.heap.size) ((a.prep l'.br l'.bn).cells).toArray = y4 at Zc Zl Zb Zn hu ee ff ⊢
                refine hK.out _ _ ⟨rowMid Zc (1 + j * 16) HRA.out, rowAt Zb⟩ (fun hH => ?_)
                clear hK K hH
                try simp only [Act.put, List.getElem_toArray, List.getElem_cons_zero, List.getElem_cons_succ, List.setIfInBounds_toArray, List.set_cons_zero, List.set_cons_succ]
                refine wpAnyH_take (i := 13) (v := .bool (a.may l'.br l'.bn)) rfl (by kernel_rfl) (by kernel_rfl) (by kernel_rfl) (fun _ _ _ h => h) (Or.inl ⟨by rfl, fun w_ hS_ => by (first | (go_simp; done) | (go_simp; rfl))⟩) ⟨rowMid Zc (1 + j * 16) HRA.out, rowAt Zb⟩ ?_
                try simp only [Act.put, List.getElem_toArray, List.getElem_cons_zero, List.getElem_cons_succ, List.setIfInBounds_toArray, List.set_cons_zero, List.set_cons_succ]
                refine wpAnyH_done (by kernel_rfl) ?_ _
                go_upto_region 14 with fail
                have Zc : y4.drew.heap[gc]? = some (.cells (crC n A' (fun j => pv (H j)) S k).toArray 122) := Zc
                have Zl : y4.drew.heap[hh]? = some (.cells l'.cells.toArray 144) := Zl
                have Zb : y4.drew.heap[gb]? = some (.cells [.int .u32 (l'.br : Int), .int .i64 l'.bn].toArray 28) := Zb
                have Zn : y4.drew.heap[y1.heap.size]? = some (.cells ((a.prep l'.br l'.bn).cells).toArray 39) := Zn
                have hu := World.ownsRow.drew hu
                have ee := belowDrewS ee
                have ff := ogDrew ff
                refine wp_region_held_drew (S := fun z' => z'.rangeAt (y1.heap.size) 0 (a.prep l'.br l'.bn).cells) (by kernel_rfl) (rowAt Zn) (fun hH => ?_)
                clear hH
                generalize y4.drew = y5 at Zc Zl Zb Zn hu ee ff ⊢
                refine wpAnyH_take (i := 0) (v := .pointer (some ⟨gc, 0, none⟩)) rfl (by kernel_rfl) (by kernel_rfl) (by kernel_rfl) (fun _ _ _ h => h) (Or.inl ⟨by rfl, fun w_ hS_ => by (first | (go_simp; done) | (go_simp; rfl))⟩) (rowAt Zn) ?_
                try simp only [Act.put, List.getElem_toArray, List.getElem_cons_zero, List.getElem_cons_succ, List.setIfInBounds_toArray, List.set_cons_zero, List.set_cons_succ]
                refine wpAnyH_take (i := 1) (v := .int .i64 (j : Int)) rfl (by kernel_rfl) (by kernel_rfl) (by kernel_rfl) (fun _ _ _ h => h) (Or.inl ⟨by rfl, fun w_ hS_ => by (first | (go_simp; done) | (go_simp; rfl))⟩) (rowAt Zn) ?_
                try simp only [Act.put, List.getElem_toArray, List.getElem_cons_zero, List.getElem_cons_succ, List.setIfInBounds_toArray, List.set_cons_zero, List.set_cons_succ]
                refine wpAnyH_take (i := 2) (v := .agg (((a.prep l'.br l'.bn).cells)).toArray) rfl (by kernel_rfl) (by kernel_rfl) (by kernel_rfl) (fun _ _ _ h => h) (yieldsIf_load_mid (by rfl) 39 _ rfl (y1.heap.size) (0) rfl (((a.prep l'.br l'.bn).cells)) _ (fun _ h => h) Tryd.underlying39 rfl sizeAc) (rowAt Zn) ?_
                try simp only [Act.put, List.getElem_toArray, List.getElem_cons_zero, List.getElem_cons_succ, List.setIfInBounds_toArray, List.set_cons_zero, List.set_cons_succ]
                refine wpAnyH_take (i := 3) (v := .pointer (some ⟨gc, 0, none⟩)) rfl (by kernel_rfl) (by kernel_rfl) (by kernel_rfl) (fun _ _ _ h => h) (Or.inl ⟨by rfl, fun w_ hS_ => by (first | (go_simp; done) | (go_simp; rfl))⟩) (rowAt Zn) ?_
                try simp only [Act.put, List.getElem_toArray, List.getElem_cons_zero, List.getElem_cons_succ, List.setIfInBounds_toArray, List.set_cons_zero, List.set_cons_succ]
                refine wpAnyH_take (i := 4) (v := .pointer (some ⟨gc, 1, none⟩)) rfl (by kernel_rfl) (by kernel_rfl) (by kernel_rfl) (fun _ _ _ h => h) (Or.inl ⟨by rfl, fun w_ hS_ => by (first | (go_simp; done) | (go_simp; rfl))⟩) (rowAt Zn) ?_
                try simp only [Act.put, List.getElem_toArray, List.getElem_cons_zero, List.getElem_cons_succ, List.setIfInBounds_toArray, List.set_cons_zero, List.set_cons_succ]
                refine wpAnyH_take (i := 5) (v := .pointer (some ⟨gc, 1 + j * 16, none⟩)) rfl (by kernel_rfl) (by kernel_rfl) (by kernel_rfl) (fun _ _ _ h => h) (Or.inl ⟨by rfl, fun w_ hS_ => by (first | (go_simp; done) | (go_simp; rfl))⟩) (rowAt Zn) ?_
                try simp only [Act.put, List.getElem_toArray, List.getElem_cons_zero, List.getElem_cons_succ, List.setIfInBounds_toArray, List.set_cons_zero, List.set_cons_succ]
                refine wpAnyH_ready (rs := [6]) (by kernel_rfl) (by simp) ?_
                refine AllReadyH.cons rfl (fun K hK => ?_) AllReadyH.nil
                rw [if_pos (by rfl)]
                refine wp_store_mid 39 _ _ rfl (gc) (1 + j * 16) ((a.prep l'.br l'.bn).cells).toArray rfl rfl (crThere Zc (by omega)) sizeAc (Ac.one _) ?_
                have N_ : (y5.setCells (gc) (1 + j * 16) ((a.prep l'.br l'.bn).cells)).heap[gc]? = some (.cells (crC n (Px.upd A' j (a.prep l'.br l'.bn)) (fun j => pv (H j)) S k).toArray 122) := (by rw [← HPU.out]; exact hpC _ _ _ _ Zc)
                have hu := ogOwnC hu (ogKind hu Zc (by decide)) ((a.prep l'.br l'.bn).cells) (1 + j * 16)
                have ee := belowC (g := gc) (by omega) ((a.prep l'.br l'.bn).cells) (1 + j * 16) y5 ee
                have ff := ogCells (k := gc) (by first | (right; omega) | exact Or.inl (Or.inl rfl) | exact Or.inl (Or.inr rfl)) ((a.prep l'.br l'.bn).cells) (1 + j * 16) y5 ff
                have Zl := hpCo (g' := gc) (by omega) ((a.prep l'.br l'.bn).cells) (1 + j * 16) y5 Zl
                have Zb := hpCo (g' := gc) (by omega) ((a.prep l'.br l'.bn).cells) (1 + j * 16) y5 Zb
                have Zn := hpCo (g' := gc) (by omega) ((a.prep l'.br l'.bn).cells) (1 + j * 16) y5 Zn
                clear Zc
                have Zc := N_
                clear N_
                change K _ (y5.setCells (gc) (1 + j * 16) ((a.prep l'.br l'.bn).cells))
                generalize y5.setCells (gc) (1 + j * 16) ((a.prep l'.br l'.bn).cells) = y6 at Zc Zl Zb Zn hu ee ff ⊢
                refine hK.out _ _ (rowAt Zn) (fun hH => ?_)
                clear hK K hH
                try simp only [Act.put, List.getElem_toArray, List.getElem_cons_zero, List.getElem_cons_succ, List.setIfInBounds_toArray, List.set_cons_zero, List.set_cons_succ]
                refine wpAnyH_done (by kernel_rfl) ?_ _
                clear HPC HRA
                go_upto_region 15 with fail
                have HMY : Hid ((a.may l'.br l'.bn) = (a.may l'.br l'.bn)) := rfl
                generalize hM : (a.may l'.br l'.bn) = mb at HMY ⊢
                have HM := Lib.hid hM
                clear hM HMY
                cases mb with
                | false =>
                  have HP2 : Hid (Cinv n (t + 1) (Px.upd A' j (a.prep l'.br l'.bn)) (updF L i l') X P V ∧ l'.br ≠ 0 ∧ l'.sl = 0 ∧ (l'.l = [] → l'.fs = 0) ∧ l'.l.length ≤ j + 1 ∧ ∀ q : Nat, j + 1 ≤ q → Q.hasB l'.pr (q : Int) = false) := by
                    obtain ⟨p1, p2, p3, p4, p5, p6⟩ := HP.out
                    have hb9 : l'.br ≤ t + 1 := by have := (p1.ld i hi).br; rwa [updF_same] at this
                    refine ⟨by rw [HA.out]; exact p1.prep hlt hb9 _, p2, p3, p4, by omega, fun q hq => p6 q (by omega)⟩
                  have HFR2 := HFR
                  have Zc : y6.drew.heap[gc]? = some (.cells (crC n (Px.upd A' j (a.prep l'.br l'.bn)) (fun j => pv (H j)) S k).toArray 122) := Zc
                  have Zl : y6.drew.heap[hh]? = some (.cells l'.cells.toArray 144) := Zl
                  have Zb : y6.drew.heap[gb]? = some (.cells [.int .u32 (l'.br : Int), .int .i64 l'.bn].toArray 28) := Zb
                  have Zn : y6.drew.heap[y1.heap.size]? = some (.cells ((a.prep l'.br l'.bn).cells).toArray 39) := Zn
                  have hu := World.ownsRow.drew hu
                  have ee := belowDrewS ee
                  have ff := ogDrew ff
                  refine wp_region_held_drew (S := fun z' => True) (by kernel_rfl) trivial (fun hH => ?_)
                  clear hH
                  generalize y6.drew = y7 at Zc Zl Zb Zn hu ee ff ⊢
                  refine wpAnyH_take (i := 0) (v := .bool false) rfl (by kernel_rfl) (by kernel_rfl) (by kernel_rfl) (fun _ _ _ h => h) (Or.inl ⟨by rfl, fun w_ hS_ => by (first | (go_simp; done) | (go_simp; rfl))⟩) trivial ?_
                  try simp only [Act.put, List.getElem_toArray, List.getElem_cons_zero, List.getElem_cons_succ, List.setIfInBounds_toArray, List.set_cons_zero, List.set_cons_succ]
                  refine wpAnyH_take (i := 1) (v := .bool false) rfl (by kernel_rfl) (by kernel_rfl) (by kernel_rfl) (fun _ _ _ h => h) (Or.inl ⟨by rfl, fun w_ hS_ => by (first | (go_simp; done) | (go_simp; rfl))⟩) trivial ?_
                  try simp only [Act.put, List.getElem_toArray, List.getElem_cons_zero, List.getElem_cons_succ, List.setIfInBounds_toArray, List.set_cons_zero, List.set_cons_succ]
                  refine wpAnyH_take (i := 2) (v := undef) rfl (by kernel_rfl) (by kernel_rfl) (by kernel_rfl) (fun _ _ _ h => h) (Or.inr ⟨by rfl, rfl⟩) trivial ?_
                  try simp only [Act.put, List.getElem_toArray, List.getElem_cons_zero, List.getElem_cons_succ, List.setIfInBounds_toArray, List.set_cons_zero, List.set_cons_succ]
                  refine wpAnyH_take (i := 3) (v := undef) rfl (by kernel_rfl) (by kernel_rfl) (by kernel_rfl) (fun _ _ _ h => h) (Or.inr ⟨by rfl, rfl⟩) trivial ?_
                  try simp only [Act.put, List.getElem_toArray, List.getElem_cons_zero, List.getElem_cons_succ, List.setIfInBounds_toArray, List.set_cons_zero, List.set_cons_succ]
                  refine wpAnyH_take (i := 4) (v := undef) rfl (by kernel_rfl) (by kernel_rfl) (by kernel_rfl) (fun _ _ _ h => h) (Or.inr ⟨by rfl, rfl⟩) trivial ?_
                  try simp only [Act.put, List.getElem_toArray, List.getElem_cons_zero, List.getElem_cons_succ, List.setIfInBounds_toArray, List.set_cons_zero, List.set_cons_succ]
                  refine wpAnyH_take (i := 5) (v := undef) rfl (by kernel_rfl) (by kernel_rfl) (by kernel_rfl) (fun _ _ _ h => h) (Or.inr ⟨by rfl, rfl⟩) trivial ?_
                  try simp only [Act.put, List.getElem_toArray, List.getElem_cons_zero, List.getElem_cons_succ, List.setIfInBounds_toArray, List.set_cons_zero, List.set_cons_succ]
                  refine wpAnyH_take (i := 6) (v := undef) rfl (by kernel_rfl) (by kernel_rfl) (by kernel_rfl) (fun _ _ _ h => h) (Or.inr ⟨by rfl, rfl⟩) trivial ?_
                  try simp only [Act.put, List.getElem_toArray, List.getElem_cons_zero, List.getElem_cons_succ, List.setIfInBounds_toArray, List.set_cons_zero, List.set_cons_succ]
                  refine wpAnyH_take (i := 7) (v := undef) rfl (by kernel_rfl) (by kernel_rfl) (by kernel_rfl) (fun _ _ _ h => h) (Or.inr ⟨by rfl, rfl⟩) trivial ?_
                  try simp only [Act.put, List.getElem_toArray, List.getElem_cons_zero, List.getElem_cons_succ, List.setIfInBounds_toArray, List.set_cons_zero, List.set_cons_succ]
                  refine wpAnyH_take (i := 8) (v := undef) rfl (by kernel_rfl) (by kernel_rfl) (by kernel_rfl) (fun _ _ _ h => h) (Or.inr ⟨by rfl, rfl⟩) trivial ?_
                  try simp only [Act.put, List.getElem_toArray, List.getElem_cons_zero, List.getElem_cons_succ, List.setIfInBounds_toArray, List.set_cons_zero, List.set_cons_succ]
                  refine wpAnyH_take (i := 9) (v := undef) rfl (by kernel_rfl) (by kernel_rfl) (by kernel_rfl) (fun _ _ _ h => h) (Or.inr ⟨by rfl, rfl⟩) trivial ?_
                  try simp only [Act.put, List.getElem_toArray, List.getElem_cons_zero, List.getElem_cons_succ, List.setIfInBounds_toArray, List.set_cons_zero, List.set_cons_succ]
                  refine wpAnyH_take (i := 10) (v := undef) rfl (by kernel_rfl) (by kernel_rfl) (by kernel_rfl) (fun _ _ _ h => h) (Or.inr ⟨by rfl, rfl⟩) trivial ?_
                  try simp only [Act.put, List.getElem_toArray, List.getElem_cons_zero, List.getElem_cons_succ, List.setIfInBounds_toArray, List.set_cons_zero, List.set_cons_succ]
                  refine wpAnyH_take (i := 11) (v := undef) rfl (by kernel_rfl) (by kernel_rfl) (by kernel_rfl) (fun _ _ _ h => h) (Or.inr ⟨by rfl, rfl⟩) trivial ?_
                  try simp only [Act.put, List.getElem_toArray, List.getElem_cons_zero, List.getElem_cons_succ, List.setIfInBounds_toArray, List.set_cons_zero, List.set_cons_succ]
                  refine wpAnyH_take (i := 12) (v := undef) rfl (by kernel_rfl) (by kernel_rfl) (by kernel_rfl) (fun _ _ _ h => h) (Or.inr ⟨by rfl, rfl⟩) trivial ?_
                  try simp only [Act.put, List.getElem_toArray, List.getElem_cons_zero, List.getElem_cons_succ, List.setIfInBounds_toArray, List.set_cons_zero, List.set_cons_succ]
                  refine wpAnyH_take (i := 13) (v := .bool false) rfl (by kernel_rfl) (by kernel_rfl) (by kernel_rfl) (fun _ _ _ h => h) (Or.inl ⟨by rfl, fun w_ hS_ => by (first | (go_simp; done) | (go_simp; rfl))⟩) trivial ?_
                  try simp only [Act.put, List.getElem_toArray, List.getElem_cons_zero, List.getElem_cons_succ, List.setIfInBounds_toArray, List.set_cons_zero, List.set_cons_succ]
                  refine wpAnyH_done (by kernel_rfl) ?_ _
                  go_wp2_with fail
                  go_roundw
                  case rel => exact ⟨j + 1, (Px.upd A' j (a.prep l'.br l'.bn)), l', by omega, by go_num, HP2, Zc, Zl, hu, HFR2, Zb, ff, ee⟩
                  case measure => simp [intOf]; omega
                | true =>
                  have HPH : Hid ((crC n (Px.upd A' j (a.prep l'.br l'.bn)) (fun j => pv (H j)) S k)[81 + i]? = some (.pointer (some ⟨hh, 0, none⟩))) := by show _ = _; rw [crH n _ _ S k i (by omega)]; show some (pv (H i)) = _; rw [HHI.out]; rfl
                  have HPW := Lib.hid (fun (z : World) (hz : Below B w z) (hb : B ≤ z.heap.size) (hL : LdAt z hh l') (hq : z.ownsRow B 39 16 (.slice l'.A l'.l.length l'.c) l'.l.length (acCells l'.l)) => lpromise_w z B hh l' (j : Int) (a.prep l'.br l'.bn) hL hq hb (by have := HP.out.2.2.2.2.1; omega) (by have := (HP.out.1.ld i hi).pw.1; rwa [updF_same] at this) (fun e => HP.out.2.1 e.1) (Ac.prep_formed (by rw [HA.out]; exact HP.out.1.core.fm j hlt) _ _) (okFlat (by rw [(Px.prep_same _ _ _).2.2.2.2]; exact HFA.out)) (HT.out z hz) (by omega) (by have := (HP.out.1.ld i hi).num; rw [updF_same] at this; omega) (HP.out.2.2.2.2.2 j (Nat.le_refl _)))
                  have Zc : y6.drew.heap[gc]? = some (.cells (crC n (Px.upd A' j (a.prep l'.br l'.bn)) (fun j => pv (H j)) S k).toArray 122) := Zc
                  have Zl : y6.drew.heap[hh]? = some (.cells l'.cells.toArray 144) := Zl
                  have Zb : y6.drew.heap[gb]? = some (.cells [.int .u32 (l'.br : Int), .int .i64 l'.bn].toArray 28) := Zb
                  have Zn : y6.drew.heap[y1.heap.size]? = some (.cells ((a.prep l'.br l'.bn).cells).toArray 39) := Zn
                  have hu := World.ownsRow.drew hu
                  have ee := belowDrewS ee
                  have ff := ogDrew ff
                  refine wp_region_held_drew (S := fun z' => z'.cell? ⟨gc, 81 + i, none⟩ = some (.pointer (some ⟨hh, 0, none⟩)) ∧ z'.rangeAt gb 0 [.int .u32 (l'.br : Int), .int .i64 l'.bn] ∧ z'.rangeAt (y1.heap.size) 0 (a.prep l'.br l'.bn).cells) (by kernel_rfl) ⟨rowCell Zc (81 + i) HPH.out, rowAt Zb, rowAt Zn⟩ (fun hH => ?_)
                  clear hH
                  generalize y6.drew = y7 at Zc Zl Zb Zn hu ee ff ⊢
                  refine wpAnyH_take (i := 0) (v := .bool true) rfl (by kernel_rfl) (by kernel_rfl) (by kernel_rfl) (fun _ _ _ h => h) (Or.inl ⟨by rfl, fun w_ hS_ => by (first | (go_simp; done) | (go_simp; rfl))⟩) ⟨rowCell Zc (81 + i) HPH.out, rowAt Zb, rowAt Zn⟩ ?_
                  try simp only [Act.put, List.getElem_toArray, List.getElem_cons_zero, List.getElem_cons_succ, List.setIfInBounds_toArray, List.set_cons_zero, List.set_cons_succ]
                  refine wpAnyH_take (i := 1) (v := .bool true) rfl (by kernel_rfl) (by kernel_rfl) (by kernel_rfl) (fun _ _ _ h => h) (Or.inl ⟨by rfl, fun w_ hS_ => by (first | (go_simp; done) | (go_simp; rfl))⟩) ⟨rowCell Zc (81 + i) HPH.out, rowAt Zb, rowAt Zn⟩ ?_
                  try simp only [Act.put, List.getElem_toArray, List.getElem_cons_zero, List.getElem_cons_succ, List.setIfInBounds_toArray, List.set_cons_zero, List.set_cons_succ]
                  refine wpAnyH_take (i := 2) (v := .pointer (some ⟨gc, 0, none⟩)) rfl (by kernel_rfl) (by kernel_rfl) (by kernel_rfl) (fun _ _ _ h => h) (Or.inl ⟨by rfl, fun w_ hS_ => by (first | (go_simp; done) | (go_simp; rfl))⟩) ⟨rowCell Zc (81 + i) HPH.out, rowAt Zb, rowAt Zn⟩ ?_
                  try simp only [Act.put, List.getElem_toArray, List.getElem_cons_zero, List.getElem_cons_succ, List.setIfInBounds_toArray, List.set_cons_zero, List.set_cons_succ]
                  refine wpAnyH_take (i := 3) (v := .int .i64 (i : Int)) rfl (by kernel_rfl) (by kernel_rfl) (by kernel_rfl) (fun _ _ _ h => h) (Or.inl ⟨by rfl, fun w_ hS_ => by (first | (go_simp; done) | (go_simp; rfl))⟩) ⟨rowCell Zc (81 + i) HPH.out, rowAt Zb, rowAt Zn⟩ ?_
                  try simp only [Act.put, List.getElem_toArray, List.getElem_cons_zero, List.getElem_cons_succ, List.setIfInBounds_toArray, List.set_cons_zero, List.set_cons_succ]
                  refine wpAnyH_take (i := 4) (v := .pointer (some ⟨gc, 0, none⟩)) rfl (by kernel_rfl) (by kernel_rfl) (by kernel_rfl) (fun _ _ _ h => h) (Or.inl ⟨by rfl, fun w_ hS_ => by (first | (go_simp; done) | (go_simp; rfl))⟩) ⟨rowCell Zc (81 + i) HPH.out, rowAt Zb, rowAt Zn⟩ ?_
                  try simp only [Act.put, List.getElem_toArray, List.getElem_cons_zero, List.getElem_cons_succ, List.setIfInBounds_toArray, List.set_cons_zero, List.set_cons_succ]
                  refine wpAnyH_take (i := 5) (v := .pointer (some ⟨gc, 81, none⟩)) rfl (by kernel_rfl) (by kernel_rfl) (by kernel_rfl) (fun _ _ _ h => h) (Or.inl ⟨by rfl, fun w_ hS_ => by (first | (go_simp; done) | (go_simp; rfl))⟩) ⟨rowCell Zc (81 + i) HPH.out, rowAt Zb, rowAt Zn⟩ ?_
                  try simp only [Act.put, List.getElem_toArray, List.getElem_cons_zero, List.getElem_cons_succ, List.setIfInBounds_toArray, List.set_cons_zero, List.set_cons_succ]
                  refine wpAnyH_take (i := 6) (v := .pointer (some ⟨gc, 81 + i, none⟩)) rfl (by kernel_rfl) (by kernel_rfl) (by kernel_rfl) (fun _ _ _ h => h) (Or.inl ⟨by rfl, fun w_ hS_ => by (first | (go_simp; done) | (go_simp; rfl))⟩) ⟨rowCell Zc (81 + i) HPH.out, rowAt Zb, rowAt Zn⟩ ?_
                  try simp only [Act.put, List.getElem_toArray, List.getElem_cons_zero, List.getElem_cons_succ, List.setIfInBounds_toArray, List.set_cons_zero, List.set_cons_succ]
                  refine wpAnyH_take (i := 7) (v := .pointer (some ⟨hh, 0, none⟩)) rfl (by kernel_rfl) (by kernel_rfl) (by kernel_rfl) (fun _ _ _ h => h) (Or.inl ⟨by rfl, fun w_ hS_ => by (have c_ := hS_.1; go_simp)⟩) ⟨rowCell Zc (81 + i) HPH.out, rowAt Zb, rowAt Zn⟩ ?_
                  try simp only [Act.put, List.getElem_toArray, List.getElem_cons_zero, List.getElem_cons_succ, List.setIfInBounds_toArray, List.set_cons_zero, List.set_cons_succ]
                  refine wpAnyH_take (i := 8) (v := .int .i64 (j : Int)) rfl (by kernel_rfl) (by kernel_rfl) (by kernel_rfl) (fun _ _ _ h => h) (Or.inl ⟨by rfl, fun w_ hS_ => by (first | (go_simp; done) | (go_simp; rfl))⟩) ⟨rowCell Zc (81 + i) HPH.out, rowAt Zb, rowAt Zn⟩ ?_
                  try simp only [Act.put, List.getElem_toArray, List.getElem_cons_zero, List.getElem_cons_succ, List.setIfInBounds_toArray, List.set_cons_zero, List.set_cons_succ]
                  refine wpAnyH_take (i := 9) (v := .agg ([.int .u32 (l'.br : Int), .int .i64 l'.bn]).toArray) rfl (by kernel_rfl) (by kernel_rfl) (by kernel_rfl) (fun _ _ _ h => h) (yieldsIf_load_mid (by rfl) 28 _ rfl (gb) (0) rfl ([.int .u32 (l'.br : Int), .int .i64 l'.bn]) _ (fun _ h => h.2.1) Tryd.underlying28 rfl sizeBal) ⟨rowCell Zc (81 + i) HPH.out, rowAt Zb, rowAt Zn⟩ ?_
                  try simp only [Act.put, List.getElem_toArray, List.getElem_cons_zero, List.getElem_cons_succ, List.setIfInBounds_toArray, List.set_cons_zero, List.set_cons_succ]
                  refine wpAnyH_take (i := 10) (v := .agg (((a.prep l'.br l'.bn).cells)).toArray) rfl (by kernel_rfl) (by kernel_rfl) (by kernel_rfl) (fun _ _ _ h => h) (yieldsIf_load_mid (by rfl) 39 _ rfl (y1.heap.size) (0) rfl (((a.prep l'.br l'.bn).cells)) _ (fun _ h => h.2.2) Tryd.underlying39 rfl sizeAc) ⟨rowCell Zc (81 + i) HPH.out, rowAt Zb, rowAt Zn⟩ ?_
                  try simp only [Act.put, List.getElem_toArray, List.getElem_cons_zero, List.getElem_cons_succ, List.setIfInBounds_toArray, List.set_cons_zero, List.set_cons_succ]
                  refine wpAnyH_ready (rs := [11]) (by kernel_rfl) (by simp) ?_
                  refine AllReadyH.cons rfl (fun K hK => ?_) AllReadyH.nil
                  rw [if_pos (by rfl)]
                  go_simp
                  go_wp2_with (go_at_call 36; refine (HPW.out y7 ee (Nat.le_trans hB ee.size) Zl hu).mono ?_; rintro e y8 ⟨rfl, A9, c9, Zm_, hu9, hw9, t_⟩)
                  have hnc : ∀ b_, b_ = hh ∨ (Value.slice l'.A l'.l.length l'.c).ownBlock = some b_ → b_ = hh ∨ w.heap.size ≤ b_ := fun b_ e_ => e_.imp id (fun e_ => HFR.out b_ e_)
                  have szz_ := ee.size
                  have Zc := (t_.2 gc (Array.getElem?_eq_some_iff.1 Zc).1 (fun e_ => by have := hnc _ e_; omega)).trans Zc
                  have Zb := (t_.2 gb (Array.getElem?_eq_some_iff.1 Zb).1 (fun e_ => e_.elim (fun q_ => by omega) (fun q_ => lgKind hu Zb (by decide) q_))).trans Zb
                  have Zn := (t_.2 (y1.heap.size) (Array.getElem?_eq_some_iff.1 Zn).1 (fun e_ => e_.elim (fun q_ => by omega) (fun q_ => ne_hu_Zn q_))).trans Zn
                  have HFR3 : Hid (∀ g, (Value.slice A9 (l'.l ++ [(a.prep l'.br l'.bn)]).length c9).ownBlock = some g → w.heap.size ≤ g) := fun g hg => by
                    rcases hw9 with q_ | q_
                    · exact HFR.out g (by rw [← q_]; exact hg)
                    · have := q_ g hg; have := ff.size; omega
                  have ff := ogTrans ff (Q := fun b => b = hh ∨ (Value.slice l'.A l'.l.length l'.c).ownBlock = some b) t_ (fun b_ e_ => (hnc b_ e_).imp (fun q_ => Or.inr q_) id)
                  have ee := ee.trans (OgF.toBelow (B := B) (P := fun b => b = hh ∨ (Value.slice l'.A l'.l.length l'.c).ownBlock = some b) t_ (fun b_ e_ => by have := hnc b_ e_; omega) (Nat.le_trans hB ee.size))
                  clear Zl hu hnc hw9 t_
                  have Zl : y8.heap[hh]? = some (.cells (promised l' j (a.prep l'.br l'.bn) A9 c9).cells.toArray 144) := Zm_
                  have hu := hu9
                  clear Zm_ hu9
                  refine hK.out _ _ ⟨rowCell Zc (81 + i) HPH.out, rowAt Zb, rowAt Zn⟩ (fun hH => ?_)
                  clear hK K hH
                  try simp only [Act.put, List.getElem_toArray, List.getElem_cons_zero, List.getElem_cons_succ, List.setIfInBounds_toArray, List.set_cons_zero, List.set_cons_succ]
                  refine wpAnyH_take (i := 12) (v := .bool false) rfl (by kernel_rfl) (by kernel_rfl) (by kernel_rfl) (fun _ _ _ h => h) (Or.inl ⟨by rfl, fun w_ hS_ => by (first | (go_simp; done) | (go_simp; rfl))⟩) ⟨rowCell Zc (81 + i) HPH.out, rowAt Zb, rowAt Zn⟩ ?_
                  try simp only [Act.put, List.getElem_toArray, List.getElem_cons_zero, List.getElem_cons_succ, List.setIfInBounds_toArray, List.set_cons_zero, List.set_cons_succ]
                  refine wpAnyH_take (i := 13) (v := .bool false) rfl (by kernel_rfl) (by kernel_rfl) (by kernel_rfl) (fun _ _ _ h => h) (Or.inl ⟨by rfl, fun w_ hS_ => by (first | (go_simp; done) | (go_simp; rfl))⟩) ⟨rowCell Zc (81 + i) HPH.out, rowAt Zb, rowAt Zn⟩ ?_
                  try simp only [Act.put, List.getElem_toArray, List.getElem_cons_zero, List.getElem_cons_succ, List.setIfInBounds_toArray, List.set_cons_zero, List.set_cons_succ]
                  refine wpAnyH_done (by kernel_rfl) ?_ _
                  have HP2 : Hid (Cinv n (t + 1) (Px.upd A' j (a.prep l'.br l'.bn)) (updF L i (promised l' j (a.prep l'.br l'.bn) A9 c9)) X P V ∧ (promised l' j (a.prep l'.br l'.bn) A9 c9).br ≠ 0 ∧ (promised l' j (a.prep l'.br l'.bn) A9 c9).sl = 0 ∧ ((promised l' j (a.prep l'.br l'.bn) A9 c9).l = [] → (promised l' j (a.prep l'.br l'.bn) A9 c9).fs = 0) ∧ (promised l' j (a.prep l'.br l'.bn) A9 c9).l.length ≤ j + 1 ∧ ∀ q : Nat, j + 1 ≤ q → Q.hasB (promised l' j (a.prep l'.br l'.bn) A9 c9).pr (q : Int) = false) := by
                    obtain ⟨p1, p2, p3, p4, p5, p6⟩ := HP.out
                    have hq := p1.promise h5 hi hlt (by rw [updF_same]; exact p2) (by rw [updF_same]; exact p3) (by rw [updF_same]; exact p4) (by rw [updF_same]; omega) (by rw [updF_same, ← HA.out]; exact HM.out) A9 c9
                    rw [updF_same, updF_updF, ← HA.out] at hq
                    refine ⟨hq, p2, p3, fun e_ => by simp [promised] at e_, ?_, fun q hq => ?_⟩
                    · show (l'.l ++ [(a.prep l'.br l'.bn)]).length ≤ j + 1
                      simp; omega
                    · show Q.hasB (Q.addN l'.pr (j : Int)) (q : Int) = false
                      rw [has_add _ _ _ (by omega), p6 q (by omega), decide_eq_false (by omega)]; rfl
                  have HFR2 := HFR3
                  go_wp2_with fail
                  go_roundw
                  case rel => exact ⟨j + 1, (Px.upd A' j (a.prep l'.br l'.bn)), promised l' j (a.prep l'.br l'.bn) A9 c9, by omega, by go_num, HP2, Zc, Zl, hu, HFR2, Zb, ff, ee⟩
                  case measure => simp [intOf]; omega
          · go_wp2_with fail
            go_ret
            exact ⟨rfl, ⟨A', l', HMV.out _ l' A' ff Zc Zl hu HFR.out, HP.out.1⟩, ee⟩
      · rw [if_pos (by rfl)]
        go_simp
        have lZc := (Array.getElem?_eq_some_iff.1 Zc).1
        have lZl := (Array.getElem?_eq_some_iff.1 Zl).1
        have lZq := (Array.getElem?_eq_some_iff.1 Zq).1
        have sz_ := ff.size
        have Zc := hpA Zc (.cells #[.int .u32 0, .int .i64 0] 28)
        have Zl := hpA Zl (.cells #[.int .u32 0, .int .i64 0] 28)
        have Zq := hpA Zq (.cells #[.int .u32 0, .int .i64 0] 28)
        have ee := ee.alloc (Nat.le_trans hB ee.size) (.cells #[.int .u32 0, .int .i64 0] 28)
        have ff := ogAlloc ff (.cells #[.int .u32 0, .int .i64 0] 28)
        have Zb := hpN x1 (.cells #[.int .u32 0, .int .i64 0] 28) rfl
        generalize x1.alloc (.cells #[.int .u32 0, .int .i64 0] 28) = x2 at Zc Zl Zq Zb ee ff ⊢
        refine hK.out _ _ ⟨rowAt Zq, rowCell Zc (81 + i) HPH.out⟩ (fun hH => ?_)
        clear hK K hH
        try simp only [Act.put, List.getElem_toArray, List.getElem_cons_zero, List.getElem_cons_succ, List.setIfInBounds_toArray, List.set_cons_zero, List.set_cons_succ]
        refine wpAnyH_ready (rs := [7]) (by kernel_rfl) (by simp) ?_
        refine AllReadyH.cons rfl (fun K hK => ?_) AllReadyH.nil
        rw [if_pos (by rfl)]
        go_simp
        go_wp2_with (go_at_call 35; refine (HLB.out x2 Zl).mono ?_; rintro e x3 ⟨rfl, Zm_, t_⟩)
        have Zc := ogHeapG Zc t_ hgh
        have Zq := ogHeapG Zq t_ (by omega)
        have Zb := ogHeapG Zb t_ (by omega)
        have ff := ogGrown ff t_ (Or.inl (Or.inr rfl))
        have ee := ee.grown t_ (Nat.le_trans hB ee.size) (fun g_ e_ => by injection e_ with e_; omega)
        clear Zl t_
        have Zl : x3.heap[hh]? = some (.cells (Ag.begun n i br).cells.toArray 144) := Zm_
        clear Zm_
        refine hK.out _ _ ⟨rowAt Zq, rowCell Zc (81 + i) HPH.out⟩ (fun hH => ?_)
        clear hK K hH
        try simp only [Act.put, List.getElem_toArray, List.getElem_cons_zero, List.getElem_cons_succ, List.setIfInBounds_toArray, List.set_cons_zero, List.set_cons_succ]
        refine wpAnyH_take (i := 8) (v := .tuple #[.agg [.int .u32 (br : Int), .int .i64 (i : Int)].toArray, .int .i64 0]) rfl (by kernel_rfl) (by kernel_rfl) (by kernel_rfl) (fun _ _ _ h => h) (Or.inl ⟨by rfl, fun w_ hS_ => by (first | (go_simp; done) | (go_simp; rfl))⟩) ⟨rowAt Zq, rowCell Zc (81 + i) HPH.out⟩ ?_
        try simp only [Act.put, List.getElem_toArray, List.getElem_cons_zero, List.getElem_cons_succ, List.setIfInBounds_toArray, List.set_cons_zero, List.set_cons_succ]
        refine wpAnyH_take (i := 9) (v := .agg [.int .u32 (br : Int), .int .i64 (i : Int)].toArray) rfl (by kernel_rfl) (by kernel_rfl) (by kernel_rfl) (fun _ _ _ h => h) (Or.inl ⟨by rfl, fun w_ hS_ => by (first | (go_simp; done) | (go_simp; rfl))⟩) ⟨rowAt Zq, rowCell Zc (81 + i) HPH.out⟩ ?_
        try simp only [Act.put, List.getElem_toArray, List.getElem_cons_zero, List.getElem_cons_succ, List.setIfInBounds_toArray, List.set_cons_zero, List.set_cons_succ]
        refine wpAnyH_take (i := 10) (v := .int .i64 0) rfl (by kernel_rfl) (by kernel_rfl) (by kernel_rfl) (fun _ _ _ h => h) (Or.inl ⟨by rfl, fun w_ hS_ => by (first | (go_simp; done) | (go_simp; rfl))⟩) ⟨rowAt Zq, rowCell Zc (81 + i) HPH.out⟩ ?_
        try simp only [Act.put, List.getElem_toArray, List.getElem_cons_zero, List.getElem_cons_succ, List.setIfInBounds_toArray, List.set_cons_zero, List.set_cons_succ]
        refine wpAnyH_ready (rs := [12]) (by kernel_rfl) (by simp) ?_
        refine AllReadyH.cons rfl (fun K hK => ?_) AllReadyH.nil
        rw [if_pos (by rfl)]
        refine wp_store_row 28 _ _ rfl (x1.heap.size) ([.int .u32 (br : Int), .int .i64 (i : Int)]).toArray rfl rfl 28 _ Zb sizeBal (by rfl) (by simp [Value.oneCell']) ?_
        have N_ := setRow_heap x3 (x1.heap.size) _ ([.int .u32 (br : Int), .int .i64 (i : Int)]).toArray _ _ Zb
        have ee := belowSet (cs := ([.int .u32 (br : Int), .int .i64 (i : Int)]).toArray) ee Zb (by omega)
        have ff := ogRow (cs := ([.int .u32 (br : Int), .int .i64 (i : Int)]).toArray) (by first | (right; omega) | exact Or.inl (Or.inl rfl) | exact Or.inl (Or.inr rfl)) Zb ff
        have Zc := hpR Zc (g' := x1.heap.size) (by omega) ([.int .u32 (br : Int), .int .i64 (i : Int)]).toArray
        have Zl := hpR Zl (g' := x1.heap.size) (by omega) ([.int .u32 (br : Int), .int .i64 (i : Int)]).toArray
        have Zq := hpR Zq (g' := x1.heap.size) (by omega) ([.int .u32 (br : Int), .int .i64 (i : Int)]).toArray
        clear Zb
        have Zb := N_
        clear N_
        generalize x3.setRow (x1.heap.size) ([.int .u32 (br : Int), .int .i64 (i : Int)]).toArray = x4 at Zc Zl Zq Zb ee ff ⊢
        refine hK.out _ _ ⟨rowAt Zq, rowCell Zc (81 + i) HPH.out⟩ (fun hH => ?_)
        clear hK K hH
        try simp only [Act.put, List.getElem_toArray, List.getElem_cons_zero, List.getElem_cons_succ, List.setIfInBounds_toArray, List.set_cons_zero, List.set_cons_succ]
        refine wpAnyH_take (i := 13) (v := .int .i64 0) rfl (by kernel_rfl) (by kernel_rfl) (by kernel_rfl) (fun _ _ _ h => h) (Or.inl ⟨by rfl, fun w_ hS_ => by (first | (go_simp; done) | (go_simp; rfl))⟩) ⟨rowAt Zq, rowCell Zc (81 + i) HPH.out⟩ ?_
        try simp only [Act.put, List.getElem_toArray, List.getElem_cons_zero, List.getElem_cons_succ, List.setIfInBounds_toArray, List.set_cons_zero, List.set_cons_succ]
        refine wpAnyH_done (by kernel_rfl) ?_ _
        clear HLB HPH
        obtain ⟨gb, hg_gb⟩ : ∃ g_, g_ = x1.heap.size := ⟨_, rfl⟩
        have hwgb : w.heap.size ≤ gb := by omega
        rw [← hg_gb] at Zb ⊢
        clear hg_gb
        have hu : x4.ownsRow B 39 16 (.slice none 0 0) 0 (acCells []) := World.ownsRow_nil _ _ _ _
        go_upto_region 10 with fail
        go_wp2_with fail
        go_loopw [11] (fun u wr => ∃ (j : Nat) (A' : Nat → Ac) (l' : Ld), j ≤ n ∧ u = .int .i64 (j : Int) ∧ Hid (Cinv n (t + 1) A' (updF L i l') X P V ∧ l'.br ≠ 0 ∧ l'.sl = 0 ∧ (l'.l = [] → l'.fs = 0) ∧ l'.l.length ≤ j ∧ ∀ q : Nat, j ≤ q → Q.hasB l'.pr (q : Int) = false) ∧ Hid (wr.heap[gc]? = some (.cells (crC n A' (fun j => pv (H j)) S k).toArray 122 (0, 0))) ∧ Hid (wr.heap[hh]? = some (.cells l'.cells.toArray 144 (0, 0))) ∧ Hid (wr.ownsRow B 39 16 (.slice l'.A l'.l.length l'.c) l'.l.length (acCells l'.l)) ∧ Hid (∀ g, (Value.slice l'.A l'.l.length l'.c).ownBlock = some g → w.heap.size ≤ g) ∧ Hid (wr.heap[gb]? = some (.cells [.int .u32 (l'.br : Int), .int .i64 l'.bn].toArray 28 (0, 0))) ∧ Hid (OgF w wr (fun b => b = gc ∨ b = hh)) ∧ Hid (Below B w wr)) (fun u _ => n - (intOf u).toNat)
        case atStart => exact ⟨0, A, Ag.begun n i br, Nat.zero_le _, rfl, ⟨HCI.out, (by show br ≠ 0; omega), rfl, fun _ => rfl, Nat.le_refl _, fun q _ => has0 q⟩, Zc, Zl, hu, (fun g hg => by cases hg), Zb, ff, ee⟩
        case round =>
          clear Zc Zl hu Zb ff ee HCI Zq
          obtain ⟨j, A', l', hj, rfl, HP, Zc, Zl, hu, HFR, Zb, ff, ee⟩ := hrel
          have Zc := Zc.out
          have Zl := Zl.out
          have hu := hu.out
          have Zb := Zb.out
          have ff := ff.out
          have ee := ee.out
          have cn := rowCell Zc 0 (v := .int .i64 (n : Int)) rfl
          by_cases hlt : j < n
          · have hj0 : (0 : Int) ≤ (j : Int) := by omega
            have hj5 : (j : Int) < 5 := by omega
            have HBT := Lib.hid (bit8one m j hm)
            cases hb : tb3 m j with
            | false =>
              have hx : (bits BinOp.and IntKind.u8 ((m : Int) / 2 ^ j) 1 == 1) = false := by rw [HBT.out]; exact hb
              clear hb HBT
              have HP2 : Hid (Cinv n (t + 1) A' (updF L i l') X P V ∧ l'.br ≠ 0 ∧ l'.sl = 0 ∧ (l'.l = [] → l'.fs = 0) ∧ l'.l.length ≤ j + 1 ∧ ∀ q : Nat, j + 1 ≤ q → Q.hasB l'.pr (q : Int) = false) := by
                obtain ⟨p1, p2, p3, p4, p5, p6⟩ := HP.out
                exact ⟨p1, p2, p3, p4, by omega, fun q hq => p6 q (by omega)⟩
              go_wp2_with fail
              go_roundw
              case rel => exact ⟨j + 1, A', l', by omega, by go_num, HP2, Zc, Zl, hu, HFR, Zb, ff, ee⟩
              case measure => simp [intOf]; omega
            | true =>
              have hx : (bits BinOp.and IntKind.u8 ((m : Int) / 2 ^ j) 1 == 1) = true := by rw [HBT.out]; exact hb
              clear hb HBT
              go_upto_region 13 with fail
              clear hx cn
              obtain ⟨a, ha⟩ : ∃ a, a = A' j := ⟨_, rfl⟩
              have HA := Lib.hid ha
              have HRA := Lib.hid (crA n A' (fun j => pv (H j)) S k j (by omega))
              rw [← ha] at HRA
              have HFA : Hid (flatC a.c) := by show flatC a.c; rw [ha]; exact (HP.out.1.ac j hlt).1
              have HPU := Lib.hid (crPutA n A' (fun j => pv (H j)) S k j (by omega) (a.prep l'.br l'.bn))
              clear ha
              have HPC := Lib.hid (fun z (hz : Below B w z) => c_prep a l'.br l'.bn z z.heap.size (Nat.le_refl _) (okFlat HFA.out) (HT.out z hz))
              have Zc : wr.drew.heap[gc]? = some (.cells (crC n A' (fun j => pv (H j)) S k).toArray 122) := Zc
              have Zl : wr.drew.heap[hh]? = some (.cells l'.cells.toArray 144) := Zl
              have Zb : wr.drew.heap[gb]? = some (.cells [.int .u32 (l'.br : Int), .int .i64 l'.bn].toArray 28) := Zb
              have hu := World.ownsRow.drew hu
              have ee := belowDrewS ee
              have ff := ogDrew ff
              refine wp_region_held_drew (S := fun z' => z'.rangeAt gc (1 + j * 16) a.cells ∧ z'.rangeAt gb 0 [.int .u32 (l'.br : Int), .int .i64 l'.bn]) (by kernel_rfl) ⟨rowMid Zc (1 + j * 16) HRA.out, rowAt Zb⟩ (fun hH => ?_)
              clear hH
              generalize wr.drew = y1 at Zc Zl Zb hu ee ff ⊢
              refine wpAnyH_take (i := 0) (v := .pointer (some ⟨gc, 0, none⟩)) rfl (by kernel_rfl) (by kernel_rfl) (by kernel_rfl) (fun _ _ _ h => h) (Or.inl ⟨by rfl, fun w_ hS_ => by (first | (go_simp; done) | (go_simp; rfl))⟩) ⟨rowMid Zc (1 + j * 16) HRA.out, rowAt Zb⟩ ?_
              try simp only [Act.put, List.getElem_toArray, List.getElem_cons_zero, List.getElem_cons_succ, List.setIfInBounds_toArray, List.set_cons_zero, List.set_cons_succ]
              refine wpAnyH_take (i := 1) (v := .int .i64 (j : Int)) rfl (by kernel_rfl) (by kernel_rfl) (by kernel_rfl) (fun _ _ _ h => h) (Or.inl ⟨by rfl, fun w_ hS_ => by (first | (go_simp; done) | (go_simp; rfl))⟩) ⟨rowMid Zc (1 + j * 16) HRA.out, rowAt Zb⟩ ?_
              try simp only [Act.put, List.getElem_toArray, List.getElem_cons_zero, List.getElem_cons_succ, List.setIfInBounds_toArray, List.set_cons_zero, List.set_cons_succ]
              refine wpAnyH_take (i := 2) (v := .pointer (some ⟨gc, 0, none⟩)) rfl (by kernel_rfl) (by kernel_rfl) (by kernel_rfl) (fun _ _ _ h => h) (Or.inl ⟨by rfl, fun w_ hS_ => by (first | (go_simp; done) | (go_simp; rfl))⟩) ⟨rowMid Zc (1 + j * 16) HRA.out, rowAt Zb⟩ ?_
              try simp only [Act.put, List.getElem_toArray, List.getElem_cons_zero, List.getElem_cons_succ, List.setIfInBounds_toArray, List.set_cons_zero, List.set_cons_succ]
              refine wpAnyH_take (i := 3) (v := .pointer (some ⟨gc, 1, none⟩)) rfl (by kernel_rfl) (by kernel_rfl) (by kernel_rfl) (fun _ _ _ h => h) (Or.inl ⟨by rfl, fun w_ hS_ => by (first | (go_simp; done) | (go_simp; rfl))⟩) ⟨rowMid Zc (1 + j * 16) HRA.out, rowAt Zb⟩ ?_
              try simp only [Act.put, List.getElem_toArray, List.getElem_cons_zero, List.getElem_cons_succ, List.setIfInBounds_toArray, List.set_cons_zero, List.set_cons_succ]
              refine wpAnyH_take (i := 4) (v := .pointer (some ⟨gc, 1 + j * 16, none⟩)) rfl (by kernel_rfl) (by kernel_rfl) (by kernel_rfl) (fun _ _ _ h => h) (Or.inl ⟨by rfl, fun w_ hS_ => by (first | (go_simp; done) | (go_simp; rfl))⟩) ⟨rowMid Zc (1 + j * 16) HRA.out, rowAt Zb⟩ ?_
              try simp only [Act.put, List.getElem_toArray, List.getElem_cons_zero, List.getElem_cons_succ, List.setIfInBounds_toArray, List.set_cons_zero, List.set_cons_succ]
              refine wpAnyH_take (i := 5) (v := .agg (a.cells).toArray) rfl (by kernel_rfl) (by kernel_rfl) (by kernel_rfl) (fun _ _ _ h => h) (yieldsIf_load_mid (by rfl) 39 _ rfl (gc) (1 + j * 16) rfl (a.cells) _ (fun _ h => h.1) Tryd.underlying39 rfl sizeAc) ⟨rowMid Zc (1 + j * 16) HRA.out, rowAt Zb⟩ ?_
              try simp only [Act.put, List.getElem_toArray, List.getElem_cons_zero, List.getElem_cons_succ, List.setIfInBounds_toArray, List.set_cons_zero, List.set_cons_succ]
              refine wpAnyH_take (i := 6) (v := .agg ([.int .u32 (l'.br : Int), .int .i64 l'.bn]).toArray) rfl (by kernel_rfl) (by kernel_rfl) (by kernel_rfl) (fun _ _ _ h => h) (yieldsIf_load_mid (by rfl) 28 _ rfl (gb) (0) rfl ([.int .u32 (l'.br : Int), .int .i64 l'.bn]) _ (fun _ h => h.2) Tryd.underlying28 rfl sizeBal) ⟨rowMid Zc (1 + j * 16) HRA.out, rowAt Zb⟩ ?_
              try simp only [Act.put, List.getElem_toArray, List.getElem_cons_zero, List.getElem_cons_succ, List.setIfInBounds_toArray, List.set_cons_zero, List.set_cons_succ]
              refine wpAnyH_ready (rs := [7, 11]) (by kernel_rfl) (by simp) ?_
              refine AllReadyH.cons rfl (fun K hK => ?_) (AllReadyH.cons rfl (fun K hK => ?_) AllReadyH.nil)
              · rw [if_pos (by rfl)]
                go_simp
                go_wp2_with (go_at_call 65; refine (HPC.out y1 ee).mono ?_; rintro e y2 ⟨rfl, t⟩)
                have Zc := hpB Zc t
                have Zl := hpB Zl t
                have Zb := hpB Zb t
                have hu := ownBelow hu t
                have ee := ee.trans (t.mono (Nat.le_trans hB ee.size))
                have ff := ogBelow ff t
                clear t
                refine hK.out _ _ ⟨rowMid Zc (1 + j * 16) HRA.out, rowAt Zb⟩ (fun hH => ?_)
                clear hK K hH
                try simp only [Act.put, List.getElem_toArray, List.getElem_cons_zero, List.getElem_cons_succ, List.setIfInBounds_toArray, List.set_cons_zero, List.set_cons_succ]
                refine wpAnyH_take (i := 8) (v := .tuple #[.agg (a.prep l'.br l'.bn).cells.toArray, .bool (a.may l'.br l'.bn)]) rfl (by kernel_rfl) (by kernel_rfl) (by kernel_rfl) (fun _ _ _ h => h) (Or.inl ⟨by rfl, fun w_ hS_ => by (first | (go_simp; done) | (go_simp; rfl))⟩) ⟨rowMid Zc (1 + j * 16) HRA.out, rowAt Zb⟩ ?_
                try simp only [Act.put, List.getElem_toArray, List.getElem_cons_zero, List.getElem_cons_succ, List.setIfInBounds_toArray, List.set_cons_zero, List.set_cons_succ]
                refine wpAnyH_take (i := 9) (v := .agg (a.prep l'.br l'.bn).cells.toArray) rfl (by kernel_rfl) (by kernel_rfl) (by kernel_rfl) (fun _ _ _ h => h) (Or.inl ⟨by rfl, fun w_ hS_ => by (first | (go_simp; done) | (go_simp; rfl))⟩) ⟨rowMid Zc (1 + j * 16) HRA.out, rowAt Zb⟩ ?_
                try simp only [Act.put, List.getElem_toArray, List.getElem_cons_zero, List.getElem_cons_succ, List.setIfInBounds_toArray, List.set_cons_zero, List.set_cons_succ]
                refine wpAnyH_take (i := 10) (v := .bool (a.may l'.br l'.bn)) rfl (by kernel_rfl) (by kernel_rfl) (by kernel_rfl) (fun _ _ _ h => h) (Or.inl ⟨by rfl, fun w_ hS_ => by (first | (go_simp; done) | (go_simp; rfl))⟩) ⟨rowMid Zc (1 + j * 16) HRA.out, rowAt Zb⟩ ?_
                try simp only [Act.put, List.getElem_toArray, List.getElem_cons_zero, List.getElem_cons_succ, List.setIfInBounds_toArray, List.set_cons_zero, List.set_cons_succ]
                refine wpAnyH_ready (rs := [11]) (by kernel_rfl) (by simp) ?_
                refine AllReadyH.cons rfl (fun K hK => ?_) AllReadyH.nil
                rw [if_pos (by rfl)]
                go_simp
                have lZc := (Array.getElem?_eq_some_iff.1 Zc).1
                have lZl := (Array.getElem?_eq_some_iff.1 Zl).1
                have lZb := (Array.getElem?_eq_some_iff.1 Zb).1
                have sz_ := ff.size
                have ne_hu_Zn : (Value.slice l'.A l'.l.length l'.c).ownBlock ≠ some (y2.heap.size) := fun hb_ => by have hh_ := (hu.lt _ hb_).2; omega
                have Zc := hpA Zc (.cells #[.int .u32 0, .int .i64 0, .int .i64 0, .bool false, .int .u32 0, .int .i64 0, .int .i64 0, .int .i64 0, .int .i64 0, .slice none 0 0, .slice none 0 0, .int .i64 0, .int .i64 0, .int .i64 0, .int .u64 0, .bool false] 39)
                have Zl := hpA Zl (.cells #[.int .u32 0, .int .i64 0, .int .i64 0, .bool false, .int .u32 0, .int .i64 0, .int .i64 0, .int .i64 0, .int .i64 0, .slice none 0 0, .slice none 0 0, .int .i64 0, .int .i64 0, .int .i64 0, .int .u64 0, .bool false] 39)
                have Zb := hpA Zb (.cells #[.int .u32 0, .int .i64 0, .int .i64 0, .bool false, .int .u32 0, .int .i64 0, .int .i64 0, .int .i64 0, .int .i64 0, .slice none 0 0, .slice none 0 0, .int .i64 0, .int .i64 0, .int .i64 0, .int .u64 0, .bool false] 39)
                have hu := hu.alloc (.cells #[.int .u32 0, .int .i64 0, .int .i64 0, .bool false, .int .u32 0, .int .i64 0, .int .i64 0, .int .i64 0, .int .i64 0, .slice none 0 0, .slice none 0 0, .int .i64 0, .int .i64 0, .int .i64 0, .int .u64 0, .bool false] 39)
                have ee := ee.alloc (Nat.le_trans hB ee.size) (.cells #[.int .u32 0, .int .i64 0, .int .i64 0, .bool false, .int .u32 0, .int .i64 0, .int .i64 0, .int .i64 0, .int .i64 0, .slice none 0 0, .slice none 0 0, .int .i64 0, .int .i64 0, .int .i64 0, .int .u64 0, .bool false] 39)
                have ff := ogAlloc ff (.cells #[.int .u32 0, .int .i64 0, .int .i64 0, .bool false, .int .u32 0, .int .i64 0, .int .i64 0, .int .i64 0, .int .i64 0, .slice none 0 0, .slice none 0 0, .int .i64 0, .int .i64 0, .int .i64 0, .int .u64 0, .bool false] 39)
                have Zn := hpN y2 (.cells #[.int .u32 0, .int .i64 0, .int .i64 0, .bool false, .int .u32 0, .int .i64 0, .int .i64 0, .int .i64 0, .int .i64 0, .slice none 0 0, .slice none 0 0, .int .i64 0, .int .i64 0, .int .i64 0, .int .u64 0, .bool false] 39) rfl
                generalize y2.alloc (.cells #[.int .u32 0, .int .i64 0, .int .i64 0, .bool false, .int .u32 0, .int .i64 0, .int .i64 0, .int .i64 0, .int .i64 0, .slice none 0 0, .slice none 0 0, .int .i64 0, .int .i64 0, .int .i64 0, .int .u64 0, .bool false] 39) = y3 at Zc Zl Zb Zn hu ee ff ⊢
                refine hK.out _ _ ⟨rowMid Zc (1 + j * 16) HRA.out, rowAt Zb⟩ (fun hH => ?_)
                clear hK K hH
                try simp only [Act.put, List.getElem_toArray, List.getElem_cons_zero, List.getElem_cons_succ, List.setIfInBounds_toArray, List.set_cons_zero, List.set_cons_succ]
                refine wpAnyH_ready (rs := [12]) (by kernel_rfl) (by simp) ?_
                refine AllReadyH.cons rfl (fun K hK => ?_) AllReadyH.nil
                rw [if_pos (by rfl)]
                refine wp_store_row 39 _ _ rfl (y2.heap.size) ((a.prep l'.br l'.bn).cells).toArray rfl rfl 39 _ Zn sizeAc (by rfl) (Ac.one _) ?_
                have N_ := setRow_heap y3 (y2.heap.size) _ ((a.prep l'.br l'.bn).cells).toArray _ _ Zn
                have hu := ogOwnR (cs := ((a.prep l'.br l'.bn).cells).toArray) hu ne_hu_Zn
                have ee := belowSet (cs := ((a.prep l'.br l'.bn).cells).toArray) ee Zn (by omega)
                have ff := ogRow (cs := ((a.prep l'.br l'.bn).cells).toArray) (by first | (right; omega) | exact Or.inl (Or.inl rfl) | exact Or.inl (Or.inr rfl)) Zn ff
                have Zc := hpR Zc (g' := y2.heap.size) (by omega) ((a.prep l'.br l'.bn).cells).toArray
                have Zl := hpR Zl (g' := y2.heap.size) (by omega) ((a.prep l'.br l'.bn).cells).toArray
                have Zb := hpR Zb (g' := y2.heap.size) (by omega) ((a.prep l'.br l'.bn).cells).toArray
                clear Zn
                have Zn := N_
                clear N_
                generalize y3.setRow (y2.heap.size) ((a.prep l'.br l'.bn).cells).toArray = y4 at Zc Zl Zb Zn hu ee ff ⊢
                refine hK.out _ _ ⟨rowMid Zc (1 + j * 16) HRA.out, rowAt Zb⟩ (fun hH => ?_)
                clear hK K hH
                try simp only [Act.put, List.getElem_toArray, List.getElem_cons_zero, List.getElem_cons_succ, List.setIfInBounds_toArray, List.set_cons_zero, List.set_cons_succ]
                refine wpAnyH_take (i := 13) (v := .bool (a.may l'.br l'.bn)) rfl (by kernel_rfl) (by kernel_rfl) (by kernel_rfl) (fun _ _ _ h => h) (Or.inl ⟨by rfl, fun w_ hS_ => by (first | (go_simp; done) | (go_simp; rfl))⟩) ⟨rowMid Zc (1 + j * 16) HRA.out, rowAt Zb⟩ ?_
                try simp only [Act.put, List.getElem_toArray, List.getElem_cons_zero, List.getElem_cons_succ, List.setIfInBounds_toArray, List.set_cons_zero, List.set_cons_succ]
                refine wpAnyH_done (by kernel_rfl) ?_ _
                go_upto_region 14 with fail
                have Zc : y4.drew.heap[gc]? = some (.cells (crC n A' (fun j => pv (H j)) S k).toArray 122) := Zc
                have Zl : y4.drew.heap[hh]? = some (.cells l'.cells.toArray 144) := Zl
                have Zb : y4.drew.heap[gb]? = some (.cells [.int .u32 (l'.br : Int), .int .i64 l'.bn].toArray 28) := Zb
                have Zn : y4.drew.heap[y2.heap.size]? = some (.cells ((a.prep l'.br l'.bn).cells).toArray 39) := Zn
                have hu := World.ownsRow.drew hu
                have ee := belowDrewS ee
                have ff := ogDrew ff
                refine wp_region_held_drew (S := fun z' => z'.rangeAt (y2.heap.size) 0 (a.prep l'.br l'.bn).cells) (by kernel_rfl) (rowAt Zn) (fun hH => ?_)
                clear hH
                generalize y4.drew = y5 at Zc Zl Zb Zn hu ee ff ⊢
                refine wpAnyH_take (i := 0) (v := .pointer (some ⟨gc, 0, none⟩)) rfl (by kernel_rfl) (by kernel_rfl) (by kernel_rfl) (fun _ _ _ h => h) (Or.inl ⟨by rfl, fun w_ hS_ => by (first | (go_simp; done) | (go_simp; rfl))⟩) (rowAt Zn) ?_
                try simp only [Act.put, List.getElem_toArray, List.getElem_cons_zero, List.getElem_cons_succ, List.setIfInBounds_toArray, List.set_cons_zero, List.set_cons_succ]
                refine wpAnyH_take (i := 1) (v := .int .i64 (j : Int)) rfl (by kernel_rfl) (by kernel_rfl) (by kernel_rfl) (fun _ _ _ h => h) (Or.inl ⟨by rfl, fun w_ hS_ => by (first | (go_simp; done) | (go_simp; rfl))⟩) (rowAt Zn) ?_
                try simp only [Act.put, List.getElem_toArray, List.getElem_cons_zero, List.getElem_cons_succ, List.setIfInBounds_toArray, List.set_cons_zero, List.set_cons_succ]
                refine wpAnyH_take (i := 2) (v := .agg (((a.prep l'.br l'.bn).cells)).toArray) rfl (by kernel_rfl) (by kernel_rfl) (by kernel_rfl) (fun _ _ _ h => h) (yieldsIf_load_mid (by rfl) 39 _ rfl (y2.heap.size) (0) rfl (((a.prep l'.br l'.bn).cells)) _ (fun _ h => h) Tryd.underlying39 rfl sizeAc) (rowAt Zn) ?_
                try simp only [Act.put, List.getElem_toArray, List.getElem_cons_zero, List.getElem_cons_succ, List.setIfInBounds_toArray, List.set_cons_zero, List.set_cons_succ]
                refine wpAnyH_take (i := 3) (v := .pointer (some ⟨gc, 0, none⟩)) rfl (by kernel_rfl) (by kernel_rfl) (by kernel_rfl) (fun _ _ _ h => h) (Or.inl ⟨by rfl, fun w_ hS_ => by (first | (go_simp; done) | (go_simp; rfl))⟩) (rowAt Zn) ?_
                try simp only [Act.put, List.getElem_toArray, List.getElem_cons_zero, List.getElem_cons_succ, List.setIfInBounds_toArray, List.set_cons_zero, List.set_cons_succ]
                refine wpAnyH_take (i := 4) (v := .pointer (some ⟨gc, 1, none⟩)) rfl (by kernel_rfl) (by kernel_rfl) (by kernel_rfl) (fun _ _ _ h => h) (Or.inl ⟨by rfl, fun w_ hS_ => by (first | (go_simp; done) | (go_simp; rfl))⟩) (rowAt Zn) ?_
                try simp only [Act.put, List.getElem_toArray, List.getElem_cons_zero, List.getElem_cons_succ, List.setIfInBounds_toArray, List.set_cons_zero, List.set_cons_succ]
                refine wpAnyH_take (i := 5) (v := .pointer (some ⟨gc, 1 + j * 16, none⟩)) rfl (by kernel_rfl) (by kernel_rfl) (by kernel_rfl) (fun _ _ _ h => h) (Or.inl ⟨by rfl, fun w_ hS_ => by (first | (go_simp; done) | (go_simp; rfl))⟩) (rowAt Zn) ?_
                try simp only [Act.put, List.getElem_toArray, List.getElem_cons_zero, List.getElem_cons_succ, List.setIfInBounds_toArray, List.set_cons_zero, List.set_cons_succ]
                refine wpAnyH_ready (rs := [6]) (by kernel_rfl) (by simp) ?_
                refine AllReadyH.cons rfl (fun K hK => ?_) AllReadyH.nil
                rw [if_pos (by rfl)]
                refine wp_store_mid 39 _ _ rfl (gc) (1 + j * 16) ((a.prep l'.br l'.bn).cells).toArray rfl rfl (crThere Zc (by omega)) sizeAc (Ac.one _) ?_
                have N_ : (y5.setCells (gc) (1 + j * 16) ((a.prep l'.br l'.bn).cells)).heap[gc]? = some (.cells (crC n (Px.upd A' j (a.prep l'.br l'.bn)) (fun j => pv (H j)) S k).toArray 122) := (by rw [← HPU.out]; exact hpC _ _ _ _ Zc)
                have hu := ogOwnC hu (ogKind hu Zc (by decide)) ((a.prep l'.br l'.bn).cells) (1 + j * 16)
                have ee := belowC (g := gc) (by omega) ((a.prep l'.br l'.bn).cells) (1 + j * 16) y5 ee
                have ff := ogCells (k := gc) (by first | (right; omega) | exact Or.inl (Or.inl rfl) | exact Or.inl (Or.inr rfl)) ((a.prep l'.br l'.bn).cells) (1 + j * 16) y5 ff
                have Zl := hpCo (g' := gc) (by omega) ((a.prep l'.br l'.bn).cells) (1 + j * 16) y5 Zl
                have Zb := hpCo (g' := gc) (by omega) ((a.prep l'.br l'.bn).cells) (1 + j * 16) y5 Zb
                have Zn := hpCo (g' := gc) (by omega) ((a.prep l'.br l'.bn).cells) (1 + j * 16) y5 Zn
                clear Zc
                have Zc := N_
                clear N_
                change K _ (y5.setCells (gc) (1 + j * 16) ((a.prep l'.br l'.bn).cells))
                generalize y5.setCells (gc) (1 + j * 16) ((a.prep l'.br l'.bn).cells) = y6 at Zc Zl Zb Zn hu ee ff ⊢
                refine hK.out _ _ (rowAt Zn) (fun hH => ?_)
                clear hK K hH
                try simp only [Act.put, List.getElem_toArray, List.getElem_cons_zero, List.getElem_cons_succ, List.setIfInBounds_toArray, List.set_cons_zero, List.set_cons_succ]
                refine wpAnyH_done (by kernel_rfl) ?_ _
                clear HPC HRA
                go_upto_region 15 with fail
                have HMY : Hid ((a.may l'.br l'.bn) = (a.may l'.br l'.bn)) := rfl
                generalize hM : (a.may l'.br l'.bn) = mb at HMY ⊢
                have HM := Lib.hid hM
                clear hM HMY
                cases mb with
                | false =>
                  have HP2 : Hid (Cinv n (t + 1) (Px.upd A' j (a.prep l'.br l'.bn)) (updF L i l') X P V ∧ l'.br ≠ 0 ∧ l'.sl = 0 ∧ (l'.l = [] → l'.fs = 0) ∧ l'.l.length ≤ j + 1 ∧ ∀ q : Nat, j + 1 ≤ q → Q.hasB l'.pr (q : Int) = false) := by
                    obtain ⟨p1, p2, p3, p4, p5, p6⟩ := HP.out
                    have hb9 : l'.br ≤ t + 1 := by have := (p1.ld i hi).br; rwa [updF_same] at this
                    refine ⟨by rw [HA.out]; exact p1.prep hlt hb9 _, p2, p3, p4, by omega, fun q hq => p6 q (by omega)⟩
                  have HFR2 := HFR
                  have Zc : y6.drew.heap[gc]? = some (.cells (crC n (Px.upd A' j (a.prep l'.br l'.bn)) (fun j => pv (H j)) S k).toArray 122) := Zc
                  have Zl : y6.drew.heap[hh]? = some (.cells l'.cells.toArray 144) := Zl
                  have Zb : y6.drew.heap[gb]? = some (.cells [.int .u32 (l'.br : Int), .int .i64 l'.bn].toArray 28) := Zb
                  have Zn : y6.drew.heap[y2.heap.size]? = some (.cells ((a.prep l'.br l'.bn).cells).toArray 39) := Zn
                  have hu := World.ownsRow.drew hu
                  have ee := belowDrewS ee
                  have ff := ogDrew ff
                  refine wp_region_held_drew (S := fun z' => True) (by kernel_rfl) trivial (fun hH => ?_)
                  clear hH
                  generalize y6.drew = y7 at Zc Zl Zb Zn hu ee ff ⊢
                  refine wpAnyH_take (i := 0) (v := .bool false) rfl (by kernel_rfl) (by kernel_rfl) (by kernel_rfl) (fun _ _ _ h => h) (Or.inl ⟨by rfl, fun w_ hS_ => by (first | (go_simp; done) | (go_simp; rfl))⟩) trivial ?_
                  try simp only [Act.put, List.getElem_toArray, List.getElem_cons_zero, List.getElem_cons_succ, List.setIfInBounds_toArray, List.set_cons_zero, List.set_cons_succ]
                  refine wpAnyH_take (i := 1) (v := .bool false) rfl (by kernel_rfl) (by kernel_rfl) (by kernel_rfl) (fun _ _ _ h => h) (Or.inl ⟨by rfl, fun w_ hS_ => by (first | (go_simp; done) | (go_simp; rfl))⟩) trivial ?_
                  try simp only [Act.put, List.getElem_toArray, List.getElem_cons_zero, List.getElem_cons_succ, List.setIfInBounds_toArray, List.set_cons_zero, List.set_cons_succ]
                  refine wpAnyH_take (i := 2) (v := undef) rfl (by kernel_rfl) (by kernel_rfl) (by kernel_rfl) (fun _ _ _ h => h) (Or.inr ⟨by rfl, rfl⟩) trivial ?_
                  try simp only [Act.put, List.getElem_toArray, List.getElem_cons_zero, List.getElem_cons_succ, List.setIfInBounds_toArray, List.set_cons_zero, List.set_cons_succ]
                  refine wpAnyH_take (i := 3) (v := undef) rfl (by kernel_rfl) (by kernel_rfl) (by kernel_rfl) (fun _ _ _ h => h) (Or.inr ⟨by rfl, rfl⟩) trivial ?_
                  try simp only [Act.put, List.getElem_toArray, List.getElem_cons_zero, List.getElem_cons_succ, List.setIfInBounds_toArray, List.set_cons_zero, List.set_cons_succ]
                  refine wpAnyH_take (i := 4) (v := undef) rfl (by kernel_rfl) (by kernel_rfl) (by kernel_rfl) (fun _ _ _ h => h) (Or.inr ⟨by rfl, rfl⟩) trivial ?_
                  try simp only [Act.put, List.getElem_toArray, List.getElem_cons_zero, List.getElem_cons_succ, List.setIfInBounds_toArray, List.set_cons_zero, List.set_cons_succ]
                  refine wpAnyH_take (i := 5) (v := undef) rfl (by kernel_rfl) (by kernel_rfl) (by kernel_rfl) (fun _ _ _ h => h) (Or.inr ⟨by rfl, rfl⟩) trivial ?_
                  try simp only [Act.put, List.getElem_toArray, List.getElem_cons_zero, List.getElem_cons_succ, List.setIfInBounds_toArray, List.set_cons_zero, List.set_cons_succ]
                  refine wpAnyH_take (i := 6) (v := undef) rfl (by kernel_rfl) (by kernel_rfl) (by kernel_rfl) (fun _ _ _ h => h) (Or.inr ⟨by rfl, rfl⟩) trivial ?_
                  try simp only [Act.put, List.getElem_toArray, List.getElem_cons_zero, List.getElem_cons_succ, List.setIfInBounds_toArray, List.set_cons_zero, List.set_cons_succ]
                  refine wpAnyH_take (i := 7) (v := undef) rfl (by kernel_rfl) (by kernel_rfl) (by kernel_rfl) (fun _ _ _ h => h) (Or.inr ⟨by rfl, rfl⟩) trivial ?_
                  try simp only [Act.put, List.getElem_toArray, List.getElem_cons_zero, List.getElem_cons_succ, List.setIfInBounds_toArray, List.set_cons_zero, List.set_cons_succ]
                  refine wpAnyH_take (i := 8) (v := undef) rfl (by kernel_rfl) (by kernel_rfl) (by kernel_rfl) (fun _ _ _ h => h) (Or.inr ⟨by rfl, rfl⟩) trivial ?_
                  try simp only [Act.put, List.getElem_toArray, List.getElem_cons_zero, List.getElem_cons_succ, List.setIfInBounds_toArray, List.set_cons_zero, List.set_cons_succ]
                  refine wpAnyH_take (i := 9) (v := undef) rfl (by kernel_rfl) (by kernel_rfl) (by kernel_rfl) (fun _ _ _ h => h) (Or.inr ⟨by rfl, rfl⟩) trivial ?_
                  try simp only [Act.put, List.getElem_toArray, List.getElem_cons_zero, List.getElem_cons_succ, List.setIfInBounds_toArray, List.set_cons_zero, List.set_cons_succ]
                  refine wpAnyH_take (i := 10) (v := undef) rfl (by kernel_rfl) (by kernel_rfl) (by kernel_rfl) (fun _ _ _ h => h) (Or.inr ⟨by rfl, rfl⟩) trivial ?_
                  try simp only [Act.put, List.getElem_toArray, List.getElem_cons_zero, List.getElem_cons_succ, List.setIfInBounds_toArray, List.set_cons_zero, List.set_cons_succ]
                  refine wpAnyH_take (i := 11) (v := undef) rfl (by kernel_rfl) (by kernel_rfl) (by kernel_rfl) (fun _ _ _ h => h) (Or.inr ⟨by rfl, rfl⟩) trivial ?_
                  try simp only [Act.put, List.getElem_toArray, List.getElem_cons_zero, List.getElem_cons_succ, List.setIfInBounds_toArray, List.set_cons_zero, List.set_cons_succ]
                  refine wpAnyH_take (i := 12) (v := undef) rfl (by kernel_rfl) (by kernel_rfl) (by kernel_rfl) (fun _ _ _ h => h) (Or.inr ⟨by rfl, rfl⟩) trivial ?_
                  try simp only [Act.put, List.getElem_toArray, List.getElem_cons_zero, List.getElem_cons_succ, List.setIfInBounds_toArray, List.set_cons_zero, List.set_cons_succ]
                  refine wpAnyH_take (i := 13) (v := .bool false) rfl (by kernel_rfl) (by kernel_rfl) (by kernel_rfl) (fun _ _ _ h => h) (Or.inl ⟨by rfl, fun w_ hS_ => by (first | (go_simp; done) | (go_simp; rfl))⟩) trivial ?_
                  try simp only [Act.put, List.getElem_toArray, List.getElem_cons_zero, List.getElem_cons_succ, List.setIfInBounds_toArray, List.set_cons_zero, List.set_cons_succ]
                  refine wpAnyH_done (by kernel_rfl) ?_ _
                  go_wp2_with fail
                  go_roundw
                  case rel => exact ⟨j + 1, (Px.upd A' j (a.prep l'.br l'.bn)), l', by omega, by go_num, HP2, Zc, Zl, hu, HFR2, Zb, ff, ee⟩
                  case measure => simp [intOf]; omega
                | true =>
                  have HPH : Hid ((crC n (Px.upd A' j (a.prep l'.br l'.bn)) (fun j => pv (H j)) S k)[81 + i]? = some (.pointer (some ⟨hh, 0, none⟩))) := by show _ = _; rw [crH n _ _ S k i (by omega)]; show some (pv (H i)) = _; rw [HHI.out]; rfl
                  have HPW := Lib.hid (fun (z : World) (hz : Below B w z) (hb : B ≤ z.heap.size) (hL : LdAt z hh l') (hq : z.ownsRow B 39 16 (.slice l'.A l'.l.length l'.c) l'.l.length (acCells l'.l)) => lpromise_w z B hh l' (j : Int) (a.prep l'.br l'.bn) hL hq hb (by have := HP.out.2.2.2.2.1; omega) (by have := (HP.out.1.ld i hi).pw.1; rwa [updF_same] at this) (fun e => HP.out.2.1 e.1) (Ac.prep_formed (by rw [HA.out]; exact HP.out.1.core.fm j hlt) _ _) (okFlat (by rw [(Px.prep_same _ _ _).2.2.2.2]; exact HFA.out)) (HT.out z hz) (by omega) (by have := (HP.out.1.ld i hi).num; rw [updF_same] at this; omega) (HP.out.2.2.2.2.2 j (Nat.le_refl _)))
                  have Zc : y6.drew.heap[gc]? = some (.cells (crC n (Px.upd A' j (a.prep l'.br l'.bn)) (fun j => pv (H j)) S k).toArray 122) := Zc
                  have Zl : y6.drew.heap[hh]? = some (.cells l'.cells.toArray 144) := Zl
                  have Zb : y6.drew.heap[gb]? = some (.cells [.int .u32 (l'.br : Int), .int .i64 l'.bn].toArray 28) := Zb
                  have Zn : y6.drew.heap[y2.heap.size]? = some (.cells ((a.prep l'.br l'.bn).cells).toArray 39) := Zn
                  have hu := World.ownsRow.drew hu
                  have ee := belowDrewS ee
                  have ff := ogDrew ff
                  refine wp_region_held_drew (S := fun z' => z'.cell? ⟨gc, 81 + i, none⟩ = some (.pointer (some ⟨hh, 0, none⟩)) ∧ z'.rangeAt gb 0 [.int .u32 (l'.br : Int), .int .i64 l'.bn] ∧ z'.rangeAt (y2.heap.size) 0 (a.prep l'.br l'.bn).cells) (by kernel_rfl) ⟨rowCell Zc (81 + i) HPH.out, rowAt Zb, rowAt Zn⟩ (fun hH => ?_)
                  clear hH
                  generalize y6.drew = y7 at Zc Zl Zb Zn hu ee ff ⊢
                  refine wpAnyH_take (i := 0) (v := .bool true) rfl (by kernel_rfl) (by kernel_rfl) (by kernel_rfl) (fun _ _ _ h => h) (Or.inl ⟨by rfl, fun w_ hS_ => by (first | (go_simp; done) | (go_simp; rfl))⟩) ⟨rowCell Zc (81 + i) HPH.out, rowAt Zb, rowAt Zn⟩ ?_
                  try simp only [Act.put, List.getElem_toArray, List.getElem_cons_zero, List.getElem_cons_succ, List.setIfInBounds_toArray, List.set_cons_zero, List.set_cons_succ]
                  refine wpAnyH_take (i := 1) (v := .bool true) rfl (by kernel_rfl) (by kernel_rfl) (by kernel_rfl) (fun _ _ _ h => h) (Or.inl ⟨by rfl, fun w_ hS_ => by (first | (go_simp; done) | (go_simp; rfl))⟩) ⟨rowCell Zc (81 + i) HPH.out, rowAt Zb, rowAt Zn⟩ ?_
                  try simp only [Act.put, List.getElem_toArray, List.getElem_cons_zero, List.getElem_cons_succ, List.setIfInBounds_toArray, List.set_cons_zero, List.set_cons_succ]
                  refine wpAnyH_take (i := 2) (v := .pointer (some ⟨gc, 0, none⟩)) rfl (by kernel_rfl) (by kernel_rfl) (by kernel_rfl) (fun _ _ _ h => h) (Or.inl ⟨by rfl, fun w_ hS_ => by (first | (go_simp; done) | (go_simp; rfl))⟩) ⟨rowCell Zc (81 + i) HPH.out, rowAt Zb, rowAt Zn⟩ ?_
                  try simp only [Act.put, List.getElem_toArray, List.getElem_cons_zero, List.getElem_cons_succ, List.setIfInBounds_toArray, List.set_cons_zero, List.set_cons_succ]
                  refine wpAnyH_take (i := 3) (v := .int .i64 (i : Int)) rfl (by kernel_rfl) (by kernel_rfl) (by kernel_rfl) (fun _ _ _ h => h) (Or.inl ⟨by rfl, fun w_ hS_ => by (first | (go_simp; done) | (go_simp; rfl))⟩) ⟨rowCell Zc (81 + i) HPH.out, rowAt Zb, rowAt Zn⟩ ?_
                  try simp only [Act.put, List.getElem_toArray, List.getElem_cons_zero, List.getElem_cons_succ, List.setIfInBounds_toArray, List.set_cons_zero, List.set_cons_succ]
                  refine wpAnyH_take (i := 4) (v := .pointer (some ⟨gc, 0, none⟩)) rfl (by kernel_rfl) (by kernel_rfl) (by kernel_rfl) (fun _ _ _ h => h) (Or.inl ⟨by rfl, fun w_ hS_ => by (first | (go_simp; done) | (go_simp; rfl))⟩) ⟨rowCell Zc (81 + i) HPH.out, rowAt Zb, rowAt Zn⟩ ?_
                  try simp only [Act.put, List.getElem_toArray, List.getElem_cons_zero, List.getElem_cons_succ, List.setIfInBounds_toArray, List.set_cons_zero, List.set_cons_succ]
                  refine wpAnyH_take (i := 5) (v := .pointer (some ⟨gc, 81, none⟩)) rfl (by kernel_rfl) (by kernel_rfl) (by kernel_rfl) (fun _ _ _ h => h) (Or.inl ⟨by rfl, fun w_ hS_ => by (first | (go_simp; done) | (go_simp; rfl))⟩) ⟨rowCell Zc (81 + i) HPH.out, rowAt Zb, rowAt Zn⟩ ?_
                  try simp only [Act.put, List.getElem_toArray, List.getElem_cons_zero, List.getElem_cons_succ, List.setIfInBounds_toArray, List.set_cons_zero, List.set_cons_succ]
                  refine wpAnyH_take (i := 6) (v := .pointer (some ⟨gc, 81 + i, none⟩)) rfl (by kernel_rfl) (by kernel_rfl) (by kernel_rfl) (fun _ _ _ h => h) (Or.inl ⟨by rfl, fun w_ hS_ => by (first | (go_simp; done) | (go_simp; rfl))⟩) ⟨rowCell Zc (81 + i) HPH.out, rowAt Zb, rowAt Zn⟩ ?_
                  try simp only [Act.put, List.getElem_toArray, List.getElem_cons_zero, List.getElem_cons_succ, List.setIfInBounds_toArray, List.set_cons_zero, List.set_cons_succ]
                  refine wpAnyH_take (i := 7) (v := .pointer (some ⟨hh, 0, none⟩)) rfl (by kernel_rfl) (by kernel_rfl) (by kernel_rfl) (fun _ _ _ h => h) (Or.inl ⟨by rfl, fun w_ hS_ => by (have c_ := hS_.1; go_simp)⟩) ⟨rowCell Zc (81 + i) HPH.out, rowAt Zb, rowAt Zn⟩ ?_
                  try simp only [Act.put, List.getElem_toArray, List.getElem_cons_zero, List.getElem_cons_succ, List.setIfInBounds_toArray, List.set_cons_zero, List.set_cons_succ]
                  refine wpAnyH_take (i := 8) (v := .int .i64 (j : Int)) rfl (by kernel_rfl) (by kernel_rfl) (by kernel_rfl) (fun _ _ _ h => h) (Or.inl ⟨by rfl, fun w_ hS_ => by (first | (go_simp; done) | (go_simp; rfl))⟩) ⟨rowCell Zc (81 + i) HPH.out, rowAt Zb, rowAt Zn⟩ ?_
                  try simp only [Act.put, List.getElem_toArray, List.getElem_cons_zero, List.getElem_cons_succ, List.setIfInBounds_toArray, List.set_cons_zero, List.set_cons_succ]
                  refine wpAnyH_take (i := 9) (v := .agg ([.int .u32 (l'.br : Int), .int .i64 l'.bn]).toArray) rfl (by kernel_rfl) (by kernel_rfl) (by kernel_rfl) (fun _ _ _ h => h) (yieldsIf_load_mid (by rfl) 28 _ rfl (gb) (0) rfl ([.int .u32 (l'.br : Int), .int .i64 l'.bn]) _ (fun _ h => h.2.1) Tryd.underlying28 rfl sizeBal) ⟨rowCell Zc (81 + i) HPH.out, rowAt Zb, rowAt Zn⟩ ?_
                  try simp only [Act.put, List.getElem_toArray, List.getElem_cons_zero, List.getElem_cons_succ, List.setIfInBounds_toArray, List.set_cons_zero, List.set_cons_succ]
                  refine wpAnyH_take (i := 10) (v := .agg (((a.prep l'.br l'.bn).cells)).toArray) rfl (by kernel_rfl) (by kernel_rfl) (by kernel_rfl) (fun _ _ _ h => h) (yieldsIf_load_mid (by rfl) 39 _ rfl (y2.heap.size) (0) rfl (((a.prep l'.br l'.bn).cells)) _ (fun _ h => h.2.2) Tryd.underlying39 rfl sizeAc) ⟨rowCell Zc (81 + i) HPH.out, rowAt Zb, rowAt Zn⟩ ?_
                  try simp only [Act.put, List.getElem_toArray, List.getElem_cons_zero, List.getElem_cons_succ, List.setIfInBounds_toArray, List.set_cons_zero, List.set_cons_succ]
                  refine wpAnyH_ready (rs := [11]) (by kernel_rfl) (by simp) ?_
                  refine AllReadyH.cons rfl (fun K hK => ?_) AllReadyH.nil
                  rw [if_pos (by rfl)]
                  go_simp
                  go_wp2_with (go_at_call 36; refine (HPW.out y7 ee (Nat.le_trans hB ee.size) Zl hu).mono ?_; rintro e y8 ⟨rfl, A9, c9, Zm_, hu9, hw9, t_⟩)
                  have hnc : ∀ b_, b_ = hh ∨ (Value.slice l'.A l'.l.length l'.c).ownBlock = some b_ → b_ = hh ∨ w.heap.size ≤ b_ := fun b_ e_ => e_.imp id (fun e_ => HFR.out b_ e_)
                  have szz_ := ee.size
                  have Zc := (t_.2 gc (Array.getElem?_eq_some_iff.1 Zc).1 (fun e_ => by have := hnc _ e_; omega)).trans Zc
                  have Zb := (t_.2 gb (Array.getElem?_eq_some_iff.1 Zb).1 (fun e_ => e_.elim (fun q_ => by omega) (fun q_ => lgKind hu Zb (by decide) q_))).trans Zb
                  have Zn := (t_.2 (y2.heap.size) (Array.getElem?_eq_some_iff.1 Zn).1 (fun e_ => e_.elim (fun q_ => by omega) (fun q_ => ne_hu_Zn q_))).trans Zn
                  have HFR3 : Hid (∀ g, (Value.slice A9 (l'.l ++ [(a.prep l'.br l'.bn)]).length c9).ownBlock = some g → w.heap.size ≤ g) := fun g hg => by
                    rcases hw9 with q_ | q_
                    · exact HFR.out g (by rw [← q_]; exact hg)
                    · have := q_ g hg; have := ff.size; omega
                  have ff := ogTrans ff (Q := fun b => b = hh ∨ (Value.slice l'.A l'.l.length l'.c).ownBlock = some b) t_ (fun b_ e_ => (hnc b_ e_).imp (fun q_ => Or.inr q_) id)
                  have ee := ee.trans (OgF.toBelow (B := B) (P := fun b => b = hh ∨ (Value.slice l'.A l'.l.length l'.c).ownBlock = some b) t_ (fun b_ e_ => by have := hnc b_ e_; omega) (Nat.le_trans hB ee.size))
                  clear Zl hu hnc hw9 t_
                  have Zl : y8.heap[hh]? = some (.cells (promised l' j (a.prep l'.br l'.bn) A9 c9).cells.toArray 144) := Zm_
                  have hu := hu9
                  clear Zm_ hu9
                  refine hK.out _ _ ⟨rowCell Zc (81 + i) HPH.out, rowAt Zb, rowAt Zn⟩ (fun hH => ?_)
                  clear hK K hH
                  try simp only [Act.put, List.getElem_toArray, List.getElem_cons_zero, List.getElem_cons_succ, List.setIfInBounds_toArray, List.set_cons_zero, List.set_cons_succ]
                  refine wpAnyH_take (i := 12) (v := .bool false) rfl (by kernel_rfl) (by kernel_rfl) (by kernel_rfl) (fun _ _ _ h => h) (Or.inl ⟨by rfl, fun w_ hS_ => by (first | (go_simp; done) | (go_simp; rfl))⟩) ⟨rowCell Zc (81 + i) HPH.out, rowAt Zb, rowAt Zn⟩ ?_
                  try simp only [Act.put, List.getElem_toArray, List.getElem_cons_zero, List.getElem_cons_succ, List.setIfInBounds_toArray, List.set_cons_zero, List.set_cons_succ]
                  refine wpAnyH_take (i := 13) (v := .bool false) rfl (by kernel_rfl) (by kernel_rfl) (by kernel_rfl) (fun _ _ _ h => h) (Or.inl ⟨by rfl, fun w_ hS_ => by (first | (go_simp; done) | (go_simp; rfl))⟩) ⟨rowCell Zc (81 + i) HPH.out, rowAt Zb, rowAt Zn⟩ ?_
                  try simp only [Act.put, List.getElem_toArray, List.getElem_cons_zero, List.getElem_cons_succ, List.setIfInBounds_toArray, List.set_cons_zero, List.set_cons_succ]
                  refine wpAnyH_done (by kernel_rfl) ?_ _
                  have HP2 : Hid (Cinv n (t + 1) (Px.upd A' j (a.prep l'.br l'.bn)) (updF L i (promised l' j (a.prep l'.br l'.bn) A9 c9)) X P V ∧ (promised l' j (a.prep l'.br l'.bn) A9 c9).br ≠ 0 ∧ (promised l' j (a.prep l'.br l'.bn) A9 c9).sl = 0 ∧ ((promised l' j (a.prep l'.br l'.bn) A9 c9).l = [] → (promised l' j (a.prep l'.br l'.bn) A9 c9).fs = 0) ∧ (promised l' j (a.prep l'.br l'.bn) A9 c9).l.length ≤ j + 1 ∧ ∀ q : Nat, j + 1 ≤ q → Q.hasB (promised l' j (a.prep l'.br l'.bn) A9 c9).pr (q : Int) = false) := by
                    obtain ⟨p1, p2, p3, p4, p5, p6⟩ := HP.out
                    have hq := p1.promise h5 hi hlt (by rw [updF_same]; exact p2) (by rw [updF_same]; exact p3) (by rw [updF_same]; exact p4) (by rw [updF_same]; omega) (by rw [updF_same, ← HA.out]; exact HM.out) A9 c9
                    rw [updF_same, updF_updF, ← HA.out] at hq
                    refine ⟨hq, p2, p3, fun e_ => by simp [promised] at e_, ?_, fun q hq => ?_⟩
                    · show (l'.l ++ [(a.prep l'.br l'.bn)]).length ≤ j + 1
                      simp; omega
                    · show Q.hasB (Q.addN l'.pr (j : Int)) (q : Int) = false
                      rw [has_add _ _ _ (by omega), p6 q (by omega), decide_eq_false (by omega)]; rfl
                  have HFR2 := HFR3
                  go_wp2_with fail
                  go_roundw
                  case rel => exact ⟨j + 1, (Px.upd A' j (a.prep l'.br l'.bn)), promised l' j (a.prep l'.br l'.bn) A9 c9, by omega, by go_num, HP2, Zc, Zl, hu, HFR2, Zb, ff, ee⟩
                  case measure => simp [intOf]; omega
              · rw [if_pos (by rfl)]
                go_simp
                have lZc := (Array.getElem?_eq_some_iff.1 Zc).1
                have lZl := (Array.getElem?_eq_some_iff.1 Zl).1
                have lZb := (Array.getElem?_eq_some_iff.1 Zb).1
                have sz_ := ff.size
                have ne_hu_Zn : (Value.slice l'.A l'.l.length l'.c).ownBlock ≠ some (y1.heap.size) := fun hb_ => by have hh_ := (hu.lt _ hb_).2; omega
                have Zc := hpA Zc (.cells #[.int .u32 0, .int .i64 0, .int .i64 0, .bool false, .int .u32 0, .int .i64 0, .int .i64 0, .int .i64 0, .int .i64 0, .slice none 0 0, .slice none 0 0, .int .i64 0, .int .i64 0, .int .i64 0, .int .u64 0, .bool false] 39)
                have Zl := hpA Zl (.cells #[.int .u32 0, .int .i64 0, .int .i64 0, .bool false, .int .u32 0, .int .i64 0, .int .i64 0, .int .i64 0, .int .i64 0, .slice none 0 0, .slice none 0 0, .int .i64 0, .int .i64 0, .int .i64 0, .int .u64 0, .bool false] 39)
                have Zb := hpA Zb (.cells #[.int .u32 0, .int .i64 0, .int .i64 0, .bool false, .int .u32 0, .int .i64 0, .int .i64 0, .int .i64 0, .int .i64 0, .slice none 0 0, .slice none 0 0, .int .i64 0, .int .i64 0, .int .i64 0, .int .u64 0, .bool false] 39)
                have hu := hu.alloc (.cells #[.int .u32 0, .int .i64 0, .int .i64 0, .bool false, .int .u32 0, .int .i64 0, .int .i64 0, .int .i64 0, .int .i64 0, .slice none 0 0, .slice none 0 0, .int .i64 0, .int .i64 0, .int .i64 0, .int .u64 0, .bool false] 39)
                have ee := ee.alloc (Nat.le_trans hB ee.size) (.cells #[.int .u32 0, .int .i64 0, .int .i64 0, .bool false, .int .u32 0, .int .i64 0, .int .i64 0, .int .i64 0, .int .i64 0, .slice none 0 0, .slice none 0 0, .int .i64 0, .int .i64 0, .int .i64 0, .int .u64 0, .bool false] 39)
                have ff := ogAlloc ff (.cells #[.int .u32 0, .int .i64 0, .int .i64 0, .bool false, .int .u32 0, .int .i64 0, .int .i64 0, .int .i64 0, .int .i64 0, .slice none 0 0, .slice none 0 0, .int .i64 0, .int .i64 0, .int .i64 0, .int .u64 0, .bool false] 39)
                have Zn := hpN y1 (.cells #[.int .u32 0, .int .i64 0, .int .i64 0, .bool false, .int .u32 0, .int .i64 0, .int .i64 0, .int .i64 0, .int .i64 0, .slice none 0 0, .slice none 0 0, .int .i64 0, .int .i64 0, .int .i64 0, .int .u64 0, .bool false] 39) rfl
                generalize y1.alloc (.cells #[.int .u32 0, .int .i64 0, .int .i64 0, .bool false, .int .u32 0, .int .i64 0, .int .i64 0, .int .i64 0, .int .i64 0, .slice none 0 0, .slice none 0 0, .int .i64 0, .int .i64 0, .int .i64 0, .int .u64 0, .bool false] 39) = y2 at Zc Zl Zb Zn hu ee ff ⊢
                refine hK.out _ _ ⟨rowMid Zc (1 + j * 16) HRA.out, rowAt Zb⟩ (fun hH => ?_)
                clear hK K hH
                try simp only [Act.put, List.getElem_toArray, List.getElem_cons_zero, List.getElem_cons_succ, List.setIfInBounds_toArray, List.set_cons_zero, List.set_cons_succ]
                refine wpAnyH_ready (rs := [7]) (by kernel_rfl) (by simp) ?_
                refine AllReadyH.cons rfl (fun K hK => ?_) AllReadyH.nil
                rw [if_pos (by rfl)]
                go_simp
                go_wp2_with (go_at_call 65; refine (HPC.out y2 ee).mono ?_; rintro e y3 ⟨rfl, t⟩)
                have Zc := hpB Zc t
                have Zl := hpB Zl t
                have Zb := hpB Zb t
                have Zn := hpB Zn t
                have hu := ownBelow hu t
                have ee := ee.trans (t.mono (Nat.le_trans hB ee.size))
                have ff := ogBelow ff t
                clear t
                refine hK.out _ _ ⟨rowMid Zc (1 + j * 16) HRA.out, rowAt Zb⟩ (fun hH => ?_)
                clear hK K hH
                try simp only [Act.put, List.getElem_toArray, List.getElem_cons_zero, List.getElem_cons_succ, List.setIfInBounds_toArray, List.set_cons_zero, List.set_cons_succ]
                refine wpAnyH_take (i := 8) (v := .tuple #[.agg (a.prep l'.br l'.bn).cells.toArray, .bool (a.may l'.br l'.bn)]) rfl (by kernel_rfl) (by kernel_rfl) (by kernel_rfl) (fun _ _ _ h => h) (Or.inl ⟨by rfl, fun w_ hS_ => by (first | (go_simp; done) | (go_simp; rfl))⟩) ⟨rowMid Zc (1 + j * 16) HRA.out, rowAt Zb⟩ ?_
                try simp only [Act.put, List.getElem_toArray, List.getElem_cons_zero, List.getElem_cons_succ, List.setIfInBounds_toArray, List.set_cons_zero, List.set_cons_succ]
                refine wpAnyH_take (i := 9) (v := .agg (a.prep l'.br l'.bn).cells.toArray) rfl (by kernel_rfl) (by kernel_rfl) (by kernel_rfl) (fun _ _ _ h => h) (Or.inl ⟨by rfl, fun w_ hS_ => by (first | (go_simp; done) | (go_simp; rfl))⟩) ⟨rowMid Zc (1 + j * 16) HRA.out, rowAt Zb⟩ ?_
                try simp only [Act.put, List.getElem_toArray, List.getElem_cons_zero, List.getElem_cons_succ, List.setIfInBounds_toArray, List.set_cons_zero, List.set_cons_succ]
                refine wpAnyH_take (i := 10) (v := .bool (a.may l'.br l'.bn)) rfl (by kernel_rfl) (by kernel_rfl) (by kernel_rfl) (fun _ _ _ h => h) (Or.inl ⟨by rfl, fun w_ hS_ => by (first | (go_simp; done) | (go_simp; rfl))⟩) ⟨rowMid Zc (1 + j * 16) HRA.out, rowAt Zb⟩ ?_
                try simp only [Act.put, List.getElem_toArray, List.getElem_cons_zero, List.getElem_cons_succ, List.setIfInBounds_toArray, List.set_cons_zero, List.set_cons_succ]
                refine wpAnyH_ready (rs := [12]) (by kernel_rfl) (by simp) ?_
                refine AllReadyH.cons rfl (fun K hK => ?_) AllReadyH.nil
                rw [if_pos (by rfl)]
                refine wp_store_row 39 _ _ rfl (y1.heap.size) ((a.prep l'.br l'.bn).cells).toArray rfl rfl 39 _ Zn sizeAc (by rfl) (Ac.one _) ?_
                have N_ := setRow_heap y3 (y1.heap.size) _ ((a.prep l'.br l'.bn).cells).toArray _ _ Zn
                have hu := ogOwnR (cs := ((a.prep l'.br l'.bn).cells).toArray) hu ne_hu_Zn
                have ee := belowSet (cs := ((a.prep l'.br l'.bn).cells).toArray) ee Zn (by omega)
                have ff := ogRow (cs := ((a.prep l'.br l'.bn).cells).toArray) (by first | (right; omega) | exact Or.inl (Or.inl rfl) | exact Or.inl (Or.inr rfl)) Zn ff
                have Zc := hpR Zc (g' := y1.heap.size) (by omega) ((a.prep l'.br l'.bn).cells).toArray
                have Zl := hpR Zl (g' := y1.heap.size) (by omega) ((a.prep l'.br l'.bn).cells).toArray
                have Zb := hpR Zb (g' := y1.heap.size) (by omega) ((a.prep l'.br l'.bn).cells).toArray
                clear Zn
                have Zn := N_
                clear N_
                generalize y3.setRow (y1.heap.size) ((a.prep l'.br l'.bn).cells).toArray = y4 at Zc Zl Zb Zn hu ee ff ⊢
                refine hK.out _ _ ⟨rowMid Zc (1 + j * 16) HRA.out, rowAt Zb⟩ (fun hH => ?_)
                clear hK K hH
                try simp only [Act.put, List.getElem_toArray, List.getElem_cons_zero, List.getElem_cons_succ, List.setIfInBounds_toArray, List.set_cons_zero, List.set_cons_succ]
                refine wpAnyH_take (i := 13) (v := .bool (a.may l'.br l'.bn)) rfl (by kernel_rfl) (by kernel_rfl) (by kernel_rfl) (fun _ _ _ h => h) (Or.inl ⟨by rfl, fun w_ hS_ => by (first | (go_simp; done) | (go_simp; rfl))⟩) ⟨rowMid Zc (1 + j * 16) HRA.out, rowAt Zb⟩ ?_
                try simp only [Act.put, List.getElem_toArray, List.getElem_cons_zero, List.getElem_cons_succ, List.setIfInBounds_toArray, List.set_cons_zero, List.set_cons_succ]
                refine wpAnyH_done (by kernel_rfl) ?_ _
                go_upto_region 14 with fail
                have Zc : y4.drew.heap[gc]? = some (.cells (crC n A' (fun j => pv (H j)) S k).toArray 122) := Zc
                have Zl : y4.drew.heap[hh]? = some (.cells l'.cells.toArray 144) := Zl
                have Zb : y4.drew.heap[gb]? = some (.cells [.int .u32 (l'.br : Int), .int .i64 l'.bn].toArray 28) := Zb
                have Zn : y4.drew.heap[y1.heap.size]? = some (.cells ((a.prep l'.br l'.bn).cells).toArray 39) := Zn
                have hu := World.ownsRow.drew hu
                have ee := belowDrewS ee
                have ff := ogDrew ff
                refine wp_region_held_drew (S := fun z' => z'.rangeAt (y1.heap.size) 0 (a.prep l'.br l'.bn).cells) (by kernel_rfl) (rowAt Zn) (fun hH => ?_)
                clear hH
                generalize y4.drew = y5 at Zc Zl Zb Zn hu ee ff ⊢
                refine wpAnyH_take (i := 0) (v := .pointer (some ⟨gc, 0, none⟩)) rfl (by kernel_rfl) (by kernel_rfl) (by kernel_rfl) (fun _ _ _ h => h) (Or.inl ⟨by rfl, fun w_ hS_ => by (first | (go_simp; done) | (go_simp; rfl))⟩) (rowAt Zn) ?_
                try simp only [Act.put, List.getElem_toArray, List.getElem_cons_zero, List.getElem_cons_succ, List.setIfInBounds_toArray, List.set_cons_zero, List.set_cons_succ]
                refine wpAnyH_take (i := 1) (v := .int .i64 (j : Int)) rfl (by kernel_rfl) (by kernel_rfl) (by kernel_rfl) (fun _ _ _ h => h) (Or.inl ⟨by rfl, fun w_ hS_ => by (first | (go_simp; done) | (go_simp; rfl))⟩) (rowAt Zn) ?_
                try simp only [Act.put, List.getElem_toArray, List.getElem_cons_zero, List.getElem_cons_succ, List.setIfInBounds_toArray, List.set_cons_zero, List.set_cons_succ]
                refine wpAnyH_take (i := 2) (v := .agg (((a.prep l'.br l'.bn).cells)).toArray) rfl (by kernel_rfl) (by kernel_rfl) (by kernel_rfl) (fun _ _ _ h => h) (yieldsIf_load_mid (by rfl) 39 _ rfl (y1.heap.size) (0) rfl (((a.prep l'.br l'.bn).cells)) _ (fun _ h => h) Tryd.underlying39 rfl sizeAc) (rowAt Zn) ?_
                try simp only [Act.put, List.getElem_toArray, List.getElem_cons_zero, List.getElem_cons_succ, List.setIfInBounds_toArray, List.set_cons_zero, List.set_cons_succ]
                refine wpAnyH_take (i := 3) (v := .pointer (some ⟨gc, 0, none⟩)) rfl (by kernel_rfl) (by kernel_rfl) (by kernel_rfl) (fun _ _ _ h => h) (Or.inl ⟨by rfl, fun w_ hS_ => by (first | (go_simp; done) | (go_simp; rfl))⟩) (rowAt Zn) ?_
                try simp only [Act.put, List.getElem_toArray, List.getElem_cons_zero, List.getElem_cons_succ, List.setIfInBounds_toArray, List.set_cons_zero, List.set_cons_succ]
                refine wpAnyH_take (i := 4) (v := .pointer (some ⟨gc, 1, none⟩)) rfl (by kernel_rfl) (by kernel_rfl) (by kernel_rfl) (fun _ _ _ h => h) (Or.inl ⟨by rfl, fun w_ hS_ => by (first | (go_simp; done) | (go_simp; rfl))⟩) (rowAt Zn) ?_
                try simp only [Act.put, List.getElem_toArray, List.getElem_cons_zero, List.getElem_cons_succ, List.setIfInBounds_toArray, List.set_cons_zero, List.set_cons_succ]
                refine wpAnyH_take (i := 5) (v := .pointer (some ⟨gc, 1 + j * 16, none⟩)) rfl (by kernel_rfl) (by kernel_rfl) (by kernel_rfl) (fun _ _ _ h => h) (Or.inl ⟨by rfl, fun w_ hS_ => by (first | (go_simp; done) | (go_simp; rfl))⟩) (rowAt Zn) ?_
                try simp only [Act.put, List.getElem_toArray, List.getElem_cons_zero, List.getElem_cons_succ, List.setIfInBounds_toArray, List.set_cons_zero, List.set_cons_succ]
                refine wpAnyH_ready (rs := [6]) (by kernel_rfl) (by simp) ?_
                refine AllReadyH.cons rfl (fun K hK => ?_) AllReadyH.nil
                rw [if_pos (by rfl)]
                refine wp_store_mid 39 _ _ rfl (gc) (1 + j * 16) ((a.prep l'.br l'.bn).cells).toArray rfl rfl (crThere Zc (by omega)) sizeAc (Ac.one _) ?_
                have N_ : (y5.setCells (gc) (1 + j * 16) ((a.prep l'.br l'.bn).cells)).heap[gc]? = some (.cells (crC n (Px.upd A' j (a.prep l'.br l'.bn)) (fun j => pv (H j)) S k).toArray 122) := (by rw [← HPU.out]; exact hpC _ _ _ _ Zc)
                have hu := ogOwnC hu (ogKind hu Zc (by decide)) ((a.prep l'.br l'.bn).cells) (1 + j * 16)
                have ee := belowC (g := gc) (by omega) ((a.prep l'.br l'.bn).cells) (1 + j * 16) y5 ee
                have ff := ogCells (k := gc) (by first | (right; omega) | exact Or.inl (Or.inl rfl) | exact Or.inl (Or.inr rfl)) ((a.prep l'.br l'.bn).cells) (1 + j * 16) y5 ff
                have Zl := hpCo (g' := gc) (by omega) ((a.prep l'.br l'.bn).cells) (1 + j * 16) y5 Zl
                have Zb := hpCo (g' := gc) (by omega) ((a.prep l'.br l'.bn).cells) (1 + j * 16) y5 Zb
                have Zn := hpCo (g' := gc) (by omega) ((a.prep l'.br l'.bn).cells) (1 + j * 16) y5 Zn
                clear Zc
                have Zc := N_
                clear N_
                change K _ (y5.setCells (gc) (1 + j * 16) ((a.prep l'.br l'.bn).cells))
                generalize y5.setCells (gc) (1 + j * 16) ((a.prep l'.br l'.bn).cells) = y6 at Zc Zl Zb Zn hu ee ff ⊢
                refine hK.out _ _ (rowAt Zn) (fun hH => ?_)
                clear hK K hH
                try simp only [Act.put, List.getElem_toArray, List.getElem_cons_zero, List.getElem_cons_succ, List.setIfInBounds_toArray, List.set_cons_zero, List.set_cons_succ]
                refine wpAnyH_done (by kernel_rfl) ?_ _
                clear HPC HRA
                go_upto_region 15 with fail
                have HMY : Hid ((a.may l'.br l'.bn) = (a.may l'.br l'.bn)) := rfl
                generalize hM : (a.may l'.br l'.bn) = mb at HMY ⊢
                have HM := Lib.hid hM
                clear hM HMY
                cases mb with
                | false =>
                  have HP2 : Hid (Cinv n (t + 1) (Px.upd A' j (a.prep l'.br l'.bn)) (updF L i l') X P V ∧ l'.br ≠ 0 ∧ l'.sl = 0 ∧ (l'.l = [] → l'.fs = 0) ∧ l'.l.length ≤ j + 1 ∧ ∀ q : Nat, j + 1 ≤ q → Q.hasB l'.pr (q : Int) = false) := by
                    obtain ⟨p1, p2, p3, p4, p5, p6⟩ := HP.out
                    have hb9 : l'.br ≤ t + 1 := by have := (p1.ld i hi).br; rwa [updF_same] at this
                    refine ⟨by rw [HA.out]; exact p1.prep hlt hb9 _, p2, p3, p4, by omega, fun q hq => p6 q (by omega)⟩
                  have HFR2 := HFR
                  have Zc : y6.drew.heap[gc]? = some (.cells (crC n (Px.upd A' j (a.prep l'.br l'.bn)) (fun j => pv (H j)) S k).toArray 122) := Zc
                  have Zl : y6.drew.heap[hh]? = some (.cells l'.cells.toArray 144) := Zl
                  have Zb : y6.drew.heap[gb]? = some (.cells [.int .u32 (l'.br : Int), .int .i64 l'.bn].toArray 28) := Zb
                  have Zn : y6.drew.heap[y1.heap.size]? = some (.cells ((a.prep l'.br l'.bn).cells).toArray 39) := Zn
                  have hu := World.ownsRow.drew hu
                  have ee := belowDrewS ee
                  have ff := ogDrew ff
                  refine wp_region_held_drew (S := fun z' => True) (by kernel_rfl) trivial (fun hH => ?_)
                  clear hH
                  generalize y6.drew = y7 at Zc Zl Zb Zn hu ee ff ⊢
                  refine wpAnyH_take (i := 0) (v := .bool false) rfl (by kernel_rfl) (by kernel_rfl) (by kernel_rfl) (fun _ _ _ h => h) (Or.inl ⟨by rfl, fun w_ hS_ => by (first | (go_simp; done) | (go_simp; rfl))⟩) trivial ?_
                  try simp only [Act.put, List.getElem_toArray, List.getElem_cons_zero, List.getElem_cons_succ, List.setIfInBounds_toArray, List.set_cons_zero, List.set_cons_succ]
                  refine wpAnyH_take (i := 1) (v := .bool false) rfl (by kernel_rfl) (by kernel_rfl) (by kernel_rfl) (fun _ _ _ h => h) (Or.inl ⟨by rfl, fun w_ hS_ => by (first | (go_simp; done) | (go_simp; rfl))⟩) trivial ?_
                  try simp only [Act.put, List.getElem_toArray, List.getElem_cons_zero, List.getElem_cons_succ, List.setIfInBounds_toArray, List.set_cons_zero, List.set_cons_succ]
                  refine wpAnyH_take (i := 2) (v := undef) rfl (by kernel_rfl) (by kernel_rfl) (by kernel_rfl) (fun _ _ _ h => h) (Or.inr ⟨by rfl, rfl⟩) trivial ?_
                  try simp only [Act.put, List.getElem_toArray, List.getElem_cons_zero, List.getElem_cons_succ, List.setIfInBounds_toArray, List.set_cons_zero, List.set_cons_succ]
                  refine wpAnyH_take (i := 3) (v := undef) rfl (by kernel_rfl) (by kernel_rfl) (by kernel_rfl) (fun _ _ _ h => h) (Or.inr ⟨by rfl, rfl⟩) trivial ?_
                  try simp only [Act.put, List.getElem_toArray, List.getElem_cons_zero, List.getElem_cons_succ, List.setIfInBounds_toArray, List.set_cons_zero, List.set_cons_succ]
                  refine wpAnyH_take (i := 4) (v := undef) rfl (by kernel_rfl) (by kernel_rfl) (by kernel_rfl) (fun _ _ _ h => h) (Or.inr ⟨by rfl, rfl⟩) trivial ?_
                  try simp only [Act.put, List.getElem_toArray, List.getElem_cons_zero, List.getElem_cons_succ, List.setIfInBounds_toArray, List.set_cons_zero, List.set_cons_succ]
                  refine wpAnyH_take (i := 5) (v := undef) rfl (by kernel_rfl) (by kernel_rfl) (by kernel_rfl) (fun _ _ _ h => h) (Or.inr ⟨by rfl, rfl⟩) trivial ?_
                  try simp only [Act.put, List.getElem_toArray, List.getElem_cons_zero, List.getElem_cons_succ, List.setIfInBounds_toArray, List.set_cons_zero, List.set_cons_succ]
                  refine wpAnyH_take (i := 6) (v := undef) rfl (by kernel_rfl) (by kernel_rfl) (by kernel_rfl) (fun _ _ _ h => h) (Or.inr ⟨by rfl, rfl⟩) trivial ?_
                  try simp only [Act.put, List.getElem_toArray, List.getElem_cons_zero, List.getElem_cons_succ, List.setIfInBounds_toArray, List.set_cons_zero, List.set_cons_succ]
                  refine wpAnyH_take (i := 7) (v := undef) rfl (by kernel_rfl) (by kernel_rfl) (by kernel_rfl) (fun _ _ _ h => h) (Or.inr ⟨by rfl, rfl⟩) trivial ?_
                  try simp only [Act.put, List.getElem_toArray, List.getElem_cons_zero, List.getElem_cons_succ, List.setIfInBounds_toArray, List.set_cons_zero, List.set_cons_succ]
                  refine wpAnyH_take (i := 8) (v := undef) rfl (by kernel_rfl) (by kernel_rfl) (by kernel_rfl) (fun _ _ _ h => h) (Or.inr ⟨by rfl, rfl⟩) trivial ?_
                  try simp only [Act.put, List.getElem_toArray, List.getElem_cons_zero, List.getElem_cons_succ, List.setIfInBounds_toArray, List.set_cons_zero, List.set_cons_succ]
                  refine wpAnyH_take (i := 9) (v := undef) rfl (by kernel_rfl) (by kernel_rfl) (by kernel_rfl) (fun _ _ _ h => h) (Or.inr ⟨by rfl, rfl⟩) trivial ?_
                  try simp only [Act.put, List.getElem_toArray, List.getElem_cons_zero, List.getElem_cons_succ, List.setIfInBounds_toArray, List.set_cons_zero, List.set_cons_succ]
                  refine wpAnyH_take (i := 10) (v := undef) rfl (by kernel_rfl) (by kernel_rfl) (by kernel_rfl) (fun _ _ _ h => h) (Or.inr ⟨by rfl, rfl⟩) trivial ?_
                  try simp only [Act.put, List.getElem_toArray, List.getElem_cons_zero, List.getElem_cons_succ, List.setIfInBounds_toArray, List.set_cons_zero, List.set_cons_succ]
                  refine wpAnyH_take (i := 11) (v := undef) rfl (by kernel_rfl) (by kernel_rfl) (by kernel_rfl) (fun _ _ _ h => h) (Or.inr ⟨by rfl, rfl⟩) trivial ?_
                  try simp only [Act.put, List.getElem_toArray, List.getElem_cons_zero, List.getElem_cons_succ, List.setIfInBounds_toArray, List.set_cons_zero, List.set_cons_succ]
                  refine wpAnyH_take (i := 12) (v := undef) rfl (by kernel_rfl) (by kernel_rfl) (by kernel_rfl) (fun _ _ _ h => h) (Or.inr ⟨by rfl, rfl⟩) trivial ?_
                  try simp only [Act.put, List.getElem_toArray, List.getElem_cons_zero, List.getElem_cons_succ, List.setIfInBounds_toArray, List.set_cons_zero, List.set_cons_succ]
                  refine wpAnyH_take (i := 13) (v := .bool false) rfl (by kernel_rfl) (by kernel_rfl) (by kernel_rfl) (fun _ _ _ h => h) (Or.inl ⟨by rfl, fun w_ hS_ => by (first | (go_simp; done) | (go_simp; rfl))⟩) trivial ?_
                  try simp only [Act.put, List.getElem_toArray, List.getElem_cons_zero, List.getElem_cons_succ, List.setIfInBounds_toArray, List.set_cons_zero, List.set_cons_succ]
                  refine wpAnyH_done (by kernel_rfl) ?_ _
                  go_wp2_with fail
                  go_roundw
                  case rel => exact ⟨j + 1, (Px.upd A' j (a.prep l'.br l'.bn)), l', by omega, by go_num, HP2, Zc, Zl, hu, HFR2, Zb, ff, ee⟩
                  case measure => simp [intOf]; omega
                | true =>
                  have HPH : Hid ((crC n (Px.upd A' j (a.prep l'.br l'.bn)) (fun j => pv (H j)) S k)[81 + i]? = some (.pointer (some ⟨hh, 0, none⟩))) := by show _ = _; rw [crH n _ _ S k i (by omega)]; show some (pv (H i)) = _; rw [HHI.out]; rfl
                  have HPW := Lib.hid (fun (z : World) (hz : Below B w z) (hb : B ≤ z.heap.size) (hL : LdAt z hh l') (hq : z.ownsRow B 39 16 (.slice l'.A l'.l.length l'.c) l'.l.length (acCells l'.l)) => lpromise_w z B hh l' (j : Int) (a.prep l'.br l'.bn) hL hq hb (by have := HP.out.2.2.2.2.1; omega) (by have := (HP.out.1.ld i hi).pw.1; rwa [updF_same] at this) (fun e => HP.out.2.1 e.1) (Ac.prep_formed (by rw [HA.out]; exact HP.out.1.core.fm j hlt) _ _) (okFlat (by rw [(Px.prep_same _ _ _).2.2.2.2]; exact HFA.out)) (HT.out z hz) (by omega) (by have := (HP.out.1.ld i hi).num; rw [updF_same] at this; omega) (HP.out.2.2.2.2.2 j (Nat.le_refl _)))
                  have Zc : y6.drew.heap[gc]? = some (.cells (crC n (Px.upd A' j (a.prep l'.br l'.bn)) (fun j => pv (H j)) S k).toArray 122) := Zc
                  have Zl : y6.drew.heap[hh]? = some (.cells l'.cells.toArray 144) := Zl
                  have Zb : y6.drew.heap[gb]? = some (.cells [.int .u32 (l'.br : Int), .int .i64 l'.bn].toArray 28) := Zb
                  have Zn : y6.drew.heap[y1.heap.size]? = some (.cells ((a.prep l'.br l'.bn).cells).toArray 39) := Zn
                  have hu := World.ownsRow.drew hu
                  have ee := belowDrewS ee
                  have ff := ogDrew ff
                  refine wp_region_held_drew (S := fun z' => z'.cell? ⟨gc, 81 + i, none⟩ = some (.pointer (some ⟨hh, 0, none⟩)) ∧ z'.rangeAt gb 0 [.int .u32 (l'.br : Int), .int .i64 l'.bn] ∧ z'.rangeAt (y1.heap.size) 0 (a.prep l'.br l'.bn).cells) (by kernel_rfl) ⟨rowCell Zc (81 + i) HPH.out, rowAt Zb, rowAt Zn⟩ (fun hH => ?_)
                  clear hH
                  generalize y6.drew = y7 at Zc Zl Zb Zn hu ee ff ⊢
                  refine wpAnyH_take (i := 0) (v := .bool true) rfl (by kernel_rfl) (by kernel_rfl) (by kernel_rfl) (fun _ _ _ h => h) (Or.inl ⟨by rfl, fun w_ hS_ => by (first | (go_simp; done) | (go_simp; rfl))⟩) ⟨rowCell Zc (81 + i) HPH.out, rowAt Zb, rowAt Zn⟩ ?_
                  try simp only [Act.put, List.getElem_toArray, List.getElem_cons_zero, List.getElem_cons_succ, List.setIfInBounds_toArray, List.set_cons_zero, List.set_cons_succ]
                  refine wpAnyH_take (i := 1) (v := .bool true) rfl (by kernel_rfl) (by kernel_rfl) (by kernel_rfl) (fun _ _ _ h => h) (Or.inl ⟨by rfl, fun w_ hS_ => by (first | (go_simp; done) | (go_simp; rfl))⟩) ⟨rowCell Zc (81 + i) HPH.out, rowAt Zb, rowAt Zn⟩ ?_
                  try simp only [Act.put, List.getElem_toArray, List.getElem_cons_zero, List.getElem_cons_succ, List.setIfInBounds_toArray, List.set_cons_zero, List.set_cons_succ]
                  refine wpAnyH_take (i := 2) (v := .pointer (some ⟨gc, 0, none⟩)) rfl (by kernel_rfl) (by kernel_rfl) (by kernel_rfl) (fun _ _ _ h => h) (Or.inl ⟨by rfl, fun w_ hS_ => by (first | (go_simp; done) | (go_simp; rfl))⟩) ⟨rowCell Zc (81 + i) HPH.out, rowAt Zb, rowAt Zn⟩ ?_
                  try simp only [Act.put, List.getElem_toArray, List.getElem_cons_zero, List.getElem_cons_succ, List.setIfInBounds_toArray, List.set_cons_zero, List.set_cons_succ]
                  refine wpAnyH_take (i := 3) (v := .int .i64 (i : Int)) rfl (by kernel_rfl) (by kernel_rfl) (by kernel_rfl) (fun _ _ _ h => h) (Or.inl ⟨by rfl, fun w_ hS_ => by (first | (go_simp; done) | (go_simp; rfl))⟩) ⟨rowCell Zc (81 + i) HPH.out, rowAt Zb, rowAt Zn⟩ ?_
                  try simp only [Act.put, List.getElem_toArray, List.getElem_cons_zero, List.getElem_cons_succ, List.setIfInBounds_toArray, List.set_cons_zero, List.set_cons_succ]
                  refine wpAnyH_take (i := 4) (v := .pointer (some ⟨gc, 0, none⟩)) rfl (by kernel_rfl) (by kernel_rfl) (by kernel_rfl) (fun _ _ _ h => h) (Or.inl ⟨by rfl, fun w_ hS_ => by (first | (go_simp; done) | (go_simp; rfl))⟩) ⟨rowCell Zc (81 + i) HPH.out, rowAt Zb, rowAt Zn⟩ ?_
                  try simp only [Act.put, List.getElem_toArray, List.getElem_cons_zero, List.getElem_cons_succ, List.setIfInBounds_toArray, List.set_cons_zero, List.set_cons_succ]
                  refine wpAnyH_take (i := 5) (v := .pointer (some ⟨gc, 81, none⟩)) rfl (by kernel_rfl) (by kernel_rfl) (by kernel_rfl) (fun _ _ _ h => h) (Or.inl ⟨by rfl, fun w_ hS_ => by (first | (go_simp; done) | (go_simp; rfl))⟩) ⟨rowCell Zc (81 + i) HPH.out, rowAt Zb, rowAt Zn⟩ ?_
                  try simp only [Act.put, List.getElem_toArray, List.getElem_cons_zero, List.getElem_cons_succ, List.setIfInBounds_toArray, List.set_cons_zero, List.set_cons_succ]
                  refine wpAnyH_take (i := 6) (v := .pointer (some ⟨gc, 81 + i, none⟩)) rfl (by kernel_rfl) (by kernel_rfl) (by kernel_rfl) (fun _ _ _ h => h) (Or.inl ⟨by rfl, fun w_ hS_ => by (first | (go_simp; done) | (go_simp; rfl))⟩) ⟨rowCell Zc (81 + i) HPH.out, rowAt Zb, rowAt Zn⟩ ?_
                  try simp only [Act.put, List.getElem_toArray, List.getElem_cons_zero, List.getElem_cons_succ, List.setIfInBounds_toArray, List.set_cons_zero, List.set_cons_succ]
                  refine wpAnyH_take (i := 7) (v := .pointer (some ⟨hh, 0, none⟩)) rfl (by kernel_rfl) (by kernel_rfl) (by kernel_rfl) (fun _ _ _ h => h) (Or.inl ⟨by rfl, fun w_ hS_ => by (have c_ := hS_.1; go_simp)⟩) ⟨rowCell Zc (81 + i) HPH.out, rowAt Zb, rowAt Zn⟩ ?_
                  try simp only [Act.put, List.getElem_toArray, List.getElem_cons_zero, List.getElem_cons_succ, List.setIfInBounds_toArray, List.set_cons_zero, List.set_cons_succ]
                  refine wpAnyH_take (i := 8) (v := .int .i64 (j : Int)) rfl (by kernel_rfl) (by kernel_rfl) (by kernel_rfl) (fun _ _ _ h => h) (Or.inl ⟨by rfl, fun w_ hS_ => by (first | (go_simp; done) | (go_simp; rfl))⟩) ⟨rowCell Zc (81 + i) HPH.out, rowAt Zb, rowAt Zn⟩ ?_
                  try simp only [Act.put, List.getElem_toArray, List.getElem_cons_zero, List.getElem_cons_succ, List.setIfInBounds_toArray, List.set_cons_zero, List.set_cons_succ]
                  refine wpAnyH_take (i := 9) (v := .agg ([.int .u32 (l'.br : Int), .int .i64 l'.bn]).toArray) rfl (by kernel_rfl) (by kernel_rfl) (by kernel_rfl) (fun _ _ _ h => h) (yieldsIf_load_mid (by rfl) 28 _ rfl (gb) (0) rfl ([.int .u32 (l'.br : Int), .int .i64 l'.bn]) _ (fun _ h => h.2.1) Tryd.underlying28 rfl sizeBal) ⟨rowCell Zc (81 + i) HPH.out, rowAt Zb, rowAt Zn⟩ ?_
                  try simp only [Act.put, List.getElem_toArray, List.getElem_cons_zero, List.getElem_cons_succ, List.setIfInBounds_toArray, List.set_cons_zero, List.set_cons_succ]
                  refine wpAnyH_take (i := 10) (v := .agg (((a.prep l'.br l'.bn).cells)).toArray) rfl (by kernel_rfl) (by kernel_rfl) (by kernel_rfl) (fun _ _ _ h => h) (yieldsIf_load_mid (by rfl) 39 _ rfl (y1.heap.size) (0) rfl (((a.prep l'.br l'.bn).cells)) _ (fun _ h => h.2.2) Tryd.underlying39 rfl sizeAc) ⟨rowCell Zc (81 + i) HPH.out, rowAt Zb, rowAt Zn⟩ ?_
                  try simp only [Act.put, List.getElem_toArray, List.getElem_cons_zero, List.getElem_cons_succ, List.setIfInBounds_toArray, List.set_cons_zero, List.set_cons_succ]
                  refine wpAnyH_ready (rs := [11]) (by kernel_rfl) (by simp) ?_
                  refine AllReadyH.cons rfl (fun K hK => ?_) AllReadyH.nil
                  rw [if_pos (by rfl)]
                  go_simp
                  go_wp2_with (go_at_call 36; refine (HPW.out y7 ee (Nat.le_trans hB ee.size) Zl hu).mono ?_; rintro e y8 ⟨rfl, A9, c9, Zm_, hu9, hw9, t_⟩)
                  have hnc : ∀ b_, b_ = hh ∨ (Value.slice l'.A l'.l.length l'.c).ownBlock = some b_ → b_ = hh ∨ w.heap.size ≤ b_ := fun b_ e_ => e_.imp id (fun e_ => HFR.out b_ e_)
                  have szz_ := ee.size
                  have Zc := (t_.2 gc (Array.getElem?_eq_some_iff.1 Zc).1 (fun e_ => by have := hnc _ e_; omega)).trans Zc
                  have Zb := (t_.2 gb (Array.getElem?_eq_some_iff.1 Zb).1 (fun e_ => e_.elim (fun q_ => by omega) (fun q_ => lgKind hu Zb (by decide) q_))).trans Zb
                  have Zn := (t_.2 (y1.heap.size) (Array.getElem?_eq_some_iff.1 Zn).1 (fun e_ => e_.elim (fun q_ => by omega) (fun q_ => ne_hu_Zn q_))).trans Zn
                  have HFR3 : Hid (∀ g, (Value.slice A9 (l'.l ++ [(a.prep l'.br l'.bn)]).length c9).ownBlock = some g → w.heap.size ≤ g) := fun g hg => by
                    rcases hw9 with q_ | q_
                    · exact HFR.out g (by rw [← q_]; exact hg)
                    · have := q_ g hg; have := ff.size; omega
                  have ff := ogTrans ff (Q := fun b => b = hh ∨ (Value.slice l'.A l'.l.length l'.c).ownBlock = some b) t_ (fun b_ e_ => (hnc b_ e_).imp (fun q_ => Or.inr q_) id)
                  have ee := ee.trans (OgF.toBelow (B := B) (P := fun b => b = hh ∨ (Value.slice l'.A l'.l.length l'.c).ownBlock = some b) t_ (fun b_ e_ => by have := hnc b_ e_; omega) (Nat.le_trans hB ee.size))
                  clear Zl hu hnc hw9 t_
                  have Zl : y8.heap[hh]? = some (.cells (promised l' j (a.prep l'.br l'.bn) A9 c9).cells.toArray 144) := Zm_
                  have hu := hu9
                  clear Zm_ hu9
                  refine hK.out _ _ ⟨rowCell Zc (81 + i) HPH.out, rowAt Zb, rowAt Zn⟩ (fun hH => ?_)
                  clear hK K hH
                  try simp only [Act.put, List.getElem_toArray, List.getElem_cons_zero, List.getElem_cons_succ, List.setIfInBounds_toArray, List.set_cons_zero, List.set_cons_succ]
                  refine wpAnyH_take (i := 12) (v := .bool false) rfl (by kernel_rfl) (by kernel_rfl) (by kernel_rfl) (fun _ _ _ h => h) (Or.inl ⟨by rfl, fun w_ hS_ => by (first | (go_simp; done) | (go_simp; rfl))⟩) ⟨rowCell Zc (81 + i) HPH.out, rowAt Zb, rowAt Zn⟩ ?_
                  try simp only [Act.put, List.getElem_toArray, List.getElem_cons_zero, List.getElem_cons_succ, List.setIfInBounds_toArray, List.set_cons_zero, List.set_cons_succ]
                  refine wpAnyH_take (i := 13) (v := .bool false) rfl (by kernel_rfl) (by kernel_rfl) (by kernel_rfl) (fun _ _ _ h => h) (Or.inl ⟨by rfl, fun w_ hS_ => by (first | (go_simp; done) | (go_simp; rfl))⟩) ⟨rowCell Zc (81 + i) HPH.out, rowAt Zb, rowAt Zn⟩ ?_
                  try simp only [Act.put, List.getElem_toArray, List.getElem_cons_zero, List.getElem_cons_succ, List.setIfInBounds_toArray, List.set_cons_zero, List.set_cons_succ]
                  refine wpAnyH_done (by kernel_rfl) ?_ _
                  have HP2 : Hid (Cinv n (t + 1) (Px.upd A' j (a.prep l'.br l'.bn)) (updF L i (promised l' j (a.prep l'.br l'.bn) A9 c9)) X P V ∧ (promised l' j (a.prep l'.br l'.bn) A9 c9).br ≠ 0 ∧ (promised l' j (a.prep l'.br l'.bn) A9 c9).sl = 0 ∧ ((promised l' j (a.prep l'.br l'.bn) A9 c9).l = [] → (promised l' j (a.prep l'.br l'.bn) A9 c9).fs = 0) ∧ (promised l' j (a.prep l'.br l'.bn) A9 c9).l.length ≤ j + 1 ∧ ∀ q : Nat, j + 1 ≤ q → Q.hasB (promised l' j (a.prep l'.br l'.bn) A9 c9).pr (q : Int) = false) := by
                    obtain ⟨p1, p2, p3, p4, p5, p6⟩ := HP.out
                    have hq := p1.promise h5 hi hlt (by rw [updF_same]; exact p2) (by rw [updF_same]; exact p3) (by rw [updF_same]; exact p4) (by rw [updF_same]; omega) (by rw [updF_same, ← HA.out]; exact HM.out) A9 c9
                    rw [updF_same, updF_updF, ← HA.out] at hq
                    refine ⟨hq, p2, p3, fun e_ => by simp [promised] at e_, ?_, fun q hq => ?_⟩
                    · show (l'.l ++ [(a.prep l'.br l'.bn)]).length ≤ j + 1
                      simp; omega
                    · show Q.hasB (Q.addN l'.pr (j : Int)) (q : Int) = false
                      rw [has_add _ _ _ (by omega), p6 q (by omega), decide_eq_false (by omega)]; rfl
                  have HFR2 := HFR3
                  go_wp2_with fail
                  go_roundw
                  case rel => exact ⟨j + 1, (Px.upd A' j (a.prep l'.br l'.bn)), promised l' j (a.prep l'.br l'.bn) A9 c9, by omega, by go_num, HP2, Zc, Zl, hu, HFR2, Zb, ff, ee⟩
                  case measure => simp [intOf]; omega
          · go_wp2_with fail
            go_ret
            exact ⟨rfl, ⟨A', l', HMV.out _ l' A' ff Zc Zl hu HFR.out, HP.out.1⟩, ee⟩
end Go.Proofs.YtbahooohkigcnaaDoor

namespace Go.Proofs.YtbahooohkigcnaaDoor
set_option maxRecDepth 20001
open Go.RowKit T Ag
set_option linter.unusedSimpArgs false
set_option linter.unusedVariables false
/-- a leader behind Propose -/
def lpd (L : Ld) (s : Int) (x : Cm) : Ld := bif L.proposes s x then proposed L s x else L
theorem lprop_any (w : World) (B h : Nat) (L : Ld) (s : Int) (x : Cm) (hL : LdAt w h L) (hu : w.ownsRow B 39 16 (.slice L.A L.l.length L.c) L.l.length (acCells L.l)) (hl : L.l.length ≤ 1000) (h0 : 0 ≤ L.sl)
    (hp : L.pr < 18446744073709551616) (hx : flatC x) (hT : Tabs w) :
    Calls Tryd.prog 37 #[.pointer (some ⟨h, 0, none⟩), .int .i64 s, .agg x.cells.toArray] w fun e w' => (∃ (r : Cm) (ok : Bool), e = .returned (.tuple #[.agg r.cells.toArray, .bool ok])) ∧ LdAt w' h (lpd L s x) ∧ w.grownBy w' (some h) := by
  unfold lpd
  cases hpr : L.proposes s x with
  | false =>
    exact (lpropose_no w h L s x hL hp (okFlat hx) hT hpr).mono fun e w' q => ⟨⟨Cm.zero, false, q.1⟩, hpB hL q.2, lgB2 q.2 (Nat.le_refl _)⟩
  | true =>
    have hpr' := hpr
    unfold Ld.proposes at hpr'
    simp only [Bool.and_eq_true, Bool.not_eq_true', decide_eq_false_iff_not] at hpr'
    obtain ⟨⟨⟨⟨q1, q2⟩, q3⟩, q4⟩, q5⟩ := hpr'
    obtain ⟨A8, c8, e8, hc8, _⟩ := acOwn hu
    injection e8 with e81 e82 e83
    subst e81
    subst e83
    have hR : ∀ z, w.grownBy z (some h) → RowsAt z z.heap.size L.A 16 (L.l.map Ac.cells) := fun z hz => by
      have hu2 := hu.kept hz (Or.inr (lgKind hu hL (by decide)))
      obtain ⟨A9, c9, e9, _, hR⟩ := acOwn hu2
      injection e9 with e91 e92 e93
      subst e91
      exact hR
    exact (lpropose_yes w h L s x hL hR (by omega) hc8 hp q1 (by omega) (by omega) (by omega) (okFlat hx) q5 hT).mono fun e w' q => ⟨⟨_, true, q.1⟩, q.2.1, q.2.2⟩
end Go.Proofs.YtbahooohkigcnaaDoor

namespace Go.Proofs.YtbahooohkigcnaaDoor
set_option maxRecDepth 20001
open Go.RowKit T Ag
set_option linter.unusedSimpArgs false
set_option linter.unusedVariables false

theorem c_csame3 (x y : Cm) (w : World) (B0 : Nat) (hB : B0 ≤ w.heap.size) (ok : CmOk w B0 x) (ok' : CmOk w B0 y) :
    Calls Tryd.prog 32 #[.agg x.cells.toArray, .agg y.cells.toArray] w fun e w' => e = .returned (.bool (SameC x y)) ∧ Below w.heap.size w w' := csame_any x.k x.s x.q x.rs x.ws x.A1 x.c1 x.A2 x.c2 x.i x.j x.g x.st x.y y.k y.s y.q y.rs y.ws y.A1 y.c1 y.A2 y.c2 y.i y.j y.g y.st y.y w B0 hB ok ok'
/-- a replica's list of what it has learnt -/
theorem Ag.CrewAt.list {w : World} {B gc n : Nat} {A : Nat → Ac} {H : Nat → Nat} {L : Nat → Ld} {S : Nat → Value} {X : Nat → List Cm} {k : Nat} (h : CrewAt w B gc n A H L S X k) {j : Nat} (hj : j < 5) :
    ∃ (D : Option Addr) (c : Nat), w.cell? ⟨gc, 86 + j, none⟩ = some (.slice D (X j).length c) ∧ ∀ s x, (X j)[s]? = some x → ∃ g, D = some ⟨g, 0, none⟩ ∧ g < w.heap.size ∧ w.rangeAt g (s * 10) x.cells := by
  have hx := h.xs j hj
  obtain ⟨D, c, e, _, hR, hg⟩ := flatOwn Cm.cells_len (by omega) hx
  refine ⟨D, c, ?_, fun s x hs => ?_⟩
  · rw [← e]; exact rowCell h.blk (86 + j) (crS n A _ S k j hj)
  · obtain ⟨g, h1, _, h2⟩ := hg (by have := (List.getElem?_eq_some_iff.1 hs).1; omega)
    subst h1
    rw [e] at hx
    exact ⟨g, rfl, h2, flatRange Cm.cells_len hx hs⟩
set_option maxHeartbeats 6400000 in
theorem cagree (B gc n k : Nat) (A : Nat → Ac) (H : Nat → Nat) (L : Nat → Ld) (S : Nat → Value) (X : Nat → List Cm) (w : World) (h : CrewAt w B gc n A H L S X k) (hn : n ≤ 5) (hl : ∀ j, j < n → (X j).length ≤ 1000) (hE : ∀ (i j s : Nat) (x y : Cm), i < n → j < n → (X i)[s]? = some x → (X j)[s]? = some y → x = y ∧ flatC x) :
    Calls Tryd.prog 61 #[.pointer (some ⟨gc, 0, none⟩)] w fun e w' => e = .returned (.bool true) ∧ Below w.heap.size w w' := by
  have HC := Lib.hid (fun z (hz : Below w.heap.size w z) => h.below hz)
  have HE := Lib.hid hE
  have HL := Lib.hid hl
  clear h hE hl
  have ee : Below w.heap.size w w := Below.refl _ _
  go_enter Tryd.func61, Tryd.ntmps61
  go_wp2_with fail
  go_loopw [3] (fun i wr => ∃ a : Nat, a ≤ n ∧ i = .int .i64 (a : Int) ∧ Hid (Below w.heap.size w wr)) (fun i _ => n - (intOf i).toNat)
  case atStart => exact ⟨0, Nat.zero_le _, rfl, ee⟩
  case round =>
    clear ee
    obtain ⟨a, ha, rfl, ee⟩ := hrel
    have ee := ee.out
    have c0 := rowCell (HC.out _ ee).blk 0 (v := .int .i64 (n : Int)) rfl
    by_cases hlt : a < n
    · go_upto_region 5 with fail
      clear c0
      go_wp2_with fail
      go_loopw [4] (fun i wr => ∃ b : Nat, b ≤ a ∧ i = .int .i64 (b : Int) ∧ Hid (Below w.heap.size w wr)) (fun i _ => a - (intOf i).toNat)
      case atStart => exact ⟨0, Nat.zero_le _, rfl, ee⟩
      case round =>
        clear ee
        obtain ⟨b, hb, rfl, ee⟩ := hrel
        have ee := ee.out
        by_cases hlt2 : b < a
        · go_upto_region 8 with fail
          go_wp2_with fail
          go_loopw [5] (fun i wr => ∃ s : Nat, s ≤ (X a).length ∧ i = .int .i64 (s : Int) ∧ Hid (Below w.heap.size w wr)) (fun i _ => (X a).length + 1 - (intOf i).toNat)
          case atStart => exact ⟨0, Nat.zero_le _, rfl, ee⟩
          case round =>
            clear ee
            obtain ⟨s, hs, rfl, ee⟩ := hrel
            have ee := ee.out
            have hla := HL.out a (by omega)
            have hlb := HL.out b (by omega)
            obtain ⟨D1, d1, c1, HR1⟩ := (HC.out _ ee).list (j := a) (by omega)
            obtain ⟨D2, d2, c2, HR2⟩ := (HC.out _ ee).list (j := b) (by omega)
            have HR1 := Lib.hid HR1
            have HR2 := Lib.hid HR2
            have ha0 : (0 : Int) ≤ (a : Int) := by omega
            have ha5 : (a : Int) < 5 := by omega
            have hb0 : (0 : Int) ≤ (b : Int) := by omega
            have hb5 : (b : Int) < 5 := by omega
            by_cases h1 : s < (X a).length
            · by_cases h2 : s < (X b).length
              · obtain ⟨g1, rfl, hg1, hr1⟩ := HR1.out s _ (List.getElem?_eq_getElem h1)
                obtain ⟨g2, rfl, hg2, hr2⟩ := HR2.out s _ (List.getElem?_eq_getElem h2)
                have HXE := Lib.hid (HE.out a b s _ _ (by omega) (by omega) (List.getElem?_eq_getElem h1) (List.getElem?_eq_getElem h2))
                generalize (X a)[s] = x at hr1 HXE
                generalize (X b)[s] = y at hr2 HXE
                obtain ⟨wq, hwq⟩ : ∃ wq, wq = wr := ⟨_, rfl⟩
                have e2 : Below wq.heap.size wq wr := by rw [hwq]; exact Below.refl _ _
                rw [← hwq] at hg1 hg2 hr1 hr2
                have hcq1 : wq.cell? ⟨gc, 86 + a, none⟩ = some (.slice (some ⟨g1, 0, none⟩) (X a).length d1) := by rw [hwq]; exact c1
                have hcq2 : wq.cell? ⟨gc, 86 + b, none⟩ = some (.slice (some ⟨g2, 0, none⟩) (X b).length d2) := by rw [hwq]; exact c2
                have hcq1 := Lib.hid hcq1
                have hcq2 := Lib.hid hcq2
                have hgq : gc < wq.heap.size := World.block_lt_of_cell? wq _ hcq1.out
                have SAME := Lib.hid (fun z => c_csame3 x y z z.heap.size (Nat.le_refl _) (okFlat HXE.out.2) (okFlat (HXE.out.1 ▸ HXE.out.2)))
                rw [show SameC x y = true by rw [HXE.out.1]; exact SameC.refl _] at SAME
                clear hwq HXE
                have hs0 : (0 : Int) ≤ (s : Int) := by omega
                have hs1 : (s : Int) < ((X a).length : Int) := by omega
                have hs2 : (s : Int) < ((X b).length : Int) := by omega
                go_upto_region 10 with fail
                clear c1 c2
                have ee := belowDrewS ee
                have e2 := belowDrewS e2
                refine wp_region_held_drew (S := fun z' => z'.cell? ⟨gc, 86 + a, none⟩ = some (.slice (some ⟨g1, 0, none⟩) (X a).length d1) ∧ z'.cell? ⟨gc, 86 + b, none⟩ = some (.slice (some ⟨g2, 0, none⟩) (X b).length d2) ∧ z'.rangeAt g1 (s * 10) x.cells ∧ z'.rangeAt g2 (s * 10) y.cells) (by kernel_rfl) ⟨(e2.cell (p := ⟨gc, 86 + a, none⟩) hgq).trans hcq1.out, (e2.cell (p := ⟨gc, 86 + b, none⟩) hgq).trans hcq2.out, rangeB hr1 e2 hg1, rangeB hr2 e2 hg2⟩ (fun hH => ?_)
                clear hH
                generalize wr.drew = y1 at ee e2 ⊢
                refine wpAnyH_take (i := 0) (v := .pointer (some ⟨gc, 0, none⟩)) rfl (by kernel_rfl) (by kernel_rfl) (by kernel_rfl) (fun _ _ _ h => h) (Or.inl ⟨by rfl, fun w_ hS_ => by (first | (go_simp; done) | (go_simp; rfl))⟩) ⟨(e2.cell (p := ⟨gc, 86 + a, none⟩) hgq).trans hcq1.out, (e2.cell (p := ⟨gc, 86 + b, none⟩) hgq).trans hcq2.out, rangeB hr1 e2 hg1, rangeB hr2 e2 hg2⟩ ?_
                try simp only [Act.put, List.getElem_toArray, List.getElem_cons_zero, List.getElem_cons_succ, List.setIfInBounds_toArray, List.set_cons_zero, List.set_cons_succ]
                refine wpAnyH_take (i := 1) (v := .int .i64 (a : Int)) rfl (by kernel_rfl) (by kernel_rfl) (by kernel_rfl) (fun _ _ _ h => h) (Or.inl ⟨by rfl, fun w_ hS_ => by (first | (go_simp; done) | (go_simp; rfl))⟩) ⟨(e2.cell (p := ⟨gc, 86 + a, none⟩) hgq).trans hcq1.out, (e2.cell (p := ⟨gc, 86 + b, none⟩) hgq).trans hcq2.out, rangeB hr1 e2 hg1, rangeB hr2 e2 hg2⟩ ?_
                try simp only [Act.put, List.getElem_toArray, List.getElem_cons_zero, List.getElem_cons_succ, List.setIfInBounds_toArray, List.set_cons_zero, List.set_cons_succ]
                refine wpAnyH_take (i := 2) (v := .pointer (some ⟨gc, 0, none⟩)) rfl (by kernel_rfl) (by kernel_rfl) (by kernel_rfl) (fun _ _ _ h => h) (Or.inl ⟨by rfl, fun w_ hS_ => by (first | (go_simp; done) | (go_simp; rfl))⟩) ⟨(e2.cell (p := ⟨gc, 86 + a, none⟩) hgq).trans hcq1.out, (e2.cell (p := ⟨gc, 86 + b, none⟩) hgq).trans hcq2.out, rangeB hr1 e2 hg1, rangeB hr2 e2 hg2⟩ ?_
                try simp only [Act.put, List.getElem_toArray, List.getElem_cons_zero, List.getElem_cons_succ, List.setIfInBounds_toArray, List.set_cons_zero, List.set_cons_succ]
                refine wpAnyH_take (i := 3) (v := .pointer (some ⟨gc, 86, none⟩)) rfl (by kernel_rfl) (by kernel_rfl) (by kernel_rfl) (fun _ _ _ h => h) (Or.inl ⟨by rfl, fun w_ hS_ => by (first | (go_simp; done) | (go_simp; rfl))⟩) ⟨(e2.cell (p := ⟨gc, 86 + a, none⟩) hgq).trans hcq1.out, (e2.cell (p := ⟨gc, 86 + b, none⟩) hgq).trans hcq2.out, rangeB hr1 e2 hg1, rangeB hr2 e2 hg2⟩ ?_
                try simp only [Act.put, List.getElem_toArray, List.getElem_cons_zero, List.getElem_cons_succ, List.setIfInBounds_toArray, List.set_cons_zero, List.set_cons_succ]
                refine wpAnyH_take (i := 4) (v := .pointer (some ⟨gc, 86 + a, none⟩)) rfl (by kernel_rfl) (by kernel_rfl) (by kernel_rfl) (fun _ _ _ h => h) (Or.inl ⟨by rfl, fun w_ hS_ => by (first | (go_simp; done) | (go_simp; rfl))⟩) ⟨(e2.cell (p := ⟨gc, 86 + a, none⟩) hgq).trans hcq1.out, (e2.cell (p := ⟨gc, 86 + b, none⟩) hgq).trans hcq2.out, rangeB hr1 e2 hg1, rangeB hr2 e2 hg2⟩ ?_
                try simp only [Act.put, List.getElem_toArray, List.getElem_cons_zero, List.getElem_cons_succ, List.setIfInBounds_toArray, List.set_cons_zero, List.set_cons_succ]
                refine wpAnyH_take (i := 5) (v := .slice (some ⟨g1, 0, none⟩) (X a).length d1) rfl (by kernel_rfl) (by kernel_rfl) (by kernel_rfl) (fun _ _ _ h => h) (Or.inl ⟨by rfl, fun w_ hS_ => by (have c_ := hS_.1; go_simp)⟩) ⟨(e2.cell (p := ⟨gc, 86 + a, none⟩) hgq).trans hcq1.out, (e2.cell (p := ⟨gc, 86 + b, none⟩) hgq).trans hcq2.out, rangeB hr1 e2 hg1, rangeB hr2 e2 hg2⟩ ?_
                try simp only [Act.put, List.getElem_toArray, List.getElem_cons_zero, List.getElem_cons_succ, List.setIfInBounds_toArray, List.set_cons_zero, List.set_cons_succ]
                refine wpAnyH_take (i := 6) (v := .int .i64 (s : Int)) rfl (by kernel_rfl) (by kernel_rfl) (by kernel_rfl) (fun _ _ _ h => h) (Or.inl ⟨by rfl, fun w_ hS_ => by (first | (go_simp; done) | (go_simp; rfl))⟩) ⟨(e2.cell (p := ⟨gc, 86 + a, none⟩) hgq).trans hcq1.out, (e2.cell (p := ⟨gc, 86 + b, none⟩) hgq).trans hcq2.out, rangeB hr1 e2 hg1, rangeB hr2 e2 hg2⟩ ?_
                try simp only [Act.put, List.getElem_toArray, List.getElem_cons_zero, List.getElem_cons_succ, List.setIfInBounds_toArray, List.set_cons_zero, List.set_cons_succ]
                refine wpAnyH_take (i := 7) (v := .pointer (some ⟨g1, s * 10, none⟩)) rfl (by kernel_rfl) (by kernel_rfl) (by kernel_rfl) (fun _ _ _ h => h) (Or.inl ⟨by rfl, fun w_ hS_ => by (first | (go_simp; done) | (go_simp; rfl))⟩) ⟨(e2.cell (p := ⟨gc, 86 + a, none⟩) hgq).trans hcq1.out, (e2.cell (p := ⟨gc, 86 + b, none⟩) hgq).trans hcq2.out, rangeB hr1 e2 hg1, rangeB hr2 e2 hg2⟩ ?_
                try simp only [Act.put, List.getElem_toArray, List.getElem_cons_zero, List.getElem_cons_succ, List.setIfInBounds_toArray, List.set_cons_zero, List.set_cons_succ]
                refine wpAnyH_take (i := 8) (v := .agg (x.cells).toArray) rfl (by kernel_rfl) (by kernel_rfl) (by kernel_rfl) (fun _ _ _ h => h) (yieldsIf_load_mid (by rfl) 37 _ rfl (g1) (s * 10) rfl (x.cells) _ (fun _ h => h.2.2.1) Tryd.underlying37 rfl sizeCm) ⟨(e2.cell (p := ⟨gc, 86 + a, none⟩) hgq).trans hcq1.out, (e2.cell (p := ⟨gc, 86 + b, none⟩) hgq).trans hcq2.out, rangeB hr1 e2 hg1, rangeB hr2 e2 hg2⟩ ?_
                try simp only [Act.put, List.getElem_toArray, List.getElem_cons_zero, List.getElem_cons_succ, List.setIfInBounds_toArray, List.set_cons_zero, List.set_cons_succ]
                refine wpAnyH_take (i := 9) (v := .pointer (some ⟨gc, 0, none⟩)) rfl (by kernel_rfl) (by kernel_rfl) (by kernel_rfl) (fun _ _ _ h => h) (Or.inl ⟨by rfl, fun w_ hS_ => by (first | (go_simp; done) | (go_simp; rfl))⟩) ⟨(e2.cell (p := ⟨gc, 86 + a, none⟩) hgq).trans hcq1.out, (e2.cell (p := ⟨gc, 86 + b, none⟩) hgq).trans hcq2.out, rangeB hr1 e2 hg1, rangeB hr2 e2 hg2⟩ ?_
                try simp only [Act.put, List.getElem_toArray, List.getElem_cons_zero, List.getElem_cons_succ, List.setIfInBounds_toArray, List.set_cons_zero, List.set_cons_succ]
                refine wpAnyH_take (i := 10) (v := .int .i64 (b : Int)) rfl (by kernel_rfl) (by kernel_rfl) (by kernel_rfl) (fun _ _ _ h => h) (Or.inl ⟨by rfl, fun w_ hS_ => by (first | (go_simp; done) | (go_simp; rfl))⟩) ⟨(e2.cell (p := ⟨gc, 86 + a, none⟩) hgq).trans hcq1.out, (e2.cell (p := ⟨gc, 86 + b, none⟩) hgq).trans hcq2.out, rangeB hr1 e2 hg1, rangeB hr2 e2 hg2⟩ ?_
                try simp only [Act.put, List.getElem_toArray, List.getElem_cons_zero, List.getElem_cons_succ, List.setIfInBounds_toArray, List.set_cons_zero, List.set_cons_succ]
                refine wpAnyH_take (i := 11) (v := .pointer (some ⟨gc, 0, none⟩)) rfl (by kernel_rfl) (by kernel_rfl) (by kernel_rfl) (fun _ _ _ h => h) (Or.inl ⟨by rfl, fun w_ hS_ => by (first | (go_simp; done) | (go_simp; rfl))⟩) ⟨(e2.cell (p := ⟨gc, 86 + a, none⟩) hgq).trans hcq1.out, (e2.cell (p := ⟨gc, 86 + b, none⟩) hgq).trans hcq2.out, rangeB hr1 e2 hg1, rangeB hr2 e2 hg2⟩ ?_
                try simp only [Act.put, List.getElem_toArray, List.getElem_cons_zero, List.getElem_cons_succ, List.setIfInBounds_toArray, List.set_cons_zero, List.set_cons_succ]
                refine wpAnyH_take (i := 12) (v := .pointer (some ⟨gc, 86, none⟩)) rfl (by kernel_rfl) (by kernel_rfl) (by kernel_rfl) (fun _ _ _ h => h) (Or.inl ⟨by rfl, fun w_ hS_ => by (first | (go_simp; done) | (go_simp; rfl))⟩) ⟨(e2.cell (p := ⟨gc, 86 + a, none⟩) hgq).trans hcq1.out, (e2.cell (p := ⟨gc, 86 + b, none⟩) hgq).trans hcq2.out, rangeB hr1 e2 hg1, rangeB hr2 e2 hg2⟩ ?_
                try simp only [Act.put, List.getElem_toArray, List.getElem_cons_zero, List.getElem_cons_succ, List.setIfInBounds_toArray, List.set_cons_zero, List.set_cons_succ]
                refine wpAnyH_take (i := 13) (v := .pointer (some ⟨gc, 86 + b, none⟩)) rfl (by kernel_rfl) (by kernel_rfl) (by kernel_rfl) (fun _ _ _ h => h) (Or.inl ⟨by rfl, fun w_ hS_ => by (first | (go_simp; done) | (go_simp; rfl))⟩) ⟨(e2.cell (p := ⟨gc, 86 + a, none⟩) hgq).trans hcq1.out, (e2.cell (p := ⟨gc, 86 + b, none⟩) hgq).trans hcq2.out, rangeB hr1 e2 hg1, rangeB hr2 e2 hg2⟩ ?_
                try simp only [Act.put, List.getElem_toArray, List.getElem_cons_zero, List.getElem_cons_succ, List.setIfInBounds_toArray, List.set_cons_zero, List.set_cons_succ]
                refine wpAnyH_take (i := 14) (v := .slice (some ⟨g2, 0, none⟩) (X b).length d2) rfl (by kernel_rfl) (by kernel_rfl) (by kernel_rfl) (fun _ _ _ h => h) (Or.inl ⟨by rfl, fun w_ hS_ => by (have c_ := hS_.2.1; go_simp)⟩) ⟨(e2.cell (p := ⟨gc, 86 + a, none⟩) hgq).trans hcq1.out, (e2.cell (p := ⟨gc, 86 + b, none⟩) hgq).trans hcq2.out, rangeB hr1 e2 hg1, rangeB hr2 e2 hg2⟩ ?_
                try simp only [Act.put, List.getElem_toArray, List.getElem_cons_zero, List.getElem_cons_succ, List.setIfInBounds_toArray, List.set_cons_zero, List.set_cons_succ]
                refine wpAnyH_take (i := 15) (v := .int .i64 (s : Int)) rfl (by kernel_rfl) (by kernel_rfl) (by kernel_rfl) (fun _ _ _ h => h) (Or.inl ⟨by rfl, fun w_ hS_ => by (first | (go_simp; done) | (go_simp; rfl))⟩) ⟨(e2.cell (p := ⟨gc, 86 + a, none⟩) hgq).trans hcq1.out, (e2.cell (p := ⟨gc, 86 + b, none⟩) hgq).trans hcq2.out, rangeB hr1 e2 hg1, rangeB hr2 e2 hg2⟩ ?_
                try simp only [Act.put, List.getElem_toArray, List.getElem_cons_zero, List.getElem_cons_succ, List.setIfInBounds_toArray, List.set_cons_zero, List.set_cons_succ]
                refine wpAnyH_take (i := 16) (v := .pointer (some ⟨g2, s * 10, none⟩)) rfl (by kernel_rfl) (by kernel_rfl) (by kernel_rfl) (fun _ _ _ h => h) (Or.inl ⟨by rfl, fun w_ hS_ => by (first | (go_simp; done) | (go_simp; rfl))⟩) ⟨(e2.cell (p := ⟨gc, 86 + a, none⟩) hgq).trans hcq1.out, (e2.cell (p := ⟨gc, 86 + b, none⟩) hgq).trans hcq2.out, rangeB hr1 e2 hg1, rangeB hr2 e2 hg2⟩ ?_
                try simp only [Act.put, List.getElem_toArray, List.getElem_cons_zero, List.getElem_cons_succ, List.setIfInBounds_toArray, List.set_cons_zero, List.set_cons_succ]
                refine wpAnyH_take (i := 17) (v := .agg (y.cells).toArray) rfl (by kernel_rfl) (by kernel_rfl) (by kernel_rfl) (fun _ _ _ h => h) (yieldsIf_load_mid (by rfl) 37 _ rfl (g2) (s * 10) rfl (y.cells) _ (fun _ h => h.2.2.2) Tryd.underlying37 rfl sizeCm) ⟨(e2.cell (p := ⟨gc, 86 + a, none⟩) hgq).trans hcq1.out, (e2.cell (p := ⟨gc, 86 + b, none⟩) hgq).trans hcq2.out, rangeB hr1 e2 hg1, rangeB hr2 e2 hg2⟩ ?_
                try simp only [Act.put, List.getElem_toArray, List.getElem_cons_zero, List.getElem_cons_succ, List.setIfInBounds_toArray, List.set_cons_zero, List.set_cons_succ]
                refine wpAnyH_ready (rs := [18]) (by kernel_rfl) (by simp) ?_
                refine AllReadyH.cons rfl (fun K hK => ?_) AllReadyH.nil
                rw [if_pos (by rfl)]
                go_simp
                go_wp2_with (go_at_call 32; refine (SAME.out y1).mono ?_; rintro e y2 ⟨rfl, t⟩)
                have ee := ee.trans (t.mono ee.size)
                have e2 := e2.trans (t.mono e2.size)
                clear t
                refine hK.out _ _ ⟨(e2.cell (p := ⟨gc, 86 + a, none⟩) hgq).trans hcq1.out, (e2.cell (p := ⟨gc, 86 + b, none⟩) hgq).trans hcq2.out, rangeB hr1 e2 hg1, rangeB hr2 e2 hg2⟩ (fun hH => ?_)
                clear hK K hH
                try simp only [Act.put, List.getElem_toArray, List.getElem_cons_zero, List.getElem_cons_succ, List.setIfInBounds_toArray, List.set_cons_zero, List.set_cons_succ]
                refine wpAnyH_take (i := 19) (v := .bool false) rfl (by kernel_rfl) (by kernel_rfl) (by kernel_rfl) (fun _ _ _ h => h) (Or.inl ⟨by rfl, fun w_ hS_ => by (first | (go_simp; done) | (go_simp; rfl))⟩) ⟨(e2.cell (p := ⟨gc, 86 + a, none⟩) hgq).trans hcq1.out, (e2.cell (p := ⟨gc, 86 + b, none⟩) hgq).trans hcq2.out, rangeB hr1 e2 hg1, rangeB hr2 e2 hg2⟩ ?_
                try simp only [Act.put, List.getElem_toArray, List.getElem_cons_zero, List.getElem_cons_succ, List.setIfInBounds_toArray, List.set_cons_zero, List.set_cons_succ]
                refine wpAnyH_done (by kernel_rfl) ?_ _
                go_wp2_with fail
                go_roundw
                case rel => exact ⟨s + 1, by omega, by go_num, ee⟩
                case measure => simp [intOf]; omega
              · go_wp2_with fail
                go_roundw
                case rel => exact ⟨b + 1, by omega, by go_num, ee⟩
                case measure => simp [intOf]; omega
            · go_wp2_with fail
              go_roundw
              case rel => exact ⟨b + 1, by omega, by go_num, ee⟩
              case measure => simp [intOf]; omega
        · go_wp2_with fail
          go_roundw
          case rel => exact ⟨a + 1, by omega, by go_num, ee⟩
          case measure => simp [intOf]; omega
    · go_wp2_with fail
      go_ret
      exact ⟨rfl, ee⟩
end Go.Proofs.YtbahooohkigcnaaDoor
